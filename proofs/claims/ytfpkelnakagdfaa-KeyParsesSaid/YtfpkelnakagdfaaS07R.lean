/-
  Names of keys: the laws KeyNames and KeyParses.
-/
import Derived.Test.YtfpkelnakagdfaaS07Q
namespace Go.Proofs.Ytfpkelnakagdfaa
open Go Go.Ab
set_option linter.unusedVariables false
set_option linter.unnecessarySimpa false
set_option linter.unusedSimpArgs false
set_option maxRecDepth 100000
variable {H : List (List Row)}

theorem l11 (f : Int) (m : Bool) : call tbl 11 [.i f, .bool m] H = some (.bool true) := by
  refine (call_start (show tbl 11 = some a11 from rfl)).trans ?_
  by_cases h : -7 ≤ f ∧ f ≤ 7
  · have h34 := fun H => c34 (H := H) f m h
    have h36 := fun H => c36 (H := H) f m h
    have h35 := fun H => c35 (H := H) (nm f m)
    rw [parse_name f m h] at h35
    have hq := B_eql (nm f m) (nm f m)
    rw [beq_self_eq_true] at hq
    have h15 := fun H => c15 (H := H) f
    have e : (decide (-7 ≤ f) && decide (f ≤ 7)) = true := by simp [h]
    rw [e] at h15
    generalize nm f m = l at *
    clear h e
    unfold a11
    simp (config := { maxSteps := 10000000 }) (disch := omega) only [beq_self_eq_true, ↓G_seq, ↓G_skip, ↓G_ret, ↓G_region, ↓G_cond, ↓G_ops_nil, ↓G_op, Gv_some, ↓G_gop, Gw_tt, Gc_false, killAll, ↓get_setS, evalOp, ev, evs, Ab.get, b_eql, one, Option.map_some, Option.bind_some, asB, finish, resVs, resV, outVs, ownsLast, tupOf, callV, V.shift, V.shifts, List.append_nil, List.map_cons, List.map_nil, List.all_nil, List.getElem?_cons_zero, List.getElem?_cons_succ, Nat.reduceEqDiff, reduceCtorEq, ↓reduceIte, Nat.succ_ne_self, decide_true, Bool.not_true, bne_self_eq_false, Bool.false_eq_true, ti_bool, ti_str, ti_tup_int, ti_tup_str, st_bool, st_int, st_str, ov_bool, fn_some, h34, h36, h35, hq, h15, c14]
  · have h34 := fun H => c34_not (H := H) f m h
    have hq := B_eql [] []
    rw [beq_self_eq_true] at hq
    have h15 := fun H => c15 (H := H) f
    have e : (decide (-7 ≤ f) && decide (f ≤ 7)) = false := by simpa using h
    rw [e] at h15
    clear h e
    unfold a11
    simp only [q0]
    simp (config := { maxSteps := 10000000 }) (disch := omega) only [↓G_seq, ↓G_skip, ↓G_ret, ↓G_region, ↓G_cond, ↓G_ops_nil, ↓G_op, Gv_some, ↓G_gop, Gw_tt, Gc_true, Gc_false, killAll, ↓get_setS, evalOp, ev, evs, Ab.get, b_eql, one, Option.map_some, Option.bind_some, asB, finish, resVs, resV, outVs, ownsLast, tupOf, callV, V.shift, V.shifts, List.append_nil, List.map_cons, List.map_nil, List.all_nil, List.getElem?_cons_zero, List.getElem?_cons_succ, Nat.reduceEqDiff, reduceCtorEq, ↓reduceIte, Nat.succ_ne_self, decide_true, Bool.not_true, Bool.not_false, bne_self_eq_false, ti_bool, ti_tup_str, st_int, st_str, ov_bool, fn_some, h34, hq, h15, c14]

theorem inner12 {k : List KI} {l : List UInt8} {n e f : Int} {mi : Bool} {L : List Row} (hf : -7 ≤ f ∧ f ≤ 7)
    (hn0 : (nm f false == l) = true → n = f ∧ mi = false ∧ e = 0) (hn1 : (nm f true == l) = true → n = f ∧ mi = true ∧ e = 0)
    (hx : (nm f false == l) = false → (nm f true == l) = false → ∀ fr', Ab.get fr' 0 = .str (B l) → Ab.get fr' 3 = .i n → Ab.get fr' 4 = .bool mi → Ab.get fr' 5 = .i e → Ab.get fr' 6 = .i f → Gx tbl H [.tmp 2] 2 k fr' L = some (.bool true)) :
    ∀ (fr : List V), Ab.get fr 0 = .str (B l) → Ab.get fr 3 = .i n → Ab.get fr 4 = .bool mi → Ab.get fr 5 = .i e → Ab.get fr 6 = .i f → Ab.get fr 7 = .i 0 →
      G tbl H [.tmp 2] (.code (.loop ( (.seq ( (.seq ( .region [] [ ⟨some 25, .mv (.t 7), none⟩, ⟨some 26, .bin .lss (.t 25) (.c (.int .i64 2)), none⟩]) ( (.cond (.t 26) ( .skip) ( .exit 2))))) ( (.seq ( (.block 3 ( (.seq ( .region [] [ ⟨some 29, .mv (.t 6), none⟩, ⟨some 30, .mv (.t 7), none⟩, ⟨some 31, .bin .eql (.t 30) (.c (.int .i64 1)), none⟩, ⟨some 32, .call 0 (.c (.fn 36 [])) [(.t 29), (.t 31)], none⟩, ⟨some 33, .mv (.t 0), none⟩, ⟨some 34, .bin .eql (.t 32) (.t 33), none⟩]) ( (.cond (.t 34) ( (.seq ( .region [] [ ⟨some 35, .mv (.t 5), none⟩, ⟨some 36, .bin .eql (.t 35) (.c (.int .i64 0)), none⟩, ⟨some 37, .mv (.t 36), none⟩, ⟨some 38, .mv (.t 3), some (37, true)⟩, ⟨some 39, .mv (.t 6), some (37, true)⟩, ⟨some 40, .bin .eql (.t 38) (.t 39), some (37, true)⟩, ⟨some 41, .pick (.t 37) (.t 40) (.c (.bool false)), none⟩, ⟨some 42, .mv (.t 41), none⟩, ⟨some 43, .mv (.t 4), some (42, true)⟩, ⟨some 44, .mv (.t 7), some (42, true)⟩, ⟨some 45, .bin .eql (.t 44) (.c (.int .i64 1)), some (42, true)⟩, ⟨some 46, .eqb false (.t 43) (.t 45), some (42, true)⟩, ⟨some 47, .pick (.t 42) (.t 46) (.c (.bool false)), none⟩, ⟨some 2, .mv (.t 47), none⟩]) ( .ret))) ( .skip))))))) ( .region [] [ ⟨some 27, .mv (.t 7), none⟩, ⟨some 28, .bin .add (.t 27) (.c (.int .i64 1)), none⟩, ⟨some 7, .mv (.t 28), none⟩])))))) :: k) fr L = some (.bool true) := by
  intro fr g0 g3 g4 g5 g6 g7
  have h36a := fun H => c36 (H := H) f false hf
  have h36b := fun H => c36 (H := H) f true hf
  have qa := B_eql (nm f false) l
  have qb := B_eql (nm f true) l
  generalize nm f false = na at *
  generalize nm f true = nb at *
  refine G_loop.trans ?_
  cases ca : (na == l)
  · rw [ca] at qa
    simp (config := { maxSteps := 10000000 }) (disch := omega) only [↓G_seq, ↓G_skip, ↓G_blk, ↓G_region, ↓G_block, ↓G_cond, ↓G_ops_nil, ↓G_op, Gv_some, Gc_true, Gc_false, killAll, ↓get_setS, evalOp, ev, evs, b_add, b_eql, b_lss, wrap_i64, one, Option.map_some, callV, V.shift, V.shifts, List.append_nil, List.getElem?_cons_zero, List.getElem?_cons_succ, Nat.reduceEqDiff, reduceCtorEq, ↓reduceIte, Nat.succ_ne_self, decide_true, decide_false, bne_self_eq_false, Int.reduceAdd, Int.reduceLT, Int.reduceEq, Nat.reduceAdd, Nat.reduceLT, ti_str, g0, g6, g7, h36a, qa]
    refine G_loop.trans ?_
    cases cb : (nb == l)
    · rw [cb] at qb
      have nx := hx ca cb
      clear hx hn0 hn1
      simp (config := { maxSteps := 10000000 }) (disch := omega) only [↓G_seq, ↓G_skip, ↓G_blk, ↓G_region, ↓G_block, ↓G_cond, ↓G_ops_nil, ↓G_op, Gv_some, Gc_true, Gc_false, killAll, ↓get_setS, evalOp, ev, evs, b_add, b_eql, b_lss, wrap_i64, one, Option.map_some, callV, V.shift, V.shifts, List.append_nil, List.getElem?_cons_zero, List.getElem?_cons_succ, Nat.reduceEqDiff, reduceCtorEq, ↓reduceIte, Nat.succ_ne_self, decide_true, bne_self_eq_false, Int.reduceAdd, Int.reduceLT, Nat.reduceAdd, Nat.reduceLT, ti_str, g0, g6, h36b, qb]
      refine G_loop.trans ?_
      simp (config := { maxSteps := 10000000 }) (disch := omega) only [↓G_seq, ↓G_exit, ↓G_region, ↓G_cond, ↓Gx_code, ↓G_ops_nil, ↓G_op, Gv_some, Gc_false, killAll, ↓get_setS, evalOp, ev, b_lss, one, Option.map_some, List.getElem?_cons_zero, List.getElem?_cons_succ, ↓reduceIte, decide_false, Int.reduceLT, Nat.reduceLT]
      refine nx _ ?_ ?_ ?_ ?_ ?_
      all_goals simp (config := { maxSteps := 10000000 }) (disch := omega) only [↓get_setS, List.getElem?_cons_zero, List.getElem?_cons_succ, Nat.reduceEqDiff, reduceCtorEq, ↓reduceIte, Nat.succ_ne_self, g0, g3, g4, g5, g6]
    · rw [cb] at qb
      obtain ⟨rfl, rfl, rfl⟩ := hn1 cb
      clear hx hn0 hn1
      simp (config := { maxSteps := 10000000 }) (disch := omega) only [beq_self_eq_true, ↓G_seq, ↓G_skip, ↓G_ret, ↓G_region, ↓G_block, ↓G_cond, ↓G_ops_nil, ↓G_op, Gv_some, ↓G_gop, Gw_tt, Gc_true, killAll, ↓get_setS, evalOp, ev, evs, b_eql, b_lss, one, Option.map_some, Option.bind_some, asB, finish, resVs, resV, outVs, ownsLast, tupOf, callV, V.shift, V.shifts, List.append_nil, List.all_nil, List.getElem?_cons_zero, List.getElem?_cons_succ, Nat.reduceEqDiff, reduceCtorEq, ↓reduceIte, Nat.succ_ne_self, decide_true, bne_self_eq_false, Bool.false_eq_true, Int.reduceLT, Nat.reduceLT, ti_str, ov_bool, fn_some, g0, g3, g4, g5, g6, h36b, qb]
  · rw [ca] at qa
    obtain ⟨rfl, rfl, rfl⟩ := hn0 ca
    clear hx hn0 hn1
    simp (config := { maxSteps := 10000000 }) (disch := omega) only [beq_self_eq_true, ↓G_seq, ↓G_skip, ↓G_ret, ↓G_region, ↓G_block, ↓G_cond, ↓G_ops_nil, ↓G_op, Gv_some, ↓G_gop, Gw_tt, Gc_true, killAll, ↓get_setS, evalOp, ev, evs, b_eql, b_lss, one, Option.map_some, Option.bind_some, asB, finish, resVs, resV, outVs, ownsLast, tupOf, callV, V.shift, V.shifts, List.append_nil, List.all_nil, List.getElem?_cons_zero, List.getElem?_cons_succ, Nat.reduceEqDiff, reduceCtorEq, ↓reduceIte, Nat.succ_ne_self, decide_true, decide_false, bne_self_eq_false, Bool.false_eq_true, Int.reduceLT, Int.reduceEq, Nat.reduceLT, ti_str, ov_bool, fn_some, g0, g3, g4, g5, g6, g7, h36a, qa]

theorem outer12 {k : List KI} {l : List UInt8} {n e : Int} {mi : Bool} {L : List Row}
    (hn : ∀ f m, -7 ≤ f ∧ f ≤ 7 → (nm f m == l) = true → n = f ∧ mi = m ∧ e = 0)
    (hx : (∀ f m, -7 ≤ f ∧ f ≤ 7 → (nm f m == l) = false) → ∀ fr', Ab.get fr' 3 = .i n → Ab.get fr' 4 = .bool mi → Ab.get fr' 5 = .i e → Gx tbl H [.tmp 2] 0 k fr' L = some (.bool true)) :
    ∀ (q : Nat) (f : Int) (fr : List V), f + q = 8 → -7 ≤ f → (∀ f' m, -7 ≤ f' → f' < f → (nm f' m == l) = false) → Ab.get fr 0 = .str (B l) → Ab.get fr 3 = .i n → Ab.get fr 4 = .bool mi → Ab.get fr 5 = .i e → Ab.get fr 6 = .i f →
      G tbl H [.tmp 2] (.code (.loop ( (.seq ( (.seq ( .region [] [ ⟨some 21, .mv (.t 6), none⟩, ⟨some 22, .bin .leq (.t 21) (.c (.int .i64 7)), none⟩]) ( (.cond (.t 22) ( .skip) ( .exit 0))))) ( (.seq ( (.block 1 ( (.seq ( .region [] [ ⟨some 7, .mv (.c (.int .i64 0)), none⟩]) ( (.block 2 ( (.loop ( (.seq ( (.seq ( .region [] [ ⟨some 25, .mv (.t 7), none⟩, ⟨some 26, .bin .lss (.t 25) (.c (.int .i64 2)), none⟩]) ( (.cond (.t 26) ( .skip) ( .exit 2))))) ( (.seq ( (.block 3 ( (.seq ( .region [] [ ⟨some 29, .mv (.t 6), none⟩, ⟨some 30, .mv (.t 7), none⟩, ⟨some 31, .bin .eql (.t 30) (.c (.int .i64 1)), none⟩, ⟨some 32, .call 0 (.c (.fn 36 [])) [(.t 29), (.t 31)], none⟩, ⟨some 33, .mv (.t 0), none⟩, ⟨some 34, .bin .eql (.t 32) (.t 33), none⟩]) ( (.cond (.t 34) ( (.seq ( .region [] [ ⟨some 35, .mv (.t 5), none⟩, ⟨some 36, .bin .eql (.t 35) (.c (.int .i64 0)), none⟩, ⟨some 37, .mv (.t 36), none⟩, ⟨some 38, .mv (.t 3), some (37, true)⟩, ⟨some 39, .mv (.t 6), some (37, true)⟩, ⟨some 40, .bin .eql (.t 38) (.t 39), some (37, true)⟩, ⟨some 41, .pick (.t 37) (.t 40) (.c (.bool false)), none⟩, ⟨some 42, .mv (.t 41), none⟩, ⟨some 43, .mv (.t 4), some (42, true)⟩, ⟨some 44, .mv (.t 7), some (42, true)⟩, ⟨some 45, .bin .eql (.t 44) (.c (.int .i64 1)), some (42, true)⟩, ⟨some 46, .eqb false (.t 43) (.t 45), some (42, true)⟩, ⟨some 47, .pick (.t 42) (.t 46) (.c (.bool false)), none⟩, ⟨some 2, .mv (.t 47), none⟩]) ( .ret))) ( .skip))))))) ( .region [] [ ⟨some 27, .mv (.t 7), none⟩, ⟨some 28, .bin .add (.t 27) (.c (.int .i64 1)), none⟩, ⟨some 7, .mv (.t 28), none⟩]))))))))))))) ( .region [] [ ⟨some 23, .mv (.t 6), none⟩, ⟨some 24, .bin .add (.t 23) (.c (.int .i64 1)), none⟩, ⟨some 6, .mv (.t 24), none⟩])))))) :: k) fr L = some (.bool true) := by
  intro q
  induction q with
  | zero =>
    intro f fr hf hf7 hno g0 g3 g4 g5 g6
    have hall := hx (fun f' m h => hno f' m h.1 (by omega))
    have hf8 : f = 8 := by omega
    subst hf8
    clear hn hx hno
    refine G_loop.trans ?_
    simp (config := { maxSteps := 10000000 }) (disch := omega) only [↓G_seq, ↓G_exit, ↓G_region, ↓G_cond, ↓Gx_code, ↓G_ops_nil, ↓G_op, Gv_some, Gc_false, killAll, ↓get_setS, evalOp, ev, b_leq, one, Option.map_some, List.getElem?_cons_zero, List.getElem?_cons_succ, ↓reduceIte, decide_false, Int.reduceLE, g6]
    refine hall _ ?_ ?_ ?_
    all_goals simp (config := { maxSteps := 10000000 }) (disch := omega) only [↓get_setS, List.getElem?_cons_zero, List.getElem?_cons_succ, Nat.reduceEqDiff, ↓reduceIte, g3, g4, g5]
  | succ q ih =>
    intro f fr hf hf7 hno g0 g3 g4 g5 g6
    have hin : -7 ≤ f ∧ f ≤ 7 := by omega
    have nx := fun (h : ∀ f' m, -7 ≤ f' → f' < f + 1 → (nm f' m == l) = false) fr' => ih (f + 1) fr' (by omega) (by omega) h
    have hI := fun k => inner12 (H := H) (k := k) (L := L) (f := f) hin (hn f false hin) (hn f true hin)
    clear ih hx hn
    refine G_loop.trans ?_
    have hno' : (nm f false == l) = false → (nm f true == l) = false → ∀ f' m, -7 ≤ f' → f' < f + 1 → (nm f' m == l) = false := by
      intro h1 h2 f' m h3 h4
      by_cases c : f' = f
      · subst c; cases m <;> assumption
      · exact hno f' m h3 (by omega)
    have nx2 := fun h1 h2 => nx (hno' h1 h2)
    clear hno' hno nx
    have hfl : f ≤ 7 := hin.2
    clear hf
    simp (config := { maxSteps := 10000000 }) (disch := omega) only [↓G_seq, ↓G_skip, ↓G_region, ↓G_block, ↓G_cond, ↓G_ops_nil, ↓G_op, Gv_some, Gc_true, dec_t, killAll, ↓get_setS, evalOp, ev, b_leq, one, Option.map_some, List.getElem?_cons_zero, List.getElem?_cons_succ, ↓reduceIte, g6]
    refine hI _ (fun h1 h2 fr' e0 e3 e4 e5 e6 => ?_) _ ?_ ?_ ?_ ?_ ?_ ?_
    · clear hI
      have nx := nx2 h1 h2
      clear nx2
      simp (config := { maxSteps := 10000000 }) (disch := omega) only [↓G_blk, ↓G_region, ↓Gx_blk, ↓G_ops_nil, ↓G_op, Gv_some, killAll, ↓get_setS, evalOp, ev, b_add, wrap_i64, one, Option.map_some, List.getElem?_cons_zero, List.getElem?_cons_succ, ↓reduceIte, e6]
      refine nx _ ?_ ?_ ?_ ?_ ?_
      all_goals simp (config := { maxSteps := 10000000 }) (disch := omega) only [↓get_setS, List.getElem?_cons_zero, List.getElem?_cons_succ, Nat.reduceEqDiff, reduceCtorEq, ↓reduceIte, Nat.succ_ne_self, e0, e3, e4, e5]
    all_goals simp (config := { maxSteps := 10000000 }) (disch := omega) only [↓get_setS, List.getElem?_cons_zero, List.getElem?_cons_succ, Nat.reduceEqDiff, reduceCtorEq, ↓reduceIte, Nat.succ_ne_self, g0, g3, g4, g5, g6]

theorem l12 (s : ByteArray) : call tbl 12 [.str s] H = some (.bool true) := by
  refine (call_start (show tbl 12 = some a12 from rfl)).trans ?_
  rw [B_surj s]
  generalize s.data.toList = l0
  have hsz : (B l0).size = l0.length := rfl
  obtain ⟨l, hs⟩ : ∃ l, strSubV (.str (B l0)) none (some (.i (if 20 < (l0.length : Int) then 20 else (l0.length : Int)))) = some (.str (B l)) := by
    by_cases c : 20 < (l0.length : Int)
    · rw [if_pos c]
      exact ⟨_, B_pre (l := l0) (n := 20) (by omega)⟩
    · rw [if_neg c]
      exact ⟨_, B_pre (l := l0) (n := l0.length) (by omega)⟩
  have h35 := fun H => c35 (H := H) l
  have hO := fun k L hn hx => outer12 (H := H) (k := k) (L := L) (l := l) (n := (parseR l).1) (e := (parseR l).2.2) (mi := (parseR l).2.1) hn hx 15 (-7)
  have hn : ∀ f m, -7 ≤ f ∧ f ≤ 7 → (nm f m == l) = true → (parseR l).1 = f ∧ (parseR l).2.1 = m ∧ (parseR l).2.2 = 0 := by
    intro f m h he
    have he := eq_of_beq he
    subst he
    rw [parse_name f m h]
    exact ⟨rfl, rfl, rfl⟩
  have hend : (∀ f m, -7 ≤ f ∧ f ≤ 7 → (nm f m == l) = false) → (parseR l).1 = 0 ∧ (parseR l).2.1 = false ∧ (parseR l).2.2 = 12 := by
    intro h
    rcases parse_two l with e | ⟨f, m, _, h2, h3⟩
    · rw [e]; exact ⟨rfl, rfl, rfl⟩
    · have := h f m h2
      rw [← h3] at this
      simp at this
  generalize (parseR l).1 = n at *
  generalize (parseR l).2.1 = mi at *
  generalize (parseR l).2.2 = e at *
  unfold a12
  simp (config := { maxSteps := 10000000 }) (disch := omega) only [↓G_seq, ↓G_skip, ↓G_region, ↓G_block, ↓G_cond, ↓G_ops_nil, ↓G_op, Gv_some, Gc_false, killAll, ↓get_setS, evalOp, ev, evs, Ab.get, one, Option.map_some, Option.map_none, asB, callV, V.shift, V.shifts, List.append_nil, List.map_cons, List.map_nil, List.getElem?_cons_zero, List.getElem?_cons_succ, Nat.reduceEqDiff, reduceCtorEq, ↓reduceIte, Nat.succ_ne_self, Bool.not_true, bne_self_eq_false, Bool.false_eq_true, Int.reduceNeg, strLenV, mmV, ti_bool, ti_tup_int, st_bool, st_int, hsz, hs, h35, c14]
  refine hO _ _ hn (fun h fr' g3 g4 g5 => ?_) _ (by omega) (by omega) (fun f' m h1 h2 => by omega) ?_ ?_ ?_ ?_ ?_
  · obtain ⟨rfl, rfl, rfl⟩ := hend h
    clear hO hend hn h
    simp (config := { maxSteps := 10000000 }) (disch := omega) only [↓G_seq, ↓G_ret, ↓G_region, ↓Gx_blk, ↓G_ops_nil, ↓G_op, Gv_some, ↓G_gop, Gw_tt, killAll, ↓get_setS, evalOp, ev, b_eql, one, Option.map_some, Option.bind_some, asB, finish, resVs, resV, outVs, ownsLast, tupOf, List.all_nil, List.getElem?_cons_zero, List.getElem?_cons_succ, Nat.reduceEqDiff, ↓reduceIte, Nat.succ_ne_self, decide_true, Bool.not_false, ov_bool, fn_some, g3, g4, g5]
  all_goals simp (config := { maxSteps := 10000000 }) (disch := omega) only [↓get_setS, List.getElem?_cons_zero, List.getElem?_cons_succ, Nat.reduceEqDiff, reduceCtorEq, ↓reduceIte, Nat.succ_ne_self, Int.reduceNeg]

end Go.Proofs.Ytfpkelnakagdfaa

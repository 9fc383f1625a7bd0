/-
  The law AccidentalBefore as an equation.
-/
import Derived.Test.YthnjcaioeaepjaaS10F
namespace Go.Proofs.Ythnjcaioeaepjaa
open Go Go.Ab
set_option linter.unusedVariables false
set_option linter.unnecessarySimpa false
set_option linter.unusedSimpArgs false
set_option maxRecDepth 100000
variable {H : List (List Row)}

/-- How many notes stand before a tick. -/
def bef (at_ : Int) : List Nt → Nat
  | [] => 0
  | n :: t => if n.at_ < at_ then bef at_ t + 1 else 0
theorem bef_le (at_ : Int) : ∀ l, bef at_ l ≤ l.length
  | [] => Nat.le_refl _
  | n :: t => by
    have := bef_le at_ t
    unfold bef
    split
    · simp; omega
    · simp
theorem bef_spec (at_ : Int) : ∀ (l : List Nt), l.Pairwise (fun a c => a.at_ ≤ c.at_) → (∀ a ∈ l.take (bef at_ l), a.at_ < at_) ∧ (∀ a ∈ l.drop (bef at_ l), at_ ≤ a.at_)
  | [], _ => by simp
  | n :: t, h => by
    obtain ⟨h1, h2⟩ := List.pairwise_cons.1 h
    obtain ⟨i1, i2⟩ := bef_spec at_ t h2
    unfold bef
    split
    · rename_i c
      refine ⟨fun a ha => ?_, fun a ha => ?_⟩
      · simp only [List.take_succ_cons, List.mem_cons] at ha
        rcases ha with rfl | ha
        · exact c
        · exact i1 a ha
      · exact i2 a (by simpa using ha)
    · rename_i c
      refine ⟨fun a ha => by simp at ha, fun a ha => ?_⟩
      simp only [List.drop_zero, List.mem_cons] at ha
      rcases ha with rfl | ha
      · omega
      · have := h1 a ha
        omega

theorem errL_take : ∀ (l : List Nt) (b : Int) (n : Nat), errL b l = 0 → errL b (l.take n) = 0
  | [], b, n, h => by simpa using h
  | x :: t, b, 0, h => by simp [errL]
  | x :: t, b, n + 1, h => by
    unfold errL at h
    split at h
    · contradiction
    · rename_i h1
      rw [List.take_succ_cons, errL_0 (Classical.not_not.1 h1)]
      exact errL_take t x.at_ n h
theorem errR_take {f : Int} {l : List Nt} (n : Nat) (h : errR f l = 0) : errR f (l.take n) = 0 := by
  obtain ⟨h1, h2, h3⟩ := errR_ok h
  rw [errR_0 (by unfold guardR; rw [if_neg (by omega), if_neg (by simp; omega)])]
  exact errL_take l 0 n h3

theorem any_take {l : List Nt} {at_ : Int} (hp : l.Pairwise (fun a c => a.at_ ≤ c.at_)) {a : Nt} (ha : a ∈ l.take (bef at_ l)) : l.any (hitB a) = (l.take (bef at_ l)).any (hitB a) := by
  obtain ⟨h1, h2⟩ := bef_spec at_ l hp
  conv => lhs; rw [← List.take_append_drop (bef at_ l) l]
  rw [List.any_append]
  have : (l.drop (bef at_ l)).any (hitB a) = false := by
    rw [List.any_eq_false]
    intro x hx
    have e1 := h1 a ha
    have e2 := h2 x hx
    have : ¬ x.at_ = a.at_ := by omega
    simp [hitB, this]
  rw [this, Bool.or_false]

theorem disp_take (l m : List Nt) : ∀ (t : List Nt) (F : List Int) (n : Nat), (∀ a ∈ t.take n, l.any (hitB a) = m.any (hitB a)) → (dispR l t F).1.take n = (dispR m (t.take n) F).1
  | [], F, n, _ => by simp [dispR]
  | x :: t, F, 0, _ => by simp [dispR]
  | x :: t, F, n + 1, h => by
    have hx := h x (by simp)
    have := disp_take l m t (stepD F x (l.any (hitB x))).2 n (fun a ha => h a (by simp [ha]))
    simp only [List.take_succ_cons, dispR, ← hx, this]

theorem bef_t {q : Int} {n : Nt} {t : List Nt} (h : n.at_ < q) : bef q (n :: t) = bef q t + 1 := by
  conv => lhs; unfold bef
  rw [if_pos h]
theorem bef_f {q : Int} {n : Nt} {t : List Nt} (h : ¬ n.at_ < q) : bef q (n :: t) = 0 := by unfold bef; rw [if_neg h]

theorem loop6a {k : List KI} {rs : List ARes} {r : Option V} {v f0 : V} {l : List Nt} {q : Int} {L : List Row} (hl : l.length ≤ 30) (hv : SlV 6 v (E6 l))
    (hr : ∀ fr', Ab.get fr' 0 = f0 → Ab.get fr' 1 = v → Ab.get fr' 7 = .i (bef q l : Nat) → Gx tbl H rs 0 k fr' L = r) :
    ∀ (t : List Nt) (i : Nat) (fr : List V), l.drop i = t → i ≤ l.length → bef q l = i + bef q t → Ab.get fr 0 = f0 → Ab.get fr 1 = v → Ab.get fr 2 = .i q → Ab.get fr 7 = .i (i : Nat) →
    G tbl H rs (.code (.loop ( (.seq ( (.seq ( .region [] [ ⟨some 27, .mv (.t 7), none⟩, ⟨some 28, .mv (.t 1), none⟩, ⟨some 29, .len (.t 28), none⟩, ⟨some 30, .bin .lss (.t 27) (.t 29), none⟩, ⟨some 31, .mv (.t 30), none⟩, ⟨some 32, .mv (.t 1), some (31, true)⟩, ⟨some 33, .mv (.t 7), some (31, true)⟩, ⟨some 34, .elemAddr 6 (.t 32) (.t 33), some (31, true)⟩, ⟨some 35, .fieldAddr 0 (.t 34), some (31, true)⟩, ⟨some 36, .load false 1 (.t 35), some (31, true)⟩, ⟨some 37, .mv (.t 2), some (31, true)⟩, ⟨some 38, .bin .lss (.t 36) (.t 37), some (31, true)⟩, ⟨some 39, .pick (.t 31) (.t 38) (.c (.bool false)), none⟩]) ( (.cond (.t 39) ( .skip) ( .exit 0))))) ( (.block 1 ( .region [] [ ⟨some 40, .mv (.t 7), none⟩, ⟨some 41, .bin .add (.t 40) (.c (.int .i64 1)), none⟩, ⟨some 7, .mv (.t 41), none⟩])))))) :: k) fr L = r := by
  intro t
  have hlen := hv.len
  rw [E6_len] at hlen
  induction t with
  | nil =>
    intro i fr ht hi hb h0 h1 h2 h7
    have := drop_nil ht
    simp only [bef, Nat.add_zero] at hb
    refine G_loop.trans ?_
    simp (config := { maxSteps := 10000000 }) (disch := omega) only [↓G_seq, ↓G_exit, ↓G_region, ↓G_cond, ↓Gx_code, ↓G_ops_nil, ↓G_op, Gv_some, ↓G_gop, Gw_tf, Gc_false, dec_f, killAll, ↓get_setS, evalOp, ev, b_lss, one, Option.map_some, asB, List.getElem?_cons_zero, List.getElem?_cons_succ, Nat.reduceEqDiff, ↓reduceIte, Nat.succ_ne_self, Bool.false_eq_true, h1, h7, hlen]
    refine hr _ ?_ ?_ ?_
    · simp (config := { maxSteps := 10000000 }) (disch := omega) only [↓get_setS, List.getElem?_cons_zero, List.getElem?_cons_succ, reduceCtorEq, ↓reduceIte, h0]
    · simp (config := { maxSteps := 10000000 }) (disch := omega) only [↓get_setS, List.getElem?_cons_zero, List.getElem?_cons_succ, Nat.reduceEqDiff, ↓reduceIte, h1]
    · simp (config := { maxSteps := 10000000 }) (disch := omega) only [↓get_setS, List.getElem?_cons_zero, List.getElem?_cons_succ, Nat.reduceEqDiff, ↓reduceIte, h7]
      rw [hb]
  | cons n t ih =>
    intro i fr ht hi hb h0 h1 h2 h7
    obtain ⟨e1, e2, e3⟩ := drop_cons ht
    have hE := hv.el (E6_get l i n e1)
    refine G_loop.trans ?_
    by_cases c : n.at_ < q
    · rw [bef_t c] at hb
      simp (config := { maxSteps := 10000000 }) (disch := omega) only [↓G_seq, ↓G_skip, ↓G_blk, ↓G_region, ↓G_block, ↓G_cond, ↓G_ops_nil, ↓G_op, Gv_some, ↓G_gop, Gw_tt, Gc_true, dec_t, killAll, ↓get_setS, evalOp, ev, b_add, b_lss, wrap_i64, one, Option.map_some, asB, List.getElem?_cons_zero, List.getElem?_cons_succ, Nat.reduceEqDiff, ↓reduceIte, Nat.succ_ne_self, Bool.false_eq_true, pick3, addOff, loadV, Nat.add_zero, h1, h2, h7, hlen, hE]
      refine ih (i + 1) _ e2 (by omega) (by omega) ?_ ?_ ?_ ?_
      all_goals simp (config := { maxSteps := 10000000 }) (disch := omega) only [↓get_setS, List.getElem?_cons_zero, List.getElem?_cons_succ, Nat.reduceEqDiff, reduceCtorEq, ↓reduceIte, h0, h1, h2]
      congr 1
    · rw [bef_f c, Nat.add_zero] at hb
      simp (config := { maxSteps := 10000000 }) (disch := omega) only [↓G_seq, ↓G_exit, ↓G_region, ↓G_cond, ↓Gx_code, ↓G_ops_nil, ↓G_op, Gv_some, ↓G_gop, Gw_tt, Gc_false, dec_t, dec_f, killAll, ↓get_setS, evalOp, ev, b_lss, one, Option.map_some, asB, List.getElem?_cons_zero, List.getElem?_cons_succ, Nat.reduceEqDiff, ↓reduceIte, Nat.succ_ne_self, Bool.false_eq_true, pick3, addOff, loadV, Nat.add_zero, h1, h2, h7, hlen, hE]
      refine hr _ ?_ ?_ ?_
      · simp (config := { maxSteps := 10000000 }) (disch := omega) only [↓get_setS, List.getElem?_cons_zero, List.getElem?_cons_succ, reduceCtorEq, ↓reduceIte, h0]
      · simp (config := { maxSteps := 10000000 }) (disch := omega) only [↓get_setS, List.getElem?_cons_zero, List.getElem?_cons_succ, Nat.reduceEqDiff, ↓reduceIte, h1]
      · simp (config := { maxSteps := 10000000 }) (disch := omega) only [↓get_setS, List.getElem?_cons_zero, List.getElem?_cons_succ, Nat.reduceEqDiff, ↓reduceIte, h7]
        rw [hb]

theorem loop6b {k : List KI} {v w : V} {m : List (Int × Bool)} {n : Nat} {L : List Row} (hl : m.length ≤ 30) (hn : n ≤ m.length) (hv : SlV 2 v (M2 m)) (hw : SlV 2 w (M2 (m.take n)))
    (hx : ∀ fr', Gx tbl H [.tmp 6] 2 k fr' L = some (.bool true)) :
    ∀ (q i : Nat) (fr : List V), i + q = n → Ab.get fr 7 = .i (n : Nat) → Ab.get fr 8 = v → Ab.get fr 10 = w → Ab.get fr 12 = .i (i : Nat) →
    G tbl H [.tmp 6] (.code (.loop ( (.seq ( (.seq ( .region [] [ ⟨some 77, .mv (.t 12), none⟩, ⟨some 78, .mv (.t 7), none⟩, ⟨some 79, .bin .lss (.t 77) (.t 78), none⟩]) ( (.cond (.t 79) ( .skip) ( .exit 2))))) ( (.seq ( (.block 3 ( (.seq ( .region [] [ ⟨some 82, .mv (.t 10), none⟩, ⟨some 83, .mv (.t 12), none⟩, ⟨some 84, .elemAddr 2 (.t 82) (.t 83), none⟩, ⟨some 85, .load true 2 (.t 84), none⟩, ⟨some 86, .mv (.t 8), none⟩, ⟨some 87, .mv (.t 12), none⟩, ⟨some 88, .elemAddr 2 (.t 86) (.t 87), none⟩, ⟨some 89, .load true 2 (.t 88), none⟩, ⟨some 90, .eqagg [false, true] true (.t 85) (.t 89), none⟩]) ( (.cond (.t 90) ( (.seq ( .region [] [ ⟨some 6, .mv (.c (.bool false)), none⟩]) ( .ret))) ( .skip))))))) ( .region [] [ ⟨some 80, .mv (.t 12), none⟩, ⟨some 81, .bin .add (.t 80) (.c (.int .i64 1)), none⟩, ⟨some 12, .mv (.t 81), none⟩])))))) :: k) fr L = some (.bool true) := by
  intro q
  induction q with
  | zero =>
    intro i fr hi h7 h8 h10 h12
    refine G_loop.trans ?_
    simp (config := { maxSteps := 10000000 }) (disch := omega) only [↓G_seq, ↓G_exit, ↓G_region, ↓G_cond, ↓Gx_code, ↓G_ops_nil, ↓G_op, Gv_some, Gc_false, dec_f, killAll, ↓get_setS, evalOp, ev, b_lss, one, Option.map_some, List.getElem?_cons_zero, List.getElem?_cons_succ, Nat.reduceEqDiff, ↓reduceIte, Nat.succ_ne_self, h7, h12, hx]
  | succ q ih =>
    intro i fr hi h7 h8 h10 h12
    obtain ⟨x, hx'⟩ : ∃ x, m[i]? = some x := ⟨_, List.getElem?_eq_getElem (by omega)⟩
    have hE := hv.el (M2_get m i x hx')
    have hE' := hw.el (M2_get (m.take n) i x (by rw [List.getElem?_take_of_lt (by omega)]; exact hx'))
    refine G_loop.trans ?_
    simp (config := { maxSteps := 10000000 }) (disch := omega) only [beq_self_eq_true, ↓G_seq, ↓G_skip, ↓G_blk, ↓G_region, ↓G_block, ↓G_cond, ↓G_ops_nil, ↓G_op, Gv_some, Gc_true, Gc_false, dec_t, killAll, ↓get_setS, evalOp, ev, b_add, b_lss, wrap_i64, one, Option.map_some, Bool.true_and, List.getElem?_cons_zero, List.getElem?_cons_succ, Nat.reduceEqDiff, ↓reduceIte, Nat.succ_ne_self, decide_true, Bool.not_true, Int.reduceAdd, pick3, loadV, Nat.reduceAdd, true_and, List.length_cons, List.length_nil, List.take_succ_cons, List.take_zero, List.drop_zero, Nat.le_refl, Nat.zero_add, h7, h8, h10, h12, hE, hE', eqCells]
    refine ih (i + 1) _ (by omega) ?_ ?_ ?_ ?_
    all_goals simp (config := { maxSteps := 10000000 }) (disch := omega) only [↓get_setS, List.getElem?_cons_zero, List.getElem?_cons_succ, Nat.reduceEqDiff, ↓reduceIte, h7, h8, h10]
    congr 1

theorem l6 {f q : Int} {v : V} {l : List Nt} (hm : l.length ≤ 9223372036854775807) (hv : SlV 6 v (E6 l)) : call tbl 6 [.i f, v, .i q] H = some (.bool true) := by
  refine (call_start (show tbl 6 = some a6 from rfl)).trans ?_
  have hlen := hv.len
  rw [E6_len] at hlen
  by_cases hl : 30 < l.length
  · unfold a6
    simp (config := { maxSteps := 10000000 }) (disch := omega) only [↓G_seq, ↓G_ret, ↓G_region, ↓G_cond, ↓G_ops_nil, ↓G_op, Gv_some, ↓G_gop, Gw_ff, Gw_ft, Gc_true, dec_t, killAll, ↓get_setS, evalOp, ev, evs, Ab.get, b_gtr, one, Option.map_some, Option.bind_some, asB, finish, resVs, resV, outVs, ownsLast, tupOf, callV, V.shifts, List.append_nil, List.all_nil, List.getElem?_cons_zero, List.getElem?_cons_succ, Nat.reduceEqDiff, ↓reduceIte, Nat.succ_ne_self, Bool.not_true, bne_self_eq_false, Bool.false_eq_true, ti_bool, ov_bool, fn_some, c13, hlen]
    done
  have h16 := fun H => c16 (H := H) f hm hv
  have hsh' := hv.sh
  by_cases he : errR f l = 0
  · have h15 := fun H => c15 (H := H) (by omega) hv
    have hv' := svE_ok 6 (E6 l)
    have hsh := hv'.sh
    have h14 := fun H => c14 (H := H) he hv'
    have hw := svE_ok 2 (M2 (dispR l l (startR f)).1)
    have hll := (dispR_len l l (startR f)).1
    have hwl := hw.len
    rw [M2_len, hll] at hwl
    have hto := fun L s vs => out_take_tup (L := L) (s := s) (sz := 2) (M2 (dispR l l (startR f)).1) vs
    have hb := bef_le q l
    obtain ⟨v2, hs2, hv2⟩ := hv.sub (lo := none) (hi := some (.i (bef q l : Nat))) (a := 0) (b := bef q l) (.inl ⟨rfl, rfl⟩) (.inr rfl) (by omega) (by rw [E6_len]; exact hb)
    rw [List.drop_zero, E6_take] at hv2
    have hp := (errL_sorted l 0 (errR_ok he).2.2).1
    have htk : (dispR l l (startR f)).1.take (bef q l) = (dispR (l.take (bef q l)) (l.take (bef q l)) (startR f)).1 := disp_take l (l.take (bef q l)) l (startR f) (bef q l) (fun a ha => any_take hp ha)
    have hln : (l.take (bef q l)).length = bef q l := by simp; omega
    have h15' := fun H => c15 (H := H) (by omega) hv2
    have hv2' := svE_ok 6 (E6 (l.take (bef q l)))
    have h14' := fun H => c14 (H := H) (errR_take (bef q l) he) hv2'
    rw [← htk] at h14'
    have hw2 := svE_ok 2 (M2 ((dispR l l (startR f)).1.take (bef q l)))
    have hwl2 := hw2.len
    rw [M2_len, List.length_take, hll, Nat.min_eq_left hb] at hwl2
    have hto2 := fun L s vs => out_take_tup (L := L) (s := s) (sz := 2) (M2 ((dispR l l (startR f)).1.take (bef q l))) vs
    have hsh2 := hv2.sh
    have hsh2' := hv2'.sh
    rw [he] at h16
    have hml : (dispR l l (startR f)).1.length = l.length := hll
    generalize hA : svE 2 (M2 ((dispR l l (startR f)).1.take (bef q l))) = w2 at *
    generalize svE 2 (M2 (dispR l l (startR f)).1) = w at *
    generalize hB : svE 6 (E6 l) = u at *
    generalize hB2 : svE 6 (E6 (l.take (bef q l))) = u2 at *
    unfold a6
    simp (config := { maxSteps := 10000000 }) (disch := omega) only [↓G_seq, ↓G_skip, ↓G_region, ↓G_block, ↓G_cond, ↓G_ops_nil, ↓G_op, Gv_some, ↓G_gop, Gw_ff, Gc_false, dec_f, killAll, ↓get_setS, evalOp, ev, evs, Ab.get, b_neq, b_gtr, one, Option.map_some, asB, callV, V.shift, V.shifts, List.append_nil, List.getElem?_cons_zero, List.getElem?_cons_succ, Nat.reduceEqDiff, reduceCtorEq, ↓reduceIte, Nat.succ_ne_self, decide_true, Bool.not_true, bne_self_eq_false, Bool.false_eq_true, ti_bool, ti_int, c13, hlen, hsh', h16]
    refine loop6a (f0 := .i f) (v := v) (l := l) (q := q) (by omega) hv ?_ l 0 _ rfl (by omega) (by omega) ?_ ?_ ?_ ?_
    · intro fr' g0 g1 g7
      simp (config := { maxSteps := 10000000 }) (disch := omega) only [↓G_seq, ↓G_skip, ↓G_region, ↓G_block, ↓G_cond, ↓Gx_blk, ↓G_ops_nil, ↓G_op, Gv_some, ↓G_gop, Gw_ff, Gc_false, killAll, ↓get_setS, evalOp, ev, evs, b_neq, one, Option.map_some, Option.map_none, asB, callV, V.shift, V.shifts, List.append_nil, List.map_cons, List.map_nil, List.getElem?_cons_zero, List.getElem?_cons_succ, Nat.reduceEqDiff, reduceCtorEq, ↓reduceIte, Nat.succ_ne_self, decide_true, Bool.not_true, bne_self_eq_false, Bool.false_eq_true, st_int, g0, g1, g7, hlen, hsh', h15, ↓out_take, hB, hsh, h14, ↓hto, hs2, hsh2, h15', hB2, hsh2', h14', ↓hto2, hwl, hwl2]
      refine loop6b (v := w) (w := w2) (m := (dispR l l (startR f)).1) (n := bef q l) (by omega) (by omega) hw hw2 (fun fr2 => ?_) (bef q l) 0 _ (by omega) ?_ ?_ ?_ ?_
      · simp (config := { maxSteps := 10000000 }) (disch := omega) only [↓G_seq, ↓G_ret, ↓G_region, ↓Gx_blk, ↓G_ops_nil, ↓G_op, Gv_some, killAll, ↓get_setS, evalOp, ev, Option.map_some, Option.bind_some, finish, resVs, resV, outVs, ownsLast, tupOf, List.all_nil, List.getElem?_cons_zero, List.getElem?_cons_succ, ↓reduceIte, ov_bool, fn_some]
      all_goals simp (config := { maxSteps := 10000000 }) (disch := omega) only [↓get_setS, List.getElem?_cons_zero, List.getElem?_cons_succ, Nat.reduceEqDiff, ↓reduceIte, Nat.succ_ne_self, Int.cast_ofNat_Int, g7]
    all_goals simp (config := { maxSteps := 10000000 }) (disch := omega) only [↓get_setS, Ab.get, List.getElem?_cons_zero, List.getElem?_cons_succ, Nat.reduceEqDiff, reduceCtorEq, ↓reduceIte, Int.cast_ofNat_Int]
  · generalize errR f l = e at *
    unfold a6
    simp (config := { maxSteps := 10000000 }) (disch := omega) only [↓G_seq, ↓G_ret, ↓G_region, ↓G_cond, ↓G_ops_nil, ↓G_op, Gv_some, ↓G_gop, Gw_ff, Gc_true, dec_f, killAll, ↓get_setS, evalOp, ev, evs, Ab.get, b_neq, b_gtr, one, Option.map_some, Option.bind_some, asB, finish, resVs, resV, outVs, ownsLast, tupOf, callV, V.shift, V.shifts, List.append_nil, List.all_nil, List.getElem?_cons_zero, List.getElem?_cons_succ, Nat.reduceEqDiff, reduceCtorEq, ↓reduceIte, Nat.succ_ne_self, Bool.not_true, Bool.not_false, bne_self_eq_false, Bool.false_eq_true, ti_bool, ti_int, ov_bool, fn_some, c13, hlen, hsh', h16]

end Go.Proofs.Ythnjcaioeaepjaa

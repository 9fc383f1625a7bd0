/-
  Places: their check and what is read of them, by the program and by the reference.
-/
import Derived.Test.YthnjcaioeaepjaaS10F
namespace Go.Proofs.Ythnjcaioeaepjaa
open Go Go.Ab
set_option linter.unusedVariables false
set_option linter.unnecessarySimpa false
set_option linter.unusedSimpArgs false
set_option maxRecDepth 100000
variable {H : List (List Row)}

structure Pl where
  at_ : Int
  s : Int
  o : Int
  kd : Int
  pr : Bool
  h : Bool
  be : Int

def Pl.cells (p : Pl) : List V := [.i p.at_, .i p.s, .i p.o, .i p.kd, .bool p.pr, .bool p.h, .i p.be]
def E7 (l : List Pl) : List (List V) := l.map Pl.cells
theorem E7_get (l : List Pl) (i : Nat) (p : Pl) (h : l[i]? = some p) : (E7 l)[i]? = some [.i p.at_, .i p.s, .i p.o, .i p.kd, .bool p.pr, .bool p.h, .i p.be] := by simp [E7, h, Pl.cells]
theorem E7_len (l : List Pl) : (E7 l).length = l.length := by simp [E7]
theorem E7_pure (l : List Pl) : (E7 l).all (fun e => e.all V.pure) = true := by simp [E7, Pl.cells, V.pure]

def inP (p : Pl) : Prop := (0 ≤ p.s ∧ p.s ≤ 6) ∧ (-1 ≤ p.o ∧ p.o ≤ 9)
instance (p : Pl) : Decidable (inP p) := by unfold inP; exact inferInstance
def okP (b : Int) (p : Pl) : Int := if p.at_ < b then 25 else if ¬ inP p then 18 else if ¬ (0 ≤ p.kd ∧ p.kd ≤ 5) then 11 else if p.h = true ∧ ¬ (-2 ≤ p.be ∧ p.be ≤ 2) then 2 else 0
def errP : Int → List Pl → Int
  | _, [] => 0
  | b, p :: t => if okP b p ≠ 0 then okP b p else errP p.at_ t
def errQ (f : Int) (l : List Pl) : Int := if guardR f (l.length : Nat) ≠ 0 then guardR f (l.length : Nat) else errP 0 l

section
variable {b e : Int} {p : Pl} {t : List Pl}
theorem okP_at (h : p.at_ < b) : okP b p = 25 := by unfold okP; rw [if_pos h]
theorem okP_p (h : ¬ p.at_ < b) (k : ¬ inP p) : okP b p = 18 := by unfold okP; rw [if_neg h, if_pos k]
theorem okP_k (h : ¬ p.at_ < b) (k : inP p) (j : ¬ (0 ≤ p.kd ∧ p.kd ≤ 5)) : okP b p = 11 := by unfold okP; rw [if_neg h, if_neg (fun z => z k), if_pos j]
theorem okP_b (h : ¬ p.at_ < b) (k : inP p) (j : 0 ≤ p.kd ∧ p.kd ≤ 5) (i : p.h = true ∧ ¬ (-2 ≤ p.be ∧ p.be ≤ 2)) : okP b p = 2 := by unfold okP; rw [if_neg h, if_neg (fun z => z k), if_neg (fun z => z j), if_pos i]
theorem okP_ok (h : ¬ p.at_ < b) (k : inP p) (j : 0 ≤ p.kd ∧ p.kd ≤ 5) (i : ¬ (p.h = true ∧ ¬ (-2 ≤ p.be ∧ p.be ≤ 2))) : okP b p = 0 := by unfold okP; rw [if_neg h, if_neg (fun z => z k), if_neg (fun z => z j), if_neg i]
theorem errP_e (h : okP b p = e) (he : e ≠ 0) : errP b (p :: t) = e := by
  unfold errP
  rw [h, if_pos he]
theorem errP_0 (h : okP b p = 0) : errP b (p :: t) = errP p.at_ t := by
  conv => lhs; unfold errP
  rw [h, if_neg (by decide)]
theorem errQ_e {f e : Int} {l : List Pl} (h : guardR f (l.length : Nat) = e) (he : e ≠ 0) : errQ f l = e := by
  unfold errQ
  rw [h, if_pos he]
theorem errQ_0 {f : Int} {l : List Pl} (h : guardR f (l.length : Nat) = 0) : errQ f l = errP 0 l := by
  unfold errQ
  rw [h, if_neg (by decide)]
theorem errQ_ok {f : Int} {l : List Pl} (h : errQ f l = 0) : (-7 ≤ f ∧ f ≤ 7) ∧ l.length ≤ 2560 ∧ errP 0 l = 0 := by
  unfold errQ at h
  by_cases g : guardR f (l.length : Nat) = 0
  · rw [if_neg (fun z => z g)] at h
    have := guardR_len g
    exact ⟨this.1, by omega, h⟩
  · rw [if_pos g] at h
    exact absurd h g
theorem okP_0 (h : okP b p = 0) : b ≤ p.at_ ∧ inP p ∧ (0 ≤ p.kd ∧ p.kd ≤ 5) ∧ (p.h = true → -2 ≤ p.be ∧ p.be ≤ 2) := by
  unfold okP at h
  split at h
  · cases h
  split at h
  · cases h
  split at h
  · cases h
  split at h
  · cases h
  · rename_i h1 h2 h3 h4
    refine ⟨by omega, Classical.not_not.1 h2, by omega, fun h => ?_⟩
    exact Classical.not_not.1 (fun z => h4 ⟨h, z⟩)
end
theorem errP_mem : ∀ (l : List Pl) (b : Int), errP b l = 0 → ∀ p ∈ l, inP p ∧ (0 ≤ p.kd ∧ p.kd ≤ 5) ∧ (p.h = true → -2 ≤ p.be ∧ p.be ≤ 2)
  | [], _, _, p, hp => by simp at hp
  | q :: t, b, h, p, hp => by
    unfold errP at h
    split at h
    · contradiction
    · rename_i h1
      rcases List.mem_cons.1 hp with rfl | hp
      · exact (okP_0 (Classical.not_not.1 h1)).2
      · exact errP_mem t q.at_ h p hp

theorem loop32 {k : List KI} {v : V} {l : List Pl} (hl : l.length ≤ 4096) (hv : SlV 7 v (E7 l))
    (hx : ∀ fr' L', Gx tbl H [.tmp 4] 0 k fr' L' = some (.i 0)) :
    ∀ (t : List Pl) (i : Nat) (b : Int) (fr : List V) (L : List Row), l.drop i = t → i ≤ l.length → Ab.get fr 6 = .i b → Ab.get fr 16 = v → Ab.get fr 17 = .i (l.length : Nat) → Ab.get fr 18 = .i (i : Nat) →
    G tbl H [.tmp 4] (.code (.loop ( (.seq ( .region [] [ ⟨some 19, .bin .lss (.t 18) (.t 17), none⟩]) ( (.seq ( (.cond (.t 19) ( .skip) ( .exit 0))) ( (.seq ( (.block 1 ( (.seq ( .region [] [ ⟨some 20, .elemAddr 7 (.t 16) (.t 18), none⟩, ⟨some 21, .load true 7 (.t 20), none⟩, ⟨some 8, .alloc 1 [(.int .i64 0), (.int .i64 0), (.int .i64 0), (.int .i64 0), (.bool false), (.bool false), (.int .i64 0)], none⟩, ⟨none, .store 7 (.t 8) (.t 21), none⟩]) ( (.seq ( (.block 2 ( (.seq ( .region [] [ ⟨some 23, .fieldAddr 0 (.t 8), none⟩, ⟨some 24, .load false 1 (.t 23), none⟩, ⟨some 25, .mv (.t 6), none⟩, ⟨some 26, .bin .lss (.t 24) (.t 25), none⟩, ⟨some 22, .mv (.t 26), none⟩]) ( (.cond (.t 22) ( (.seq ( .region [] [ ⟨some 4, .mv (.c (.int .i64 25)), none⟩]) ( .ret))) ( (.seq ( .region [] [ ⟨some 28, .fieldAddr 1 (.t 8), none⟩, ⟨some 29, .load false 1 (.t 28), none⟩, ⟨some 30, .call 0 (.c (.fn 31 [])) [(.t 29), (.c (.int .i64 0)), (.c (.int .i64 6))], none⟩, ⟨some 31, .not (.t 30), none⟩, ⟨some 32, .mv (.t 31), none⟩, ⟨some 33, .fieldAddr 2 (.t 8), some (32, false)⟩, ⟨some 34, .load false 1 (.t 33), some (32, false)⟩, ⟨some 35, .call 0 (.c (.fn 31 [])) [(.t 34), (.c (.int .i64 (-1))), (.c (.int .i64 9))], some (32, false)⟩, ⟨some 36, .not (.t 35), some (32, false)⟩, ⟨some 37, .pick (.t 32) (.c (.bool true)) (.t 36), none⟩, ⟨some 27, .mv (.t 37), none⟩]) ( (.cond (.t 27) ( (.seq ( .region [] [ ⟨some 4, .mv (.c (.int .i64 18)), none⟩]) ( .ret))) ( (.seq ( .region [] [ ⟨some 39, .fieldAddr 3 (.t 8), none⟩, ⟨some 40, .fieldAddr 0 (.t 39), none⟩, ⟨some 41, .load false 1 (.t 40), none⟩, ⟨some 42, .call 0 (.c (.fn 31 [])) [(.t 41), (.c (.int .i64 0)), (.c (.int .i64 5))], none⟩, ⟨some 43, .not (.t 42), none⟩, ⟨some 38, .mv (.t 43), none⟩]) ( (.cond (.t 38) ( (.seq ( .region [] [ ⟨some 4, .mv (.c (.int .i64 11)), none⟩]) ( .ret))) ( (.seq ( .region [] [ ⟨some 45, .fieldAddr 5 (.t 8), none⟩, ⟨some 46, .load false 1 (.t 45), none⟩, ⟨some 47, .mv (.t 46), none⟩, ⟨some 48, .fieldAddr 6 (.t 8), some (47, true)⟩, ⟨some 49, .load false 1 (.t 48), some (47, true)⟩, ⟨some 50, .call 0 (.c (.fn 31 [])) [(.t 49), (.c (.int .i64 (-2))), (.c (.int .i64 2))], some (47, true)⟩, ⟨some 51, .not (.t 50), some (47, true)⟩, ⟨some 52, .pick (.t 47) (.t 51) (.c (.bool false)), none⟩, ⟨some 44, .mv (.t 52), none⟩]) ( (.cond (.t 44) ( (.seq ( .region [] [ ⟨some 4, .mv (.c (.int .i64 2)), none⟩]) ( .ret))) ( .skip))))))))))))))))))) ( .region [] [ ⟨some 53, .fieldAddr 0 (.t 8), none⟩, ⟨some 54, .load false 1 (.t 53), none⟩, ⟨some 6, .mv (.t 54), none⟩]))))))) ( .region [] [ ⟨some 55, .bin .add (.t 18) (.c (.int .i64 1)), none⟩, ⟨some 18, .mv (.t 55), none⟩])))))))) :: k) fr L = some (.i (errP b t)) := by
  intro t
  induction t with
  | nil =>
    intro i b fr L ht hi h6 h16 h17 h18
    have := drop_nil ht
    refine G_loop.trans ?_
    simp (config := { maxSteps := 10000000 }) (disch := omega) only [↓G_seq, ↓G_exit, ↓G_region, ↓G_cond, ↓Gx_code, ↓G_ops_nil, ↓G_op, Gv_some, Gc_false, dec_f, killAll, ↓get_setS, evalOp, ev, b_lss, one, Option.map_some, List.getElem?_cons_zero, List.getElem?_cons_succ, ↓reduceIte, Int.reduceNeg, h17, h18, hx, errP]
  | cons p t ih =>
    intro i b fr L ht hi h6 h16 h17 h18
    obtain ⟨e1, e2, e3⟩ := drop_cons ht
    have hE := hv.el (E7_get l i p e1)
    have next : errP b (p :: t) = errP p.at_ t → ∀ fr' L', Ab.get fr' 6 = .i p.at_ → Ab.get fr' 16 = v → Ab.get fr' 17 = .i (l.length : Nat) → Ab.get fr' 18 = .i ((i : Nat) + 1) → G tbl H [.tmp 4] (.code (.loop ( (.seq ( .region [] [ ⟨some 19, .bin .lss (.t 18) (.t 17), none⟩]) ( (.seq ( (.cond (.t 19) ( .skip) ( .exit 0))) ( (.seq ( (.block 1 ( (.seq ( .region [] [ ⟨some 20, .elemAddr 7 (.t 16) (.t 18), none⟩, ⟨some 21, .load true 7 (.t 20), none⟩, ⟨some 8, .alloc 1 [(.int .i64 0), (.int .i64 0), (.int .i64 0), (.int .i64 0), (.bool false), (.bool false), (.int .i64 0)], none⟩, ⟨none, .store 7 (.t 8) (.t 21), none⟩]) ( (.seq ( (.block 2 ( (.seq ( .region [] [ ⟨some 23, .fieldAddr 0 (.t 8), none⟩, ⟨some 24, .load false 1 (.t 23), none⟩, ⟨some 25, .mv (.t 6), none⟩, ⟨some 26, .bin .lss (.t 24) (.t 25), none⟩, ⟨some 22, .mv (.t 26), none⟩]) ( (.cond (.t 22) ( (.seq ( .region [] [ ⟨some 4, .mv (.c (.int .i64 25)), none⟩]) ( .ret))) ( (.seq ( .region [] [ ⟨some 28, .fieldAddr 1 (.t 8), none⟩, ⟨some 29, .load false 1 (.t 28), none⟩, ⟨some 30, .call 0 (.c (.fn 31 [])) [(.t 29), (.c (.int .i64 0)), (.c (.int .i64 6))], none⟩, ⟨some 31, .not (.t 30), none⟩, ⟨some 32, .mv (.t 31), none⟩, ⟨some 33, .fieldAddr 2 (.t 8), some (32, false)⟩, ⟨some 34, .load false 1 (.t 33), some (32, false)⟩, ⟨some 35, .call 0 (.c (.fn 31 [])) [(.t 34), (.c (.int .i64 (-1))), (.c (.int .i64 9))], some (32, false)⟩, ⟨some 36, .not (.t 35), some (32, false)⟩, ⟨some 37, .pick (.t 32) (.c (.bool true)) (.t 36), none⟩, ⟨some 27, .mv (.t 37), none⟩]) ( (.cond (.t 27) ( (.seq ( .region [] [ ⟨some 4, .mv (.c (.int .i64 18)), none⟩]) ( .ret))) ( (.seq ( .region [] [ ⟨some 39, .fieldAddr 3 (.t 8), none⟩, ⟨some 40, .fieldAddr 0 (.t 39), none⟩, ⟨some 41, .load false 1 (.t 40), none⟩, ⟨some 42, .call 0 (.c (.fn 31 [])) [(.t 41), (.c (.int .i64 0)), (.c (.int .i64 5))], none⟩, ⟨some 43, .not (.t 42), none⟩, ⟨some 38, .mv (.t 43), none⟩]) ( (.cond (.t 38) ( (.seq ( .region [] [ ⟨some 4, .mv (.c (.int .i64 11)), none⟩]) ( .ret))) ( (.seq ( .region [] [ ⟨some 45, .fieldAddr 5 (.t 8), none⟩, ⟨some 46, .load false 1 (.t 45), none⟩, ⟨some 47, .mv (.t 46), none⟩, ⟨some 48, .fieldAddr 6 (.t 8), some (47, true)⟩, ⟨some 49, .load false 1 (.t 48), some (47, true)⟩, ⟨some 50, .call 0 (.c (.fn 31 [])) [(.t 49), (.c (.int .i64 (-2))), (.c (.int .i64 2))], some (47, true)⟩, ⟨some 51, .not (.t 50), some (47, true)⟩, ⟨some 52, .pick (.t 47) (.t 51) (.c (.bool false)), none⟩, ⟨some 44, .mv (.t 52), none⟩]) ( (.cond (.t 44) ( (.seq ( .region [] [ ⟨some 4, .mv (.c (.int .i64 2)), none⟩]) ( .ret))) ( .skip))))))))))))))))))) ( .region [] [ ⟨some 53, .fieldAddr 0 (.t 8), none⟩, ⟨some 54, .load false 1 (.t 53), none⟩, ⟨some 6, .mv (.t 54), none⟩]))))))) ( .region [] [ ⟨some 55, .bin .add (.t 18) (.c (.int .i64 1)), none⟩, ⟨some 18, .mv (.t 55), none⟩])))))))) :: k) fr' L' = some (.i (errP b (p :: t))) := by
      intro he fr' L' g6 g16 g17 g18
      rw [he]
      exact ih (i + 1) p.at_ fr' L' e2 (by omega) g6 g16 g17 (by rw [g18]; congr 1)
    clear ih
    refine G_loop.trans ?_
    by_cases c1 : p.at_ < b
    · rw [errP_e (okP_at c1) (by decide)]
      simp (config := { maxSteps := 10000000 }) (disch := omega) only [↓G_seq, ↓G_skip, ↓G_ret, ↓G_region, ↓G_block, ↓G_cond, ↓G_ops_nil, ↓G_op, Gv_some, Gc_true, dec_t, killAll, ↓get_setS, ↓get_setN, evalOp, ev, rget_rset, b_lss, one, Option.map_some, Option.bind_some, finish, resVs, resV, outVs, ownsLast, tupOf, V.shift, List.nil_append, List.cons_append, List.all_cons, List.all_nil, Bool.and_self, List.getElem?_cons_zero, List.getElem?_cons_succ, Nat.reduceEqDiff, ↓reduceIte, Nat.succ_ne_self, Bool.false_eq_true, Int.reduceNeg, Int.reduceAdd, pick3, V.cells, splice, addOff, loadV, storeV, Ab.rowAt, V.scalar, Nat.reduceAdd, and_self, List.length_cons, List.length_nil, List.take_succ_cons, List.take_zero, List.drop_succ_cons, List.drop_zero, Nat.le_refl, List.set_cons_zero, List.getD_cons_zero, Nat.zero_add, Nat.add_zero, ov_int, fn_some, h6, h16, h17, h18, hE, rset_rset, Nat.zero_lt_succ]
      done
    by_cases c2 : 0 ≤ p.s ∧ p.s ≤ 6
    case neg =>
      rw [errP_e (okP_p c1 (fun z => c2 z.1)) (by decide)]
      simp (config := { maxSteps := 10000000 }) (disch := omega) only [↓G_seq, ↓G_skip, ↓G_ret, ↓G_region, ↓G_block, ↓G_cond, ↓G_ops_nil, ↓G_op, Gv_some, ↓G_gop, Gw_ft, Gc_true, Gc_false, dec_t, dec_f, killAll, ↓get_setS, ↓get_setN, evalOp, ev, evs, rget_rset, b_lss, one, Option.map_some, Option.bind_some, asB, finish, resVs, resV, outVs, ownsLast, tupOf, callV, V.shift, V.shifts, List.append_nil, List.nil_append, List.cons_append, List.all_cons, List.all_nil, Bool.and_self, List.getElem?_cons_zero, List.getElem?_cons_succ, Nat.reduceEqDiff, ↓reduceIte, Nat.succ_ne_self, Bool.not_false, bne_self_eq_false, Bool.false_eq_true, Int.reduceNeg, Int.reduceAdd, pick3, V.cells, splice, addOff, loadV, storeV, Ab.rowAt, V.scalar, Nat.reduceAdd, and_self, List.length_cons, List.length_nil, List.take_succ_cons, List.take_zero, List.drop_succ_cons, List.drop_zero, Nat.le_refl, List.set_cons_zero, List.getD_cons_zero, Nat.zero_add, Nat.add_zero, ti_bool, ov_int, fn_some, h6, h16, h17, h18, hE, rset_rset, Nat.zero_lt_succ, c31]
      done
    by_cases c3 : -1 ≤ p.o ∧ p.o ≤ 9
    case neg =>
      rw [errP_e (okP_p c1 (fun z => c3 z.2)) (by decide)]
      simp (config := { maxSteps := 10000000 }) (disch := omega) only [↓G_seq, ↓G_skip, ↓G_ret, ↓G_region, ↓G_block, ↓G_cond, ↓G_ops_nil, ↓G_op, Gv_some, ↓G_gop, Gw_ff, Gc_true, Gc_false, dec_t, dec_f, killAll, ↓get_setS, ↓get_setN, evalOp, ev, evs, rget_rset, b_lss, one, Option.map_some, Option.bind_some, asB, finish, resVs, resV, outVs, ownsLast, tupOf, callV, V.shift, V.shifts, List.append_nil, List.nil_append, List.cons_append, List.all_cons, List.all_nil, Bool.and_self, List.getElem?_cons_zero, List.getElem?_cons_succ, Nat.reduceEqDiff, ↓reduceIte, Nat.succ_ne_self, Bool.not_true, Bool.not_false, bne_self_eq_false, Bool.false_eq_true, Int.reduceNeg, Int.reduceAdd, pick3, V.cells, splice, addOff, loadV, storeV, Ab.rowAt, V.scalar, Nat.reduceAdd, and_self, List.length_cons, List.length_nil, List.take_succ_cons, List.take_zero, List.drop_succ_cons, List.drop_zero, Nat.le_refl, List.set_cons_zero, List.getD_cons_zero, Nat.zero_add, Nat.add_zero, ti_bool, ov_int, fn_some, h6, h16, h17, h18, hE, rset_rset, Nat.zero_lt_succ, c31]
      done
    by_cases c4 : 0 ≤ p.kd ∧ p.kd ≤ 5
    case neg =>
      rw [errP_e (okP_k c1 ⟨c2, c3⟩ c4) (by decide)]
      simp (config := { maxSteps := 10000000 }) (disch := omega) only [↓G_seq, ↓G_skip, ↓G_ret, ↓G_region, ↓G_block, ↓G_cond, ↓G_ops_nil, ↓G_op, Gv_some, ↓G_gop, Gw_ff, Gc_true, Gc_false, dec_t, dec_f, killAll, ↓get_setS, ↓get_setN, evalOp, ev, evs, rget_rset, b_lss, one, Option.map_some, Option.bind_some, asB, finish, resVs, resV, outVs, ownsLast, tupOf, callV, V.shift, V.shifts, List.append_nil, List.nil_append, List.cons_append, List.all_cons, List.all_nil, Bool.and_self, List.getElem?_cons_zero, List.getElem?_cons_succ, Nat.reduceEqDiff, ↓reduceIte, Nat.succ_ne_self, Bool.not_true, Bool.not_false, bne_self_eq_false, Bool.false_eq_true, Int.reduceNeg, Int.reduceAdd, pick3, V.cells, splice, addOff, loadV, storeV, Ab.rowAt, V.scalar, Nat.reduceAdd, and_self, List.length_cons, List.length_nil, List.take_succ_cons, List.take_zero, List.drop_succ_cons, List.drop_zero, Nat.le_refl, List.set_cons_zero, List.getD_cons_zero, Nat.zero_add, Nat.add_zero, ti_bool, ov_int, fn_some, h6, h16, h17, h18, hE, rset_rset, Nat.zero_lt_succ, c31]
      done
    cases hh : p.h
    · have nx := next (errP_0 (okP_ok c1 ⟨c2, c3⟩ c4 (by simp [hh])))
      clear next
      simp (config := { maxSteps := 10000000 }) (disch := omega) only [↓G_seq, ↓G_skip, ↓G_blk, ↓G_region, ↓G_block, ↓G_cond, ↓G_ops_nil, ↓G_op, Gv_some, ↓G_gop, Gw_ff, Gw_tf, Gc_true, Gc_false, dec_t, dec_f, killAll, ↓get_setS, ↓get_setN, evalOp, ev, evs, rget_rset, b_add, b_lss, wrap_i64, one, Option.map_some, Option.bind_some, asB, callV, V.shift, V.shifts, List.append_nil, List.nil_append, List.cons_append, List.all_cons, List.all_nil, Bool.and_self, List.getElem?_cons_zero, List.getElem?_cons_succ, Nat.reduceEqDiff, ↓reduceIte, Nat.succ_ne_self, Bool.not_true, bne_self_eq_false, Bool.false_eq_true, Int.reduceNeg, Int.reduceAdd, pick3, V.cells, splice, addOff, loadV, storeV, Ab.rowAt, V.scalar, Nat.reduceAdd, and_self, List.length_cons, List.length_nil, List.take_succ_cons, List.take_zero, List.drop_succ_cons, List.drop_zero, Nat.le_refl, List.set_cons_zero, List.getD_cons_zero, Nat.zero_add, Nat.add_zero, ti_bool, h6, h16, h17, h18, hE, rset_rset, Nat.zero_lt_succ, c31, hh]
      refine nx _ _ ?_ ?_ ?_ ?_
      all_goals simp (config := { maxSteps := 10000000 }) (disch := omega) only [↓get_setS, ↓get_setN, List.getElem?_cons_zero, List.getElem?_cons_succ, Nat.reduceEqDiff, ↓reduceIte, Nat.succ_ne_self, h16, h17]
    · by_cases c5 : -2 ≤ p.be ∧ p.be ≤ 2
      · have nx := next (errP_0 (okP_ok c1 ⟨c2, c3⟩ c4 (fun z => z.2 c5)))
        clear next
        simp (config := { maxSteps := 10000000 }) (disch := omega) only [↓G_seq, ↓G_skip, ↓G_blk, ↓G_region, ↓G_block, ↓G_cond, ↓G_ops_nil, ↓G_op, Gv_some, ↓G_gop, Gw_tt, Gw_ff, Gc_true, Gc_false, dec_t, dec_f, killAll, ↓get_setS, ↓get_setN, evalOp, ev, evs, rget_rset, b_add, b_lss, wrap_i64, one, Option.map_some, Option.bind_some, asB, callV, V.shift, V.shifts, List.append_nil, List.nil_append, List.cons_append, List.all_cons, List.all_nil, Bool.and_self, List.getElem?_cons_zero, List.getElem?_cons_succ, Nat.reduceEqDiff, ↓reduceIte, Nat.succ_ne_self, Bool.not_true, bne_self_eq_false, Bool.false_eq_true, Int.reduceNeg, Int.reduceAdd, pick3, V.cells, splice, addOff, loadV, storeV, Ab.rowAt, V.scalar, Nat.reduceAdd, and_self, List.length_cons, List.length_nil, List.take_succ_cons, List.take_zero, List.drop_succ_cons, List.drop_zero, Nat.le_refl, List.set_cons_zero, List.getD_cons_zero, Nat.zero_add, Nat.add_zero, ti_bool, h6, h16, h17, h18, hE, rset_rset, Nat.zero_lt_succ, c31, hh]
        refine nx _ _ ?_ ?_ ?_ ?_
        all_goals simp (config := { maxSteps := 10000000 }) (disch := omega) only [↓get_setS, ↓get_setN, List.getElem?_cons_zero, List.getElem?_cons_succ, Nat.reduceEqDiff, ↓reduceIte, Nat.succ_ne_self, h16, h17]
      · rw [errP_e (okP_b c1 ⟨c2, c3⟩ c4 ⟨hh, c5⟩) (by decide)]
        clear next
        simp (config := { maxSteps := 10000000 }) (disch := omega) only [↓G_seq, ↓G_skip, ↓G_ret, ↓G_region, ↓G_block, ↓G_cond, ↓G_ops_nil, ↓G_op, Gv_some, ↓G_gop, Gw_tt, Gw_ff, Gc_true, Gc_false, dec_t, dec_f, killAll, ↓get_setS, ↓get_setN, evalOp, ev, evs, rget_rset, b_lss, one, Option.map_some, Option.bind_some, asB, finish, resVs, resV, outVs, ownsLast, tupOf, callV, V.shift, V.shifts, List.append_nil, List.nil_append, List.cons_append, List.all_cons, List.all_nil, Bool.and_self, List.getElem?_cons_zero, List.getElem?_cons_succ, Nat.reduceEqDiff, ↓reduceIte, Nat.succ_ne_self, Bool.not_true, Bool.not_false, bne_self_eq_false, Bool.false_eq_true, Int.reduceNeg, Int.reduceAdd, pick3, V.cells, splice, addOff, loadV, storeV, Ab.rowAt, V.scalar, Nat.reduceAdd, and_self, List.length_cons, List.length_nil, List.take_succ_cons, List.take_zero, List.drop_succ_cons, List.drop_zero, Nat.le_refl, List.set_cons_zero, List.getD_cons_zero, Nat.zero_add, Nat.add_zero, ti_bool, ov_int, fn_some, h6, h16, h17, h18, hE, rset_rset, Nat.zero_lt_succ, c31, hh]

theorem c32 (f : Int) {v : V} {l : List Pl} (hv : SlV 7 v (E7 l)) : call tbl 32 [.i f, v] H = some (.i (errQ f l)) := by
  refine (call_start (show tbl 32 = some a32 from rfl)).trans ?_
  have hlen := hv.len
  rw [E7_len] at hlen
  unfold errQ
  have h35 := fun H => c35 (H := H) f (l.length : Nat)
  by_cases h : guardR f (l.length : Nat) = 0
  · rw [h] at h35
    have hb := guardR_len h
    rw [if_neg (fun z => z h)]
    unfold a32
    simp (config := { maxSteps := 10000000 }) (disch := omega) only [↓G_seq, ↓G_skip, ↓G_region, ↓G_block, ↓G_cond, ↓G_ops_nil, ↓G_op, Gv_some, Gc_false, killAll, ↓get_setS, evalOp, ev, evs, Ab.get, b_neq, one, Option.map_some, callV, V.shift, V.shifts, List.append_nil, List.getElem?_cons_zero, List.getElem?_cons_succ, Nat.reduceEqDiff, reduceCtorEq, ↓reduceIte, Nat.succ_ne_self, decide_true, Bool.not_true, bne_self_eq_false, Int.reduceNeg, ti_int, hlen, h35]
    refine loop32 (l := l) (by omega) hv (fun fr' L' => ?_) l 0 0 _ _ rfl (by omega) ?_ ?_ ?_ ?_
    all_goals simp (config := { maxSteps := 10000000 }) (disch := omega) only [↓G_seq, ↓G_ret, ↓G_region, ↓Gx_blk, ↓G_ops_nil, ↓G_op, Gv_some, killAll, ↓get_setS, evalOp, ev, Option.map_some, Option.bind_some, finish, resVs, resV, outVs, ownsLast, tupOf, List.all_nil, List.getElem?_cons_zero, List.getElem?_cons_succ, Nat.reduceEqDiff, ↓reduceIte, Nat.succ_ne_self, Int.cast_ofNat_Int, ov_int, fn_some]
  · rw [if_pos h]
    generalize guardR f (l.length : Nat) = g at *
    unfold a32
    simp (config := { maxSteps := 10000000 }) (disch := omega) only [↓G_seq, ↓G_ret, ↓G_region, ↓G_cond, ↓G_ops_nil, ↓G_op, Gv_some, Gc_true, dec_f, killAll, ↓get_setS, evalOp, ev, evs, Ab.get, b_neq, one, Option.map_some, Option.bind_some, finish, resVs, resV, outVs, ownsLast, tupOf, callV, V.shift, V.shifts, List.append_nil, List.all_nil, List.getElem?_cons_zero, List.getElem?_cons_succ, Nat.reduceEqDiff, reduceCtorEq, ↓reduceIte, Nat.succ_ne_self, Bool.not_false, bne_self_eq_false, Int.reduceNeg, ti_int, ov_int, fn_some, hlen, h35]

def ixP (p : Pl) : Nat := (7 * (p.o + 1) + p.s).toNat
theorem ixP_eq {p : Pl} (h : inP p) : ((ixP p : Nat) : Int) = 7 * (p.o + 1) + p.s ∧ ixP p < 77 := by
  unfold ixP
  unfold inP at h
  omega
def stepQ (F : List Int) (p : Pl) : Int × List Int :=
  if p.kd ≠ 0 then (p.kd - 3, F.set (ixP p) (p.kd - 3)) else if p.h = true then (p.be, F) else ((F[ixP p]?).getD 0, F)
def readR : List Pl → List Int → List Int
  | [], _ => []
  | p :: t, F => (stepQ F p).1 :: readR t (stepQ F p).2
theorem stepQ_len (F : List Int) (p : Pl) : (stepQ F p).2.length = F.length := by
  unfold stepQ
  split
  · simp
  · split <;> rfl
theorem readR_len : ∀ (t : List Pl) (F : List Int), (readR t F).length = t.length
  | [], _ => rfl
  | p :: t, F => by simp [readR, readR_len t]

set_option maxHeartbeats 1000000 in
theorem loop23 {k : List KI} {rs : List ARes} {r : Option V} {v : V} {l : List Pl} {v1 : Nat} (hl : l.length ≤ 4096) (hv : SlV 7 v (E7 l)) (he : ∀ p ∈ l, inP p ∧ (0 ≤ p.kd ∧ p.kd ≤ 5) ∧ (p.h = true → -2 ≤ p.be ∧ p.be ≤ 2)) (hv1 : 0 < v1) (R : List Int)
    (hr : ∀ fr' L', Acc 3 1 L' (Ab.get fr' 8) (I1 R) → Gx tbl H rs 0 k fr' L' = r) :
    ∀ (t : List Pl) (i : Nat) (F acc : List Int) (fr : List V) (L : List Row), l.drop i = t → i ≤ l.length → acc.length = i → F.length = 77 → R = acc ++ readR t F →
    Ab.get fr 7 = .ptr 0 1 v1 0 0 → Ab.get fr 21 = v → Ab.get fr 22 = .i (l.length : Nat) → Ab.get fr 23 = .i (i : Nat) →
    rget L 1 = ⟨v1, 77, [F.map V.i]⟩ → Acc 3 1 L (Ab.get fr 8) (I1 acc) →
    G tbl H rs (.code (.loop ( (.seq ( .region [] [ ⟨some 24, .bin .lss (.t 23) (.t 22), none⟩]) ( (.seq ( (.cond (.t 24) ( .skip) ( .exit 0))) ( (.seq ( (.block 1 ( (.seq ( .region [] [ ⟨some 25, .elemAddr 7 (.t 21) (.t 23), none⟩, ⟨some 26, .load true 7 (.t 25), none⟩, ⟨some 10, .alloc 2 [(.int .i64 0), (.int .i64 0), (.int .i64 0), (.int .i64 0), (.bool false), (.bool false), (.int .i64 0)], none⟩, ⟨none, .store 7 (.t 10) (.t 26), none⟩]) ( (.seq ( .region [] [ ⟨some 27, .fieldAddr 1 (.t 10), none⟩, ⟨some 28, .load false 1 (.t 27), none⟩, ⟨some 29, .fieldAddr 2 (.t 10), none⟩, ⟨some 30, .load false 1 (.t 29), none⟩, ⟨some 31, .call 0 (.c (.fn 34 [])) [(.t 28), (.t 30)], none⟩, ⟨some 32, .arrAddr 77 1 (.t 7) (.t 31), none⟩, ⟨some 11, .mv (.t 32), none⟩]) ( (.seq ( .region [] [ ⟨some 33, .mv (.t 11), none⟩, ⟨some 34, .nilck (.t 33), none⟩, ⟨some 35, .load false 1 (.t 34), none⟩, ⟨some 12, .mv (.t 35), none⟩]) ( (.seq ( (.block 2 ( (.seq ( .region [] [ ⟨some 37, .fieldAddr 3 (.t 10), none⟩, ⟨some 38, .fieldAddr 0 (.t 37), none⟩, ⟨some 39, .load false 1 (.t 38), none⟩, ⟨some 40, .bin .neq (.t 39) (.c (.int .i64 0)), none⟩, ⟨some 36, .mv (.t 40), none⟩]) ( (.cond (.t 36) ( (.seq ( .region [] [ ⟨some 42, .fieldAddr 3 (.t 10), none⟩, ⟨some 43, .fieldAddr 0 (.t 42), none⟩, ⟨some 44, .load false 1 (.t 43), none⟩, ⟨some 45, .call 0 (.c (.fn 21 [])) [(.t 44)], none⟩, ⟨some 41, .mv (.t 45), none⟩, ⟨some 46, .ext (.t 41) 0, none⟩, ⟨some 47, .ext (.t 41) 1, none⟩, ⟨some 12, .mv (.t 46), none⟩]) ( .region [] [ ⟨some 48, .mv (.t 11), none⟩, ⟨some 49, .mv (.t 12), none⟩, ⟨some 50, .nilck (.t 48), none⟩, ⟨none, .store 1 (.t 50) (.t 49), none⟩]))) ( (.seq ( .region [] [ ⟨some 52, .fieldAddr 5 (.t 10), none⟩, ⟨some 53, .load false 1 (.t 52), none⟩, ⟨some 51, .mv (.t 53), none⟩]) ( (.cond (.t 51) ( .region [] [ ⟨some 54, .fieldAddr 6 (.t 10), none⟩, ⟨some 55, .load false 1 (.t 54), none⟩, ⟨some 12, .mv (.t 55), none⟩]) ( .skip))))))))))) ( .region [] [ ⟨some 56, .mv (.t 8), none⟩, ⟨some 57, .mv (.t 12), none⟩, ⟨some 58, .lit 1 [(.int .i64 0)] 1 [(0, 1, (.t 57))], none⟩, ⟨some 59, .app 3 1 8 (.t 56) (.t 58), none⟩, ⟨some 8, .mv (.t 59), none⟩]))))))))))) ( .region [] [ ⟨some 60, .bin .add (.t 23) (.c (.int .i64 1)), none⟩, ⟨some 23, .mv (.t 60), none⟩])))))))) :: k) fr L = r := by
  intro t
  induction t with
  | nil =>
    intro i F acc fr L ht hi ha hF hR h7 h21 h22 h23 r1 hacc
    have := drop_nil ht
    simp only [readR, List.append_nil] at hR
    subst hR
    refine G_loop.trans ?_
    simp (config := { maxSteps := 10000000 }) (disch := omega) only [↓G_seq, ↓G_exit, ↓G_region, ↓G_cond, ↓Gx_code, ↓G_ops_nil, ↓G_op, Gv_some, Gc_false, dec_f, killAll, ↓get_setS, evalOp, ev, b_lss, one, Option.map_some, List.getElem?_cons_zero, List.getElem?_cons_succ, ↓reduceIte, h22, h23]
    refine hr _ _ ?_
    simp (config := { maxSteps := 10000000 }) (disch := omega) only [↓get_setS, List.getElem?_cons_zero, List.getElem?_cons_succ, Nat.reduceEqDiff, ↓reduceIte]
    exact hacc
  | cons p t ih =>
    intro i F acc fr L ht hi ha hF hR h7 h21 h22 h23 r1 hacc
    obtain ⟨e1', e2, e3⟩ := drop_cons ht
    have hE := hv.el (E7_get l i p e1')
    obtain ⟨hin, hkd, hbe⟩ := he p (List.mem_of_getElem? e1')
    obtain ⟨hq, hq77⟩ := ixP_eq hin
    have h34 := fun H => (c34 (H := H) p.s p.o hin.1 hin.2).trans (by rw [← hq])
    obtain ⟨x, hx⟩ : ∃ x, F[ixP p]? = some x := ⟨_, List.getElem?_eq_getElem (by omega)⟩
    have hFx : (F.map V.i)[ixP p]? = some (.i x) := by simp [hx]
    have hFl : (F.map V.i).length = 77 := by simpa using hF
    have hsp := splice_set F (ixP p) (p.kd - 3) (by omega)
    generalize hv8 : Ab.get fr 8 = v8 at hacc
    have hap : ∀ (m : Int) (L1 : List Row), rget L1 3 = rget L 3 → appV (L1 :: H) 3 1 8 v8 (.sl .full 1 [[.i m]]) = some (.ref 0 3 ((rget L 3).ver + 1) 1 0 (acc.length + 1), rset L1 3 ⟨(rget L 3).ver + 1, 1, I1 acc ++ [[.i m]]⟩) := by
      intro m L1 h1
      have := (acc_app (H := H) (bytes := 8) (y := .sl .full 1 [[.i m]]) (new := [[.i m]]) (hacc.mono h1) rfl (by simp) (by omega) (by rw [I1_len]; simp; omega) (by simp [V.scalar])).1
      rw [this, h1, I1_len]
      rfl
    have next : ∀ (m : Int) (F' : List Int) (fr' : List V) (L' : List Row), stepQ F p = (m, F') → Ab.get fr' 7 = .ptr 0 1 v1 0 0 → Ab.get fr' 21 = v → Ab.get fr' 22 = .i (l.length : Nat) → Ab.get fr' 23 = .i ((i : Nat) + 1) → rget L' 1 = ⟨v1, 77, [F'.map V.i]⟩ →
        Ab.get fr' 8 = .ref 0 3 ((rget L 3).ver + 1) 1 0 (acc.length + 1) →
        rget L' 3 = ⟨(rget L 3).ver + 1, 1, I1 acc ++ [[.i m]]⟩ → G tbl H rs (.code (.loop ( (.seq ( .region [] [ ⟨some 24, .bin .lss (.t 23) (.t 22), none⟩]) ( (.seq ( (.cond (.t 24) ( .skip) ( .exit 0))) ( (.seq ( (.block 1 ( (.seq ( .region [] [ ⟨some 25, .elemAddr 7 (.t 21) (.t 23), none⟩, ⟨some 26, .load true 7 (.t 25), none⟩, ⟨some 10, .alloc 2 [(.int .i64 0), (.int .i64 0), (.int .i64 0), (.int .i64 0), (.bool false), (.bool false), (.int .i64 0)], none⟩, ⟨none, .store 7 (.t 10) (.t 26), none⟩]) ( (.seq ( .region [] [ ⟨some 27, .fieldAddr 1 (.t 10), none⟩, ⟨some 28, .load false 1 (.t 27), none⟩, ⟨some 29, .fieldAddr 2 (.t 10), none⟩, ⟨some 30, .load false 1 (.t 29), none⟩, ⟨some 31, .call 0 (.c (.fn 34 [])) [(.t 28), (.t 30)], none⟩, ⟨some 32, .arrAddr 77 1 (.t 7) (.t 31), none⟩, ⟨some 11, .mv (.t 32), none⟩]) ( (.seq ( .region [] [ ⟨some 33, .mv (.t 11), none⟩, ⟨some 34, .nilck (.t 33), none⟩, ⟨some 35, .load false 1 (.t 34), none⟩, ⟨some 12, .mv (.t 35), none⟩]) ( (.seq ( (.block 2 ( (.seq ( .region [] [ ⟨some 37, .fieldAddr 3 (.t 10), none⟩, ⟨some 38, .fieldAddr 0 (.t 37), none⟩, ⟨some 39, .load false 1 (.t 38), none⟩, ⟨some 40, .bin .neq (.t 39) (.c (.int .i64 0)), none⟩, ⟨some 36, .mv (.t 40), none⟩]) ( (.cond (.t 36) ( (.seq ( .region [] [ ⟨some 42, .fieldAddr 3 (.t 10), none⟩, ⟨some 43, .fieldAddr 0 (.t 42), none⟩, ⟨some 44, .load false 1 (.t 43), none⟩, ⟨some 45, .call 0 (.c (.fn 21 [])) [(.t 44)], none⟩, ⟨some 41, .mv (.t 45), none⟩, ⟨some 46, .ext (.t 41) 0, none⟩, ⟨some 47, .ext (.t 41) 1, none⟩, ⟨some 12, .mv (.t 46), none⟩]) ( .region [] [ ⟨some 48, .mv (.t 11), none⟩, ⟨some 49, .mv (.t 12), none⟩, ⟨some 50, .nilck (.t 48), none⟩, ⟨none, .store 1 (.t 50) (.t 49), none⟩]))) ( (.seq ( .region [] [ ⟨some 52, .fieldAddr 5 (.t 10), none⟩, ⟨some 53, .load false 1 (.t 52), none⟩, ⟨some 51, .mv (.t 53), none⟩]) ( (.cond (.t 51) ( .region [] [ ⟨some 54, .fieldAddr 6 (.t 10), none⟩, ⟨some 55, .load false 1 (.t 54), none⟩, ⟨some 12, .mv (.t 55), none⟩]) ( .skip))))))))))) ( .region [] [ ⟨some 56, .mv (.t 8), none⟩, ⟨some 57, .mv (.t 12), none⟩, ⟨some 58, .lit 1 [(.int .i64 0)] 1 [(0, 1, (.t 57))], none⟩, ⟨some 59, .app 3 1 8 (.t 56) (.t 58), none⟩, ⟨some 8, .mv (.t 59), none⟩]))))))))))) ( .region [] [ ⟨some 60, .bin .add (.t 23) (.c (.int .i64 1)), none⟩, ⟨some 23, .mv (.t 60), none⟩])))))))) :: k) fr' L' = r := by
      intro m F' fr' L' hs g7 g21 g22 g23 s1 g8 s3
      have hl2 : F'.length = F.length := by
        have := stepQ_len F p
        rw [hs] at this
        exact this
      have hl' : F'.length = 77 := by omega
      simp only [readR, hs] at hR
      refine ih (i + 1) F' (acc ++ [m]) fr' L' e2 (by omega) (by simp; omega) hl' (by rw [hR]; simp) g7 g21 g22 (by rw [g23]; congr 1) s1 ?_
      rw [g8]
      exact Acc.mk (ver := (rget L 3).ver + 1) (by omega) (by rw [I1_len]; simp) (by rw [s3, I1_app]) (by simp [I1])
    clear ih hR hr hv he
    have hap2 := fun m r2 r1 => hap m (rset (rset L 2 r2) 1 r1) (by simp [rget_rset])
    have hap1 := fun m r2 => hap m (rset L 2 r2) (by simp [rget_rset])
    clear hap
    refine G_loop.trans ?_
    by_cases c1 : p.kd = 0
    · cases hh : p.h
      · have hs : stepQ F p = (x, F) := by simp [stepQ, c1, hh, hx]
        clear hbe
        simp (config := { maxSteps := 10000000 }) (disch := omega) only [↓G_seq, ↓G_skip, ↓G_blk, ↓G_region, ↓G_block, ↓G_cond, ↓G_ops_nil, ↓G_op, Gv_some, Gc_true, Gc_false, dec_t, killAll, ↓get_setS, ↓get_setN, evalOp, ev, evs, rget_rset, b_add, b_neq, b_lss, wrap_i64, one, Option.map_some, Option.bind_some, callV, V.shift, V.shifts, List.append_nil, List.nil_append, List.cons_append, List.all_cons, List.all_nil, Bool.true_and, Bool.and_self, List.getElem?_cons_zero, List.getElem?_cons_succ, Nat.reduceEqDiff, ↓reduceIte, Nat.succ_ne_self, Bool.not_true, bne_self_eq_false, Bool.false_eq_true, Int.reduceAdd, pick3, V.cells, fillV, splice, chop, arrV, addOff, loadV, storeV, Ab.rowAt, V.scalar, V.pure, Nat.reduceAdd, true_and, and_self, List.length_cons, List.length_nil, List.take_succ_cons, List.take_zero, List.drop_succ_cons, List.drop_zero, Nat.le_refl, List.set_cons_zero, List.getD_cons_zero, List.replicate, List.flatten_cons, List.flatten_nil, Int.cast_ofNat_Int, Nat.zero_add, Nat.add_zero, Nat.mul_one, ti_int, nn, ite_ov, Int.toNat_natCast, h7, h21, h22, h23, hE, h34, r1, hFx, hv8, hap1, hh, rset_rset, Nat.zero_lt_succ]
        refine next _ _ _ _ hs ?_ ?_ ?_ ?_ ?_ ?_ ?_
        all_goals simp (config := { maxSteps := 10000000 }) (disch := omega) only [↓get_setS, ↓get_setN, rget_rset, List.getElem?_cons_zero, List.getElem?_cons_succ, Nat.reduceEqDiff, ↓reduceIte, Nat.succ_ne_self, h7, h21, h22, r1]
      · have hs : stepQ F p = (p.be, F) := by simp [stepQ, c1, hh]
        clear hbe
        simp (config := { maxSteps := 10000000 }) (disch := omega) only [↓G_seq, ↓G_skip, ↓G_blk, ↓G_region, ↓G_block, ↓G_cond, ↓G_ops_nil, ↓G_op, Gv_some, Gc_true, Gc_false, dec_t, killAll, ↓get_setS, ↓get_setN, evalOp, ev, evs, rget_rset, b_add, b_neq, b_lss, wrap_i64, one, Option.map_some, Option.bind_some, callV, V.shift, V.shifts, List.append_nil, List.nil_append, List.cons_append, List.all_cons, List.all_nil, Bool.true_and, Bool.and_self, List.getElem?_cons_zero, List.getElem?_cons_succ, Nat.reduceEqDiff, ↓reduceIte, Nat.succ_ne_self, Bool.not_true, bne_self_eq_false, Bool.false_eq_true, Int.reduceAdd, pick3, V.cells, fillV, splice, chop, arrV, addOff, loadV, storeV, Ab.rowAt, V.scalar, V.pure, Nat.reduceAdd, true_and, and_self, List.length_cons, List.length_nil, List.take_succ_cons, List.take_zero, List.drop_succ_cons, List.drop_zero, Nat.le_refl, List.set_cons_zero, List.getD_cons_zero, List.replicate, List.flatten_cons, List.flatten_nil, Int.cast_ofNat_Int, Nat.zero_add, Nat.add_zero, Nat.mul_one, ti_int, nn, ite_ov, Int.toNat_natCast, h7, h21, h22, h23, hE, h34, r1, hFx, hv8, hap1, hh, rset_rset, Nat.zero_lt_succ]
        refine next _ _ _ _ hs ?_ ?_ ?_ ?_ ?_ ?_ ?_
        all_goals simp (config := { maxSteps := 10000000 }) (disch := omega) only [↓get_setS, ↓get_setN, rget_rset, List.getElem?_cons_zero, List.getElem?_cons_succ, Nat.reduceEqDiff, ↓reduceIte, Nat.succ_ne_self, h7, h21, h22, r1]
    · have hs : stepQ F p = (p.kd - 3, F.set (ixP p) (p.kd - 3)) := by simp [stepQ, c1]
      have h21' := fun H => c21 (H := H) p.kd (by omega)
      clear hbe
      simp (config := { maxSteps := 10000000 }) (disch := omega) only [↓G_seq, ↓G_skip, ↓G_blk, ↓G_region, ↓G_block, ↓G_cond, ↓G_ops_nil, ↓G_op, Gv_some, Gc_true, dec_t, dec_f, killAll, ↓get_setS, ↓get_setN, evalOp, ev, evs, rget_rset, b_add, b_neq, b_lss, wrap_i64, one, Option.map_some, Option.bind_some, callV, V.shift, V.shifts, List.append_nil, List.nil_append, List.cons_append, List.map_cons, List.map_nil, List.all_cons, List.all_nil, Bool.and_true, Bool.true_and, Bool.and_self, List.getElem?_cons_zero, List.getElem?_cons_succ, Nat.reduceEqDiff, ↓reduceIte, Nat.succ_ne_self, Bool.not_false, bne_self_eq_false, Bool.false_eq_true, Int.reduceAdd, pick3, V.cells, fillV, splice, chop, arrV, addOff, loadV, storeV, Ab.rowAt, V.scalar, V.pure, Nat.reduceAdd, Nat.reduceLeDiff, and_true, true_and, and_self, List.length_cons, List.length_nil, List.take_succ_cons, List.take_zero, List.drop_succ_cons, List.drop_zero, Nat.le_refl, List.set_cons_zero, List.getD_cons_zero, List.replicate, List.flatten_cons, List.flatten_nil, Int.cast_ofNat_Int, Nat.zero_add, Nat.add_zero, Nat.mul_one, ti_int, ti_tup_int, st_int, nn, ite_ov, Int.toNat_natCast, h7, h21, h22, h23, hE, h34, h21', r1, hFx, hFl, hsp, hv8, hap2, rset_rset, Nat.zero_lt_succ]
      refine next _ _ _ _ hs ?_ ?_ ?_ ?_ ?_ ?_ ?_
      all_goals simp (config := { maxSteps := 10000000 }) (disch := omega) only [↓get_setS, ↓get_setN, rget_rset, List.getElem?_cons_zero, List.getElem?_cons_succ, Nat.reduceEqDiff, ↓reduceIte, Nat.succ_ne_self, h7, h21, h22]

theorem c23_e {f : Int} {v : V} {l : List Pl} (he : errQ f l ≠ 0) (hv : SlV 7 v (E7 l)) : call tbl 23 [.i f, v] H = some (.tup [.nilsl, .i (errQ f l)]) := by
  refine (call_start (show tbl 23 = some a23 from rfl)).trans ?_
  have h32 := fun H => c32 (H := H) f hv
  generalize errQ f l = e at *
  unfold a23
  simp (config := { maxSteps := 10000000 }) (disch := omega) only [↓G_seq, ↓G_ret, ↓G_region, ↓G_cond, ↓G_ops_nil, ↓G_op, Gv_some, Gc_true, dec_f, killAll, ↓get_setS, evalOp, ev, evs, Ab.get, b_neq, one, Option.map_some, Option.bind_some, finish, resVs, resV, outVs, ownsLast, tupOf, callV, V.shift, V.shifts, List.append_nil, List.all_cons, List.all_nil, Bool.and_self, List.getElem?_cons_zero, List.getElem?_cons_succ, Nat.reduceEqDiff, reduceCtorEq, ↓reduceIte, Nat.succ_ne_self, Bool.not_false, bne_self_eq_false, and_self, ti_int, ov_int, ov_nilsl, fn_some, h32, hv.sh]
theorem c23 {f : Int} {v : V} {l : List Pl} (he : errQ f l = 0) (hv : SlV 7 v (E7 l)) : call tbl 23 [.i f, v] H = some (.tup [outAcc 1 (I1 (readR l (startR f))), .i 0]) := by
  refine (call_start (show tbl 23 = some a23 from rfl)).trans ?_
  have h32 := fun H => (c32 (H := H) f hv).trans (by rw [he])
  obtain ⟨hf, hl, he'⟩ := errQ_ok he
  have hlen := hv.len
  rw [E7_len] at hlen
  have h33 := fun H => c33 (H := H) f hf
  obtain ⟨p1, p2, p3, p4, p5, p6⟩ := a77 (startR f) (startR_len f)
  unfold a23
  simp (config := { maxSteps := 10000000 }) (disch := omega) only [↓G_seq, ↓G_skip, ↓G_region, ↓G_block, ↓G_cond, ↓G_ops_nil, ↓G_op, Gv_some, Gc_false, killAll, ↓get_setS, ↓get_setN, evalOp, ev, evs, Ab.get, b_neq, one, Option.map_some, Option.bind_some, callV, V.shift, V.shifts, List.append_nil, List.nil_append, List.all_cons, List.all_nil, Bool.and_self, List.getElem?_cons_zero, List.getElem?_cons_succ, Nat.reduceEqDiff, reduceCtorEq, ↓reduceIte, Nat.succ_ne_self, decide_true, Bool.not_true, bne_self_eq_false, Int.reduceAdd, Int.reduceLT, V.cells, splice, storeV, rget, rset, V.scalar, Nat.reduceAdd, Nat.reduceLT, and_self, List.length_cons, List.length_nil, List.take_zero, List.drop_succ_cons, List.drop_zero, Nat.le_refl, List.set_cons_zero, Nat.zero_add, ti_int, ti_agg, h32, hv.sh, hlen, h33, p1, p2]
  refine loop23 (l := l) (v := v) (v1 := 1) (by omega) hv (errP_mem l 0 he') (by omega) (readR l (startR f)) (fun fr' L' hacc => ?_) l 0 (startR f) [] _ _ rfl (by omega) rfl (startR_len f) rfl ?_ ?_ ?_ ?_ ?_ ?_
  · generalize hv8 : Ab.get fr' 8 = v8 at hacc
    have ho := hacc.out (by omega) (I1_pure _)
    simp (config := { maxSteps := 10000000 }) (disch := omega) only [↓G_seq, ↓G_ret, ↓G_region, ↓Gx_blk, ↓G_ops_nil, ↓G_op, Gv_some, killAll, ↓get_setS, evalOp, ev, Option.map_some, Option.bind_some, finish, resVs, resV, outVs, ownsLast, tupOf, List.all_cons, List.all_nil, Bool.and_self, List.getElem?_cons_zero, List.getElem?_cons_succ, ↓reduceIte, Nat.succ_ne_self, and_self, ov_int, fn_some, hv8, ↓ho]
  all_goals simp (config := { maxSteps := 10000000 }) (disch := omega) only [↓get_setS, ↓get_setN, List.getElem?_cons_zero, List.getElem?_cons_succ, Nat.reduceEqDiff, ↓reduceIte, Nat.succ_ne_self, rget, Int.cast_ofNat_Int]
  exact Acc.nil

end Go.Proofs.Ythnjcaioeaepjaa

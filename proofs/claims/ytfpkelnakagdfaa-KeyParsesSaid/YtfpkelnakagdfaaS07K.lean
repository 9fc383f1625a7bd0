/-
  Signatures and tonics: the functions of the package and of its reference; the laws KeyAlters and KeyTonics as equations.
-/
import Derived.Test.YtfpkelnakagdfaaS07G
namespace Go.Proofs.Ytfpkelnakagdfaa
open Go Go.Ab
set_option linter.unusedVariables false
set_option linter.unnecessarySimpa false
set_option linter.unusedSimpArgs false
set_option maxRecDepth 100000
variable {H : List (List Row)}

def sigE (f : Int) : List (List V) := if 0 < f then ([3, 0, 4, 1, 5, 2, 6].take f.toNat).map (fun x => [.i x]) else ([6, 2, 5, 1, 4, 0, 3].take (-f).toNat).map (fun x => [.i x])

theorem c21 (f : Int) (h : -7 ≤ f ∧ f ≤ 7) : call tbl 21 [.i f] H = some (.tup [.sl .own 1 (sigE f), .i 0]) := by
  rcases cases15 f h with rfl | rfl | rfl | rfl | rfl | rfl | rfl | rfl | rfl | rfl | rfl | rfl | rfl | rfl | rfl
  all_goals exact call_of 60 (by kernel_rfl)
theorem c24 (f : Int) (h : -7 ≤ f ∧ f ≤ 7) : call tbl 24 [.i f] H = some (if f = 0 then .nilsl else .sl .own 1 (sigE f)) := by
  rcases cases15 f h with rfl | rfl | rfl | rfl | rfl | rfl | rfl | rfl | rfl | rfl | rfl | rfl | rfl | rfl | rfl
  all_goals exact call_of 60 (by kernel_rfl)
theorem c23 (f : Int) (h : -7 ≤ f ∧ f ≤ 7) : call tbl 23 [.sl .any 1 (sigE f), .sl .any 1 (sigE f)] H = some (.bool true) := by
  rcases cases15 f h with rfl | rfl | rfl | rfl | rfl | rfl | rfl | rfl | rfl | rfl | rfl | rfl | rfl | rfl | rfl
  all_goals exact call_of 60 (by kernel_rfl)
theorem c23_0 : call tbl 23 [.sl .any 1 (sigE 0), .nilsl] H = some (.bool true) := call_of 60 (by kernel_rfl)

theorem c21_not (f : Int) (h : ¬ (-7 ≤ f ∧ f ≤ 7)) : call tbl 21 [.i f] H = some (.tup [.nilsl, .i 2]) := by
  refine (call_start (show tbl 21 = some a21 from rfl)).trans ?_
  have hc : checkR f = 2 := by unfold checkR; rw [if_pos (by omega)]
  unfold a21
  simp (config := { maxSteps := 10000000 }) (disch := omega) only [fin2, ↓G_seq, ↓G_ret, ↓G_region, ↓G_cond, ↓G_ops_nil, ↓G_op, Gv_some, Gc_true, killAll, ↓get_setS, evalOp, ev, evs, Ab.get, b_neq, one, Option.map_some, Option.bind_some, finish, resVs, resV, outVs, outV, ownsLast, tupOf, callV, takeIn, V.shift, V.shifts, List.append_nil, List.all_cons, List.all_nil, Bool.and_self, List.getElem?_cons_zero, List.getElem?_cons_succ, Nat.reduceEqDiff, reduceCtorEq, ↓reduceIte, Nat.succ_ne_self, decide_false, Bool.not_false, bne_self_eq_false, Int.reduceEq, and_self, c22, hc]

theorem c20_not (f s : Int) (h : ¬ (-7 ≤ f ∧ f ≤ 7)) : call tbl 20 [.i f, .i s] H = some (.tup [.i 0, .i 2]) := by
  refine (call_start (show tbl 20 = some a20 from rfl)).trans ?_
  have hc : checkR f = 2 := by unfold checkR; rw [if_pos (by omega)]
  unfold a20
  simp (config := { maxSteps := 10000000 }) (disch := omega) only [fin2, ↓G_seq, ↓G_ret, ↓G_region, ↓G_cond, ↓G_ops_nil, ↓G_op, Gv_some, Gc_true, killAll, ↓get_setS, evalOp, ev, evs, Ab.get, b_neq, one, Option.map_some, Option.bind_some, finish, resVs, resV, outVs, outV, ownsLast, tupOf, callV, takeIn, V.shift, V.shifts, List.append_nil, List.all_cons, List.all_nil, Bool.and_self, List.getElem?_cons_zero, List.getElem?_cons_succ, Nat.reduceEqDiff, reduceCtorEq, ↓reduceIte, Nat.succ_ne_self, decide_false, Bool.not_false, bne_self_eq_false, Int.reduceEq, and_self, c22, hc]

theorem step_t (s : Int) (h : 0 ≤ s ∧ s ≤ 6) : (decide (0 ≤ s) && decide (s ≤ 6)) = true := by
  simp [h]
theorem step_f (s : Int) (h : ¬ (0 ≤ s ∧ s ≤ 6)) : (decide (0 ≤ s) && decide (s ≤ 6)) = false := by
  by_cases h1 : 0 ≤ s
  · simp [h1]; omega
  · simp [h1]

theorem c20_out (f s : Int) (h : -7 ≤ f ∧ f ≤ 7) (k : ¬ (0 ≤ s ∧ s ≤ 6)) : call tbl 20 [.i f, .i s] H = some (.tup [.i 0, .i 18]) := by
  refine (call_start (show tbl 20 = some a20 from rfl)).trans ?_
  have hc : checkR f = 0 := by unfold checkR; rw [if_neg (by omega)]
  unfold a20
  simp (config := { maxSteps := 10000000 }) (disch := omega) only [fin2, ↓G_seq, ↓G_skip, ↓G_ret, ↓G_region, ↓G_cond, ↓G_ops_nil, ↓G_op, Gv_some, Gc_true, Gc_false, killAll, ↓get_setS, evalOp, ev, evs, Ab.get, b_neq, one, Option.map_some, Option.bind_some, asB, finish, resVs, resV, outVs, outV, ownsLast, tupOf, callV, takeIn, V.shift, V.shifts, List.append_nil, List.all_cons, List.all_nil, Bool.and_self, List.getElem?_cons_zero, List.getElem?_cons_succ, Nat.reduceEqDiff, reduceCtorEq, ↓reduceIte, Nat.succ_ne_self, decide_true, Bool.not_true, Bool.not_false, bne_self_eq_false, and_self, c22, hc, c38, step_f s k]

theorem c20 (f s : Int) (h : -7 ≤ f ∧ f ≤ 7) (k : 0 ≤ s ∧ s ≤ 6) : call tbl 20 [.i f, .i s] H = some (.tup [.i (alterR f s), .i 0]) := by
  refine (call_start (show tbl 20 = some a20 from rfl)).trans ?_
  have hc : checkR f = 0 := by unfold checkR; rw [if_neg (by omega)]
  unfold a20
  simp (config := { maxSteps := 10000000 }) (disch := omega) only [fin2, ↓G_seq, ↓G_skip, ↓G_ret, ↓G_region, ↓G_cond, ↓G_ops_nil, ↓G_op, Gv_some, Gc_false, dec_t, killAll, ↓get_setS, evalOp, ev, evs, Ab.get, b_neq, one, Option.map_some, Option.bind_some, asB, finish, resVs, resV, outVs, outV, ownsLast, tupOf, callV, takeIn, V.shift, V.shifts, List.append_nil, List.all_cons, List.all_nil, Bool.and_self, List.getElem?_cons_zero, List.getElem?_cons_succ, Nat.reduceEqDiff, reduceCtorEq, ↓reduceIte, Nat.succ_ne_self, decide_true, Bool.not_true, bne_self_eq_false, and_self, c22, hc, c38, step_t s k, c37]

theorem l6 (f s : Int) : call tbl 6 [.i f, .i s] H = some (.bool true) := by
  refine (call_start (show tbl 6 = some a6 from rfl)).trans ?_
  by_cases h : -7 ≤ f ∧ f ≤ 7
  case neg =>
    have hc : checkR f = 2 := by unfold checkR; rw [if_pos (by omega)]
    unfold a6
    simp (config := { maxSteps := 10000000 }) (disch := omega) only [fin2, ↓G_seq, ↓G_skip, ↓G_ret, ↓G_region, ↓G_cond, ↓G_ops_nil, ↓G_op, Gv_some, ↓G_gop, Gw_tt, Gw_ff, Gc_true, Gc_false, killAll, ↓get_setS, evalOp, ev, evs, Ab.get, b_eql, one, Option.map_some, Option.bind_some, asB, finish, resVs, resV, outVs, outV, ownsLast, tupOf, callV, takeIn, Ab.settle, V.shift, V.shifts, List.append_nil, List.map_cons, List.map_nil, List.all_nil, List.getElem?_cons_zero, List.getElem?_cons_succ, Nat.reduceEqDiff, reduceCtorEq, ↓reduceIte, Nat.succ_ne_self, decide_true, decide_false, Bool.not_true, Bool.not_false, bne_self_eq_false, Bool.false_eq_true, Int.reduceNeg, Int.reduceEq, lenV, c20_not f s h, c21_not f h, c14, c22, hc, c15, is_f f h, beq_self_eq_true]
  have hc : checkR f = 0 := by unfold checkR; rw [if_neg (by omega)]
  by_cases k : 0 ≤ s ∧ s ≤ 6
  · by_cases hz : f = 0
    · subst hz
      have h24 : ∀ H, call tbl 24 [.i 0] H = some .nilsl := fun H => c24 0 h
      unfold a6
      simp (config := { maxSteps := 10000000 }) (disch := omega) only [fin2, ↓G_seq, ↓G_skip, ↓G_ret, ↓G_region, ↓G_cond, ↓G_ops_nil, ↓G_op, Gv_some, ↓G_gop, Gw_tt, Gw_ff, Gc_false, dec_f, killAll, ↓get_setS, evalOp, ev, evs, Ab.get, b_eql, b_neq, b_lss, b_gtr, one, Option.map_some, Option.bind_some, asB, finish, resVs, resV, outVs, outV, ownsLast, tupOf, callV, takeIn, Ab.settle, V.shift, V.shifts, List.append_nil, List.map_cons, List.map_nil, List.all_nil, Bool.and_self, List.getElem?_cons_zero, List.getElem?_cons_succ, Nat.reduceEqDiff, reduceCtorEq, ↓reduceIte, Nat.succ_ne_self, decide_true, Bool.not_true, bne_self_eq_false, Bool.false_eq_true, Int.reduceNeg, Int.reduceLE, and_self, c20 0 s h k, c21 0 h, h24, c23_0, c14, c22, hc, c15, is_t 0 h, c25, beq_self_eq_true]
    · have h24 : ∀ H, call tbl 24 [.i f] H = some (.sl .own 1 (sigE f)) := fun H => (c24 f h).trans (by rw [if_neg hz])
      unfold a6
      simp (config := { maxSteps := 10000000 }) (disch := omega) only [fin2, ↓G_seq, ↓G_skip, ↓G_ret, ↓G_region, ↓G_cond, ↓G_ops_nil, ↓G_op, Gv_some, ↓G_gop, Gw_tt, Gw_ff, Gc_false, dec_t, dec_f, killAll, ↓get_setS, evalOp, ev, evs, Ab.get, b_eql, b_neq, b_lss, b_gtr, one, Option.map_some, Option.bind_some, asB, finish, resVs, resV, outVs, outV, ownsLast, tupOf, callV, takeIn, Ab.settle, V.shift, V.shifts, List.append_nil, List.map_cons, List.map_nil, List.all_nil, Bool.and_self, List.getElem?_cons_zero, List.getElem?_cons_succ, Nat.reduceEqDiff, reduceCtorEq, ↓reduceIte, Nat.succ_ne_self, decide_true, Bool.not_true, bne_self_eq_false, Bool.false_eq_true, Int.reduceNeg, and_self, c20 f s h k, c21 f h, h24, c23 f h, c14, c22, hc, c15, is_t f h, c25, beq_self_eq_true]
  · by_cases hz : f = 0
    · subst hz
      have h24 : ∀ H, call tbl 24 [.i 0] H = some .nilsl := fun H => c24 0 h
      unfold a6
      by_cases k1 : s < 0
      · simp (config := { maxSteps := 10000000 }) (disch := omega) only [fin2, ↓G_seq, ↓G_skip, ↓G_ret, ↓G_region, ↓G_cond, ↓G_ops_nil, ↓G_op, Gv_some, ↓G_gop, Gw_tt, Gw_ff, Gw_ft, Gc_true, Gc_false, dec_t, killAll, ↓get_setS, evalOp, ev, evs, Ab.get, b_eql, b_neq, b_lss, one, Option.map_some, Option.bind_some, asB, finish, resVs, resV, outVs, outV, ownsLast, tupOf, callV, takeIn, Ab.settle, V.shift, V.shifts, List.append_nil, List.map_cons, List.map_nil, List.all_nil, Bool.and_self, List.getElem?_cons_zero, List.getElem?_cons_succ, Nat.reduceEqDiff, reduceCtorEq, ↓reduceIte, Nat.succ_ne_self, decide_true, Bool.not_true, bne_self_eq_false, Bool.false_eq_true, Int.reduceNeg, Int.reduceLE, and_self, c20_out 0 s h k, c21 0 h, h24, c23_0, c14, c22, hc, c15, is_t 0 h, beq_self_eq_true]
      · simp (config := { maxSteps := 10000000 }) (disch := omega) only [fin2, ↓G_seq, ↓G_skip, ↓G_ret, ↓G_region, ↓G_cond, ↓G_ops_nil, ↓G_op, Gv_some, ↓G_gop, Gw_tt, Gw_ff, Gc_true, Gc_false, dec_t, dec_f, killAll, ↓get_setS, evalOp, ev, evs, Ab.get, b_eql, b_neq, b_lss, b_gtr, one, Option.map_some, Option.bind_some, asB, finish, resVs, resV, outVs, outV, ownsLast, tupOf, callV, takeIn, Ab.settle, V.shift, V.shifts, List.append_nil, List.map_cons, List.map_nil, List.all_nil, Bool.and_self, List.getElem?_cons_zero, List.getElem?_cons_succ, Nat.reduceEqDiff, reduceCtorEq, ↓reduceIte, Nat.succ_ne_self, decide_true, Bool.not_true, bne_self_eq_false, Bool.false_eq_true, Int.reduceNeg, Int.reduceLE, and_self, c20_out 0 s h k, c21 0 h, h24, c23_0, c14, c22, hc, c15, is_t 0 h, beq_self_eq_true]
    · have h24 : ∀ H, call tbl 24 [.i f] H = some (.sl .own 1 (sigE f)) := fun H => (c24 f h).trans (by rw [if_neg hz])
      unfold a6
      by_cases k1 : s < 0
      · simp (config := { maxSteps := 10000000 }) (disch := omega) only [fin2, ↓G_seq, ↓G_skip, ↓G_ret, ↓G_region, ↓G_cond, ↓G_ops_nil, ↓G_op, Gv_some, ↓G_gop, Gw_tt, Gw_ff, Gw_ft, Gc_true, Gc_false, dec_t, killAll, ↓get_setS, evalOp, ev, evs, Ab.get, b_eql, b_neq, b_lss, one, Option.map_some, Option.bind_some, asB, finish, resVs, resV, outVs, outV, ownsLast, tupOf, callV, takeIn, Ab.settle, V.shift, V.shifts, List.append_nil, List.map_cons, List.map_nil, List.all_nil, Bool.and_self, List.getElem?_cons_zero, List.getElem?_cons_succ, Nat.reduceEqDiff, reduceCtorEq, ↓reduceIte, Nat.succ_ne_self, decide_true, Bool.not_true, bne_self_eq_false, Bool.false_eq_true, Int.reduceNeg, and_self, c20_out f s h k, c21 f h, h24, c23 f h, c14, c22, hc, c15, is_t f h, beq_self_eq_true]
      · simp (config := { maxSteps := 10000000 }) (disch := omega) only [fin2, ↓G_seq, ↓G_skip, ↓G_ret, ↓G_region, ↓G_cond, ↓G_ops_nil, ↓G_op, Gv_some, ↓G_gop, Gw_tt, Gw_ff, Gc_true, Gc_false, dec_t, dec_f, killAll, ↓get_setS, evalOp, ev, evs, Ab.get, b_eql, b_neq, b_lss, b_gtr, one, Option.map_some, Option.bind_some, asB, finish, resVs, resV, outVs, outV, ownsLast, tupOf, callV, takeIn, Ab.settle, V.shift, V.shifts, List.append_nil, List.map_cons, List.map_nil, List.all_nil, Bool.and_self, List.getElem?_cons_zero, List.getElem?_cons_succ, Nat.reduceEqDiff, reduceCtorEq, ↓reduceIte, Nat.succ_ne_self, decide_true, Bool.not_true, bne_self_eq_false, Bool.false_eq_true, Int.reduceNeg, and_self, c20_out f s h k, c21 f h, h24, c23 f h, c14, c22, hc, c15, is_t f h, beq_self_eq_true]

end Go.Proofs.Ytfpkelnakagdfaa

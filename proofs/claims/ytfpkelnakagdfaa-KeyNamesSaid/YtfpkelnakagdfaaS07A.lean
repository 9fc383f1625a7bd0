/-
  The small functions of the key package, as equations.
-/
import Derived.Test.YtfpkelnakagdfaaFns07
import Derived.Test.YtfpkelnakagdfaaAbGo
namespace Go.Proofs.Ytfpkelnakagdfaa
open Go Go.Ab
set_option linter.unusedVariables false
set_option linter.unnecessarySimpa false
set_option linter.unusedSimpArgs false
set_option maxRecDepth 100000
variable {H : List (List Row)}

def checkR (f : Int) : Int := if f < -7 ∨ 7 < f then 2 else 0

theorem c22 (f : Int) : call tbl 22 [.i f] H = some (.i (checkR f)) := by
  refine (call_start (show tbl 22 = some a22 from rfl)).trans ?_
  unfold a22 checkR
  by_cases h : f < -7
  · simp (config := { maxSteps := 10000000 }) (disch := omega) only [fin2, ↓G_seq, ↓G_ret, ↓G_region, ↓G_cond, ↓G_ops_nil, ↓G_op, Gv_some, ↓G_gop, Gw_ft, Gc_true, killAll, ↓get_setS, evalOp, ev, Ab.get, b_lss, one, Option.map_some, Option.bind_some, asB, finish, resVs, resV, outVs, outV, ownsLast, tupOf, List.all_nil, List.getElem?_cons_zero, List.getElem?_cons_succ, Nat.reduceEqDiff, reduceCtorEq, ↓reduceIte, Nat.succ_ne_self, true_or, decide_true, Int.reduceNeg, Bool.true_or, h]
    try simp
  · by_cases h1 : 7 < f
    · simp (config := { maxSteps := 10000000 }) (disch := omega) only [fin2, ↓G_seq, ↓G_ret, ↓G_region, ↓G_cond, ↓G_ops_nil, ↓G_op, Gv_some, ↓G_gop, Gw_ff, Gc_true, dec_t, dec_f, killAll, ↓get_setS, evalOp, ev, Ab.get, b_lss, b_gtr, one, Option.map_some, Option.bind_some, asB, finish, resVs, resV, outVs, outV, ownsLast, tupOf, List.all_nil, List.getElem?_cons_zero, List.getElem?_cons_succ, Nat.reduceEqDiff, reduceCtorEq, ↓reduceIte, Nat.succ_ne_self, Bool.false_eq_true, Int.reduceNeg]
      try simp [h, h1]
    · simp (config := { maxSteps := 10000000 }) (disch := omega) only [fin2, ↓G_seq, ↓G_skip, ↓G_ret, ↓G_region, ↓G_cond, ↓G_ops_nil, ↓G_op, Gv_some, ↓G_gop, Gw_ff, Gc_false, dec_f, killAll, ↓get_setS, evalOp, ev, Ab.get, b_lss, b_gtr, one, Option.map_some, Option.bind_some, asB, finish, resVs, resV, outVs, outV, ownsLast, tupOf, List.all_nil, List.getElem?_cons_zero, List.getElem?_cons_succ, Nat.reduceEqDiff, reduceCtorEq, ↓reduceIte, Nat.succ_ne_self, Bool.false_eq_true, Int.reduceNeg]
      try simp [h, h1]

theorem c38 (s : Int) : call tbl 38 [.i s] H = some (.bool (decide (0 ≤ s) && decide (s ≤ 6))) := by
  refine (call_start (show tbl 38 = some a38 from rfl)).trans ?_
  unfold a38
  by_cases h : 0 ≤ s
  · simp (config := { maxSteps := 10000000 }) (disch := omega) only [fin2, ↓G_seq, ↓G_ret, ↓G_region, ↓G_ops_nil, ↓G_op, Gv_some, ↓G_gop, Gw_tt, dec_t, killAll, ↓get_setS, evalOp, ev, Ab.get, b_leq, b_geq, one, Option.map_some, Option.bind_some, asB, finish, resVs, resV, outVs, outV, ownsLast, tupOf, List.all_nil, Bool.true_and, List.getElem?_cons_zero, List.getElem?_cons_succ, Nat.reduceEqDiff, reduceCtorEq, ↓reduceIte, Nat.succ_ne_self, true_and]
  · simp (config := { maxSteps := 10000000 }) (disch := omega) only [fin2, ↓G_seq, ↓G_ret, ↓G_region, ↓G_ops_nil, ↓G_op, Gv_some, ↓G_gop, Gw_tf, dec_t, dec_f, killAll, ↓get_setS, evalOp, ev, Ab.get, b_geq, one, Option.map_some, Option.bind_some, asB, finish, resVs, resV, outVs, outV, ownsLast, tupOf, List.all_nil, Bool.and_true, List.getElem?_cons_zero, List.getElem?_cons_succ, Nat.reduceEqDiff, reduceCtorEq, ↓reduceIte, Nat.succ_ne_self, Bool.false_eq_true, and_true]

theorem c39 : call tbl 39 [] H = some (.agg [.i 3, .i 0, .i 4, .i 1, .i 5, .i 2, .i 6]) := call_of 10 (by kernel_rfl)

def placeR (s : Int) : Int := if s = 1 then 2 else if s = 2 then 4 else if s = 3 then -1 else if s = 4 then 1 else if s = 5 then 3 else if s = 6 then 5 else 0

theorem seven (s : Int) : s = 0 ∨ s = 1 ∨ s = 2 ∨ s = 3 ∨ s = 4 ∨ s = 5 ∨ s = 6 ∨ (s < 0 ∨ 6 < s) := by omega

theorem c43 (s : Int) : call tbl 43 [.i s] H = some (.i (placeR s)) := by
  rcases seven s with h | h | h | h | h | h | h | h
  iterate 7 (subst h; exact call_of 40 (by kernel_rfl))
  refine (call_start (show tbl 43 = some a43 from rfl)).trans ?_
  have hz : placeR s = 0 := by
    unfold placeR
    repeat (rw [if_neg (by omega)])
  rw [hz]
  unfold a43
  simp (config := { maxSteps := 10000000 }) (disch := omega) only [fin2, ↓G_seq, ↓G_skip, ↓G_ret, ↓G_blk, ↓G_exit, ↓G_region, ↓G_block, ↓G_cond, ↓Gx_blk, ↓Gx_code, ↓G_ops_nil, ↓G_op, Gv_some, Gc_true, Gc_false, dec_f, killAll, ↓get_setS, evalOp, ev, evs, Ab.get, b_add, b_eql, b_lss, wrap_i64, one, Option.map_some, Option.bind_some, finish, resVs, resV, outVs, outV, ownsLast, tupOf, callV, takeIn, V.shifts, List.append_nil, List.all_nil, Bool.and_self, List.getElem?_cons_zero, List.getElem?_cons_succ, Nat.reduceEqDiff, reduceCtorEq, ↓reduceIte, Nat.succ_ne_self, decide_true, decide_false, bne_self_eq_false, Bool.false_eq_true, Int.reduceAdd, Int.reduceLT, Int.reduceLE, idxV, pick3, Int.reduceToNat, Nat.reduceAdd, Nat.reduceLT, and_self, Int.cast_ofNat_Int, Nat.mul_one, ↓G_loop, c39]

def alterR (f s : Int) : Int := if placeR s + 1 < f then 1 else if 6 - (placeR s + 1) < -f then -1 else 0

theorem place_in (s : Int) : -1 ≤ placeR s ∧ placeR s ≤ 5 := by
  unfold placeR
  repeat' split
  all_goals omega

theorem c37 (f s : Int) (hf : -7 ≤ f ∧ f ≤ 7) : call tbl 37 [.i f, .i s] H = some (.i (alterR f s)) := by
  refine (call_start (show tbl 37 = some a37 from rfl)).trans ?_
  have hp := place_in s
  unfold a37 alterR
  by_cases h : placeR s + 1 < f
  · simp (config := { maxSteps := 10000000 }) (disch := omega) only [fin2, ↓G_seq, ↓G_ret, ↓G_region, ↓G_block, ↓G_cond, ↓G_ops_nil, ↓G_op, Gv_some, Gc_true, dec_t, killAll, ↓get_setS, evalOp, ev, evs, Ab.get, b_add, b_lss, wrap_i64, one, Option.map_some, Option.bind_some, finish, resVs, resV, outVs, outV, ownsLast, tupOf, callV, takeIn, V.shift, V.shifts, List.append_nil, List.all_nil, List.getElem?_cons_zero, List.getElem?_cons_succ, Nat.reduceEqDiff, reduceCtorEq, ↓reduceIte, Nat.succ_ne_self, bne_self_eq_false, Int.reduceNeg, c43]
    try rw [if_pos h]
  · by_cases h1 : 6 - (placeR s + 1) < -f
    · simp (config := { maxSteps := 10000000 }) (disch := omega) only [fin2, ↓G_seq, ↓G_ret, ↓G_region, ↓G_block, ↓G_cond, ↓G_ops_nil, ↓G_op, Gv_some, Gc_true, Gc_false, dec_t, dec_f, killAll, ↓get_setS, evalOp, ev, evs, Ab.get, b_add, b_sub, b_lss, wrap_i64, one, Option.map_some, Option.bind_some, finish, resVs, resV, outVs, outV, ownsLast, tupOf, callV, takeIn, V.shift, V.shifts, List.append_nil, List.all_nil, List.getElem?_cons_zero, List.getElem?_cons_succ, Nat.reduceEqDiff, reduceCtorEq, ↓reduceIte, Nat.succ_ne_self, bne_self_eq_false, Int.reduceNeg, c43]
      try rw [if_neg h, if_pos h1]
    · simp (config := { maxSteps := 10000000 }) (disch := omega) only [fin2, ↓G_seq, ↓G_skip, ↓G_ret, ↓G_blk, ↓G_region, ↓G_block, ↓G_cond, ↓G_ops_nil, ↓G_op, Gv_some, Gc_false, dec_f, killAll, ↓get_setS, evalOp, ev, evs, Ab.get, b_add, b_sub, b_lss, wrap_i64, one, Option.map_some, Option.bind_some, finish, resVs, resV, outVs, outV, ownsLast, tupOf, callV, takeIn, V.shift, V.shifts, List.append_nil, List.all_nil, List.getElem?_cons_zero, List.getElem?_cons_succ, Nat.reduceEqDiff, reduceCtorEq, ↓reduceIte, Nat.succ_ne_self, bne_self_eq_false, Int.reduceNeg, c43]
      try rw [if_neg h, if_neg h1]

theorem c42 (m : Bool) : call tbl 42 [.bool m] H = some (.i (if m then 3 else 0)) := by
  cases m
  · exact call_of 10 (by kernel_rfl)
  · exact call_of 10 (by kernel_rfl)

end Go.Proofs.Ytfpkelnakagdfaa

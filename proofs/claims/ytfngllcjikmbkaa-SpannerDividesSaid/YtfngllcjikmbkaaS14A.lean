/-
  The small functions of the spanner package and of its reference, as equations.
-/
import Derived.Test.YtfngllcjikmbkaaFns14
import Derived.Test.YtfngllcjikmbkaaAbAcc
namespace Go.Proofs.Ytfngllcjikmbkaa
open Go Go.Ab
set_option linter.unusedVariables false
set_option linter.unnecessarySimpa false
set_option linter.unusedSimpArgs false
set_option maxRecDepth 100000
variable {H : List (List Row)}

theorem c11 : call tbl 11 [] H = some (.bool true) := call_of 100 (by kernel_rfl)

theorem c58 (x : Int) : call tbl 58 [.i x] H = some (.bool false) := by
  refine (call_start (show tbl 58 = some a58 from rfl)).trans ?_
  unfold a58
  simp (config := { maxSteps := 10000000 }) (disch := omega) only [fin2, ↓G_seq, ↓G_ret, ↓G_region, ↓G_ops_nil, ↓G_op, Gv_some, killAll, ↓get_setS, evalOp, ev, Ab.get, b_neq, one, Option.map_some, Option.bind_some, finish, resVs, resV, outVs, outV, ownsLast, tupOf, List.all_nil, List.getElem?_cons_zero, List.getElem?_cons_succ, reduceCtorEq, ↓reduceIte, Nat.succ_ne_self, decide_true, Bool.not_true]

def cmpI (x y : Int) : Int := if x < y then -1 else if y < x then 1 else 0

theorem c37 (x y : Int) : call tbl 37 [.i x, .i y] H = some (.i (cmpI x y)) := by
  refine (call_start (show tbl 37 = some a37 from rfl)).trans ?_
  unfold a37 cmpI
  by_cases h : x < y
  · simp (config := { maxSteps := 10000000 }) (disch := omega) only [fin2, ↓G_seq, ↓G_skip, ↓G_ret, ↓G_region, ↓G_cond, ↓G_ops_nil, ↓G_op, Gv_some, Gc_true, Gc_false, dec_t, killAll, ↓get_setS, evalOp, ev, evs, Ab.get, b_lss, one, Option.map_some, Option.bind_some, finish, resVs, resV, outVs, outV, ownsLast, tupOf, callV, takeIn, V.shift, V.shifts, List.append_nil, List.all_nil, List.getElem?_cons_zero, List.getElem?_cons_succ, Nat.reduceEqDiff, reduceCtorEq, ↓reduceIte, Nat.succ_ne_self, bne_self_eq_false, Int.reduceNeg, c58]
    rw [if_pos h]
  · by_cases k : y < x
    · simp (config := { maxSteps := 10000000 }) (disch := omega) only [fin2, ↓G_seq, ↓G_skip, ↓G_ret, ↓G_region, ↓G_cond, ↓G_ops_nil, ↓G_op, Gv_some, Gc_true, Gc_false, dec_t, dec_f, killAll, ↓get_setS, evalOp, ev, evs, Ab.get, b_lss, b_gtr, one, Option.map_some, Option.bind_some, finish, resVs, resV, outVs, outV, ownsLast, tupOf, callV, takeIn, V.shift, V.shifts, List.append_nil, List.all_nil, List.getElem?_cons_zero, List.getElem?_cons_succ, Nat.reduceEqDiff, reduceCtorEq, ↓reduceIte, Nat.succ_ne_self, bne_self_eq_false, Int.reduceNeg, c58]
      rw [if_neg h, if_pos k]
    · simp (config := { maxSteps := 10000000 }) (disch := omega) only [fin2, ↓G_seq, ↓G_skip, ↓G_ret, ↓G_region, ↓G_cond, ↓G_ops_nil, ↓G_op, Gv_some, Gc_false, dec_f, killAll, ↓get_setS, evalOp, ev, evs, Ab.get, b_lss, b_gtr, one, Option.map_some, Option.bind_some, finish, resVs, resV, outVs, outV, ownsLast, tupOf, callV, takeIn, V.shift, V.shifts, List.append_nil, List.all_nil, List.getElem?_cons_zero, List.getElem?_cons_succ, Nat.reduceEqDiff, reduceCtorEq, ↓reduceIte, Nat.succ_ne_self, bne_self_eq_false, Int.reduceNeg, c58]
      rw [if_neg h, if_neg k]

theorem c36 (x y : Int) : call tbl 36 [.sl .full 1 [[.i x], [.i y]]] H = some (.i (if x = 0 then y else x)) := by
  refine (call_start (show tbl 36 = some a36 from rfl)).trans ?_
  unfold a36
  by_cases h : x = 0
  · subst h
    by_cases k : y = 0
    · subst k
      simp (config := { maxSteps := 10000000 }) (disch := omega) only [fin2, ↓G_seq, ↓G_skip, ↓G_ret, ↓G_blk, ↓G_exit, ↓G_region, ↓G_block, ↓G_cond, ↓Gx_blk, ↓Gx_code, ↓G_ops_nil, ↓G_op, Gv_some, Gc_true, Gc_false, killAll, ↓get_setS, evalOp, ev, Ab.get, b_add, b_neq, b_lss, wrap_i64, one, Option.map_some, Option.bind_some, finish, resVs, resV, outVs, outV, ownsLast, tupOf, List.all_nil, Bool.and_self, List.getElem?_cons_zero, List.getElem?_cons_succ, Nat.reduceEqDiff, reduceCtorEq, ↓reduceIte, Nat.succ_ne_self, decide_true, decide_false, Bool.not_true, Bool.false_eq_true, Int.reduceAdd, Int.reduceLT, Int.reduceLE, ne_eq, not_false_eq_true, elemV, pick3, loadV, lenV, Int.reduceToNat, Nat.reduceAdd, Nat.reduceLT, and_self, List.length_cons, List.length_nil, Int.cast_ofNat_Int, Nat.zero_add, ↓G_loop]
    · simp (config := { maxSteps := 10000000 }) (disch := omega) only [fin2, ↓G_seq, ↓G_skip, ↓G_ret, ↓G_blk, ↓G_region, ↓G_block, ↓G_cond, ↓G_ops_nil, ↓G_op, Gv_some, Gc_true, Gc_false, dec_f, killAll, ↓get_setS, evalOp, ev, Ab.get, b_add, b_neq, b_lss, wrap_i64, one, Option.map_some, Option.bind_some, finish, resVs, resV, outVs, outV, ownsLast, tupOf, List.all_nil, Bool.and_self, List.getElem?_cons_zero, List.getElem?_cons_succ, Nat.reduceEqDiff, reduceCtorEq, ↓reduceIte, Nat.succ_ne_self, decide_true, Bool.not_true, Bool.not_false, Bool.false_eq_true, Int.reduceAdd, Int.reduceLT, Int.reduceLE, ne_eq, not_false_eq_true, elemV, pick3, loadV, lenV, Int.reduceToNat, Nat.reduceAdd, Nat.reduceLT, and_self, List.length_cons, List.length_nil, Int.cast_ofNat_Int, Nat.zero_add, ↓G_loop]
  · simp (config := { maxSteps := 10000000 }) (disch := omega) only [fin2, ↓G_seq, ↓G_skip, ↓G_ret, ↓G_region, ↓G_block, ↓G_cond, ↓G_ops_nil, ↓G_op, Gv_some, Gc_true, dec_f, killAll, ↓get_setS, evalOp, ev, Ab.get, b_neq, b_lss, one, Option.map_some, Option.bind_some, finish, resVs, resV, outVs, outV, ownsLast, tupOf, List.all_nil, Bool.and_self, List.getElem?_cons_zero, List.getElem?_cons_succ, Nat.reduceEqDiff, reduceCtorEq, ↓reduceIte, Nat.succ_ne_self, decide_true, Bool.not_false, Bool.false_eq_true, Int.reduceAdd, Int.reduceLT, Int.reduceLE, ne_eq, not_false_eq_true, elemV, pick3, loadV, lenV, Int.reduceToNat, Nat.reduceAdd, Nat.reduceLT, and_self, List.length_cons, List.length_nil, Int.cast_ofNat_Int, Nat.zero_add, ↓G_loop]
    rw [if_neg h]

def cmpP (m1 a1 m2 a2 : Int) : Int := if cmpI m1 m2 = 0 then cmpI a1 a2 else cmpI m1 m2

theorem c15 (m1 a1 s1 v1 m2 a2 s2 v2 : Int) : call tbl 15 [.agg [.i m1, .i a1, .i s1, .i v1], .agg [.i m2, .i a2, .i s2, .i v2]] H = some (.i (cmpP m1 a1 m2 a2)) := by
  refine (call_start (show tbl 15 = some a15 from rfl)).trans ?_
  unfold a15 cmpP
  simp (config := { maxSteps := 10000000 }) (disch := omega) only [fin2, ↓G_seq, ↓G_ret, ↓G_region, ↓G_ops_nil, ↓G_op, Gv_some, killAll, ↓get_setS, evalOp, ev, evs, Ab.get, one, Option.map_some, Option.bind_some, finish, resVs, resV, outVs, outV, ownsLast, tupOf, callV, takeIn, V.shift, V.shifts, List.append_nil, List.nil_append, List.cons_append, List.all_cons, List.all_nil, Bool.true_and, Bool.and_self, List.getElem?_cons_zero, List.getElem?_cons_succ, Nat.reduceEqDiff, ↓reduceIte, Nat.succ_ne_self, bne_self_eq_false, Bool.false_eq_true, Int.reduceAdd, Int.reduceLT, pick3, V.cells, fillV, splice, chop, addOff, loadV, Ab.rowAt, rget, rset, V.scalar, V.pure, Nat.reduceAdd, Nat.reduceLT, Nat.reduceLeDiff, true_and, and_self, List.length_cons, List.length_nil, List.take_succ_cons, List.take_zero, List.drop_succ_cons, List.drop_zero, Nat.le_refl, List.getD_cons_zero, List.replicate, List.flatten_cons, List.flatten_nil, Nat.zero_add, Nat.add_zero, c37, c36]

theorem c16 (m a s v : Int) : call tbl 16 [.agg [.i m, .i a, .i s, .i v]] H = some (.agg [.i m, .i a, .i s, .i v]) := by
  refine (call_start (show tbl 16 = some a16 from rfl)).trans ?_
  unfold a16
  simp (config := { maxSteps := 10000000 }) (disch := omega) only [fin2, ↓G_seq, ↓G_ret, ↓G_region, ↓G_ops_nil, ↓G_op, Gv_some, killAll, ↓get_setS, ↓get_setN, evalOp, ev, Ab.get, one, Option.map_some, Option.bind_some, finish, resVs, resV, outVs, outV, ownsLast, tupOf, V.shift, V.shifts, List.append_nil, List.nil_append, List.cons_append, List.all_cons, List.all_nil, Bool.and_self, List.getElem?_cons_zero, List.getElem?_cons_succ, Nat.reduceEqDiff, ↓reduceIte, Nat.succ_ne_self, Bool.false_eq_true, Int.reduceAdd, Int.reduceLT, pick3, V.cells, fillV, splice, addOff, loadV, storeV, Ab.rowAt, rget, rset, V.scalar, V.pure, Nat.reduceAdd, Nat.reduceLT, Nat.reduceLeDiff, and_self, List.length_cons, List.length_nil, List.take_succ_cons, List.take_zero, List.drop_succ_cons, List.drop_zero, Nat.le_refl, List.set_cons_zero, List.getD_cons_zero, Nat.zero_add, Nat.add_zero]

theorem c13 (k m1 a1 s1 v1 m2 a2 s2 v2 : Int) : call tbl 13 [.agg [.i k, .i m1, .i a1, .i s1, .i v1, .i m2, .i a2, .i s2, .i v2]] H = some (.agg [.i k, .i m1, .i a1, .i s1, .i v1, .i m2, .i a2, .i s2, .i v2]) := by
  refine (call_start (show tbl 13 = some a13 from rfl)).trans ?_
  unfold a13
  simp (config := { maxSteps := 10000000 }) (disch := omega) only [fin2, ↓G_seq, ↓G_ret, ↓G_region, ↓G_ops_nil, ↓G_op, Gv_some, killAll, ↓get_setS, ↓get_setN, evalOp, ev, evs, Ab.get, one, Option.map_some, Option.bind_some, finish, resVs, resV, outVs, outV, ownsLast, tupOf, callV, takeIn, V.shift, V.shifts, List.append_nil, List.nil_append, List.cons_append, List.all_cons, List.all_nil, Bool.and_self, List.getElem?_cons_zero, List.getElem?_cons_succ, Nat.reduceEqDiff, ↓reduceIte, Nat.succ_ne_self, bne_self_eq_false, Bool.false_eq_true, Int.reduceAdd, Int.reduceLT, pick3, V.cells, fillV, splice, addOff, loadV, storeV, Ab.rowAt, rget, rset, V.scalar, V.pure, Nat.reduceAdd, Nat.reduceLT, Nat.reduceLeDiff, and_self, List.length_cons, List.length_nil, List.take_succ_cons, List.take_zero, List.drop_succ_cons, List.drop_zero, Nat.le_refl, List.set_cons_zero, List.getD_cons_zero, Nat.zero_add, Nat.add_zero, c16]

theorem cmpP_eq (m1 a1 m2 a2 : Int) : cmpP m1 a1 m2 a2 = if m1 < m2 ∨ m1 = m2 ∧ a1 < a2 then -1 else if m1 = m2 ∧ a1 = a2 then 0 else 1 := by
  unfold cmpP cmpI
  repeat' split
  all_goals omega

theorem c17 (m1 a1 s1 v1 m2 a2 s2 v2 : Int) : call tbl 17 [.agg [.i m1, .i a1, .i s1, .i v1], .agg [.i m2, .i a2, .i s2, .i v2]] H = some (.i (cmpP m1 a1 m2 a2)) := by
  refine (call_start (show tbl 17 = some a17 from rfl)).trans ?_
  rw [cmpP_eq]
  unfold a17
  by_cases h : m1 < m2
  · simp (config := { maxSteps := 10000000 }) (disch := omega) only [fin2, ↓G_seq, ↓G_ret, ↓G_region, ↓G_cond, ↓G_ops_nil, ↓G_op, Gv_some, ↓G_gop, Gw_ft, Gw_tup, Gc_true, dec_t, killAll, ↓get_setS, evalOp, ev, Ab.get, b_lss, one, Option.map_some, Option.bind_some, asB, finish, resVs, resV, outVs, outV, ownsLast, tupOf, V.shift, List.all_cons, List.all_nil, Bool.and_self, List.getElem?_cons_zero, List.getElem?_cons_succ, Nat.reduceEqDiff, ↓reduceIte, Nat.succ_ne_self, Bool.false_eq_true, Int.reduceNeg, Int.reduceAdd, Int.reduceLT, pick3, V.cells, addOff, loadV, Ab.rowAt, rget, rset, V.scalar, Nat.reduceAdd, Nat.reduceLT, and_self, List.length_cons, List.length_nil, List.getD_cons_zero, Nat.zero_add, Nat.add_zero]
    rw [if_pos (by omega)]
  by_cases h2 : m1 = m2
  · by_cases h3 : a1 < a2
    · simp (config := { maxSteps := 10000000 }) (disch := omega) only [fin2, ↓G_seq, ↓G_ret, ↓G_region, ↓G_cond, ↓G_ops_nil, ↓G_op, Gv_some, ↓G_gop, Gw_tt, Gw_ff, Gc_true, dec_t, dec_f, killAll, ↓get_setS, evalOp, ev, Ab.get, b_eql, b_lss, one, Option.map_some, Option.bind_some, asB, finish, resVs, resV, outVs, outV, ownsLast, tupOf, V.shift, List.all_cons, List.all_nil, Bool.and_self, List.getElem?_cons_zero, List.getElem?_cons_succ, Nat.reduceEqDiff, ↓reduceIte, Nat.succ_ne_self, Bool.false_eq_true, Int.reduceNeg, Int.reduceAdd, Int.reduceLT, pick3, V.cells, addOff, loadV, Ab.rowAt, rget, rset, V.scalar, Nat.reduceAdd, Nat.reduceLT, and_self, List.length_cons, List.length_nil, List.getD_cons_zero, Nat.zero_add, Nat.add_zero]
      rw [if_pos (by omega)]
    · by_cases h4 : a1 = a2
      · simp (config := { maxSteps := 10000000 }) (disch := omega) only [fin2, ↓G_seq, ↓G_skip, ↓G_ret, ↓G_region, ↓G_cond, ↓G_ops_nil, ↓G_op, Gv_some, ↓G_gop, Gw_tt, Gw_ff, Gc_true, Gc_false, dec_t, dec_f, killAll, ↓get_setS, evalOp, ev, Ab.get, b_eql, b_lss, one, Option.map_some, Option.bind_some, asB, finish, resVs, resV, outVs, outV, ownsLast, tupOf, V.shift, List.all_cons, List.all_nil, Bool.and_self, List.getElem?_cons_zero, List.getElem?_cons_succ, Nat.reduceEqDiff, ↓reduceIte, Nat.succ_ne_self, Bool.false_eq_true, Int.reduceNeg, Int.reduceAdd, Int.reduceLT, pick3, V.cells, addOff, loadV, Ab.rowAt, rget, rset, V.scalar, Nat.reduceAdd, Nat.reduceLT, and_self, List.length_cons, List.length_nil, List.getD_cons_zero, Nat.zero_add, Nat.add_zero]
        rw [if_neg (by omega), if_pos (by omega)]
      · simp (config := { maxSteps := 10000000 }) (disch := omega) only [fin2, ↓G_seq, ↓G_skip, ↓G_ret, ↓G_region, ↓G_cond, ↓G_ops_nil, ↓G_op, Gv_some, ↓G_gop, Gw_tt, Gw_ff, Gc_false, dec_t, dec_f, killAll, ↓get_setS, evalOp, ev, Ab.get, b_eql, b_lss, one, Option.map_some, Option.bind_some, asB, finish, resVs, resV, outVs, outV, ownsLast, tupOf, V.shift, List.all_cons, List.all_nil, Bool.and_self, List.getElem?_cons_zero, List.getElem?_cons_succ, Nat.reduceEqDiff, ↓reduceIte, Nat.succ_ne_self, Bool.false_eq_true, Int.reduceNeg, Int.reduceAdd, Int.reduceLT, pick3, V.cells, addOff, loadV, Ab.rowAt, rget, rset, V.scalar, Nat.reduceAdd, Nat.reduceLT, and_self, List.length_cons, List.length_nil, List.getD_cons_zero, Nat.zero_add, Nat.add_zero]
        rw [if_neg (by omega), if_neg (by omega)]
  · simp (config := { maxSteps := 10000000 }) (disch := omega) only [fin2, ↓G_seq, ↓G_skip, ↓G_ret, ↓G_region, ↓G_cond, ↓G_ops_nil, ↓G_op, Gv_some, ↓G_gop, Gw_ff, Gw_tf, Gc_false, dec_f, killAll, ↓get_setS, evalOp, ev, Ab.get, b_eql, b_lss, one, Option.map_some, Option.bind_some, asB, finish, resVs, resV, outVs, outV, ownsLast, tupOf, V.shift, List.all_cons, List.all_nil, Bool.and_self, List.getElem?_cons_zero, List.getElem?_cons_succ, Nat.reduceEqDiff, ↓reduceIte, Nat.succ_ne_self, Bool.false_eq_true, Int.reduceNeg, Int.reduceAdd, Int.reduceLT, pick3, V.cells, addOff, loadV, Ab.rowAt, rget, rset, V.scalar, Nat.reduceAdd, Nat.reduceLT, and_self, List.length_cons, List.length_nil, List.getD_cons_zero, Nat.zero_add, Nat.add_zero]
    rw [if_neg (by omega), if_neg (by omega)]

theorem c57 (x y : Int) : call tbl 57 [.i x, .i y] H = some (.bool (decide (0 ≤ x ∧ x ≤ y))) := by
  refine (call_start (show tbl 57 = some a57 from rfl)).trans ?_
  unfold a57
  by_cases h : 0 ≤ x
  · by_cases k : x ≤ y
    · simp (config := { maxSteps := 10000000 }) (disch := omega) only [fin2, ↓G_seq, ↓G_ret, ↓G_region, ↓G_ops_nil, ↓G_op, Gv_some, ↓G_gop, Gw_tt, dec_t, killAll, ↓get_setS, evalOp, ev, Ab.get, b_leq, b_geq, one, Option.map_some, Option.bind_some, asB, finish, resVs, resV, outVs, outV, ownsLast, tupOf, List.all_nil, List.getElem?_cons_zero, List.getElem?_cons_succ, Nat.reduceEqDiff, reduceCtorEq, ↓reduceIte, Nat.succ_ne_self]
    · simp (config := { maxSteps := 10000000 }) (disch := omega) only [fin2, ↓G_seq, ↓G_ret, ↓G_region, ↓G_ops_nil, ↓G_op, Gv_some, ↓G_gop, Gw_tt, dec_t, dec_f, killAll, ↓get_setS, evalOp, ev, Ab.get, b_leq, b_geq, one, Option.map_some, Option.bind_some, asB, finish, resVs, resV, outVs, outV, ownsLast, tupOf, List.all_nil, List.getElem?_cons_zero, List.getElem?_cons_succ, Nat.reduceEqDiff, reduceCtorEq, ↓reduceIte, Nat.succ_ne_self]
  · simp (config := { maxSteps := 10000000 }) (disch := omega) only [fin2, ↓G_seq, ↓G_ret, ↓G_region, ↓G_ops_nil, ↓G_op, Gv_some, ↓G_gop, Gw_tf, dec_f, killAll, ↓get_setS, evalOp, ev, Ab.get, b_geq, one, Option.map_some, Option.bind_some, asB, finish, resVs, resV, outVs, outV, ownsLast, tupOf, List.all_nil, List.getElem?_cons_zero, List.getElem?_cons_succ, Nat.reduceEqDiff, reduceCtorEq, ↓reduceIte, Nat.succ_ne_self, Bool.false_eq_true]

def permR (m a s v : Int) : Prop := (0 ≤ m ∧ m ≤ 1023) ∧ (0 ≤ a ∧ a ≤ 4398046511104) ∧ (0 ≤ s ∧ s ≤ 127) ∧ (0 ≤ v ∧ v ≤ 1)

theorem c33 (m a s v : Int) (h : permR m a s v) : call tbl 33 [.agg [.i m, .i a, .i s, .i v]] H = some (.bool true) := by
  refine (call_start (show tbl 33 = some a33 from rfl)).trans ?_
  unfold permR at h
  unfold a33
  simp (config := { maxSteps := 10000000 }) (disch := omega) only [fin2, ↓G_seq, ↓G_ret, ↓G_region, ↓G_ops_nil, ↓G_op, Gv_some, ↓G_gop, Gw_tt, dec_t, killAll, ↓get_setS, evalOp, ev, evs, Ab.get, one, Option.map_some, Option.bind_some, asB, finish, resVs, resV, outVs, outV, ownsLast, tupOf, callV, takeIn, V.shift, V.shifts, List.append_nil, List.all_cons, List.all_nil, Bool.and_self, List.getElem?_cons_zero, List.getElem?_cons_succ, Nat.reduceEqDiff, ↓reduceIte, Nat.succ_ne_self, bne_self_eq_false, Bool.false_eq_true, Int.reduceAdd, Int.reduceLT, pick3, V.cells, addOff, loadV, Ab.rowAt, rget, rset, V.scalar, Nat.reduceAdd, Nat.reduceLT, and_self, List.length_cons, List.length_nil, List.getD_cons_zero, Nat.zero_add, Nat.add_zero, c57]
theorem c33' (m a s v : Int) (h : ¬ permR m a s v) : call tbl 33 [.agg [.i m, .i a, .i s, .i v]] H = some (.bool false) := by
  refine (call_start (show tbl 33 = some a33 from rfl)).trans ?_
  unfold permR at h
  unfold a33
  by_cases h1 : 0 ≤ m ∧ m ≤ 1023
  · by_cases h2 : 0 ≤ a ∧ a ≤ 4398046511104
    · by_cases h3 : 0 ≤ s ∧ s ≤ 127
      · simp (config := { maxSteps := 10000000 }) (disch := omega) only [fin2, ↓G_seq, ↓G_ret, ↓G_region, ↓G_ops_nil, ↓G_op, Gv_some, ↓G_gop, Gw_tt, dec_t, dec_f, killAll, ↓get_setS, evalOp, ev, evs, Ab.get, one, Option.map_some, Option.bind_some, asB, finish, resVs, resV, outVs, outV, ownsLast, tupOf, callV, takeIn, V.shift, V.shifts, List.append_nil, List.all_cons, List.all_nil, Bool.and_self, List.getElem?_cons_zero, List.getElem?_cons_succ, Nat.reduceEqDiff, ↓reduceIte, Nat.succ_ne_self, bne_self_eq_false, Bool.false_eq_true, Int.reduceAdd, Int.reduceLT, pick3, V.cells, addOff, loadV, Ab.rowAt, rget, rset, V.scalar, Nat.reduceAdd, Nat.reduceLT, and_self, List.length_cons, List.length_nil, List.getD_cons_zero, Nat.zero_add, Nat.add_zero, c57]
      · simp (config := { maxSteps := 10000000 }) (disch := omega) only [fin2, ↓G_seq, ↓G_ret, ↓G_region, ↓G_ops_nil, ↓G_op, Gv_some, ↓G_gop, Gw_tt, Gw_tf, dec_t, dec_f, killAll, ↓get_setS, evalOp, ev, evs, Ab.get, one, Option.map_some, Option.bind_some, asB, finish, resVs, resV, outVs, outV, ownsLast, tupOf, callV, takeIn, V.shift, V.shifts, List.append_nil, List.all_cons, List.all_nil, Bool.and_self, List.getElem?_cons_zero, List.getElem?_cons_succ, Nat.reduceEqDiff, ↓reduceIte, Nat.succ_ne_self, bne_self_eq_false, Bool.false_eq_true, Int.reduceAdd, Int.reduceLT, pick3, V.cells, addOff, loadV, Ab.rowAt, rget, rset, V.scalar, Nat.reduceAdd, Nat.reduceLT, and_self, List.length_cons, List.length_nil, List.getD_cons_zero, Nat.zero_add, Nat.add_zero, c57]
    · simp (config := { maxSteps := 10000000 }) (disch := omega) only [fin2, ↓G_seq, ↓G_ret, ↓G_region, ↓G_ops_nil, ↓G_op, Gv_some, ↓G_gop, Gw_tt, Gw_tf, dec_t, dec_f, killAll, ↓get_setS, evalOp, ev, evs, Ab.get, one, Option.map_some, Option.bind_some, asB, finish, resVs, resV, outVs, outV, ownsLast, tupOf, callV, takeIn, V.shift, V.shifts, List.append_nil, List.all_cons, List.all_nil, Bool.and_self, List.getElem?_cons_zero, List.getElem?_cons_succ, Nat.reduceEqDiff, ↓reduceIte, Nat.succ_ne_self, bne_self_eq_false, Bool.false_eq_true, Int.reduceAdd, Int.reduceLT, pick3, V.cells, addOff, loadV, Ab.rowAt, rget, rset, V.scalar, Nat.reduceAdd, Nat.reduceLT, and_self, List.length_cons, List.length_nil, List.getD_cons_zero, Nat.zero_add, Nat.add_zero, c57]
  · simp (config := { maxSteps := 10000000 }) (disch := omega) only [fin2, ↓G_seq, ↓G_ret, ↓G_region, ↓G_ops_nil, ↓G_op, Gv_some, ↓G_gop, Gw_tf, dec_f, killAll, ↓get_setS, evalOp, ev, evs, Ab.get, one, Option.map_some, Option.bind_some, asB, finish, resVs, resV, outVs, outV, ownsLast, tupOf, callV, takeIn, V.shift, V.shifts, List.append_nil, List.all_cons, List.all_nil, Bool.and_self, List.getElem?_cons_zero, List.getElem?_cons_succ, Nat.reduceEqDiff, ↓reduceIte, Nat.succ_ne_self, bne_self_eq_false, Bool.false_eq_true, Int.reduceAdd, Int.reduceLT, pick3, V.cells, addOff, loadV, Ab.rowAt, rget, rset, V.scalar, Nat.reduceAdd, Nat.reduceLT, and_self, List.length_cons, List.length_nil, List.getD_cons_zero, Nat.zero_add, Nat.add_zero, c57]

theorem c35 (m a s v : Int) (h : permR m a s v) : call tbl 35 [.agg [.i m, .i a, .i s, .i v]] H = some (.bool true) := by
  refine (call_start (show tbl 35 = some a35 from rfl)).trans ?_
  unfold permR at h
  unfold a35
  simp (config := { maxSteps := 10000000 }) (disch := omega) only [fin2, ↓G_seq, ↓G_ret, ↓G_region, ↓G_ops_nil, ↓G_op, Gv_some, ↓G_gop, Gw_tt, dec_t, killAll, ↓get_setS, evalOp, ev, Ab.get, b_lss, b_leq, b_geq, one, Option.map_some, Option.bind_some, asB, finish, resVs, resV, outVs, outV, ownsLast, tupOf, V.shift, List.all_cons, List.all_nil, Bool.and_self, List.getElem?_cons_zero, List.getElem?_cons_succ, Nat.reduceEqDiff, ↓reduceIte, Nat.succ_ne_self, Bool.false_eq_true, Int.reduceAdd, Int.reduceLT, pick3, V.cells, addOff, loadV, Ab.rowAt, rget, rset, V.scalar, Nat.reduceAdd, Nat.reduceLT, and_self, List.length_cons, List.length_nil, List.getD_cons_zero, Nat.zero_add, Nat.add_zero]
theorem c35' (m a s v : Int) (h : ¬ permR m a s v) : call tbl 35 [.agg [.i m, .i a, .i s, .i v]] H = some (.bool false) := by
  refine (call_start (show tbl 35 = some a35 from rfl)).trans ?_
  unfold permR at h
  unfold a35
  by_cases h1 : 0 ≤ m
  case neg => simp (config := { maxSteps := 10000000 }) (disch := omega) only [fin2, ↓G_seq, ↓G_ret, ↓G_region, ↓G_ops_nil, ↓G_op, Gv_some, ↓G_gop, Gw_tf, dec_f, killAll, ↓get_setS, evalOp, ev, Ab.get, b_geq, one, Option.map_some, Option.bind_some, asB, finish, resVs, resV, outVs, outV, ownsLast, tupOf, V.shift, List.all_cons, List.all_nil, Bool.and_self, List.getElem?_cons_zero, List.getElem?_cons_succ, Nat.reduceEqDiff, ↓reduceIte, Nat.succ_ne_self, Bool.false_eq_true, Int.reduceAdd, Int.reduceLT, pick3, V.cells, addOff, loadV, Ab.rowAt, rget, rset, V.scalar, Nat.reduceAdd, Nat.reduceLT, and_self, List.length_cons, List.length_nil, List.getD_cons_zero, Nat.zero_add, Nat.add_zero]
  by_cases h2 : m < 1024
  case neg => simp (config := { maxSteps := 10000000 }) (disch := omega) only [fin2, ↓G_seq, ↓G_ret, ↓G_region, ↓G_ops_nil, ↓G_op, Gv_some, ↓G_gop, Gw_tt, Gw_tf, dec_t, dec_f, killAll, ↓get_setS, evalOp, ev, Ab.get, b_lss, b_geq, one, Option.map_some, Option.bind_some, asB, finish, resVs, resV, outVs, outV, ownsLast, tupOf, V.shift, List.all_cons, List.all_nil, Bool.and_self, List.getElem?_cons_zero, List.getElem?_cons_succ, Nat.reduceEqDiff, ↓reduceIte, Nat.succ_ne_self, Bool.false_eq_true, Int.reduceAdd, Int.reduceLT, pick3, V.cells, addOff, loadV, Ab.rowAt, rget, rset, V.scalar, Nat.reduceAdd, Nat.reduceLT, and_self, List.length_cons, List.length_nil, List.getD_cons_zero, Nat.zero_add, Nat.add_zero]
  by_cases h3 : 0 ≤ a
  case neg => simp (config := { maxSteps := 10000000 }) (disch := omega) only [fin2, ↓G_seq, ↓G_ret, ↓G_region, ↓G_ops_nil, ↓G_op, Gv_some, ↓G_gop, Gw_tt, Gw_tf, dec_t, dec_f, killAll, ↓get_setS, evalOp, ev, Ab.get, b_lss, b_geq, one, Option.map_some, Option.bind_some, asB, finish, resVs, resV, outVs, outV, ownsLast, tupOf, V.shift, List.all_cons, List.all_nil, Bool.and_self, List.getElem?_cons_zero, List.getElem?_cons_succ, Nat.reduceEqDiff, ↓reduceIte, Nat.succ_ne_self, Bool.false_eq_true, Int.reduceAdd, Int.reduceLT, pick3, V.cells, addOff, loadV, Ab.rowAt, rget, rset, V.scalar, Nat.reduceAdd, Nat.reduceLT, and_self, List.length_cons, List.length_nil, List.getD_cons_zero, Nat.zero_add, Nat.add_zero]
  by_cases h4 : a ≤ 4398046511104
  case neg => simp (config := { maxSteps := 10000000 }) (disch := omega) only [fin2, ↓G_seq, ↓G_ret, ↓G_region, ↓G_ops_nil, ↓G_op, Gv_some, ↓G_gop, Gw_tt, Gw_tf, dec_t, dec_f, killAll, ↓get_setS, evalOp, ev, Ab.get, b_lss, b_leq, b_geq, one, Option.map_some, Option.bind_some, asB, finish, resVs, resV, outVs, outV, ownsLast, tupOf, V.shift, List.all_cons, List.all_nil, Bool.and_self, List.getElem?_cons_zero, List.getElem?_cons_succ, Nat.reduceEqDiff, ↓reduceIte, Nat.succ_ne_self, Bool.false_eq_true, Int.reduceAdd, Int.reduceLT, pick3, V.cells, addOff, loadV, Ab.rowAt, rget, rset, V.scalar, Nat.reduceAdd, Nat.reduceLT, and_self, List.length_cons, List.length_nil, List.getD_cons_zero, Nat.zero_add, Nat.add_zero]
  by_cases h5 : 0 ≤ s
  case neg => simp (config := { maxSteps := 10000000 }) (disch := omega) only [fin2, ↓G_seq, ↓G_ret, ↓G_region, ↓G_ops_nil, ↓G_op, Gv_some, ↓G_gop, Gw_tt, Gw_tf, dec_t, dec_f, killAll, ↓get_setS, evalOp, ev, Ab.get, b_lss, b_leq, b_geq, one, Option.map_some, Option.bind_some, asB, finish, resVs, resV, outVs, outV, ownsLast, tupOf, V.shift, List.all_cons, List.all_nil, Bool.and_self, List.getElem?_cons_zero, List.getElem?_cons_succ, Nat.reduceEqDiff, ↓reduceIte, Nat.succ_ne_self, Bool.false_eq_true, Int.reduceAdd, Int.reduceLT, pick3, V.cells, addOff, loadV, Ab.rowAt, rget, rset, V.scalar, Nat.reduceAdd, Nat.reduceLT, and_self, List.length_cons, List.length_nil, List.getD_cons_zero, Nat.zero_add, Nat.add_zero]
  by_cases h6 : s < 128
  case neg => simp (config := { maxSteps := 10000000 }) (disch := omega) only [fin2, ↓G_seq, ↓G_ret, ↓G_region, ↓G_ops_nil, ↓G_op, Gv_some, ↓G_gop, Gw_tt, Gw_tf, dec_t, dec_f, killAll, ↓get_setS, evalOp, ev, Ab.get, b_lss, b_leq, b_geq, one, Option.map_some, Option.bind_some, asB, finish, resVs, resV, outVs, outV, ownsLast, tupOf, V.shift, List.all_cons, List.all_nil, Bool.and_self, List.getElem?_cons_zero, List.getElem?_cons_succ, Nat.reduceEqDiff, ↓reduceIte, Nat.succ_ne_self, Bool.false_eq_true, Int.reduceAdd, Int.reduceLT, pick3, V.cells, addOff, loadV, Ab.rowAt, rget, rset, V.scalar, Nat.reduceAdd, Nat.reduceLT, and_self, List.length_cons, List.length_nil, List.getD_cons_zero, Nat.zero_add, Nat.add_zero]
  by_cases h7 : 0 ≤ v
  case neg => simp (config := { maxSteps := 10000000 }) (disch := omega) only [fin2, ↓G_seq, ↓G_ret, ↓G_region, ↓G_ops_nil, ↓G_op, Gv_some, ↓G_gop, Gw_tt, Gw_tf, dec_t, dec_f, killAll, ↓get_setS, evalOp, ev, Ab.get, b_lss, b_leq, b_geq, one, Option.map_some, Option.bind_some, asB, finish, resVs, resV, outVs, outV, ownsLast, tupOf, V.shift, List.all_cons, List.all_nil, Bool.and_self, List.getElem?_cons_zero, List.getElem?_cons_succ, Nat.reduceEqDiff, ↓reduceIte, Nat.succ_ne_self, Bool.false_eq_true, Int.reduceAdd, Int.reduceLT, pick3, V.cells, addOff, loadV, Ab.rowAt, rget, rset, V.scalar, Nat.reduceAdd, Nat.reduceLT, and_self, List.length_cons, List.length_nil, List.getD_cons_zero, Nat.zero_add, Nat.add_zero]
  · simp (config := { maxSteps := 10000000 }) (disch := omega) only [fin2, ↓G_seq, ↓G_ret, ↓G_region, ↓G_ops_nil, ↓G_op, Gv_some, ↓G_gop, Gw_tt, dec_t, dec_f, killAll, ↓get_setS, evalOp, ev, Ab.get, b_lss, b_leq, b_geq, one, Option.map_some, Option.bind_some, asB, finish, resVs, resV, outVs, outV, ownsLast, tupOf, V.shift, List.all_cons, List.all_nil, Bool.and_self, List.getElem?_cons_zero, List.getElem?_cons_succ, Nat.reduceEqDiff, ↓reduceIte, Nat.succ_ne_self, Bool.false_eq_true, Int.reduceAdd, Int.reduceLT, pick3, V.cells, addOff, loadV, Ab.rowAt, rget, rset, V.scalar, Nat.reduceAdd, Nat.reduceLT, and_self, List.length_cons, List.length_nil, List.getD_cons_zero, Nat.zero_add, Nat.add_zero]

theorem c34 (k : Int) : call tbl 34 [.i k] H = some (.bool (decide (k = 1 ∨ k = 7))) := by
  refine (call_start (show tbl 34 = some a34 from rfl)).trans ?_
  unfold a34
  by_cases h : k = 1
  · subst h
    simp (config := { maxSteps := 10000000 }) (disch := omega) only [fin2, ↓G_seq, ↓G_ret, ↓G_region, ↓G_ops_nil, ↓G_op, Gv_some, ↓G_gop, Gw_ft, killAll, ↓get_setS, evalOp, ev, Ab.get, b_eql, one, Option.map_some, Option.bind_some, asB, finish, resVs, resV, outVs, outV, ownsLast, tupOf, List.all_nil, List.getElem?_cons_zero, List.getElem?_cons_succ, Nat.reduceEqDiff, reduceCtorEq, ↓reduceIte, Nat.succ_ne_self, or_false, decide_true, Int.reduceEq, Bool.or_false]
  · by_cases h2 : k = 7
    · subst h2
      simp (config := { maxSteps := 10000000 }) (disch := omega) only [fin2, ↓G_seq, ↓G_ret, ↓G_region, ↓G_ops_nil, ↓G_op, Gv_some, ↓G_gop, Gw_ff, killAll, ↓get_setS, evalOp, ev, Ab.get, b_eql, one, Option.map_some, Option.bind_some, asB, finish, resVs, resV, outVs, outV, ownsLast, tupOf, List.all_nil, List.getElem?_cons_zero, List.getElem?_cons_succ, Nat.reduceEqDiff, reduceCtorEq, ↓reduceIte, Nat.succ_ne_self, or_true, decide_true, decide_false, Bool.false_eq_true, Int.reduceEq, Bool.or_true]
    · simp (config := { maxSteps := 10000000 }) (disch := omega) only [fin2, ↓G_seq, ↓G_ret, ↓G_region, ↓G_ops_nil, ↓G_op, Gv_some, ↓G_gop, Gw_ff, dec_f, killAll, ↓get_setS, evalOp, ev, Ab.get, b_eql, one, Option.map_some, Option.bind_some, asB, finish, resVs, resV, outVs, outV, ownsLast, tupOf, List.all_nil, List.getElem?_cons_zero, List.getElem?_cons_succ, Nat.reduceEqDiff, reduceCtorEq, ↓reduceIte, Nat.succ_ne_self, Bool.false_eq_true]

end Go.Proofs.Ytfngllcjikmbkaa

/-
  Conflicts of spans: the law SpannerConflicts as an equation.
-/
import Derived.Test.YtfngllcjikmbkaaS14B
namespace Go.Proofs.Ytfngllcjikmbkaa
open Go Go.Ab
set_option linter.unusedVariables false
set_option linter.unnecessarySimpa false
set_option linter.unusedSimpArgs false
set_option maxRecDepth 100000
variable {H : List (List Row)}

structure Sp where
  k : Int
  m1 : Int
  a1 : Int
  s1 : Int
  v1 : Int
  m2 : Int
  a2 : Int
  s2 : Int
  v2 : Int

def apartB (a b : Sp) : Bool := decide (cmpP a.m2 a.a2 b.m1 b.a1 ≤ 0) || decide (cmpP b.m2 b.a2 a.m1 a.a1 ≤ 0)
def strictB (a b : Sp) : Bool := decide (cmpP a.m2 a.a2 b.m1 b.a1 < 0) || decide (cmpP b.m2 b.a2 a.m1 a.a1 < 0)
def insideB (a b : Sp) : Bool := decide (0 ≤ cmpP a.m1 a.a1 b.m1 b.a1) && decide (cmpP a.m2 a.a2 b.m2 b.a2 ≤ 0)
def groupR (k : Int) : Int := if k = 1 then 1 else if k = 2 then 2 else if k = 3 then 2 else if k = 4 then 3 else if k = 5 then 3 else if k = 6 then 4 else if k = 7 then 5 else 0
def familyR (k : Int) : Int := if k = 1 then 1 else if k = 2 then 2 else if k = 3 then 2 else if k = 4 then 4 else if k = 5 then 4 else if k = 6 then 6 else if k = 7 then 7 else 0
def groupedB (a b : Sp) : Bool := decide (groupR a.k ≠ 0 ∧ groupR a.k = groupR b.k ∧ a.s1 = b.s1 ∧ ((groupR a.k ≠ 1 ∧ groupR a.k ≠ 5) ∨ a.v1 = b.v1))
def ruleB (a b : Sp) : Bool := if groupR a.k = 1 then !apartB a b && (insideB a b == insideB b a) else if groupR a.k = 3 ∨ groupR a.k = 5 then !strictB a b else !apartB a b
def conflictB (a b : Sp) : Bool := groupedB a b && ruleB a b

theorem kinds (k : Int) : k = 1 ∨ k = 2 ∨ k = 3 ∨ k = 4 ∨ k = 5 ∨ k = 6 ∨ k = 7 ∨ (k < 1 ∨ 7 < k) := by omega

theorem c39 (k : Int) : call tbl 39 [.i k] H = some (.i (groupR k)) := by
  rcases kinds k with h | h | h | h | h | h | h | h
  iterate 7 (subst h; exact call_of 20 (by kernel_rfl))
  have e : groupR k = 0 := by unfold groupR; repeat (rw [if_neg (by omega)])
  rw [e]
  refine (call_start (show tbl 39 = some a39 from rfl)).trans ?_
  unfold a39
  by_cases h1 : k < 1
  · simp (config := { maxSteps := 10000000 }) (disch := omega) only [fin2, ↓G_seq, ↓G_ret, ↓G_region, ↓G_cond, ↓G_ops_nil, ↓G_op, Gv_some, ↓G_gop, Gw_ft, Gc_true, dec_t, killAll, ↓get_setS, evalOp, ev, Ab.get, b_lss, one, Option.map_some, Option.bind_some, asB, finish, resVs, resV, outVs, outV, ownsLast, tupOf, List.all_nil, List.getElem?_cons_zero, List.getElem?_cons_succ, Nat.reduceEqDiff, reduceCtorEq, ↓reduceIte, Nat.succ_ne_self]
  · simp (config := { maxSteps := 10000000 }) (disch := omega) only [fin2, ↓G_seq, ↓G_ret, ↓G_region, ↓G_cond, ↓G_ops_nil, ↓G_op, Gv_some, ↓G_gop, Gw_ff, Gc_true, dec_t, dec_f, killAll, ↓get_setS, evalOp, ev, Ab.get, b_lss, b_gtr, one, Option.map_some, Option.bind_some, asB, finish, resVs, resV, outVs, outV, ownsLast, tupOf, List.all_nil, List.getElem?_cons_zero, List.getElem?_cons_succ, Nat.reduceEqDiff, reduceCtorEq, ↓reduceIte, Nat.succ_ne_self, Bool.false_eq_true]

theorem c54 (k : Int) : call tbl 54 [.i k] H = some (.i (familyR k)) := by
  rcases kinds k with h | h | h | h | h | h | h | h
  iterate 7 (subst h; exact call_of 20 (by kernel_rfl))
  have e : familyR k = 0 := by unfold familyR; repeat (rw [if_neg (by omega)])
  rw [e]
  refine (call_start (show tbl 54 = some a54 from rfl)).trans ?_
  unfold a54
  by_cases h1 : k < 1
  · simp (config := { maxSteps := 10000000 }) (disch := omega) only [fin2, ↓G_seq, ↓G_ret, ↓G_region, ↓G_cond, ↓G_ops_nil, ↓G_op, Gv_some, ↓G_gop, Gw_ft, Gc_true, dec_t, killAll, ↓get_setS, evalOp, ev, Ab.get, b_lss, one, Option.map_some, Option.bind_some, asB, finish, resVs, resV, outVs, outV, ownsLast, tupOf, List.all_nil, List.getElem?_cons_zero, List.getElem?_cons_succ, Nat.reduceEqDiff, reduceCtorEq, ↓reduceIte, Nat.succ_ne_self]
  · simp (config := { maxSteps := 10000000 }) (disch := omega) only [fin2, ↓G_seq, ↓G_ret, ↓G_region, ↓G_cond, ↓G_ops_nil, ↓G_op, Gv_some, ↓G_gop, Gw_ff, Gc_true, dec_t, dec_f, killAll, ↓get_setS, evalOp, ev, Ab.get, b_lss, b_gtr, one, Option.map_some, Option.bind_some, asB, finish, resVs, resV, outVs, outV, ownsLast, tupOf, List.all_nil, List.getElem?_cons_zero, List.getElem?_cons_succ, Nat.reduceEqDiff, reduceCtorEq, ↓reduceIte, Nat.succ_ne_self, Bool.false_eq_true]

theorem c43 (a b : Sp) : call tbl 43 [.agg [.i a.k, .i a.m1, .i a.a1, .i a.s1, .i a.v1, .i a.m2, .i a.a2, .i a.s2, .i a.v2], .agg [.i b.k, .i b.m1, .i b.a1, .i b.s1, .i b.v1, .i b.m2, .i b.a2, .i b.s2, .i b.v2]] H = some (.bool (apartB a b)) := by
  refine (call_start (show tbl 43 = some a43 from rfl)).trans ?_
  unfold a43 apartB
  by_cases h : cmpP a.m2 a.a2 b.m1 b.a1 ≤ 0
  · simp (config := { maxSteps := 10000000 }) (disch := omega) only [fin2, ↓G_seq, ↓G_ret, ↓G_region, ↓G_ops_nil, ↓G_op, Gv_some, ↓G_gop, Gw_ft, dec_t, killAll, ↓get_setS, evalOp, ev, evs, Ab.get, b_leq, one, Option.map_some, Option.bind_some, asB, finish, resVs, resV, outVs, outV, ownsLast, tupOf, callV, takeIn, V.shift, V.shifts, List.append_nil, List.all_cons, List.all_nil, Bool.and_self, List.getElem?_cons_zero, List.getElem?_cons_succ, Nat.reduceEqDiff, ↓reduceIte, Nat.succ_ne_self, true_or, bne_self_eq_false, Int.reduceAdd, Int.reduceLT, pick3, V.cells, addOff, loadV, Ab.rowAt, rget, rset, V.scalar, Nat.reduceAdd, Nat.reduceLT, Nat.reduceLeDiff, and_self, List.length_cons, List.length_nil, List.take_succ_cons, List.take_zero, List.drop_succ_cons, List.drop_zero, Nat.le_refl, Bool.true_or, List.getD_cons_zero, Nat.zero_add, c15]
  · by_cases k : cmpP b.m2 b.a2 a.m1 a.a1 ≤ 0
    · simp (config := { maxSteps := 10000000 }) (disch := omega) only [fin2, ↓G_seq, ↓G_ret, ↓G_region, ↓G_ops_nil, ↓G_op, Gv_some, ↓G_gop, Gw_ff, dec_t, dec_f, killAll, ↓get_setS, evalOp, ev, evs, Ab.get, b_leq, one, Option.map_some, Option.bind_some, asB, finish, resVs, resV, outVs, outV, ownsLast, tupOf, callV, takeIn, V.shift, V.shifts, List.append_nil, List.all_cons, List.all_nil, Bool.and_self, List.getElem?_cons_zero, List.getElem?_cons_succ, Nat.reduceEqDiff, ↓reduceIte, Nat.succ_ne_self, or_true, bne_self_eq_false, Bool.false_eq_true, Int.reduceAdd, Int.reduceLT, pick3, V.cells, addOff, loadV, Ab.rowAt, rget, rset, V.scalar, Nat.reduceAdd, Nat.reduceLT, Nat.reduceLeDiff, and_self, List.length_cons, List.length_nil, List.take_succ_cons, List.take_zero, List.drop_succ_cons, List.drop_zero, Nat.le_refl, Bool.or_true, List.getD_cons_zero, Nat.zero_add, c15]
    · simp (config := { maxSteps := 10000000 }) (disch := omega) only [fin2, ↓G_seq, ↓G_ret, ↓G_region, ↓G_ops_nil, ↓G_op, Gv_some, ↓G_gop, Gw_ff, dec_f, killAll, ↓get_setS, evalOp, ev, evs, Ab.get, b_leq, one, Option.map_some, Option.bind_some, asB, finish, resVs, resV, outVs, outV, ownsLast, tupOf, callV, takeIn, V.shift, V.shifts, List.append_nil, List.all_cons, List.all_nil, Bool.and_self, List.getElem?_cons_zero, List.getElem?_cons_succ, Nat.reduceEqDiff, ↓reduceIte, Nat.succ_ne_self, or_false, bne_self_eq_false, Bool.false_eq_true, Int.reduceAdd, Int.reduceLT, pick3, V.cells, addOff, loadV, Ab.rowAt, rget, rset, V.scalar, Nat.reduceAdd, Nat.reduceLT, Nat.reduceLeDiff, and_self, List.length_cons, List.length_nil, List.take_succ_cons, List.take_zero, List.drop_succ_cons, List.drop_zero, Nat.le_refl, Bool.or_false, List.getD_cons_zero, Nat.zero_add, c15]

theorem c45 (a b : Sp) : call tbl 45 [.agg [.i a.k, .i a.m1, .i a.a1, .i a.s1, .i a.v1, .i a.m2, .i a.a2, .i a.s2, .i a.v2], .agg [.i b.k, .i b.m1, .i b.a1, .i b.s1, .i b.v1, .i b.m2, .i b.a2, .i b.s2, .i b.v2]] H = some (.bool (strictB a b)) := by
  refine (call_start (show tbl 45 = some a45 from rfl)).trans ?_
  unfold a45 strictB
  by_cases h : cmpP a.m2 a.a2 b.m1 b.a1 < 0
  · simp (config := { maxSteps := 10000000 }) (disch := omega) only [fin2, ↓G_seq, ↓G_ret, ↓G_region, ↓G_ops_nil, ↓G_op, Gv_some, ↓G_gop, Gw_ft, dec_t, killAll, ↓get_setS, evalOp, ev, evs, Ab.get, b_lss, one, Option.map_some, Option.bind_some, asB, finish, resVs, resV, outVs, outV, ownsLast, tupOf, callV, takeIn, V.shift, V.shifts, List.append_nil, List.all_cons, List.all_nil, Bool.and_self, List.getElem?_cons_zero, List.getElem?_cons_succ, Nat.reduceEqDiff, ↓reduceIte, Nat.succ_ne_self, true_or, bne_self_eq_false, Int.reduceAdd, Int.reduceLT, pick3, V.cells, addOff, loadV, Ab.rowAt, rget, rset, V.scalar, Nat.reduceAdd, Nat.reduceLT, Nat.reduceLeDiff, and_self, List.length_cons, List.length_nil, List.take_succ_cons, List.take_zero, List.drop_succ_cons, List.drop_zero, Nat.le_refl, Bool.true_or, List.getD_cons_zero, Nat.zero_add, c15]
  · by_cases k : cmpP b.m2 b.a2 a.m1 a.a1 < 0
    · simp (config := { maxSteps := 10000000 }) (disch := omega) only [fin2, ↓G_seq, ↓G_ret, ↓G_region, ↓G_ops_nil, ↓G_op, Gv_some, ↓G_gop, Gw_ff, dec_t, dec_f, killAll, ↓get_setS, evalOp, ev, evs, Ab.get, b_lss, one, Option.map_some, Option.bind_some, asB, finish, resVs, resV, outVs, outV, ownsLast, tupOf, callV, takeIn, V.shift, V.shifts, List.append_nil, List.all_cons, List.all_nil, Bool.and_self, List.getElem?_cons_zero, List.getElem?_cons_succ, Nat.reduceEqDiff, ↓reduceIte, Nat.succ_ne_self, or_true, bne_self_eq_false, Bool.false_eq_true, Int.reduceAdd, Int.reduceLT, pick3, V.cells, addOff, loadV, Ab.rowAt, rget, rset, V.scalar, Nat.reduceAdd, Nat.reduceLT, Nat.reduceLeDiff, and_self, List.length_cons, List.length_nil, List.take_succ_cons, List.take_zero, List.drop_succ_cons, List.drop_zero, Nat.le_refl, Bool.or_true, List.getD_cons_zero, Nat.zero_add, c15]
    · simp (config := { maxSteps := 10000000 }) (disch := omega) only [fin2, ↓G_seq, ↓G_ret, ↓G_region, ↓G_ops_nil, ↓G_op, Gv_some, ↓G_gop, Gw_ff, dec_f, killAll, ↓get_setS, evalOp, ev, evs, Ab.get, b_lss, one, Option.map_some, Option.bind_some, asB, finish, resVs, resV, outVs, outV, ownsLast, tupOf, callV, takeIn, V.shift, V.shifts, List.append_nil, List.all_cons, List.all_nil, Bool.and_self, List.getElem?_cons_zero, List.getElem?_cons_succ, Nat.reduceEqDiff, ↓reduceIte, Nat.succ_ne_self, or_false, bne_self_eq_false, Bool.false_eq_true, Int.reduceAdd, Int.reduceLT, pick3, V.cells, addOff, loadV, Ab.rowAt, rget, rset, V.scalar, Nat.reduceAdd, Nat.reduceLT, Nat.reduceLeDiff, and_self, List.length_cons, List.length_nil, List.take_succ_cons, List.take_zero, List.drop_succ_cons, List.drop_zero, Nat.le_refl, Bool.or_false, List.getD_cons_zero, Nat.zero_add, c15]

theorem c59 (a b : Sp) : call tbl 59 [.agg [.i a.k, .i a.m1, .i a.a1, .i a.s1, .i a.v1, .i a.m2, .i a.a2, .i a.s2, .i a.v2], .agg [.i b.k, .i b.m1, .i b.a1, .i b.s1, .i b.v1, .i b.m2, .i b.a2, .i b.s2, .i b.v2]] H = some (.bool (insideB a b)) := by
  refine (call_start (show tbl 59 = some a59 from rfl)).trans ?_
  unfold a59 insideB
  by_cases h : 0 ≤ cmpP a.m1 a.a1 b.m1 b.a1
  · by_cases k : cmpP a.m2 a.a2 b.m2 b.a2 ≤ 0
    · simp (config := { maxSteps := 10000000 }) (disch := omega) only [fin2, ↓G_seq, ↓G_ret, ↓G_region, ↓G_ops_nil, ↓G_op, Gv_some, ↓G_gop, Gw_tt, dec_t, killAll, ↓get_setS, evalOp, ev, evs, Ab.get, b_leq, b_geq, one, Option.map_some, Option.bind_some, asB, finish, resVs, resV, outVs, outV, ownsLast, tupOf, callV, takeIn, V.shift, V.shifts, List.append_nil, List.all_cons, List.all_nil, Bool.and_self, List.getElem?_cons_zero, List.getElem?_cons_succ, Nat.reduceEqDiff, ↓reduceIte, Nat.succ_ne_self, bne_self_eq_false, Int.reduceAdd, Int.reduceLT, pick3, V.cells, addOff, loadV, Ab.rowAt, rget, rset, V.scalar, Nat.reduceAdd, Nat.reduceLT, Nat.reduceLeDiff, and_self, List.length_cons, List.length_nil, List.take_succ_cons, List.take_zero, List.drop_succ_cons, List.drop_zero, Nat.le_refl, List.getD_cons_zero, Nat.zero_add, c15]
    · simp (config := { maxSteps := 10000000 }) (disch := omega) only [fin2, ↓G_seq, ↓G_ret, ↓G_region, ↓G_ops_nil, ↓G_op, Gv_some, ↓G_gop, Gw_tt, dec_t, dec_f, killAll, ↓get_setS, evalOp, ev, evs, Ab.get, b_leq, b_geq, one, Option.map_some, Option.bind_some, asB, finish, resVs, resV, outVs, outV, ownsLast, tupOf, callV, takeIn, V.shift, V.shifts, List.append_nil, List.all_cons, List.all_nil, Bool.and_self, Bool.and_false, List.getElem?_cons_zero, List.getElem?_cons_succ, Nat.reduceEqDiff, ↓reduceIte, Nat.succ_ne_self, bne_self_eq_false, Int.reduceAdd, Int.reduceLT, pick3, V.cells, addOff, loadV, Ab.rowAt, rget, rset, V.scalar, Nat.reduceAdd, Nat.reduceLT, Nat.reduceLeDiff, and_self, and_false, List.length_cons, List.length_nil, List.take_succ_cons, List.take_zero, List.drop_succ_cons, List.drop_zero, Nat.le_refl, List.getD_cons_zero, Nat.zero_add, c15]
  · simp (config := { maxSteps := 10000000 }) (disch := omega) only [fin2, ↓G_seq, ↓G_ret, ↓G_region, ↓G_ops_nil, ↓G_op, Gv_some, ↓G_gop, Gw_tf, dec_f, killAll, ↓get_setS, evalOp, ev, evs, Ab.get, b_geq, one, Option.map_some, Option.bind_some, asB, finish, resVs, resV, outVs, outV, ownsLast, tupOf, callV, takeIn, V.shift, V.shifts, List.append_nil, List.all_cons, List.all_nil, Bool.and_self, Bool.false_and, List.getElem?_cons_zero, List.getElem?_cons_succ, Nat.reduceEqDiff, ↓reduceIte, Nat.succ_ne_self, bne_self_eq_false, Bool.false_eq_true, Int.reduceAdd, Int.reduceLT, pick3, V.cells, addOff, loadV, Ab.rowAt, rget, rset, V.scalar, Nat.reduceAdd, Nat.reduceLT, Nat.reduceLeDiff, and_self, false_and, List.length_cons, List.length_nil, List.take_succ_cons, List.take_zero, List.drop_succ_cons, List.drop_zero, List.getD_cons_zero, Nat.zero_add, c15]

theorem c40 (a b : Sp) : call tbl 40 [.agg [.i a.k, .i a.m1, .i a.a1, .i a.s1, .i a.v1, .i a.m2, .i a.a2, .i a.s2, .i a.v2], .agg [.i b.k, .i b.m1, .i b.a1, .i b.s1, .i b.v1, .i b.m2, .i b.a2, .i b.s2, .i b.v2]] H = some (.bool (insideB a b)) := by
  refine (call_start (show tbl 40 = some a40 from rfl)).trans ?_
  unfold a40 insideB
  by_cases h : 0 ≤ cmpP a.m1 a.a1 b.m1 b.a1
  · by_cases k : cmpP a.m2 a.a2 b.m2 b.a2 ≤ 0
    · simp (config := { maxSteps := 10000000 }) (disch := omega) only [fin2, ↓G_seq, ↓G_ret, ↓G_region, ↓G_ops_nil, ↓G_op, Gv_some, ↓G_gop, Gw_tt, dec_t, killAll, ↓get_setS, evalOp, ev, evs, Ab.get, b_leq, b_geq, one, Option.map_some, Option.bind_some, asB, finish, resVs, resV, outVs, outV, ownsLast, tupOf, callV, takeIn, V.shift, V.shifts, List.append_nil, List.all_cons, List.all_nil, Bool.and_self, List.getElem?_cons_zero, List.getElem?_cons_succ, Nat.reduceEqDiff, ↓reduceIte, Nat.succ_ne_self, bne_self_eq_false, Int.reduceAdd, Int.reduceLT, pick3, V.cells, addOff, loadV, Ab.rowAt, rget, rset, V.scalar, Nat.reduceAdd, Nat.reduceLT, Nat.reduceLeDiff, and_self, List.length_cons, List.length_nil, List.take_succ_cons, List.take_zero, List.drop_succ_cons, List.drop_zero, Nat.le_refl, List.getD_cons_zero, Nat.zero_add, c17]
    · simp (config := { maxSteps := 10000000 }) (disch := omega) only [fin2, ↓G_seq, ↓G_ret, ↓G_region, ↓G_ops_nil, ↓G_op, Gv_some, ↓G_gop, Gw_tt, dec_t, dec_f, killAll, ↓get_setS, evalOp, ev, evs, Ab.get, b_leq, b_geq, one, Option.map_some, Option.bind_some, asB, finish, resVs, resV, outVs, outV, ownsLast, tupOf, callV, takeIn, V.shift, V.shifts, List.append_nil, List.all_cons, List.all_nil, Bool.and_self, Bool.and_false, List.getElem?_cons_zero, List.getElem?_cons_succ, Nat.reduceEqDiff, ↓reduceIte, Nat.succ_ne_self, bne_self_eq_false, Int.reduceAdd, Int.reduceLT, pick3, V.cells, addOff, loadV, Ab.rowAt, rget, rset, V.scalar, Nat.reduceAdd, Nat.reduceLT, Nat.reduceLeDiff, and_self, and_false, List.length_cons, List.length_nil, List.take_succ_cons, List.take_zero, List.drop_succ_cons, List.drop_zero, Nat.le_refl, List.getD_cons_zero, Nat.zero_add, c17]
  · simp (config := { maxSteps := 10000000 }) (disch := omega) only [fin2, ↓G_seq, ↓G_ret, ↓G_region, ↓G_ops_nil, ↓G_op, Gv_some, ↓G_gop, Gw_tf, dec_f, killAll, ↓get_setS, evalOp, ev, evs, Ab.get, b_geq, one, Option.map_some, Option.bind_some, asB, finish, resVs, resV, outVs, outV, ownsLast, tupOf, callV, takeIn, V.shift, V.shifts, List.append_nil, List.all_cons, List.all_nil, Bool.and_self, Bool.false_and, List.getElem?_cons_zero, List.getElem?_cons_succ, Nat.reduceEqDiff, ↓reduceIte, Nat.succ_ne_self, bne_self_eq_false, Bool.false_eq_true, Int.reduceAdd, Int.reduceLT, pick3, V.cells, addOff, loadV, Ab.rowAt, rget, rset, V.scalar, Nat.reduceAdd, Nat.reduceLT, Nat.reduceLeDiff, and_self, false_and, List.length_cons, List.length_nil, List.take_succ_cons, List.take_zero, List.drop_succ_cons, List.drop_zero, List.getD_cons_zero, Nat.zero_add, c17]

theorem c42 (a b : Sp) : call tbl 42 [.agg [.i a.k, .i a.m1, .i a.a1, .i a.s1, .i a.v1, .i a.m2, .i a.a2, .i a.s2, .i a.v2], .agg [.i b.k, .i b.m1, .i b.a1, .i b.s1, .i b.v1, .i b.m2, .i b.a2, .i b.s2, .i b.v2]] H = some (.bool (!apartB a b)) := by
  refine (call_start (show tbl 42 = some a42 from rfl)).trans ?_
  unfold a42
  simp (config := { maxSteps := 10000000 }) (disch := omega) only [fin2, ↓G_seq, ↓G_ret, ↓G_region, ↓G_ops_nil, ↓G_op, Gv_some, killAll, ↓get_setS, evalOp, ev, evs, Ab.get, one, Option.map_some, Option.bind_some, asB, finish, resVs, resV, outVs, outV, ownsLast, tupOf, callV, takeIn, V.shift, V.shifts, List.append_nil, List.all_cons, List.all_nil, Bool.and_self, List.getElem?_cons_zero, List.getElem?_cons_succ, Nat.reduceEqDiff, ↓reduceIte, Nat.succ_ne_self, bne_self_eq_false, Int.reduceAdd, Int.reduceLT, pick3, V.cells, loadV, Ab.rowAt, rget, rset, V.scalar, Nat.reduceAdd, Nat.reduceLT, and_self, List.length_cons, List.length_nil, List.take_succ_cons, List.take_zero, List.drop_zero, Nat.le_refl, List.getD_cons_zero, Nat.zero_add, c43]
theorem c44 (a b : Sp) : call tbl 44 [.agg [.i a.k, .i a.m1, .i a.a1, .i a.s1, .i a.v1, .i a.m2, .i a.a2, .i a.s2, .i a.v2], .agg [.i b.k, .i b.m1, .i b.a1, .i b.s1, .i b.v1, .i b.m2, .i b.a2, .i b.s2, .i b.v2]] H = some (.bool (!strictB a b)) := by
  refine (call_start (show tbl 44 = some a44 from rfl)).trans ?_
  unfold a44
  simp (config := { maxSteps := 10000000 }) (disch := omega) only [fin2, ↓G_seq, ↓G_ret, ↓G_region, ↓G_ops_nil, ↓G_op, Gv_some, killAll, ↓get_setS, evalOp, ev, evs, Ab.get, one, Option.map_some, Option.bind_some, asB, finish, resVs, resV, outVs, outV, ownsLast, tupOf, callV, takeIn, V.shift, V.shifts, List.append_nil, List.all_cons, List.all_nil, Bool.and_self, List.getElem?_cons_zero, List.getElem?_cons_succ, Nat.reduceEqDiff, ↓reduceIte, Nat.succ_ne_self, bne_self_eq_false, Int.reduceAdd, Int.reduceLT, pick3, V.cells, loadV, Ab.rowAt, rget, rset, V.scalar, Nat.reduceAdd, Nat.reduceLT, and_self, List.length_cons, List.length_nil, List.take_succ_cons, List.take_zero, List.drop_zero, Nat.le_refl, List.getD_cons_zero, Nat.zero_add, c45]
theorem c46 (a b : Sp) : call tbl 46 [.agg [.i a.k, .i a.m1, .i a.a1, .i a.s1, .i a.v1, .i a.m2, .i a.a2, .i a.s2, .i a.v2], .agg [.i b.k, .i b.m1, .i b.a1, .i b.s1, .i b.v1, .i b.m2, .i b.a2, .i b.s2, .i b.v2]] H = some (.bool (!apartB a b && (insideB a b == insideB b a))) := by
  refine (call_start (show tbl 46 = some a46 from rfl)).trans ?_
  unfold a46
  cases h : apartB a b
  · simp (config := { maxSteps := 10000000 }) (disch := omega) only [fin2, ↓G_seq, ↓G_ret, ↓G_region, ↓G_ops_nil, ↓G_op, Gv_some, ↓G_gop, Gw_tt, killAll, ↓get_setS, evalOp, ev, evs, Ab.get, one, Option.map_some, Option.bind_some, asB, finish, resVs, resV, outVs, outV, ownsLast, tupOf, callV, takeIn, V.shift, V.shifts, List.append_nil, List.all_cons, List.all_nil, Bool.true_and, Bool.and_self, List.getElem?_cons_zero, List.getElem?_cons_succ, Nat.reduceEqDiff, ↓reduceIte, Nat.succ_ne_self, Bool.not_false, bne_self_eq_false, Bool.false_eq_true, Int.reduceAdd, Int.reduceLT, pick3, V.cells, loadV, Ab.rowAt, rget, rset, V.scalar, Nat.reduceAdd, Nat.reduceLT, true_and, and_self, List.length_cons, List.length_nil, List.take_succ_cons, List.take_zero, List.drop_zero, Nat.le_refl, List.getD_cons_zero, Nat.zero_add, c43, h, c59]
  · simp (config := { maxSteps := 10000000 }) (disch := omega) only [fin2, ↓G_seq, ↓G_ret, ↓G_region, ↓G_ops_nil, ↓G_op, Gv_some, ↓G_gop, Gw_tf, killAll, ↓get_setS, evalOp, ev, evs, Ab.get, one, Option.map_some, Option.bind_some, asB, finish, resVs, resV, outVs, outV, ownsLast, tupOf, callV, takeIn, V.shift, V.shifts, List.append_nil, List.all_cons, List.all_nil, Bool.and_self, Bool.false_and, List.getElem?_cons_zero, List.getElem?_cons_succ, Nat.reduceEqDiff, ↓reduceIte, Nat.succ_ne_self, Bool.not_true, bne_self_eq_false, Bool.false_eq_true, Int.reduceAdd, Int.reduceLT, pick3, V.cells, loadV, Ab.rowAt, rget, rset, V.scalar, Nat.reduceAdd, Nat.reduceLT, and_self, false_and, List.length_cons, List.length_nil, List.take_succ_cons, List.take_zero, List.drop_zero, Nat.le_refl, List.getD_cons_zero, Nat.zero_add, c43, h]

theorem c38 (a b : Sp) : call tbl 38 [.agg [.i a.k, .i a.m1, .i a.a1, .i a.s1, .i a.v1, .i a.m2, .i a.a2, .i a.s2, .i a.v2], .agg [.i b.k, .i b.m1, .i b.a1, .i b.s1, .i b.v1, .i b.m2, .i b.a2, .i b.s2, .i b.v2]] H = some (.bool (groupedB a b)) := by
  refine (call_start (show tbl 38 = some a38 from rfl)).trans ?_
  unfold groupedB
  generalize hg : groupR a.k = g
  generalize hg' : groupR b.k = g'
  unfold a38
  by_cases h1 : g = 0
  · simp (config := { maxSteps := 10000000 }) (disch := omega) only [fin2, ↓G_seq, ↓G_ret, ↓G_region, ↓G_cond, ↓G_ops_nil, ↓G_op, Gv_some, ↓G_gop, Gw_ft, Gc_true, dec_t, dec_f, killAll, ↓get_setS, evalOp, ev, evs, Ab.get, b_eql, one, Option.map_some, Option.bind_some, asB, finish, resVs, resV, outVs, outV, ownsLast, tupOf, callV, takeIn, V.shift, V.shifts, List.append_nil, List.all_cons, List.all_nil, Bool.and_self, List.getElem?_cons_zero, List.getElem?_cons_succ, Nat.reduceEqDiff, ↓reduceIte, Nat.succ_ne_self, bne_self_eq_false, Bool.false_eq_true, Int.reduceAdd, Int.reduceLT, ne_eq, pick3, V.cells, addOff, loadV, Ab.rowAt, rget, rset, V.scalar, Nat.reduceAdd, Nat.reduceLT, and_self, List.length_cons, List.length_nil, List.getD_cons_zero, Nat.zero_add, Nat.add_zero, c39, hg]
  by_cases h2 : g = g'
  case neg => simp (config := { maxSteps := 10000000 }) (disch := omega) only [fin2, ↓G_seq, ↓G_ret, ↓G_region, ↓G_cond, ↓G_ops_nil, ↓G_op, Gv_some, ↓G_gop, Gw_ff, Gw_ft, Gc_true, dec_f, killAll, ↓get_setS, evalOp, ev, evs, Ab.get, b_eql, b_neq, one, Option.map_some, Option.bind_some, asB, finish, resVs, resV, outVs, outV, ownsLast, tupOf, callV, takeIn, V.shift, V.shifts, List.append_nil, List.all_cons, List.all_nil, Bool.and_self, List.getElem?_cons_zero, List.getElem?_cons_succ, Nat.reduceEqDiff, ↓reduceIte, Nat.succ_ne_self, Bool.not_false, bne_self_eq_false, Bool.false_eq_true, Int.reduceAdd, Int.reduceLT, ne_eq, pick3, V.cells, addOff, loadV, Ab.rowAt, rget, rset, V.scalar, Nat.reduceAdd, Nat.reduceLT, and_self, List.length_cons, List.length_nil, List.getD_cons_zero, Nat.zero_add, Nat.add_zero, c39, hg, hg']
  by_cases h3 : a.s1 = b.s1
  case neg => simp (config := { maxSteps := 10000000 }) (disch := omega) only [fin2, ↓G_seq, ↓G_ret, ↓G_region, ↓G_cond, ↓G_ops_nil, ↓G_op, Gv_some, ↓G_gop, Gw_ff, Gc_true, dec_t, dec_f, killAll, ↓get_setS, evalOp, ev, evs, Ab.get, b_eql, b_neq, one, Option.map_some, Option.bind_some, asB, finish, resVs, resV, outVs, outV, ownsLast, tupOf, callV, takeIn, V.shift, V.shifts, List.append_nil, List.all_cons, List.all_nil, Bool.and_self, List.getElem?_cons_zero, List.getElem?_cons_succ, Nat.reduceEqDiff, ↓reduceIte, Nat.succ_ne_self, Bool.not_true, Bool.not_false, bne_self_eq_false, Bool.false_eq_true, Int.reduceAdd, Int.reduceLT, ne_eq, pick3, V.cells, addOff, loadV, Ab.rowAt, rget, rset, V.scalar, Nat.reduceAdd, Nat.reduceLT, and_self, List.length_cons, List.length_nil, List.getD_cons_zero, Nat.zero_add, Nat.add_zero, c39, hg, hg']
  by_cases h4 : g = 1
  · by_cases h6 : a.v1 = b.v1
    · simp (config := { maxSteps := 10000000 }) (disch := omega) only [fin2, ↓G_seq, ↓G_skip, ↓G_ret, ↓G_region, ↓G_cond, ↓G_ops_nil, ↓G_op, Gv_some, ↓G_gop, Gw_ff, Gw_tf, Gc_false, dec_t, dec_f, killAll, ↓get_setS, evalOp, ev, evs, Ab.get, b_eql, b_neq, one, Option.map_some, Option.bind_some, asB, finish, resVs, resV, outVs, outV, ownsLast, tupOf, callV, takeIn, V.shift, V.shifts, List.append_nil, List.all_cons, List.all_nil, Bool.and_self, List.getElem?_cons_zero, List.getElem?_cons_succ, Nat.reduceEqDiff, ↓reduceIte, Nat.succ_ne_self, Bool.not_true, bne_self_eq_false, Bool.false_eq_true, Int.reduceAdd, Int.reduceLT, ne_eq, pick3, V.cells, addOff, loadV, Ab.rowAt, rget, rset, V.scalar, Nat.reduceAdd, Nat.reduceLT, and_self, List.length_cons, List.length_nil, List.getD_cons_zero, Nat.zero_add, Nat.add_zero, c39, hg, hg']
    · simp (config := { maxSteps := 10000000 }) (disch := omega) only [fin2, ↓G_seq, ↓G_skip, ↓G_ret, ↓G_region, ↓G_cond, ↓G_ops_nil, ↓G_op, Gv_some, ↓G_gop, Gw_ff, Gw_tf, Gc_false, dec_t, dec_f, killAll, ↓get_setS, evalOp, ev, evs, Ab.get, b_eql, b_neq, one, Option.map_some, Option.bind_some, asB, finish, resVs, resV, outVs, outV, ownsLast, tupOf, callV, takeIn, V.shift, V.shifts, List.append_nil, List.all_cons, List.all_nil, Bool.and_self, List.getElem?_cons_zero, List.getElem?_cons_succ, Nat.reduceEqDiff, ↓reduceIte, Nat.succ_ne_self, Bool.not_true, bne_self_eq_false, Bool.false_eq_true, Int.reduceAdd, Int.reduceLT, ne_eq, pick3, V.cells, addOff, loadV, Ab.rowAt, rget, rset, V.scalar, Nat.reduceAdd, Nat.reduceLT, and_self, List.length_cons, List.length_nil, List.getD_cons_zero, Nat.zero_add, Nat.add_zero, c39, hg, hg']
  by_cases h5 : g = 5
  · by_cases h6 : a.v1 = b.v1
    · simp (config := { maxSteps := 10000000 }) (disch := omega) only [fin2, ↓G_seq, ↓G_skip, ↓G_ret, ↓G_region, ↓G_cond, ↓G_ops_nil, ↓G_op, Gv_some, ↓G_gop, Gw_tt, Gw_ff, Gc_false, dec_t, dec_f, killAll, ↓get_setS, evalOp, ev, evs, Ab.get, b_eql, b_neq, one, Option.map_some, Option.bind_some, asB, finish, resVs, resV, outVs, outV, ownsLast, tupOf, callV, takeIn, V.shift, V.shifts, List.append_nil, List.all_cons, List.all_nil, Bool.and_self, List.getElem?_cons_zero, List.getElem?_cons_succ, Nat.reduceEqDiff, ↓reduceIte, Nat.succ_ne_self, Bool.not_true, Bool.not_false, bne_self_eq_false, Bool.false_eq_true, Int.reduceAdd, Int.reduceLT, ne_eq, pick3, V.cells, addOff, loadV, Ab.rowAt, rget, rset, V.scalar, Nat.reduceAdd, Nat.reduceLT, and_self, List.length_cons, List.length_nil, List.getD_cons_zero, Nat.zero_add, Nat.add_zero, c39, hg, hg']
    · simp (config := { maxSteps := 10000000 }) (disch := omega) only [fin2, ↓G_seq, ↓G_skip, ↓G_ret, ↓G_region, ↓G_cond, ↓G_ops_nil, ↓G_op, Gv_some, ↓G_gop, Gw_tt, Gw_ff, Gc_false, dec_t, dec_f, killAll, ↓get_setS, evalOp, ev, evs, Ab.get, b_eql, b_neq, one, Option.map_some, Option.bind_some, asB, finish, resVs, resV, outVs, outV, ownsLast, tupOf, callV, takeIn, V.shift, V.shifts, List.append_nil, List.all_cons, List.all_nil, Bool.and_self, List.getElem?_cons_zero, List.getElem?_cons_succ, Nat.reduceEqDiff, ↓reduceIte, Nat.succ_ne_self, Bool.not_true, Bool.not_false, bne_self_eq_false, Bool.false_eq_true, Int.reduceAdd, Int.reduceLT, ne_eq, pick3, V.cells, addOff, loadV, Ab.rowAt, rget, rset, V.scalar, Nat.reduceAdd, Nat.reduceLT, and_self, List.length_cons, List.length_nil, List.getD_cons_zero, Nat.zero_add, Nat.add_zero, c39, hg, hg']
  · simp (config := { maxSteps := 10000000 }) (disch := omega) only [fin2, ↓G_seq, ↓G_skip, ↓G_ret, ↓G_region, ↓G_cond, ↓G_ops_nil, ↓G_op, Gv_some, ↓G_gop, Gw_tt, Gw_ff, Gw_ft, Gc_false, dec_t, dec_f, killAll, ↓get_setS, evalOp, ev, evs, Ab.get, b_eql, b_neq, one, Option.map_some, Option.bind_some, asB, finish, resVs, resV, outVs, outV, ownsLast, tupOf, callV, takeIn, V.shift, V.shifts, List.append_nil, List.all_cons, List.all_nil, Bool.and_self, List.getElem?_cons_zero, List.getElem?_cons_succ, Nat.reduceEqDiff, ↓reduceIte, Nat.succ_ne_self, Bool.not_true, Bool.not_false, bne_self_eq_false, Bool.false_eq_true, Int.reduceAdd, Int.reduceLT, ne_eq, pick3, V.cells, addOff, loadV, Ab.rowAt, rget, rset, V.scalar, Nat.reduceAdd, Nat.reduceLT, and_self, List.length_cons, List.length_nil, List.getD_cons_zero, Nat.zero_add, Nat.add_zero, c39, hg, hg']

theorem tabl (k : Int) : (k = 1 ∧ groupR k = 1 ∧ familyR k = 1) ∨ (k = 2 ∧ groupR k = 2 ∧ familyR k = 2) ∨ (k = 3 ∧ groupR k = 2 ∧ familyR k = 2) ∨ (k = 4 ∧ groupR k = 3 ∧ familyR k = 4) ∨ (k = 5 ∧ groupR k = 3 ∧ familyR k = 4) ∨ (k = 6 ∧ groupR k = 4 ∧ familyR k = 6) ∨ (k = 7 ∧ groupR k = 5 ∧ familyR k = 7) ∨ ((k < 1 ∨ 7 < k) ∧ groupR k = 0 ∧ familyR k = 0) := by
  rcases kinds k with h | h | h | h | h | h | h | h
  iterate 7 (subst h; decide)
  have e : groupR k = 0 := by unfold groupR; repeat (rw [if_neg (by omega)])
  have e' : familyR k = 0 := by unfold familyR; repeat (rw [if_neg (by omega)])
  omega

theorem fam (k k' : Int) : (0 < familyR k ↔ groupR k ≠ 0) ∧ (familyR k = familyR k' ↔ groupR k = groupR k') ∧ ((k = 1 ∨ k = 7) ↔ (groupR k = 1 ∨ groupR k = 5)) ∧ (groupR k ≠ 0 → 1 ≤ k ∧ k ≤ 7) := by
  have h1 := tabl k
  have h2 := tabl k'
  generalize groupR k = g at *
  generalize groupR k' = g' at *
  generalize familyR k = f at *
  generalize familyR k' = f' at *
  omega

theorem c41 (a b : Sp) : call tbl 41 [.agg [.i a.k, .i a.m1, .i a.a1, .i a.s1, .i a.v1, .i a.m2, .i a.a2, .i a.s2, .i a.v2], .agg [.i b.k, .i b.m1, .i b.a1, .i b.s1, .i b.v1, .i b.m2, .i b.a2, .i b.s2, .i b.v2]] H = some (.bool (groupedB a b)) := by
  refine (call_start (show tbl 41 = some a41 from rfl)).trans ?_
  unfold groupedB
  obtain ⟨f1, f2, f3, f4⟩ := fam a.k b.k
  generalize hg : groupR a.k = g at *
  generalize hg' : groupR b.k = g' at *
  generalize hf : familyR a.k = f at *
  generalize hf' : familyR b.k = f' at *
  unfold a41
  by_cases h1 : 0 < f
  case neg => simp (config := { maxSteps := 10000000 }) (disch := omega) only [fin2, ↓G_seq, ↓G_ret, ↓G_region, ↓G_ops_nil, ↓G_op, Gv_some, ↓G_gop, Gw_tf, Gw_tup, dec_f, killAll, ↓get_setS, evalOp, ev, evs, Ab.get, b_gtr, one, Option.map_some, Option.bind_some, asB, finish, resVs, resV, outVs, outV, ownsLast, tupOf, callV, takeIn, V.shift, V.shifts, List.append_nil, List.all_cons, List.all_nil, Bool.and_self, List.getElem?_cons_zero, List.getElem?_cons_succ, Nat.reduceEqDiff, ↓reduceIte, Nat.succ_ne_self, bne_self_eq_false, Bool.false_eq_true, Int.reduceAdd, Int.reduceLT, ne_eq, pick3, V.cells, addOff, loadV, Ab.rowAt, rget, rset, V.scalar, Nat.reduceAdd, Nat.reduceLT, and_self, List.length_cons, List.length_nil, List.getD_cons_zero, Nat.zero_add, Nat.add_zero, c54, hf]
  by_cases h2 : f = f'
  case neg => simp (config := { maxSteps := 10000000 }) (disch := omega) only [fin2, ↓G_seq, ↓G_ret, ↓G_region, ↓G_ops_nil, ↓G_op, Gv_some, ↓G_gop, Gw_tt, Gw_tf, Gw_tup, dec_t, dec_f, killAll, ↓get_setS, evalOp, ev, evs, Ab.get, b_eql, b_gtr, one, Option.map_some, Option.bind_some, asB, finish, resVs, resV, outVs, outV, ownsLast, tupOf, callV, takeIn, V.shift, V.shifts, List.append_nil, List.all_cons, List.all_nil, Bool.and_self, List.getElem?_cons_zero, List.getElem?_cons_succ, Nat.reduceEqDiff, ↓reduceIte, Nat.succ_ne_self, bne_self_eq_false, Bool.false_eq_true, Int.reduceAdd, Int.reduceLT, ne_eq, pick3, V.cells, addOff, loadV, Ab.rowAt, rget, rset, V.scalar, Nat.reduceAdd, Nat.reduceLT, and_self, List.length_cons, List.length_nil, List.getD_cons_zero, Nat.zero_add, Nat.add_zero, c54, hf, hf']
  by_cases h3 : a.s1 = b.s1
  case neg => simp (config := { maxSteps := 10000000 }) (disch := omega) only [fin2, ↓G_seq, ↓G_ret, ↓G_region, ↓G_ops_nil, ↓G_op, Gv_some, ↓G_gop, Gw_tt, Gw_tf, Gw_tup, dec_t, dec_f, killAll, ↓get_setS, evalOp, ev, evs, Ab.get, b_eql, b_gtr, one, Option.map_some, Option.bind_some, asB, finish, resVs, resV, outVs, outV, ownsLast, tupOf, callV, takeIn, V.shift, V.shifts, List.append_nil, List.all_cons, List.all_nil, Bool.and_self, List.getElem?_cons_zero, List.getElem?_cons_succ, Nat.reduceEqDiff, ↓reduceIte, Nat.succ_ne_self, bne_self_eq_false, Bool.false_eq_true, Int.reduceAdd, Int.reduceLT, ne_eq, pick3, V.cells, addOff, loadV, Ab.rowAt, rget, rset, V.scalar, Nat.reduceAdd, Nat.reduceLT, and_self, List.length_cons, List.length_nil, List.getD_cons_zero, Nat.zero_add, Nat.add_zero, c54, hf, hf']
  by_cases h4 : a.k = 1 ∨ a.k = 7
  · by_cases h6 : a.v1 = b.v1
    · simp (config := { maxSteps := 10000000 }) (disch := omega) only [fin2, ↓G_seq, ↓G_ret, ↓G_region, ↓G_ops_nil, ↓G_op, Gv_some, ↓G_gop, Gw_tt, Gw_ff, dec_t, killAll, ↓get_setS, evalOp, ev, evs, Ab.get, b_eql, b_gtr, one, Option.map_some, Option.bind_some, asB, finish, resVs, resV, outVs, outV, ownsLast, tupOf, callV, takeIn, V.shift, V.shifts, List.append_nil, List.all_cons, List.all_nil, Bool.and_self, List.getElem?_cons_zero, List.getElem?_cons_succ, Nat.reduceEqDiff, ↓reduceIte, Nat.succ_ne_self, Bool.not_true, bne_self_eq_false, Bool.false_eq_true, Int.reduceAdd, Int.reduceLT, ne_eq, pick3, V.cells, addOff, loadV, Ab.rowAt, rget, rset, V.scalar, Nat.reduceAdd, Nat.reduceLT, and_self, List.length_cons, List.length_nil, List.getD_cons_zero, Nat.zero_add, Nat.add_zero, c54, c34, hf, hf']
    · simp (config := { maxSteps := 10000000 }) (disch := omega) only [fin2, ↓G_seq, ↓G_ret, ↓G_region, ↓G_ops_nil, ↓G_op, Gv_some, ↓G_gop, Gw_tt, Gw_ff, dec_t, dec_f, killAll, ↓get_setS, evalOp, ev, evs, Ab.get, b_eql, b_gtr, one, Option.map_some, Option.bind_some, asB, finish, resVs, resV, outVs, outV, ownsLast, tupOf, callV, takeIn, V.shift, V.shifts, List.append_nil, List.all_cons, List.all_nil, Bool.and_self, List.getElem?_cons_zero, List.getElem?_cons_succ, Nat.reduceEqDiff, ↓reduceIte, Nat.succ_ne_self, Bool.not_true, bne_self_eq_false, Bool.false_eq_true, Int.reduceAdd, Int.reduceLT, ne_eq, pick3, V.cells, addOff, loadV, Ab.rowAt, rget, rset, V.scalar, Nat.reduceAdd, Nat.reduceLT, and_self, List.length_cons, List.length_nil, List.getD_cons_zero, Nat.zero_add, Nat.add_zero, c54, c34, hf, hf']
  · simp (config := { maxSteps := 10000000 }) (disch := omega) only [fin2, ↓G_seq, ↓G_ret, ↓G_region, ↓G_ops_nil, ↓G_op, Gv_some, ↓G_gop, Gw_tt, Gw_ft, dec_t, dec_f, killAll, ↓get_setS, evalOp, ev, evs, Ab.get, b_eql, b_gtr, one, Option.map_some, Option.bind_some, asB, finish, resVs, resV, outVs, outV, ownsLast, tupOf, callV, takeIn, V.shift, V.shifts, List.append_nil, List.all_cons, List.all_nil, Bool.and_self, List.getElem?_cons_zero, List.getElem?_cons_succ, Nat.reduceEqDiff, ↓reduceIte, Nat.succ_ne_self, Bool.not_false, bne_self_eq_false, Bool.false_eq_true, Int.reduceAdd, Int.reduceLT, ne_eq, pick3, V.cells, addOff, loadV, Ab.rowAt, rget, rset, V.scalar, Nat.reduceAdd, Nat.reduceLT, and_self, List.length_cons, List.length_nil, List.getD_cons_zero, Nat.zero_add, Nat.add_zero, c54, c34, hf, hf']

theorem c19 (a b : Sp) : call tbl 19 [.agg [.i a.k, .i a.m1, .i a.a1, .i a.s1, .i a.v1, .i a.m2, .i a.a2, .i a.s2, .i a.v2], .agg [.i b.k, .i b.m1, .i b.a1, .i b.s1, .i b.v1, .i b.m2, .i b.a2, .i b.s2, .i b.v2]] H = some (.bool (conflictB a b)) := by
  refine (call_start (show tbl 19 = some a19 from rfl)).trans ?_
  unfold conflictB
  cases hg : groupedB a b
  · unfold a19
    simp (config := { maxSteps := 10000000 }) (disch := omega) only [fin2, ↓G_seq, ↓G_ret, ↓G_region, ↓G_cond, ↓G_ops_nil, ↓G_op, Gv_some, Gc_true, killAll, ↓get_setS, evalOp, ev, evs, Ab.get, one, Option.map_some, Option.bind_some, asB, finish, resVs, resV, outVs, outV, ownsLast, tupOf, callV, takeIn, V.shift, V.shifts, List.append_nil, List.all_cons, List.all_nil, Bool.and_self, Bool.false_and, List.getElem?_cons_zero, List.getElem?_cons_succ, Nat.reduceEqDiff, ↓reduceIte, Nat.succ_ne_self, Bool.not_false, bne_self_eq_false, Int.reduceAdd, Int.reduceLT, pick3, V.cells, loadV, Ab.rowAt, rget, rset, V.scalar, Nat.reduceAdd, Nat.reduceLT, and_self, false_and, List.length_cons, List.length_nil, List.take_succ_cons, List.take_zero, List.drop_zero, Nat.le_refl, List.getD_cons_zero, Nat.zero_add, c41, hg]
  · have hn : groupR a.k ≠ 0 := by
      unfold groupedB at hg
      exact (of_decide_eq_true hg).1
    unfold ruleB
    have ht := tabl a.k
    obtain ⟨k, m1, a1, s1, v1, m2, a2, s2, v2⟩ := a
    have e41 := fun H => c41 (H := H) ⟨k, m1, a1, s1, v1, m2, a2, s2, v2⟩ b
    have e42 := fun H => c42 (H := H) ⟨k, m1, a1, s1, v1, m2, a2, s2, v2⟩ b
    have e44 := fun H => c44 (H := H) ⟨k, m1, a1, s1, v1, m2, a2, s2, v2⟩ b
    have e46 := fun H => c46 (H := H) ⟨k, m1, a1, s1, v1, m2, a2, s2, v2⟩ b
    dsimp only at *
    rcases ht with ⟨h, g, _⟩ | ⟨h, g, _⟩ | ⟨h, g, _⟩ | ⟨h, g, _⟩ | ⟨h, g, _⟩ | ⟨h, g, _⟩ | ⟨h, g, _⟩ | ⟨h, g, _⟩
    case inr.inr.inr.inr.inr.inr.inr => exact absurd g hn
    all_goals
      rw [g]
      subst h
      unfold a19
      simp (config := { maxSteps := 10000000 }) (disch := omega) only [fin2, ↓G_seq, ↓G_skip, ↓G_ret, ↓G_region, ↓G_cond, ↓G_ops_nil, ↓G_op, Gv_some, Gc_false, killAll, ↓get_setS, ↓get_setN, evalOp, ev, evs, Ab.get, b_sub, wrap_i64, one, Option.map_some, Option.bind_some, asB, finish, resVs, resV, outVs, outV, ownsLast, tupOf, callV, takeIn, V.shift, V.shifts, List.append_nil, List.nil_append, List.cons_append, List.all_cons, List.all_nil, Bool.true_and, Bool.and_self, List.getElem?_cons_zero, List.getElem?_cons_succ, Nat.reduceEqDiff, ↓reduceIte, Nat.succ_ne_self, or_true, or_false, Bool.not_true, bne_self_eq_false, Bool.false_eq_true, Int.reduceAdd, Int.reduceSub, Int.reduceLT, Int.reduceLE, Int.reduceEq, pick3, V.cells, fillV, splice, arrV, addOff, loadV, storeV, Ab.rowAt, rget, rset, V.scalar, Int.reduceToNat, Nat.reduceAdd, Nat.reduceSub, Nat.reduceLT, Nat.reduceLeDiff, true_and, and_self, List.length_cons, List.length_nil, List.take_succ_cons, List.take_zero, List.drop_succ_cons, List.drop_zero, Nat.le_refl, Bool.or_true, Bool.or_false, List.set_cons_zero, List.getD_cons_zero, Int.cast_ofNat_Int, Nat.zero_add, Nat.add_zero, Nat.mul_one, e41, hg, e42, e44, e46]
    all_goals simp

end Go.Proofs.Ytfngllcjikmbkaa

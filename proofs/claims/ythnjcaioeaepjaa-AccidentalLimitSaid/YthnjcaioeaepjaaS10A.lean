/-
  The accidental package: small functions.
-/
import Derived.Test.YthnjcaioeaepjaaS10A0
namespace Go.Proofs.Ythnjcaioeaepjaa
open Go Go.Ab
set_option linter.unusedVariables false
set_option linter.unnecessarySimpa false
set_option linter.unusedSimpArgs false
set_option maxRecDepth 100000
variable {H : List (List Row)}

theorem c31 (x lo hi : Int) : call tbl 31 [.i x, .i lo, .i hi] H = some (.bool (decide (lo ≤ x ∧ x ≤ hi))) := by
  refine (call_start (show tbl 31 = some a31 from rfl)).trans ?_
  unfold a31
  by_cases h : lo ≤ x
  · by_cases k : x ≤ hi
    · simp (config := { maxSteps := 10000000 }) (disch := omega) only [↓G_seq, ↓G_ret, ↓G_region, ↓G_ops_nil, ↓G_op, Gv_some, ↓G_gop, Gw_tt, dec_t, killAll, ↓get_setS, evalOp, ev, Ab.get, b_leq, b_geq, one, Option.map_some, Option.bind_some, asB, finish, resVs, resV, outVs, ownsLast, tupOf, List.all_nil, List.getElem?_cons_zero, List.getElem?_cons_succ, Nat.reduceEqDiff, reduceCtorEq, ↓reduceIte, Nat.succ_ne_self, ov_bool, fn_some]
    · simp (config := { maxSteps := 10000000 }) (disch := omega) only [↓G_seq, ↓G_ret, ↓G_region, ↓G_ops_nil, ↓G_op, Gv_some, ↓G_gop, Gw_tt, dec_t, dec_f, killAll, ↓get_setS, evalOp, ev, Ab.get, b_leq, b_geq, one, Option.map_some, Option.bind_some, asB, finish, resVs, resV, outVs, ownsLast, tupOf, List.all_nil, List.getElem?_cons_zero, List.getElem?_cons_succ, Nat.reduceEqDiff, reduceCtorEq, ↓reduceIte, Nat.succ_ne_self, ov_bool, fn_some]
  · simp (config := { maxSteps := 10000000 }) (disch := omega) only [↓G_seq, ↓G_ret, ↓G_region, ↓G_ops_nil, ↓G_op, Gv_some, ↓G_gop, Gw_tf, dec_f, killAll, ↓get_setS, evalOp, ev, Ab.get, b_geq, one, Option.map_some, Option.bind_some, asB, finish, resVs, resV, outVs, ownsLast, tupOf, List.all_nil, List.getElem?_cons_zero, List.getElem?_cons_succ, Nat.reduceEqDiff, reduceCtorEq, ↓reduceIte, Nat.succ_ne_self, Bool.false_eq_true, ov_bool, fn_some]

theorem c34 (s o : Int) (h : 0 ≤ s ∧ s ≤ 6) (k : -1 ≤ o ∧ o ≤ 9) : call tbl 34 [.i s, .i o] H = some (.i (7 * (o + 1) + s)) := by
  refine (call_start (show tbl 34 = some a34 from rfl)).trans ?_
  unfold a34
  simp (config := { maxSteps := 10000000 }) (disch := omega) only [↓G_seq, ↓G_ret, ↓G_region, ↓G_ops_nil, ↓G_op, Gv_some, killAll, ↓get_setS, evalOp, ev, Ab.get, b_add, b_mul, wrap_i64, one, Option.map_some, Option.bind_some, finish, resVs, resV, outVs, ownsLast, tupOf, List.all_nil, List.getElem?_cons_zero, List.getElem?_cons_succ, Nat.reduceEqDiff, reduceCtorEq, ↓reduceIte, Nat.succ_ne_self, ov_int, fn_some]
theorem c30 (s o : Int) (h : 0 ≤ s ∧ s ≤ 6) (k : -1 ≤ o ∧ o ≤ 9) : call tbl 30 [.i s, .i o] H = some (.i (7 * (o + 1) + s)) := by
  refine (call_start (show tbl 30 = some a30 from rfl)).trans ?_
  unfold a30
  simp (config := { maxSteps := 10000000 }) (disch := omega) only [↓G_seq, ↓G_ret, ↓G_region, ↓G_ops_nil, ↓G_op, Gv_some, killAll, ↓get_setS, evalOp, ev, Ab.get, b_add, b_mul, wrap_i64, one, Option.map_some, Option.bind_some, finish, resVs, resV, outVs, ownsLast, tupOf, List.all_nil, List.getElem?_cons_zero, List.getElem?_cons_succ, Nat.reduceEqDiff, reduceCtorEq, ↓reduceIte, Nat.succ_ne_self, ov_int, fn_some]

theorem c20 (a : Int) (h : -2 ≤ a ∧ a ≤ 2) : call tbl 20 [.i a] H = some (.tup [.i (a + 3), .i 0]) := by
  refine (call_start (show tbl 20 = some a20 from rfl)).trans ?_
  unfold a20
  simp (config := { maxSteps := 10000000 }) (disch := omega) only [↓G_seq, ↓G_skip, ↓G_ret, ↓G_region, ↓G_cond, ↓G_ops_nil, ↓G_op, Gv_some, Gc_false, dec_t, killAll, ↓get_setS, evalOp, ev, evs, Ab.get, b_add, wrap_i64, one, Option.map_some, Option.bind_some, asB, finish, resVs, resV, outVs, ownsLast, tupOf, callV, V.shift, V.shifts, List.append_nil, List.all_cons, List.all_nil, Bool.and_self, List.getElem?_cons_zero, List.getElem?_cons_succ, reduceCtorEq, ↓reduceIte, Nat.succ_ne_self, Bool.not_true, bne_self_eq_false, Int.reduceNeg, and_self, ti_bool, ov_int, fn_some, c31]
theorem c20' (a : Int) (h : ¬ (-2 ≤ a ∧ a ≤ 2)) : call tbl 20 [.i a] H = some (.tup [.i 0, .i 2]) := by
  refine (call_start (show tbl 20 = some a20 from rfl)).trans ?_
  unfold a20
  simp (config := { maxSteps := 10000000 }) (disch := omega) only [↓G_seq, ↓G_ret, ↓G_region, ↓G_cond, ↓G_ops_nil, ↓G_op, Gv_some, Gc_true, dec_f, killAll, ↓get_setS, evalOp, ev, evs, Ab.get, Option.map_some, Option.bind_some, asB, finish, resVs, resV, outVs, ownsLast, tupOf, callV, V.shift, V.shifts, List.append_nil, List.all_cons, List.all_nil, Bool.and_self, List.getElem?_cons_zero, List.getElem?_cons_succ, reduceCtorEq, ↓reduceIte, Nat.succ_ne_self, Bool.not_false, bne_self_eq_false, Int.reduceNeg, and_self, ti_bool, ov_int, fn_some, c31]
theorem c21 (a : Int) (h : 1 ≤ a ∧ a ≤ 5) : call tbl 21 [.i a] H = some (.tup [.i (a - 3), .i 0]) := by
  refine (call_start (show tbl 21 = some a21 from rfl)).trans ?_
  unfold a21
  simp (config := { maxSteps := 10000000 }) (disch := omega) only [↓G_seq, ↓G_skip, ↓G_ret, ↓G_region, ↓G_cond, ↓G_ops_nil, ↓G_op, Gv_some, Gc_false, dec_t, killAll, ↓get_setS, evalOp, ev, evs, Ab.get, b_sub, wrap_i64, one, Option.map_some, Option.bind_some, asB, finish, resVs, resV, outVs, ownsLast, tupOf, callV, V.shift, V.shifts, List.append_nil, List.all_cons, List.all_nil, Bool.and_self, List.getElem?_cons_zero, List.getElem?_cons_succ, reduceCtorEq, ↓reduceIte, Nat.succ_ne_self, Bool.not_true, bne_self_eq_false, and_self, ti_bool, ov_int, fn_some, c31]
theorem c21' (a : Int) (h : ¬ (1 ≤ a ∧ a ≤ 5)) : call tbl 21 [.i a] H = some (.tup [.i 0, .i 11]) := by
  refine (call_start (show tbl 21 = some a21 from rfl)).trans ?_
  unfold a21
  simp (config := { maxSteps := 10000000 }) (disch := omega) only [↓G_seq, ↓G_ret, ↓G_region, ↓G_cond, ↓G_ops_nil, ↓G_op, Gv_some, Gc_true, dec_f, killAll, ↓get_setS, evalOp, ev, evs, Ab.get, Option.map_some, Option.bind_some, asB, finish, resVs, resV, outVs, ownsLast, tupOf, callV, V.shift, V.shifts, List.append_nil, List.all_cons, List.all_nil, Bool.and_self, List.getElem?_cons_zero, List.getElem?_cons_succ, reduceCtorEq, ↓reduceIte, Nat.succ_ne_self, Bool.not_false, bne_self_eq_false, and_self, ti_bool, ov_int, fn_some, c31]

def guardR (f n : Int) : Int := if f < -7 ∨ 7 < f then 2 else if 2560 < n then 9 else 0
theorem c35 (f n : Int) : call tbl 35 [.i f, .i n] H = some (.i (guardR f n)) := by
  refine (call_start (show tbl 35 = some a35 from rfl)).trans ?_
  unfold a35 guardR
  by_cases h1 : f < -7
  · rw [if_pos (.inl h1)]
    simp (config := { maxSteps := 10000000 }) (disch := omega) only [↓G_seq, ↓G_ret, ↓G_region, ↓G_block, ↓G_cond, ↓G_ops_nil, ↓G_op, Gv_some, ↓G_gop, Gw_ft, Gc_true, dec_t, killAll, ↓get_setS, evalOp, ev, Ab.get, b_lss, one, Option.map_some, Option.bind_some, asB, finish, resVs, resV, outVs, ownsLast, tupOf, List.all_nil, List.getElem?_cons_zero, List.getElem?_cons_succ, Nat.reduceEqDiff, reduceCtorEq, ↓reduceIte, Nat.succ_ne_self, Int.reduceNeg, ov_int, fn_some]
  by_cases h2 : 7 < f
  · rw [if_pos (.inr h2)]
    simp (config := { maxSteps := 10000000 }) (disch := omega) only [↓G_seq, ↓G_ret, ↓G_region, ↓G_block, ↓G_cond, ↓G_ops_nil, ↓G_op, Gv_some, ↓G_gop, Gw_ff, Gc_true, dec_t, dec_f, killAll, ↓get_setS, evalOp, ev, Ab.get, b_lss, b_gtr, one, Option.map_some, Option.bind_some, asB, finish, resVs, resV, outVs, ownsLast, tupOf, List.all_nil, List.getElem?_cons_zero, List.getElem?_cons_succ, Nat.reduceEqDiff, reduceCtorEq, ↓reduceIte, Nat.succ_ne_self, Bool.false_eq_true, Int.reduceNeg, ov_int, fn_some]
  rw [if_neg (by omega)]
  by_cases h3 : 2560 < n
  · rw [if_pos h3]
    simp (config := { maxSteps := 10000000 }) (disch := omega) only [↓G_seq, ↓G_ret, ↓G_region, ↓G_block, ↓G_cond, ↓G_ops_nil, ↓G_op, Gv_some, ↓G_gop, Gw_ff, Gc_true, Gc_false, dec_t, dec_f, killAll, ↓get_setS, evalOp, ev, Ab.get, b_lss, b_gtr, one, Option.map_some, Option.bind_some, asB, finish, resVs, resV, outVs, ownsLast, tupOf, List.all_nil, List.getElem?_cons_zero, List.getElem?_cons_succ, Nat.reduceEqDiff, reduceCtorEq, ↓reduceIte, Nat.succ_ne_self, Bool.false_eq_true, Int.reduceNeg, ov_int, fn_some]
  · rw [if_neg h3]
    simp (config := { maxSteps := 10000000 }) (disch := omega) only [↓G_seq, ↓G_skip, ↓G_ret, ↓G_blk, ↓G_region, ↓G_block, ↓G_cond, ↓G_ops_nil, ↓G_op, Gv_some, ↓G_gop, Gw_ff, Gc_false, dec_f, killAll, ↓get_setS, evalOp, ev, Ab.get, b_lss, b_gtr, one, Option.map_some, Option.bind_some, asB, finish, resVs, resV, outVs, ownsLast, tupOf, List.all_nil, List.getElem?_cons_zero, List.getElem?_cons_succ, Nat.reduceEqDiff, reduceCtorEq, ↓reduceIte, Nat.succ_ne_self, Bool.false_eq_true, Int.reduceNeg, ov_int, fn_some]

theorem l7 (h13 : ∀ H, call tbl 13 [] H = some (.bool true)) (a k : Int) : call tbl 7 [.i a, .i k] H = some (.bool true) := by
  refine (call_start (show tbl 7 = some a7 from rfl)).trans ?_
  unfold a7
  by_cases h : -2 ≤ a ∧ a ≤ 2
  · by_cases h' : 1 ≤ k ∧ k ≤ 5
    · simp (config := { maxSteps := 10000000 }) (disch := omega) only [beq_self_eq_true, ↓G_seq, ↓G_skip, ↓G_ret, ↓G_region, ↓G_cond, ↓G_ops_nil, ↓G_op, Gv_some, ↓G_gop, Gw_tt, Gw_ff, Gw_ft, Gw_tup, Gc_false, dec_t, killAll, ↓get_setS, evalOp, ev, evs, Ab.get, b_add, b_sub, b_eql, b_leq, b_geq, wrap_i64, one, Option.map_some, Option.bind_some, asB, finish, resVs, resV, outVs, ownsLast, tupOf, callV, V.shift, V.shifts, List.append_nil, List.map_cons, List.map_nil, List.all_nil, List.getElem?_cons_zero, List.getElem?_cons_succ, Nat.reduceEqDiff, reduceCtorEq, ↓reduceIte, Nat.succ_ne_self, decide_true, Bool.not_true, bne_self_eq_false, Bool.false_eq_true, Int.reduceNeg, ti_bool, ti_tup_int, st_int, ov_bool, fn_some, h13, c20 a h, c21 k h']
    · by_cases h3 : k < 1
      · simp (config := { maxSteps := 10000000 }) (disch := omega) only [beq_self_eq_true, ↓G_seq, ↓G_skip, ↓G_ret, ↓G_region, ↓G_cond, ↓G_ops_nil, ↓G_op, Gv_some, ↓G_gop, Gw_tt, Gw_ff, Gw_tf, Gw_ft, Gw_tup, Gc_false, dec_t, dec_f, killAll, ↓get_setS, evalOp, ev, evs, Ab.get, b_add, b_eql, b_leq, b_geq, wrap_i64, one, Option.map_some, Option.bind_some, asB, finish, resVs, resV, outVs, ownsLast, tupOf, callV, V.shift, V.shifts, List.append_nil, List.map_cons, List.map_nil, List.all_nil, List.getElem?_cons_zero, List.getElem?_cons_succ, Nat.reduceEqDiff, reduceCtorEq, ↓reduceIte, Nat.succ_ne_self, decide_true, decide_false, Bool.not_true, bne_self_eq_false, Bool.false_eq_true, Int.reduceNeg, Int.reduceEq, ti_bool, ti_tup_int, st_int, ov_bool, fn_some, h13, c20 a h, c21' k h']
      · simp (config := { maxSteps := 10000000 }) (disch := omega) only [beq_self_eq_true, ↓G_seq, ↓G_skip, ↓G_ret, ↓G_region, ↓G_cond, ↓G_ops_nil, ↓G_op, Gv_some, ↓G_gop, Gw_tt, Gw_ff, Gw_tf, Gw_ft, Gw_tup, Gc_false, dec_t, dec_f, killAll, ↓get_setS, evalOp, ev, evs, Ab.get, b_add, b_eql, b_leq, b_geq, wrap_i64, one, Option.map_some, Option.bind_some, asB, finish, resVs, resV, outVs, ownsLast, tupOf, callV, V.shift, V.shifts, List.append_nil, List.map_cons, List.map_nil, List.all_nil, List.getElem?_cons_zero, List.getElem?_cons_succ, Nat.reduceEqDiff, reduceCtorEq, ↓reduceIte, Nat.succ_ne_self, decide_true, decide_false, Bool.not_true, bne_self_eq_false, Bool.false_eq_true, Int.reduceNeg, Int.reduceEq, ti_bool, ti_tup_int, st_int, ov_bool, fn_some, h13, c20 a h, c21' k h']
  · by_cases h' : 1 ≤ k ∧ k ≤ 5
    · by_cases h3 : a < -2
      · simp (config := { maxSteps := 10000000 }) (disch := omega) only [beq_self_eq_true, ↓G_seq, ↓G_skip, ↓G_ret, ↓G_region, ↓G_cond, ↓G_ops_nil, ↓G_op, Gv_some, ↓G_gop, Gw_tt, Gw_ff, Gw_tf, Gw_ft, Gw_tup, Gc_false, dec_t, dec_f, killAll, ↓get_setS, evalOp, ev, evs, Ab.get, b_sub, b_eql, b_leq, b_geq, wrap_i64, one, Option.map_some, Option.bind_some, asB, finish, resVs, resV, outVs, ownsLast, tupOf, callV, V.shift, V.shifts, List.append_nil, List.map_cons, List.map_nil, List.all_nil, List.getElem?_cons_zero, List.getElem?_cons_succ, Nat.reduceEqDiff, reduceCtorEq, ↓reduceIte, Nat.succ_ne_self, decide_true, decide_false, Bool.not_true, bne_self_eq_false, Bool.false_eq_true, Int.reduceNeg, Int.reduceEq, ti_bool, ti_tup_int, st_int, ov_bool, fn_some, h13, c20' a h, c21 k h']
      · simp (config := { maxSteps := 10000000 }) (disch := omega) only [beq_self_eq_true, ↓G_seq, ↓G_skip, ↓G_ret, ↓G_region, ↓G_cond, ↓G_ops_nil, ↓G_op, Gv_some, ↓G_gop, Gw_tt, Gw_ff, Gw_tf, Gw_ft, Gw_tup, Gc_false, dec_t, dec_f, killAll, ↓get_setS, evalOp, ev, evs, Ab.get, b_sub, b_eql, b_leq, b_geq, wrap_i64, one, Option.map_some, Option.bind_some, asB, finish, resVs, resV, outVs, ownsLast, tupOf, callV, V.shift, V.shifts, List.append_nil, List.map_cons, List.map_nil, List.all_nil, List.getElem?_cons_zero, List.getElem?_cons_succ, Nat.reduceEqDiff, reduceCtorEq, ↓reduceIte, Nat.succ_ne_self, decide_true, decide_false, Bool.not_true, bne_self_eq_false, Bool.false_eq_true, Int.reduceNeg, Int.reduceEq, ti_bool, ti_tup_int, st_int, ov_bool, fn_some, h13, c20' a h, c21 k h']
    · by_cases h3 : a < -2
      · by_cases h4 : k < 1
        · simp (config := { maxSteps := 10000000 }) (disch := omega) only [beq_self_eq_true, ↓G_seq, ↓G_skip, ↓G_ret, ↓G_region, ↓G_cond, ↓G_ops_nil, ↓G_op, Gv_some, ↓G_gop, Gw_tt, Gw_ff, Gw_tf, Gc_false, dec_f, killAll, ↓get_setS, evalOp, ev, evs, Ab.get, b_eql, b_geq, one, Option.map_some, Option.bind_some, asB, finish, resVs, resV, outVs, ownsLast, tupOf, callV, V.shift, V.shifts, List.append_nil, List.map_cons, List.map_nil, List.all_nil, List.getElem?_cons_zero, List.getElem?_cons_succ, Nat.reduceEqDiff, reduceCtorEq, ↓reduceIte, Nat.succ_ne_self, decide_true, decide_false, Bool.not_true, bne_self_eq_false, Bool.false_eq_true, Int.reduceNeg, Int.reduceEq, ti_bool, ti_tup_int, st_int, ov_bool, fn_some, h13, c20' a h, c21' k h']
        · simp (config := { maxSteps := 10000000 }) (disch := omega) only [beq_self_eq_true, ↓G_seq, ↓G_skip, ↓G_ret, ↓G_region, ↓G_cond, ↓G_ops_nil, ↓G_op, Gv_some, ↓G_gop, Gw_tt, Gw_ff, Gw_tf, Gc_false, dec_t, dec_f, killAll, ↓get_setS, evalOp, ev, evs, Ab.get, b_eql, b_leq, b_geq, one, Option.map_some, Option.bind_some, asB, finish, resVs, resV, outVs, ownsLast, tupOf, callV, V.shift, V.shifts, List.append_nil, List.map_cons, List.map_nil, List.all_nil, List.getElem?_cons_zero, List.getElem?_cons_succ, Nat.reduceEqDiff, reduceCtorEq, ↓reduceIte, Nat.succ_ne_self, decide_true, decide_false, Bool.not_true, bne_self_eq_false, Bool.false_eq_true, Int.reduceNeg, Int.reduceEq, ti_bool, ti_tup_int, st_int, ov_bool, fn_some, h13, c20' a h, c21' k h']
      · by_cases h4 : k < 1
        · simp (config := { maxSteps := 10000000 }) (disch := omega) only [beq_self_eq_true, ↓G_seq, ↓G_skip, ↓G_ret, ↓G_region, ↓G_cond, ↓G_ops_nil, ↓G_op, Gv_some, ↓G_gop, Gw_tt, Gw_ff, Gw_tf, Gc_false, dec_t, dec_f, killAll, ↓get_setS, evalOp, ev, evs, Ab.get, b_eql, b_leq, b_geq, one, Option.map_some, Option.bind_some, asB, finish, resVs, resV, outVs, ownsLast, tupOf, callV, V.shift, V.shifts, List.append_nil, List.map_cons, List.map_nil, List.all_nil, List.getElem?_cons_zero, List.getElem?_cons_succ, Nat.reduceEqDiff, reduceCtorEq, ↓reduceIte, Nat.succ_ne_self, decide_true, decide_false, Bool.not_true, bne_self_eq_false, Bool.false_eq_true, Int.reduceNeg, Int.reduceEq, ti_bool, ti_tup_int, st_int, ov_bool, fn_some, h13, c20' a h, c21' k h']
        · simp (config := { maxSteps := 10000000 }) (disch := omega) only [beq_self_eq_true, ↓G_seq, ↓G_skip, ↓G_ret, ↓G_region, ↓G_cond, ↓G_ops_nil, ↓G_op, Gv_some, ↓G_gop, Gw_tt, Gw_ff, Gw_tf, Gc_false, dec_t, dec_f, killAll, ↓get_setS, evalOp, ev, evs, Ab.get, b_eql, b_leq, b_geq, one, Option.map_some, Option.bind_some, asB, finish, resVs, resV, outVs, ownsLast, tupOf, callV, V.shift, V.shifts, List.append_nil, List.map_cons, List.map_nil, List.all_nil, List.getElem?_cons_zero, List.getElem?_cons_succ, Nat.reduceEqDiff, reduceCtorEq, ↓reduceIte, Nat.succ_ne_self, decide_true, decide_false, Bool.not_true, bne_self_eq_false, Bool.false_eq_true, Int.reduceNeg, Int.reduceEq, ti_bool, ti_tup_int, st_int, ov_bool, fn_some, h13, c20' a h, c21' k h']

end Go.Proofs.Ythnjcaioeaepjaa

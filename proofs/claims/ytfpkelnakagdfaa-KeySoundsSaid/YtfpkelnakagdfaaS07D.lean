/-
  The number of a pitch.
-/
import Derived.Test.YtfpkelnakagdfaaS07C
namespace Go.Proofs.Ytfpkelnakagdfaa
open Go Go.Ab
set_option linter.unusedVariables false
set_option linter.unnecessarySimpa false
set_option linter.unusedSimpArgs false
set_option maxRecDepth 100000
variable {H : List (List Row)}

def baseR (s : Int) : Int := [0, 2, 4, 5, 7, 9, 11].getD s.toNat 0
theorem base0 : baseR 0 = 0 := rfl
theorem base1 : baseR 1 = 2 := rfl
theorem base2 : baseR 2 = 4 := rfl
theorem base3 : baseR 3 = 5 := rfl
theorem base4 : baseR 4 = 7 := rfl
theorem base5 : baseR 5 = 9 := rfl
theorem base6 : baseR 6 = 11 := rfl

theorem c17 (s a o : Int) (h : 0 ≤ s ∧ s ≤ 6) (ha : -1000 ≤ a ∧ a ≤ 1000) (ho : -1000 ≤ o ∧ o ≤ 1000) : call tbl 17 [.agg [.i s, .i a, .i o]] H = some (.i (baseR s + a + 12 * (o + 1))) := by
  refine (call_start (show tbl 17 = some a17 from rfl)).trans ?_
  rcases cases7 s h with rfl | rfl | rfl | rfl | rfl | rfl | rfl
  all_goals unfold a17
  all_goals simp (config := { maxSteps := 10000000 }) (disch := omega) only [↓G_seq, ↓G_skip, ↓G_ret, ↓G_nil, ↓G_blk, ↓G_exit, ↓G_scope, ↓G_region, ↓G_block, ↓G_cond, ↓Gx_blk, ↓Gx_code, ↓Gx_ops, ↓G_ops_nil, ↓G_op, Gv_some, ↓G_gop, Gw_tt, Gw_ff, Gw_tf, Gw_ft, Gw_tup, Gc_true, Gc_false, dec_t, dec_f, killAll, ↓get_setS, ↓get_setN, pick_ev, evalOp, ev, evs, Ab.get, rget_rset, b_add, b_sub, b_mul, b_eql, b_neq, b_lss, b_leq, b_gtr, b_geq, b_rem, b_quo, wrap_i64, wrap_u8, one, Option.map_some, Option.bind_some, Option.map_none, Option.bind_none, asB, finish, resVs, resV, outVs, outV, ownsLast, tupOf, callV, takeIn, Ab.settle, V.shift, V.shifts, List.append_nil, List.nil_append, List.cons_append, List.map_cons, List.map_nil, List.all_cons, List.all_nil, Bool.and_true, Bool.true_and, Bool.and_self, Bool.false_and, Bool.and_false, List.getElem?_cons_zero, List.getElem?_cons_succ, Nat.reduceEqDiff, reduceCtorEq, ↓reduceIte, Nat.succ_ne_self, Nat.reduceBEq, Nat.reduceBNe, decide_true, decide_false, Bool.not_true, Bool.not_false, bne_self_eq_false, Bool.false_eq_true, Int.reduceNeg, Int.reduceAdd, Int.reduceSub, Int.reduceMul, Int.reduceLT, Int.reduceLE, Int.reduceEq, Int.reduceTMod, Int.reduceTDiv, Nat.one_ne_zero, Nat.zero_ne_one, ne_eq, not_false_eq_true, not_true_eq_false, idxV, elemV, pick3, V.cells, fillV, splice, chop, arrV, addOff, loadV, storeV, Ab.rowAt, rget, rset, V.scalar, V.pure, lenV, strLenV, mksV, mmV, Int.reduceToNat, Nat.reduceMul, Nat.reduceAdd, Nat.reduceSub, Nat.reduceLT, Nat.reduceLeDiff, Nat.reduceGT, and_true, true_and, and_self, and_false, false_and, List.length_cons, List.length_nil, List.take_succ_cons, List.take_zero, List.drop_succ_cons, List.drop_zero, Int.reduceAbs, Int.reduceGE, Int.reduceGT, Nat.zero_le, Nat.le_refl, Nat.lt_irrefl, Bool.not_eq_true, Bool.or_true, Bool.or_false, Bool.true_or, Bool.false_or, List.set_cons_zero, List.set_cons_succ, List.getD_cons_zero, List.getD_cons_succ, List.replicate, List.flatten_cons, List.flatten_nil, Int.cast_ofNat_Int, Nat.zero_add, Nat.add_zero, Nat.zero_mul, Nat.mul_one, Nat.one_mul, Nat.mul_zero]
  all_goals rfl

end Go.Proofs.Ytfpkelnakagdfaa

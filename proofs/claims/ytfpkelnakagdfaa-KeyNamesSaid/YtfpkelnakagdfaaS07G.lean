/-
  The law of transpositions, as an equation.
-/
import Derived.Test.YtfpkelnakagdfaaS07F
namespace Go.Proofs.Ytfpkelnakagdfaa
open Go Go.Ab
set_option linter.unusedVariables false
set_option linter.unnecessarySimpa false
set_option linter.unusedSimpArgs false
set_option maxRecDepth 100000
variable {H : List (List Row)}

theorem is_t (f : Int) (h : -7 ≤ f ∧ f ≤ 7) : (decide (-7 ≤ f) && decide (f ≤ 7)) = true := by
  simp [h]
theorem is_f (f : Int) (h : ¬ (-7 ≤ f ∧ f ≤ 7)) : (decide (-7 ≤ f) && decide (f ≤ 7)) = false := by
  by_cases h1 : -7 ≤ f
  · simp [h1]; omega
  · simp [h1]

theorem l4 (f s m : Int) : call tbl 4 [.i f, .agg [.i s, .i m]] H = some (.bool true) := by
  refine (call_start (show tbl 4 = some a4 from rfl)).trans ?_
  by_cases h : -7 ≤ f ∧ f ≤ 7
  case neg =>
    unfold a4
    simp (config := { maxSteps := 10000000 }) (disch := omega) only [fin2, ↓G_seq, ↓G_skip, ↓G_ret, ↓G_region, ↓G_cond, ↓G_ops_nil, ↓G_op, Gv_some, ↓G_gop, Gw_tt, Gc_true, Gc_false, killAll, ↓get_setS, evalOp, ev, evs, Ab.get, b_eql, one, Option.map_some, Option.bind_some, asB, finish, resVs, resV, outVs, outV, ownsLast, tupOf, callV, takeIn, Ab.settle, V.shift, V.shifts, List.append_nil, List.map_cons, List.map_nil, List.all_cons, List.all_nil, Bool.and_self, List.getElem?_cons_zero, List.getElem?_cons_succ, Nat.reduceEqDiff, reduceCtorEq, ↓reduceIte, Nat.succ_ne_self, decide_true, Bool.not_true, Bool.not_false, bne_self_eq_false, Int.reduceNeg, Int.reduceAdd, Int.reduceLT, pick3, V.cells, loadV, Ab.rowAt, rget, rset, V.scalar, Nat.reduceAdd, Nat.reduceLT, and_self, List.length_cons, List.length_nil, List.take_succ_cons, List.take_zero, List.drop_zero, Nat.le_refl, List.getD_cons_zero, Nat.zero_add, c18_not f s m h, c14, c15, is_f f h]
  by_cases ho : outR s m
  · unfold a4
    simp (config := { maxSteps := 10000000 }) (disch := omega) only [fin2, ↓G_seq, ↓G_skip, ↓G_ret, ↓G_region, ↓G_cond, ↓G_ops_nil, ↓G_op, Gv_some, ↓G_gop, Gw_ff, Gc_true, Gc_false, dec_t, killAll, ↓get_setS, evalOp, ev, evs, Ab.get, b_neq, one, Option.map_some, Option.bind_some, asB, finish, resVs, resV, outVs, outV, ownsLast, tupOf, callV, takeIn, Ab.settle, V.shift, V.shifts, List.append_nil, List.map_cons, List.map_nil, List.all_cons, List.all_nil, Bool.and_self, List.getElem?_cons_zero, List.getElem?_cons_succ, Nat.reduceEqDiff, reduceCtorEq, ↓reduceIte, Nat.succ_ne_self, decide_true, decide_false, Bool.not_true, Bool.not_false, bne_self_eq_false, Bool.false_eq_true, Int.reduceNeg, Int.reduceAdd, Int.reduceLT, Int.reduceEq, pick3, V.cells, addOff, loadV, Ab.rowAt, rget, rset, V.scalar, Nat.reduceAdd, Nat.reduceLT, and_self, List.length_cons, List.length_nil, List.take_succ_cons, List.take_zero, List.drop_zero, Nat.le_refl, List.getD_cons_zero, Nat.zero_add, Nat.add_zero, c18_out f s m h ho, c19_out f s m h ho, c14, c15, is_t f h]
  · unfold outR at ho
    have hn := norm_in (f + (7 * m - 12 * s)) (by omega)
    have h1 : ∀ H, call tbl 18 [.i f, .agg [.i s, .i m]] H = _ := fun H => c18 f s m h (by omega) (by omega)
    have h2 : ∀ H, call tbl 19 [.i f, .i s, .i m] H = _ := fun H => c19 f s m h (by omega) (by omega)
    have hq := norm_id f h
    generalize hN : normR (f + (7 * m - 12 * s)) = n at *
    have h3 : ∀ H, call tbl 18 [.i n, .agg [.i (0 - s), .i (0 - m)]] H = _ := fun H => c18 n (0 - s) (0 - m) hn (by omega) (by omega)
    by_cases hb : normR (n + (7 * (0 - m) - 12 * (0 - s))) = f
    · unfold a4
      simp (config := { maxSteps := 10000000 }) (disch := omega) only [fin2, ↓G_seq, ↓G_skip, ↓G_ret, ↓G_region, ↓G_cond, ↓G_ops_nil, ↓G_op, Gv_some, ↓G_gop, Gw_tt, Gw_ff, Gw_ft, Gc_false, dec_t, killAll, ↓get_setS, evalOp, ev, evs, Ab.get, b_eql, b_neq, wrap_i64, one, Option.map_some, Option.bind_some, asB, finish, resVs, resV, outVs, outV, ownsLast, tupOf, callV, takeIn, Ab.settle, V.shift, V.shifts, List.append_nil, List.nil_append, List.cons_append, List.map_cons, List.map_nil, List.all_cons, List.all_nil, Bool.and_self, List.getElem?_cons_zero, List.getElem?_cons_succ, Nat.reduceEqDiff, reduceCtorEq, ↓reduceIte, Nat.succ_ne_self, decide_true, Bool.not_true, bne_self_eq_false, Bool.false_eq_true, Int.reduceNeg, Int.reduceAdd, Int.reduceLT, pick3, V.cells, fillV, splice, addOff, loadV, Ab.rowAt, rget, rset, V.scalar, Nat.reduceAdd, Nat.reduceLT, Nat.reduceLeDiff, and_self, List.length_cons, List.length_nil, List.take_succ_cons, List.take_zero, List.drop_succ_cons, List.drop_zero, Nat.le_refl, List.getD_cons_zero, Nat.zero_add, Nat.add_zero, h1, h2, h3, c14, c15, is_t f h, hb]
    · by_cases hc : n = f + 7 * m - 12 * s
      · refine absurd ?_ hb
        rw [← hq]
        congr 1
        omega
      · unfold a4
        simp (config := { maxSteps := 10000000 }) (disch := omega) only [fin2, ↓G_seq, ↓G_skip, ↓G_ret, ↓G_region, ↓G_cond, ↓G_ops_nil, ↓G_op, Gv_some, ↓G_gop, Gw_tt, Gw_ff, Gc_false, dec_t, dec_f, killAll, ↓get_setS, evalOp, ev, evs, Ab.get, b_add, b_sub, b_mul, b_eql, b_neq, wrap_i64, one, Option.map_some, Option.bind_some, asB, finish, resVs, resV, outVs, outV, ownsLast, tupOf, callV, takeIn, Ab.settle, V.shift, V.shifts, List.append_nil, List.nil_append, List.cons_append, List.map_cons, List.map_nil, List.all_cons, List.all_nil, Bool.and_self, List.getElem?_cons_zero, List.getElem?_cons_succ, Nat.reduceEqDiff, reduceCtorEq, ↓reduceIte, Nat.succ_ne_self, decide_true, Bool.not_true, Bool.not_false, bne_self_eq_false, Bool.false_eq_true, Int.reduceNeg, Int.reduceAdd, Int.reduceLT, pick3, V.cells, fillV, splice, addOff, loadV, Ab.rowAt, rget, rset, V.scalar, Nat.reduceAdd, Nat.reduceLT, Nat.reduceLeDiff, and_self, List.length_cons, List.length_nil, List.take_succ_cons, List.take_zero, List.drop_succ_cons, List.drop_zero, Nat.le_refl, List.getD_cons_zero, Nat.zero_add, Nat.add_zero, h1, h2, h3, c14, c15, is_t f h]

end Go.Proofs.Ytfpkelnakagdfaa

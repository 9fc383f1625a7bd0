/-
  The law of sounds, as an equation.
-/
import Derived.Test.YtfpkelnakagdfaaS07D
import Derived.Test.YtfpkelnakagdfaaS07F
namespace Go.Proofs.Ytfpkelnakagdfaa
open Go Go.Ab
set_option linter.unusedVariables false
set_option linter.unnecessarySimpa false
set_option linter.unusedSimpArgs false
set_option maxRecDepth 100000
variable {H : List (List Row)}

def cK (k : Nat) : Int := [0, 2, 4, 5, 7, 9, 11].getD k 0
theorem t12 (x : Int) (h : x % 12 = 0) : x.tmod 12 = 0 := Int.tmod_eq_zero_of_dvd (Int.dvd_of_emod_eq_zero h)

def Scl (f : Int) (s a o : Nat → Int) (k : Nat) : Prop := (0 ≤ s k ∧ s k ≤ 6) ∧ (-2 ≤ a k ∧ a k ≤ 2) ∧ (4 ≤ o k ∧ o k ≤ 5) ∧ (0 ≤ baseR (s k) ∧ baseR (s k) ≤ 11) ∧ (baseR (s k) + a k + 12 * (o k + 1) - 7 * f - cK k) % 12 = 0

theorem scale4 (f : Int) (h : -7 ≤ f ∧ f ≤ 7) : ∃ (s a o : Nat → Int), (∀ k, k < 7 → Scl f s a o k) ∧
    ∀ H, call tbl 13 [.i f, .bool false, .i 4] H = some (.tup [.sl .own 3 [[.i (s 0), .i (a 0), .i (o 0)], [.i (s 1), .i (a 1), .i (o 1)], [.i (s 2), .i (a 2), .i (o 2)], [.i (s 3), .i (a 3), .i (o 3)], [.i (s 4), .i (a 4), .i (o 4)], [.i (s 5), .i (a 5), .i (o 5)], [.i (s 6), .i (a 6), .i (o 6)]], .i 0]) := by
  unfold Scl
  rcases cases15 f h with rfl | rfl | rfl | rfl | rfl | rfl | rfl | rfl | rfl | rfl | rfl | rfl | rfl | rfl | rfl
  · exact ⟨fun k => [0, 1, 2, 3, 4, 5, 6].getD k 0, fun k => [-1, -1, -1, -1, -1, -1, -1].getD k 0, fun k => [4, 4, 4, 4, 4, 4, 4].getD k 0, by decide, fun H => (c13_0 (-7) 4 false (by omega) rfl (by omega)).trans rfl⟩
  · exact ⟨fun k => [4, 5, 6, 0, 1, 2, 3].getD k 0, fun k => [-1, -1, -1, -1, -1, -1, 0].getD k 0, fun k => [4, 4, 4, 5, 5, 5, 5].getD k 0, by decide, fun H => (c13_4 (-6) 4 false (by omega) rfl (by omega)).trans rfl⟩
  · exact ⟨fun k => [1, 2, 3, 4, 5, 6, 0].getD k 0, fun k => [-1, -1, 0, -1, -1, -1, 0].getD k 0, fun k => [4, 4, 4, 4, 4, 4, 5].getD k 0, by decide, fun H => (c13_1 (-5) 4 false (by omega) rfl (by omega)).trans rfl⟩
  · exact ⟨fun k => [5, 6, 0, 1, 2, 3, 4].getD k 0, fun k => [-1, -1, 0, -1, -1, 0, 0].getD k 0, fun k => [4, 4, 5, 5, 5, 5, 5].getD k 0, by decide, fun H => (c13_5 (-4) 4 false (by omega) rfl (by omega)).trans rfl⟩
  · exact ⟨fun k => [2, 3, 4, 5, 6, 0, 1].getD k 0, fun k => [-1, 0, 0, -1, -1, 0, 0].getD k 0, fun k => [4, 4, 4, 4, 4, 5, 5].getD k 0, by decide, fun H => (c13_2 (-3) 4 false (by omega) rfl (by omega)).trans rfl⟩
  · exact ⟨fun k => [6, 0, 1, 2, 3, 4, 5].getD k 0, fun k => [-1, 0, 0, -1, 0, 0, 0].getD k 0, fun k => [4, 5, 5, 5, 5, 5, 5].getD k 0, by decide, fun H => (c13_6 (-2) 4 false (by omega) rfl (by omega)).trans rfl⟩
  · exact ⟨fun k => [3, 4, 5, 6, 0, 1, 2].getD k 0, fun k => [0, 0, 0, -1, 0, 0, 0].getD k 0, fun k => [4, 4, 4, 4, 5, 5, 5].getD k 0, by decide, fun H => (c13_3 (-1) 4 false (by omega) rfl (by omega)).trans rfl⟩
  · exact ⟨fun k => [0, 1, 2, 3, 4, 5, 6].getD k 0, fun k => [0, 0, 0, 0, 0, 0, 0].getD k 0, fun k => [4, 4, 4, 4, 4, 4, 4].getD k 0, by decide, fun H => (c13_0 0 4 false (by omega) rfl (by omega)).trans rfl⟩
  · exact ⟨fun k => [4, 5, 6, 0, 1, 2, 3].getD k 0, fun k => [0, 0, 0, 0, 0, 0, 1].getD k 0, fun k => [4, 4, 4, 5, 5, 5, 5].getD k 0, by decide, fun H => (c13_4 1 4 false (by omega) rfl (by omega)).trans rfl⟩
  · exact ⟨fun k => [1, 2, 3, 4, 5, 6, 0].getD k 0, fun k => [0, 0, 1, 0, 0, 0, 1].getD k 0, fun k => [4, 4, 4, 4, 4, 4, 5].getD k 0, by decide, fun H => (c13_1 2 4 false (by omega) rfl (by omega)).trans rfl⟩
  · exact ⟨fun k => [5, 6, 0, 1, 2, 3, 4].getD k 0, fun k => [0, 0, 1, 0, 0, 1, 1].getD k 0, fun k => [4, 4, 5, 5, 5, 5, 5].getD k 0, by decide, fun H => (c13_5 3 4 false (by omega) rfl (by omega)).trans rfl⟩
  · exact ⟨fun k => [2, 3, 4, 5, 6, 0, 1].getD k 0, fun k => [0, 1, 1, 0, 0, 1, 1].getD k 0, fun k => [4, 4, 4, 4, 4, 5, 5].getD k 0, by decide, fun H => (c13_2 4 4 false (by omega) rfl (by omega)).trans rfl⟩
  · exact ⟨fun k => [6, 0, 1, 2, 3, 4, 5].getD k 0, fun k => [0, 1, 1, 0, 1, 1, 1].getD k 0, fun k => [4, 5, 5, 5, 5, 5, 5].getD k 0, by decide, fun H => (c13_6 5 4 false (by omega) rfl (by omega)).trans rfl⟩
  · exact ⟨fun k => [3, 4, 5, 6, 0, 1, 2].getD k 0, fun k => [1, 1, 1, 0, 1, 1, 1].getD k 0, fun k => [4, 4, 4, 4, 5, 5, 5].getD k 0, by decide, fun H => (c13_3 6 4 false (by omega) rfl (by omega)).trans rfl⟩
  · exact ⟨fun k => [0, 1, 2, 3, 4, 5, 6].getD k 0, fun k => [1, 1, 1, 1, 1, 1, 1].getD k 0, fun k => [4, 4, 4, 4, 4, 4, 4].getD k 0, by decide, fun H => (c13_0 7 4 false (by omega) rfl (by omega)).trans rfl⟩

theorem l5 (x s m : Int) (hx : 0 ≤ x ∧ x ≤ 255) : call tbl 5 [.int .u8 x, .agg [.i s, .i m]] H = some (.bool true) := by
  refine (call_start (show tbl 5 = some a5 from rfl)).trans ?_
  have hf : -7 ≤ x % 15 - 7 ∧ x % 15 - 7 ≤ 7 := by omega
  by_cases ho : outR s m
  · unfold a5
    simp (config := { maxSteps := 10000000 }) (disch := omega) only [↓G_seq, ↓G_skip, ↓G_ret, ↓G_nil, ↓G_blk, ↓G_exit, ↓G_scope, ↓G_region, ↓G_block, ↓G_cond, ↓Gx_blk, ↓Gx_code, ↓Gx_ops, ↓G_ops_nil, ↓G_op, Gv_some, ↓G_gop, Gw_tt, Gw_ff, Gw_tf, Gw_ft, Gw_tup, Gc_true, Gc_false, dec_t, dec_f, killAll, ↓get_setS, ↓get_setN, pick_ev, evalOp, ev, evs, Ab.get, rget_rset, b_add, b_sub, b_mul, b_eql, b_neq, b_lss, b_leq, b_gtr, b_geq, b_rem, b_quo, wrap_i64, wrap_u8, one, Option.map_some, Option.bind_some, Option.map_none, Option.bind_none, asB, finish, resVs, resV, outVs, outV, ownsLast, tupOf, callV, takeIn, Ab.settle, V.shift, V.shifts, List.append_nil, List.nil_append, List.cons_append, List.map_cons, List.map_nil, List.all_cons, List.all_nil, Bool.and_true, Bool.true_and, Bool.and_self, Bool.false_and, Bool.and_false, List.getElem?_cons_zero, List.getElem?_cons_succ, Nat.reduceEqDiff, reduceCtorEq, ↓reduceIte, Nat.succ_ne_self, Nat.reduceBEq, Nat.reduceBNe, decide_true, decide_false, Bool.not_true, Bool.not_false, bne_self_eq_false, Bool.false_eq_true, Int.reduceNeg, Int.reduceAdd, Int.reduceSub, Int.reduceMul, Int.reduceLT, Int.reduceLE, Int.reduceEq, Int.reduceTMod, Int.reduceTDiv, Nat.one_ne_zero, Nat.zero_ne_one, ne_eq, not_false_eq_true, not_true_eq_false, idxV, elemV, pick3, V.cells, fillV, splice, chop, arrV, addOff, loadV, storeV, Ab.rowAt, rget, rset, V.scalar, V.pure, lenV, strLenV, mksV, mmV, Int.reduceToNat, Nat.reduceMul, Nat.reduceAdd, Nat.reduceSub, Nat.reduceLT, Nat.reduceLeDiff, Nat.reduceGT, and_true, true_and, and_self, and_false, false_and, List.length_cons, List.length_nil, List.take_succ_cons, List.take_zero, List.drop_succ_cons, List.drop_zero, Int.reduceAbs, Int.reduceGE, Int.reduceGT, Nat.zero_le, Nat.le_refl, Nat.lt_irrefl, Bool.not_eq_true, Bool.or_true, Bool.or_false, Bool.true_or, Bool.false_or, List.set_cons_zero, List.set_cons_succ, List.getD_cons_zero, List.getD_cons_succ, List.replicate, List.flatten_cons, List.flatten_nil, Int.cast_ofNat_Int, Nat.zero_add, Nat.add_zero, Nat.zero_mul, Nat.mul_one, Nat.one_mul, Nat.mul_zero, c18_out (x % 15 - 7) s m hf ho, c14, tmod_pos]
  · unfold outR at ho
    have hn := norm_in (x % 15 - 7 + (7 * m - 12 * s)) (by omega)
    have hq := norm_mod (x % 15 - 7 + (7 * m - 12 * s)) (by omega)
    have h1 : ∀ H, call tbl 18 [.i (x % 15 - 7), .agg [.i s, .i m]] H = _ := fun H => c18 (x % 15 - 7) s m hf (by omega) (by omega)
    generalize hN : normR (x % 15 - 7 + (7 * m - 12 * s)) = n at *
    obtain ⟨s1, a1, o1, p, hA⟩ := scale4 (x % 15 - 7) hf
    obtain ⟨s2, a2, o2, q, hB⟩ := scale4 n hn
    obtain ⟨u1, hu1⟩ : ∃ u : Nat → Int, ∀ k, u k = baseR (s1 k) + a1 k + 12 * (o1 k + 1) := ⟨_, fun _ => rfl⟩
    obtain ⟨u2, hu2⟩ : ∃ u : Nat → Int, ∀ k, u k = baseR (s2 k) + a2 k + 12 * (o2 k + 1) := ⟨_, fun _ => rfl⟩
    have n1 : ∀ k, k < 7 → ∀ H, call tbl 17 [.agg [.i (s1 k), .i (a1 k), .i (o1 k)]] H = some (.i (u1 k)) := fun k hk H => by
      obtain ⟨x1, x2, x3, x4, x5⟩ := p k hk
      rw [hu1 k]
      exact c17 _ _ _ x1 (by omega) (by omega)
    have n2 : ∀ k, k < 7 → ∀ H, call tbl 17 [.agg [.i (s2 k), .i (a2 k), .i (o2 k)]] H = some (.i (u2 k)) := fun k hk H => by
      obtain ⟨x1, x2, x3, x4, x5⟩ := q k hk
      rw [hu2 k]
      exact c17 _ _ _ x1 (by omega) (by omega)
    have w1 : ∀ k, k < 7 → IntKind.i64.wrap (u2 k - u1 k) = u2 k - u1 k := fun k hk => by
      obtain ⟨x1, x2, x3, x4, x5⟩ := p k hk
      obtain ⟨y1, y2, y3, y4, y5⟩ := q k hk
      exact wrap_i64 (by rw [hu1, hu2]; omega)
    have w2 : ∀ k, k < 7 → IntKind.i64.wrap (u2 k - u1 k - m) = u2 k - u1 k - m := fun k hk => by
      obtain ⟨x1, x2, x3, x4, x5⟩ := p k hk
      obtain ⟨y1, y2, y3, y4, y5⟩ := q k hk
      exact wrap_i64 (by rw [hu1, hu2]; omega)
    have t : ∀ k, k < 7 → (u2 k - u1 k - m).tmod 12 = 0 := fun k hk => by
      obtain ⟨x1, x2, x3, x4, x5⟩ := p k hk
      obtain ⟨y1, y2, y3, y4, y5⟩ := q k hk
      exact t12 _ (by rw [hu1, hu2]; omega)
    clear hu1 hu2 p q hq hN
    have N10 := n1 0 (by omega); have N11 := n1 1 (by omega); have N12 := n1 2 (by omega); have N13 := n1 3 (by omega); have N14 := n1 4 (by omega); have N15 := n1 5 (by omega); have N16 := n1 6 (by omega)
    have N20 := n2 0 (by omega); have N21 := n2 1 (by omega); have N22 := n2 2 (by omega); have N23 := n2 3 (by omega); have N24 := n2 4 (by omega); have N25 := n2 5 (by omega); have N26 := n2 6 (by omega)
    have X0 := w1 0 (by omega); have X1 := w1 1 (by omega); have X2 := w1 2 (by omega); have X3 := w1 3 (by omega); have X4 := w1 4 (by omega); have X5 := w1 5 (by omega); have X6 := w1 6 (by omega)
    have Y0 := w2 0 (by omega); have Y1 := w2 1 (by omega); have Y2 := w2 2 (by omega); have Y3 := w2 3 (by omega); have Y4 := w2 4 (by omega); have Y5 := w2 5 (by omega); have Y6 := w2 6 (by omega)
    have T0 := t 0 (by omega); have T1 := t 1 (by omega); have T2 := t 2 (by omega); have T3 := t 3 (by omega); have T4 := t 4 (by omega); have T5 := t 5 (by omega); have T6 := t 6 (by omega)
    unfold a5
    simp (config := { maxSteps := 10000000 }) (disch := omega) only [↓G_seq, ↓G_skip, ↓G_ret, ↓G_nil, ↓G_blk, ↓G_exit, ↓G_scope, ↓G_region, ↓G_block, ↓G_cond, ↓Gx_blk, ↓Gx_code, ↓Gx_ops, ↓G_ops_nil, ↓G_op, Gv_some, ↓G_gop, Gw_tt, Gw_ff, Gw_tf, Gw_ft, Gw_tup, Gc_true, Gc_false, dec_t, dec_f, killAll, ↓get_setS, ↓get_setN, pick_ev, evalOp, ev, evs, Ab.get, rget_rset, b_add, b_sub, b_mul, b_eql, b_neq, b_lss, b_leq, b_gtr, b_geq, b_rem, b_quo, wrap_i64, wrap_u8, one, Option.map_some, Option.bind_some, Option.map_none, Option.bind_none, asB, finish, resVs, resV, outVs, outV, ownsLast, tupOf, callV, takeIn, Ab.settle, V.shift, V.shifts, List.append_nil, List.nil_append, List.cons_append, List.map_cons, List.map_nil, List.all_cons, List.all_nil, Bool.and_true, Bool.true_and, Bool.and_self, Bool.false_and, Bool.and_false, List.getElem?_cons_zero, List.getElem?_cons_succ, Nat.reduceEqDiff, reduceCtorEq, ↓reduceIte, Nat.succ_ne_self, Nat.reduceBEq, Nat.reduceBNe, decide_true, decide_false, Bool.not_true, Bool.not_false, bne_self_eq_false, Bool.false_eq_true, Int.reduceNeg, Int.reduceAdd, Int.reduceSub, Int.reduceMul, Int.reduceLT, Int.reduceLE, Int.reduceEq, Int.reduceTMod, Int.reduceTDiv, Nat.one_ne_zero, Nat.zero_ne_one, ne_eq, not_false_eq_true, not_true_eq_false, idxV, elemV, pick3, V.cells, fillV, splice, chop, arrV, addOff, loadV, storeV, Ab.rowAt, rget, rset, V.scalar, V.pure, lenV, strLenV, mksV, mmV, Int.reduceToNat, Nat.reduceMul, Nat.reduceAdd, Nat.reduceSub, Nat.reduceLT, Nat.reduceLeDiff, Nat.reduceGT, and_true, true_and, and_self, and_false, false_and, List.length_cons, List.length_nil, List.take_succ_cons, List.take_zero, List.drop_succ_cons, List.drop_zero, Int.reduceAbs, Int.reduceGE, Int.reduceGT, Nat.zero_le, Nat.le_refl, Nat.lt_irrefl, Bool.not_eq_true, Bool.or_true, Bool.or_false, Bool.true_or, Bool.false_or, List.set_cons_zero, List.set_cons_succ, List.getD_cons_zero, List.getD_cons_succ, List.replicate, List.flatten_cons, List.flatten_nil, Int.cast_ofNat_Int, Nat.zero_add, Nat.add_zero, Nat.zero_mul, Nat.mul_one, Nat.one_mul, Nat.mul_zero, ↓G_loop, h1, hA, hB, c14, tmod_pos, N10, N11, N12, N13, N14, N15, N16, N20, N21, N22, N23, N24, N25, N26, X0, X1, X2, X3, X4, X5, X6, Y0, Y1, Y2, Y3, Y4, Y5, Y6, T0, T1, T2, T3, T4, T5, T6]

end Go.Proofs.Ytfpkelnakagdfaa

/-
  The laws PagebreakChecks and PagebreakCosts as equations.
-/
import Derived.Test.YtgghbckhdchcaaaS33E
namespace Go.Proofs.Ytgghbckhdchcaaa
open Go Go.Ab
set_option linter.unusedVariables false
set_option linter.unnecessarySimpa false
set_option linter.unusedSimpArgs false
set_option maxRecDepth 100000
variable {H : List (List Row)}

theorem c11 : call tbl 11 [] H = some (.bool true) := call_of 60 (by kernel_rfl)

/-- The first n of a law's list. -/
theorem cut {v : V} {l : List Sy} (hv : SlV 4 v (E4 l)) (n : Nat) : ∃ v' m, subV 4 v none (some (.i (if (n : Int) < (l.length : Nat) then (n : Int) else (l.length : Nat)))) none = some v' ∧ SlV 4 v' (E4 m) ∧ m.length ≤ n ∧ m = l.take n := by
  obtain ⟨v', h1, h2⟩ := hv.sub (lo := none) (hi := some (.i ((min n l.length : Nat)))) (a := 0) (b := min n l.length) (.inl ⟨rfl, rfl⟩) (.inr rfl) (by omega) (by rw [E4_len]; omega)
  refine ⟨v', l.take (min n l.length), ?_, ?_, by simp; omega, ?_⟩
  · rw [← h1]
    congr 4
    by_cases c : n < l.length
    · rw [if_pos (by omega), Nat.min_eq_left (by omega)]
    · rw [if_neg (by omega), Nat.min_eq_right (by omega)]
  · simpa [E4, List.map_take] using h2
  · by_cases c : n ≤ l.length
    · rw [Nat.min_eq_left c]
    · rw [Nat.min_eq_right (by omega), List.take_of_length_le (by omega), List.take_of_length_le (by omega)]

def long : List Sy := List.replicate 1025 ⟨0, 0, 0, 0⟩
theorem mks3 {L : List Row} : mksV L 2 4 [V.int .i64 0, .int .i64 0, .int .i64 0, .int .i64 0] 32 (.i 1025) (.i 1025) = some (.ref 0 2 ((rget L 2).ver + 1) 4 0 1025, rset L 2 ⟨(rget L 2).ver + 1, 4, E4 long⟩) := by
  simp only [mksV]
  rw [if_pos ⟨by omega, by omega, by omega, by omega, rfl, rfl⟩]
  simp [E4, long, Sy.cells]

theorem c12_long {d s ver : Nat} {ph pt : Int} : call tbl 12 [.ref d s ver 4 0 1025, .agg [.i ph, .i pt]] H = some (.i 9) := by
  refine (call_start (show tbl 12 = some a12 from rfl)).trans ?_
  unfold a12
  simp (config := { maxSteps := 10000000 }) (disch := omega) only [finF, frzP, fillW, beq_self_eq_true, Bool.true_beq, Bool.false_beq, ↓G_seq, ↓G_skip, ↓G_ret, ↓G_nil, ↓G_blk, ↓G_exit, ↓G_scope, ↓G_region, ↓G_block, ↓G_cond, ↓Gx_blk, ↓Gx_code, ↓Gx_ops, ↓G_ops_nil, ↓G_op, Gv_some, ↓G_gop, Gw_tt, Gw_ff, Gw_tf, Gw_ft, Gw_tup, Gc_true, Gc_false, dec_t, dec_f, killAll, ↓get_setS, ↓get_setN, pick_ev, evalOp, ev, evs, Ab.get, rget_rset, b_add, b_sub, b_mul, b_eql, b_neq, b_lss, b_leq, b_gtr, b_geq, b_rem, b_quo, wrap_i64, wrap_u8, one, Option.map_some, Option.bind_some, Option.map_none, Option.bind_none, asB, finish, resVs, resV, outVs, ownsLast, tupOf, callV, V.shift, V.shifts, List.append_nil, List.nil_append, List.cons_append, List.map_cons, List.map_nil, List.all_cons, List.all_nil, Bool.and_true, Bool.true_and, Bool.and_self, Bool.false_and, Bool.and_false, List.getElem?_cons_zero, List.getElem?_cons_succ, Nat.reduceEqDiff, reduceCtorEq, ↓reduceIte, Nat.succ_ne_self, Nat.reduceBEq, Nat.reduceBNe, eq_self, or_true, true_or, or_false, false_or, decide_true, decide_false, Bool.not_true, Bool.not_false, bne_self_eq_false, Bool.false_eq_true, Int.reduceNeg, Int.reduceAdd, Int.reduceSub, Int.reduceMul, Int.reduceLT, Int.reduceLE, Int.reduceEq, Int.reduceTMod, Int.reduceTDiv, Nat.one_ne_zero, Nat.zero_ne_one, ne_eq, not_false_eq_true, not_true_eq_false, idxV, pick3, V.cells, fillV, splice, chop, arrV, addOff, loadV, storeV, Ab.rowAt, rget, rset, V.scalar, V.pure, strLenV, mksV, mmV, Int.reduceToNat, Nat.reduceMul, Nat.reduceAdd, Nat.reduceSub, Nat.reduceLT, Nat.reduceLeDiff, Nat.reduceGT, and_true, true_and, and_self, and_false, false_and, List.length_cons, List.length_nil, List.take_succ_cons, List.take_zero, List.drop_succ_cons, List.drop_zero, Int.reduceAbs, Int.reduceGE, Int.reduceGT, Nat.zero_le, Nat.le_refl, Nat.lt_irrefl, Bool.not_eq_true, Bool.or_true, Bool.or_false, Bool.true_or, Bool.false_or, List.set_cons_zero, List.set_cons_succ, List.getD_cons_zero, List.getD_cons_succ, List.replicate, List.flatten_cons, List.flatten_nil, Int.cast_ofNat_Int, Nat.zero_add, Nat.add_zero, Nat.zero_mul, Nat.mul_one, Nat.one_mul, Nat.mul_zero, len_nil, len_any, len_full, len_ref, el_any, el_full, el_ref, ti_own_f, ti_own_t, ti_any, ti_full, ti_bool, ti_int, ti_str, ti_nilsl, ti_nilptr, ti_nilfn, ti_fn, ti_agg, ti_ref, ti_ptr, ti_tup0, ti_tup_own_f, ti_tup_own_t, ti_tup_any, ti_tup_full, ti_tup_bool, ti_tup_int, ti_tup_str, ti_tup_nilsl, ti_tup_agg, ti_tup_fn, st_own, st_any, st_full, st_bool, st_int, st_str, st_nilsl, st_nilptr, st_nilfn, st_fn, st_agg, st_ref, st_ptr, ov_any, ov_full, ov_bool, ov_int, ov_str, ov_nilsl, ov_nilptr, ov_nilfn, ov_fn0, ov_agg, ov_ref0, ov_refS, fn_some, fn_none, fz_nil, fz_cons, fz_lnil, fz_lcons, fz_agg, fz_any, fz_full, fz_bool, fz_int, fz_str, fz_nilsl, fz_nilptr, fz_ref0, fz_vany, fz_vfull, fz_vbool, fz_vint, fz_vstr, fz_vnilsl, fz_vnilptr, fz_vref0, ov_ptrS, nn, ite_ov, Int.toNat_natCast, Nat.zero_lt_succ]

theorem l3 {v : V} {l : List Sy} {ph pt : Int} (hm : l.length ≤ 9223372036854775807) (hv : SlV 4 v (E4 l)) : call tbl 3 [v, .agg [.i ph, .i pt]] H = some (.bool true) := by
  refine (call_start (show tbl 3 = some a3 from rfl)).trans ?_
  have hlen := hv.len
  rw [E4_len] at hlen
  obtain ⟨v', m, hs, hv', hml, _⟩ := cut hv 30
  simp only [Int.cast_ofNat_Int] at hs
  have h12 := fun H => c12 (H := H) (ph := ph) (pt := pt) (l := m) (by omega) hv'
  have h13 := fun H => c13 (H := H) (ph := ph) (pt := pt) (l := m) (by omega) hv'
  have hsh := hv'.sh
  have m3 := fun L => mks3 (L := L)
  generalize errC m ph pt = e at *
  generalize E4 long = Z at *
  unfold a3
  simp (config := { maxSteps := 10000000 }) (disch := omega) only [finF, frzP, fillW, beq_self_eq_true, Bool.true_beq, Bool.false_beq, ↓G_seq, ↓G_skip, ↓G_ret, ↓G_nil, ↓G_blk, ↓G_exit, ↓G_scope, ↓G_region, ↓G_block, ↓G_cond, ↓Gx_blk, ↓Gx_code, ↓Gx_ops, ↓G_ops_nil, ↓G_op, Gv_some, ↓G_gop, Gw_tt, Gw_ff, Gw_tf, Gw_ft, Gw_tup, Gc_true, Gc_false, dec_t, dec_f, killAll, ↓get_setS, ↓get_setN, pick_ev, evalOp, ev, evs, Ab.get, rget_rset, b_add, b_sub, b_mul, b_eql, b_neq, b_lss, b_leq, b_gtr, b_geq, b_rem, b_quo, wrap_i64, wrap_u8, one, Option.map_some, Option.bind_some, Option.map_none, Option.bind_none, asB, finish, resVs, resV, outVs, ownsLast, tupOf, callV, V.shift, V.shifts, List.append_nil, List.nil_append, List.cons_append, List.map_cons, List.map_nil, List.all_cons, List.all_nil, Bool.and_true, Bool.true_and, Bool.and_self, Bool.false_and, Bool.and_false, List.getElem?_cons_zero, List.getElem?_cons_succ, Nat.reduceEqDiff, reduceCtorEq, ↓reduceIte, Nat.succ_ne_self, Nat.reduceBEq, Nat.reduceBNe, eq_self, or_true, true_or, or_false, false_or, decide_true, decide_false, Bool.not_true, Bool.not_false, bne_self_eq_false, Bool.false_eq_true, Int.reduceNeg, Int.reduceAdd, Int.reduceSub, Int.reduceMul, Int.reduceLT, Int.reduceLE, Int.reduceEq, Int.reduceTMod, Int.reduceTDiv, Nat.one_ne_zero, Nat.zero_ne_one, ne_eq, not_false_eq_true, not_true_eq_false, idxV, pick3, V.cells, fillV, splice, chop, arrV, addOff, loadV, storeV, Ab.rowAt, rget, rset, V.scalar, V.pure, strLenV, mmV, Int.reduceToNat, Nat.reduceMul, Nat.reduceAdd, Nat.reduceSub, Nat.reduceLT, Nat.reduceLeDiff, Nat.reduceGT, and_true, true_and, and_self, and_false, false_and, List.length_cons, List.length_nil, List.take_succ_cons, List.take_zero, List.drop_succ_cons, List.drop_zero, Int.reduceAbs, Int.reduceGE, Int.reduceGT, Nat.zero_le, Nat.le_refl, Nat.lt_irrefl, Bool.not_eq_true, Bool.or_true, Bool.or_false, Bool.true_or, Bool.false_or, List.set_cons_zero, List.set_cons_succ, List.getD_cons_zero, List.getD_cons_succ, List.flatten_cons, List.flatten_nil, Int.cast_ofNat_Int, Nat.zero_add, Nat.add_zero, Nat.zero_mul, Nat.mul_one, Nat.one_mul, Nat.mul_zero, len_nil, len_any, len_full, len_ref, el_any, el_full, el_ref, ti_own_f, ti_own_t, ti_any, ti_full, ti_bool, ti_int, ti_str, ti_nilsl, ti_nilptr, ti_nilfn, ti_fn, ti_agg, ti_ref, ti_ptr, ti_tup0, ti_tup_own_f, ti_tup_own_t, ti_tup_any, ti_tup_full, ti_tup_bool, ti_tup_int, ti_tup_str, ti_tup_nilsl, ti_tup_agg, ti_tup_fn, st_own, st_any, st_full, st_bool, st_int, st_str, st_nilsl, st_nilptr, st_nilfn, st_fn, st_agg, st_ref, st_ptr, ov_any, ov_full, ov_bool, ov_int, ov_str, ov_nilsl, ov_nilptr, ov_nilfn, ov_fn0, ov_agg, ov_ref0, ov_refS, fn_some, fn_none, fz_nil, fz_cons, fz_lnil, fz_lcons, fz_agg, fz_any, fz_full, fz_bool, fz_int, fz_str, fz_nilsl, fz_nilptr, fz_ref0, fz_vany, fz_vfull, fz_vbool, fz_vint, fz_vstr, fz_vnilsl, fz_vnilptr, fz_vref0, ov_ptrS, nn, ite_ov, Int.toNat_natCast, hlen, hs, c11, h12, h13, c12_long, hsh, m3, Nat.zero_lt_succ]

theorem E4_of (els : List (List V)) (h : ∀ e ∈ els, fitCs [.int .i64, .int .i64, .int .i64, .int .i64] e) : ∃ l, els = E4 l := by
  induction els with
  | nil => exact ⟨[], rfl⟩
  | cons e es ih =>
    obtain ⟨l, rfl⟩ := ih (fun e he => h e (by simp [he]))
    have h0 := h e (by simp)
    obtain ⟨_, _, rfl, ⟨b0, rfl, _⟩, ⟨_, _, rfl, ⟨b1, rfl, _⟩, ⟨_, _, rfl, ⟨b2, rfl, _⟩, ⟨_, _, rfl, ⟨b3, rfl, _⟩, rfl⟩⟩⟩⟩ := h0
    exact ⟨⟨b0, b1, b2, b3⟩ :: l, rfl⟩
theorem arg4 {v : V} (h : v = .nilsl ∨ ∃ els, v = .sl .any 4 els ∧ els.length ≤ maxLen ∧ ∀ e ∈ els, fitCs [.int .i64, .int .i64, .int .i64, .int .i64] e) :
    ∃ l, SlV 4 v (E4 l) ∧ l.length ≤ 9223372036854775807 := by
  rcases h with rfl | ⟨els, rfl, hlen, hels⟩
  · exact ⟨[], .nil, by simp⟩
  · obtain ⟨l, rfl⟩ := E4_of els hels
    exact ⟨l, .any, by rw [E4_len] at hlen; exact Nat.le_trans hlen (by decide)⟩
theorem I1_of (els : List (List V)) (h : ∀ e ∈ els, fitCs [.int .i64] e) : ∃ l, els = I1 l := by
  induction els with
  | nil => exact ⟨[], rfl⟩
  | cons e es ih =>
    obtain ⟨l, rfl⟩ := ih (fun e he => h e (by simp [he]))
    have h0 := h e (by simp)
    obtain ⟨_, _, rfl, ⟨b0, rfl, _⟩, rfl⟩ := h0
    exact ⟨b0 :: l, rfl⟩
theorem arg1 {v : V} (h : v = .nilsl ∨ ∃ els, v = .sl .any 1 els ∧ els.length ≤ maxLen ∧ ∀ e ∈ els, fitCs [.int .i64] e) :
    ∃ l, SlV 1 v (I1 l) ∧ l.length ≤ 9223372036854775807 := by
  rcases h with rfl | ⟨els, rfl, hlen, hels⟩
  · exact ⟨[], .nil, by simp⟩
  · obtain ⟨l, rfl⟩ := I1_of els hels
    exact ⟨l, .any, by rw [I1_len] at hlen; exact Nat.le_trans hlen (by decide)⟩

end Go.Proofs.Ytgghbckhdchcaaa

/-
  The law AccidentalNeeded as an equation.
-/
import Derived.Test.YthnjcaioeaepjaaS10N
namespace Go.Proofs.Ythnjcaioeaepjaa
open Go Go.Ab
set_option linter.unusedVariables false
set_option linter.unnecessarySimpa false
set_option linter.unusedSimpArgs false
set_option maxRecDepth 100000
variable {H : List (List Row)}

theorem M2_set (l : List (Int × Bool)) (i : Nat) (x : Int × Bool) : (M2 l).set i [.i x.1, .bool x.2] = M2 (l.set i x) := by simp [M2, List.map_set]
theorem out_own {sz : Nat} {els : List (List V)} (h : els ≠ []) : outAcc sz els = .sl .own sz els := by unfold outAcc; rw [if_neg h]
theorem ne_of_len {α : Type} {l : List α} (h : 0 < l.length) : l ≠ [] := by intro z; subst z; simp at h

set_option maxHeartbeats 2000000 in
theorem l11 {f a : Int} {v : V} {l : List Nt} (hm : l.length ≤ 9223372036854775807) (hv : SlV 6 v (E6 l)) (ha : 0 ≤ a ∧ a ≤ 255) : call tbl 11 [.i f, v, .int .u8 a] H = some (.bool true) := by
  refine (call_start (show tbl 11 = some a11 from rfl)).trans ?_
  have hlen := hv.len
  rw [E6_len] at hlen
  by_cases hl : 30 < l.length
  · unfold a11
    simp (config := { maxSteps := 10000000 }) (disch := omega) only [↓G_seq, ↓G_ret, ↓G_region, ↓G_cond, ↓G_ops_nil, ↓G_op, Gv_some, ↓G_gop, Gw_ff, Gw_ft, Gc_true, dec_t, killAll, ↓get_setS, evalOp, ev, evs, Ab.get, b_gtr, one, Option.map_some, Option.bind_some, asB, finish, resVs, resV, outVs, ownsLast, tupOf, callV, V.shifts, List.append_nil, List.all_nil, List.getElem?_cons_zero, List.getElem?_cons_succ, Nat.reduceEqDiff, ↓reduceIte, Nat.succ_ne_self, Nat.reduceBNe, Bool.not_true, Bool.false_eq_true, ti_bool, ov_bool, fn_some, fz_nil, c13, hlen]
    done
  by_cases hz : l.length = 0
  · unfold a11
    simp (config := { maxSteps := 10000000 }) (disch := omega) only [↓G_seq, ↓G_ret, ↓G_region, ↓G_cond, ↓G_ops_nil, ↓G_op, Gv_some, ↓G_gop, Gw_ff, Gw_ft, Gc_true, dec_t, dec_f, killAll, ↓get_setS, evalOp, ev, evs, Ab.get, b_eql, b_gtr, one, Option.map_some, Option.bind_some, asB, finish, resVs, resV, outVs, ownsLast, tupOf, callV, V.shifts, List.append_nil, List.all_nil, List.getElem?_cons_zero, List.getElem?_cons_succ, Nat.reduceEqDiff, ↓reduceIte, Nat.succ_ne_self, Nat.reduceBNe, Bool.not_true, Bool.false_eq_true, ti_bool, ov_bool, fn_some, fz_nil, c13, hlen]
    done
  have h16 := fun H => c16 (H := H) f hm hv
  have hsh' := hv.sh
  have hfz := hv.fz
  by_cases he : errR f l = 0
  case neg =>
    generalize errR f l = e at *
    unfold a11
    simp (config := { maxSteps := 10000000 }) (disch := omega) only [↓G_seq, ↓G_ret, ↓G_region, ↓G_cond, ↓G_ops_nil, ↓G_op, Gv_some, ↓G_gop, Gw_ff, Gc_true, dec_f, killAll, ↓get_setS, evalOp, ev, evs, Ab.get, b_eql, b_neq, b_gtr, one, Option.map_some, Option.bind_some, asB, finish, resVs, resV, outVs, ownsLast, tupOf, callV, V.shift, V.shifts, List.append_nil, List.all_nil, List.getElem?_cons_zero, List.getElem?_cons_succ, Nat.reduceEqDiff, reduceCtorEq, ↓reduceIte, Nat.succ_ne_self, Nat.reduceBNe, Bool.not_true, Bool.not_false, Bool.false_eq_true, ti_bool, ti_int, ov_bool, fn_some, fz_nil, fz_cons, fz_int, c13, hlen, hsh', hfz, h16]
    done
  rw [he] at h16
  have hE6 := E6_len l
  have h15 := fun H => (c15 (H := H) (by omega) hv).trans (by rw [out_own (ne_of_len (by rw [hE6]; omega))])
  have hp6 := E6_pure l
  have hll := (dispR_len l l (startR f)).1
  have h14 := fun H => (c14 (H := H) he (v := .sl .any 6 (E6 l)) .any).trans (by rw [out_own (ne_of_len (by rw [M2_len, hll]; omega))])
  obtain ⟨hf, hl2, he2⟩ := errR_ok he
  have hin : ∀ n ∈ l, inN n := fun n hn => ((errL_sorted l 0 he2).2 n hn).2.1
  have hml := M2_len (dispR l l (startR f)).1
  rw [hll] at hml
  have hmod : a.tmod (l.length : Nat) = a % (l.length : Nat) := tmod_pos ha.1
  obtain ⟨k, hk⟩ : ∃ k : Nat, (k : Int) = a % (l.length : Nat) := ⟨(a % (l.length : Nat)).toNat, by have := Int.emod_nonneg a (b := (l.length : Nat)) (by omega); omega⟩
  have hkl : k < l.length := by have := Int.emod_lt_of_pos a (b := (l.length : Nat)) (by omega); omega
  rw [← hk] at hmod
  clear hk
  obtain ⟨n, hn⟩ : ∃ n, l[k]? = some n := ⟨_, List.getElem?_eq_getElem hkl⟩
  obtain ⟨m, hM⟩ : ∃ m, (dispR l l (startR f)).1[k]? = some m := ⟨_, List.getElem?_eq_getElem (by omega)⟩
  have hE := hv.el (E6_get l k n hn)
  have hMk := M2_get _ k m hM
  have h26 := fun H => c26 (H := H) (by omega) hv hn
  have hrw := read_without l l (startR f) k n m (startR_len f) hin hn
  have hm5 := marks_in l l (startR f) hin
  generalize hMM : (dispR l l (startR f)).1 = M at *
  have hM' : (M.set k (0, false)).length = l.length := by simpa using hll
  have h25 := fun H => (c25 (H := H) (by omega) hM' hv (w := .sl .any 2 (M2 (M.set k (0, false)))) .any).trans (by rw [out_own (ne_of_len (by rw [E7_len, mkP_len hM']; omega))])
  have hset := M2_set M k (0, false)
  have hp2 := M2_pure (M.set k (0, false))
  have hml2 := M2_len (M.set k (0, false))
  rw [hM'] at hml2
  have htk : List.take (M2 M).length (M2 (M.set k (0, false))) = M2 (M.set k (0, false)) := List.take_of_length_le (by omega)
  have hzl := mkP_len hM'
  have hq : errQ f (List.zipWith mkP l (M.set k (0, false))) = 0 := by
    rw [errQ_0 (by unfold guardR; rw [if_neg (by omega), if_neg (by rw [hzl]; omega)])]
    refine errP_places l _ 0 he2 hM' (fun x hx => ?_)
    rcases List.mem_or_eq_of_mem_set hx with h | h
    · exact hm5 x h
    · subst h; simp
  have h23 := fun H => (c23 (H := H) hq (v := .sl .any 7 (E7 (List.zipWith mkP l (M.set k (0, false))))) .any).trans (by rw [out_own (ne_of_len (by rw [I1_len, readR_len, hzl]; omega))])
  have hp7 := E7_pure (List.zipWith mkP l (M.set k (0, false)))
  have hrl : (I1 (readR (List.zipWith mkP l (M.set k (0, false))) (startR f))).length = l.length := by rw [I1_len, readR_len, hzl]
  clear hin hm5 hq
  obtain ⟨m1, m2⟩ := m
  by_cases b1 : m1 = 0
  · clear hrw
    unfold a11
    simp (config := { maxSteps := 10000000 }) (disch := omega) only [↓G_seq, ↓G_skip, ↓G_ret, ↓G_region, ↓G_cond, ↓G_ops_nil, ↓G_op, Gv_some, ↓G_gop, Gw_ff, Gw_ft, Gc_true, Gc_false, dec_t, dec_f, killAll, ↓get_setS, evalOp, ev, evs, Ab.get, b_eql, b_neq, b_gtr, b_rem, wrap_i64, one, Option.map_some, Option.bind_some, asB, finish, resVs, resV, outVs, ownsLast, tupOf, callV, V.shift, V.shifts, List.append_nil, List.map_cons, List.map_nil, List.all_nil, Bool.true_and, Bool.and_self, List.getElem?_cons_zero, List.getElem?_cons_succ, Nat.reduceEqDiff, reduceCtorEq, ↓reduceIte, Nat.succ_ne_self, Nat.reduceBNe, decide_true, Bool.not_true, Bool.false_eq_true, Int.reduceAdd, pick3, addOff, loadV, Ab.rowAt, rget, rset, Nat.reduceAdd, true_and, and_self, List.drop_zero, Nat.le_refl, List.getD_cons_zero, Nat.zero_add, Nat.add_zero, len_ref, el_ref, ti_own_t, ti_bool, ti_int, ti_tup_own_t, st_int, ov_bool, fn_some, fz_nil, fz_cons, fz_int, fz_ref0, nn, ite_ov, Int.toNat_natCast, c13, hlen, hsh', hfz, h16, h15, h14, hp6, List.take_length, hmod, hMk, Nat.zero_lt_succ, b1]
    done
  by_cases b2 : n.h = true
  · clear hrw
    unfold a11
    simp (config := { maxSteps := 10000000 }) (disch := omega) only [↓G_seq, ↓G_skip, ↓G_ret, ↓G_region, ↓G_cond, ↓G_ops_nil, ↓G_op, Gv_some, ↓G_gop, Gw_ff, Gw_ft, Gc_true, Gc_false, dec_t, dec_f, killAll, ↓get_setS, evalOp, ev, evs, Ab.get, b_eql, b_neq, b_gtr, b_rem, wrap_i64, one, Option.map_some, Option.bind_some, asB, finish, resVs, resV, outVs, ownsLast, tupOf, callV, V.shift, V.shifts, List.append_nil, List.map_cons, List.map_nil, List.all_nil, Bool.true_and, Bool.and_self, List.getElem?_cons_zero, List.getElem?_cons_succ, Nat.reduceEqDiff, reduceCtorEq, ↓reduceIte, Nat.succ_ne_self, Nat.reduceBNe, decide_true, Bool.not_true, Bool.false_eq_true, Int.reduceAdd, pick3, addOff, loadV, Ab.rowAt, rget, rset, Nat.reduceAdd, true_and, and_self, List.drop_zero, Nat.le_refl, List.getD_cons_zero, Nat.zero_add, Nat.add_zero, len_ref, el_ref, ti_own_t, ti_bool, ti_int, ti_tup_own_t, st_int, ov_bool, fn_some, fz_nil, fz_cons, fz_int, fz_ref0, nn, ite_ov, Int.toNat_natCast, c13, hlen, hsh', hfz, h16, h15, h14, hp6, List.take_length, hmod, hMk, hE, Nat.zero_lt_succ, b2]
    done
  have b2' : n.h = false := by simpa using b2
  by_cases b3 : n.sh = 0
  case neg =>
    clear hrw
    unfold a11
    simp (config := { maxSteps := 10000000 }) (disch := omega) only [↓G_seq, ↓G_skip, ↓G_ret, ↓G_region, ↓G_cond, ↓G_ops_nil, ↓G_op, Gv_some, ↓G_gop, Gw_ff, Gw_ft, Gc_true, Gc_false, dec_t, dec_f, killAll, ↓get_setS, evalOp, ev, evs, Ab.get, b_eql, b_neq, b_gtr, b_rem, wrap_i64, one, Option.map_some, Option.bind_some, asB, finish, resVs, resV, outVs, ownsLast, tupOf, callV, V.shift, V.shifts, List.append_nil, List.map_cons, List.map_nil, List.all_nil, Bool.true_and, Bool.and_self, List.getElem?_cons_zero, List.getElem?_cons_succ, Nat.reduceEqDiff, reduceCtorEq, ↓reduceIte, Nat.succ_ne_self, Nat.reduceBNe, decide_true, Bool.not_true, Bool.not_false, Bool.false_eq_true, Int.reduceAdd, pick3, addOff, loadV, Ab.rowAt, rget, rset, Nat.reduceAdd, true_and, and_self, List.drop_zero, Nat.le_refl, List.getD_cons_zero, Nat.zero_add, Nat.add_zero, len_ref, el_ref, ti_own_t, ti_bool, ti_int, ti_tup_own_t, st_int, ov_bool, fn_some, fz_nil, fz_cons, fz_int, fz_ref0, nn, ite_ov, Int.toNat_natCast, c13, hlen, hsh', hfz, h16, h15, h14, hp6, List.take_length, hmod, hMk, hE, Nat.zero_lt_succ, b2']
    done
  cases b4 : l.any (hitB n)
  case true =>
    rw [b4] at h26
    clear hrw
    unfold a11
    simp (config := { maxSteps := 10000000 }) (disch := omega) only [↓G_seq, ↓G_skip, ↓G_ret, ↓G_region, ↓G_cond, ↓G_ops_nil, ↓G_op, Gv_some, ↓G_gop, Gw_ff, Gc_true, Gc_false, dec_t, dec_f, killAll, ↓get_setS, evalOp, ev, evs, Ab.get, b_eql, b_neq, b_gtr, b_rem, wrap_i64, one, Option.map_some, Option.bind_some, asB, finish, resVs, resV, outVs, ownsLast, tupOf, callV, V.shift, V.shifts, List.append_nil, List.map_cons, List.map_nil, List.all_nil, Bool.true_and, Bool.and_self, List.getElem?_cons_zero, List.getElem?_cons_succ, Nat.reduceEqDiff, reduceCtorEq, ↓reduceIte, Nat.succ_ne_self, Nat.reduceBNe, decide_true, Bool.not_true, Bool.false_eq_true, Int.reduceAdd, pick3, addOff, loadV, Ab.rowAt, rget, rset, Nat.reduceAdd, true_and, and_self, List.drop_zero, Nat.le_refl, List.getD_cons_zero, Nat.zero_add, Nat.add_zero, len_ref, el_ref, ti_own_t, ti_bool, ti_int, ti_tup_own_t, st_int, ov_bool, fn_some, fz_nil, fz_cons, fz_int, fz_ref0, nn, ite_ov, Int.toNat_natCast, c13, hlen, hsh', hfz, h16, h15, h14, hp6, List.take_length, hmod, hMk, hE, h26, Nat.zero_lt_succ, b2']
    done
  rw [b4] at h26
  obtain ⟨x, hx, hne⟩ := hrw b2' b3 b4 hM b1
  have hR := I1_get _ k x hx
  generalize readR (List.zipWith mkP l (M.set k (0, false))) (startR f) = R at *
  generalize List.zipWith mkP l (M.set k (0, false)) = P at *
  generalize M.set k (0, false) = M' at *
  clear hx
  unfold a11
  simp (config := { maxSteps := 10000000 }) (disch := omega) only [↓G_seq, ↓G_skip, ↓G_ret, ↓G_region, ↓G_cond, ↓G_ops_nil, ↓G_op, Gv_some, ↓G_gop, Gw_tt, Gw_ff, Gc_false, dec_t, dec_f, killAll, ↓get_setS, ↓get_setN, evalOp, ev, evs, Ab.get, b_eql, b_neq, b_gtr, b_rem, wrap_i64, one, Option.map_some, Option.bind_some, asB, finish, resVs, resV, outVs, ownsLast, tupOf, callV, V.shift, V.shifts, List.append_nil, List.nil_append, List.cons_append, List.map_cons, List.map_nil, List.all_cons, List.all_nil, Bool.and_true, Bool.true_and, Bool.and_self, List.getElem?_cons_zero, List.getElem?_cons_succ, Nat.reduceEqDiff, reduceCtorEq, ↓reduceIte, Nat.succ_ne_self, Nat.reduceBNe, decide_true, Bool.not_true, Bool.not_false, Bool.false_eq_true, Int.reduceAdd, pick3, V.cells, fillV, splice, addOff, loadV, storeV, Ab.rowAt, rget, rset, V.scalar, Nat.reduceAdd, and_true, true_and, and_self, List.length_cons, List.length_nil, List.take_zero, List.drop_succ_cons, List.drop_zero, Nat.le_refl, List.getD_cons_zero, Nat.zero_add, Nat.add_zero, len_ref, el_ref, ti_own_t, ti_bool, ti_int, ti_tup_own_t, st_int, ov_bool, fn_some, fz_nil, fz_cons, fz_int, fz_ref0, nn, ite_ov, Int.toNat_natCast, c13, hlen, hsh', hfz, h16, h15, h14, hp6, List.take_length, hmod, hMk, hE, h26, Nat.zero_lt_succ, b2', hset, hp2, htk, h25, hp7, h23, hR]

end Go.Proofs.Ythnjcaioeaepjaa

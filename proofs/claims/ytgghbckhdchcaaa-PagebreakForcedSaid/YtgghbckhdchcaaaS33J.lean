/-
  Page breaks: the law PagebreakTops; page turns.
-/
import Derived.Test.YtgghbckhdchcaaaS33I
namespace Go.Proofs.Ytgghbckhdchcaaa
open Go Go.Ab
set_option linter.unusedVariables false
set_option linter.unnecessarySimpa false
set_option linter.unusedSimpArgs false
set_option maxRecDepth 100000
variable {H : List (List Row)}

theorem topsL_len {left gaps : Int} : ∀ (t : List Sy) (p h : Int) (i : Nat), (topsL left gaps p h i t).length = t.length
  | [], _, _, _ => rfl
  | s :: t, p, h, i => by simp only [topsL, List.length_cons, topsL_len t]
theorem topsR_len {left gaps : Int} (q : List Sy) : (topsR left gaps q).length = q.length := by
  cases q with
  | nil => rfl
  | cons s t => simp only [topsR, List.length_cons, topsL_len]

theorem more_le {left gaps : Int} {i : Nat} : more left gaps (i + 1) = left / gaps + (min ((i + 1 : Nat) : Int) (left % gaps) - min ((i : Nat) : Int) (left % gaps)) := by
  unfold more
  split <;> omega
/-- Where the last system ends. -/
theorem topsL_last {left gaps : Int} : ∀ (t : List Sy) (j : Nat) (p : Int) (s : Sy), ∃ x z, (p :: topsL left gaps p s.h (j + 1) t)[t.length]? = some x ∧ (s :: t)[t.length]? = some z ∧
    x + z.h = p + s.h + hsum t + t.length * (left / gaps) + (min ((j + t.length : Nat) : Int) (left % gaps) - min ((j : Nat) : Int) (left % gaps))
  | [], j, p, s => ⟨p, s, rfl, rfl, by simp [hsum]⟩
  | s' :: t, j, p, s => by
    obtain ⟨x, z, h1, h2, h3⟩ := topsL_last (left := left) (gaps := gaps) t (j + 1) (p + s.h + s'.g + more left gaps (j + 1)) s'
    refine ⟨x, z, ?_, ?_, ?_⟩
    · rw [List.length_cons, topsL, List.getElem?_cons_succ]
      exact h1
    · rw [List.length_cons, List.getElem?_cons_succ]
      exact h2
    · rw [h3, hsum, List.length_cons, more_le, show ((t.length + 1 : Nat) : Int) * (left / gaps) = t.length * (left / gaps) + left / gaps by rw [Int.natCast_add, Int.add_mul]; simp]
      rw [show j + 1 + t.length = j + (t.length + 1) by omega]
      generalize (t.length : Int) * (left / gaps) = W
      generalize left / gaps = Q
      omega

theorem places_last {l : List Sy} {ph : Int} {a b : Nat} (hab : a < b) (hb : b ≤ l.length) (h1 : b - a ≠ 1) (hh : hgt (sl l a b) ≤ ph) : ∃ x z, (places l ph a b true)[b - a - 1]? = some x ∧ l[b - 1]? = some z ∧ x + z.h = ph := by
  obtain ⟨s, hs, hc⟩ := sl_cons hab hb
  have hl := sl_len (a := a + 1) hb
  unfold places
  have e1 : leftR' (b - a) true (ph - hgt (sl l a b)) = ph - hgt (sl l a b) := by simp [leftR', h1]
  have e2 : gapsR (b - a) true = ((b - (a + 1) : Nat) : Int) := by
    simp only [gapsR, h1, ne_eq, not_false_eq_true, and_self, if_true]
    omega
  rw [e1, e2]
  generalize hleft : ph - hgt (sl l a b) = left
  have hl0 : 0 ≤ left := by omega
  rw [hc] at hleft ⊢
  obtain ⟨x, z, h2, h3, h4⟩ := topsL_last (left := left) (gaps := ((b - (a + 1) : Nat) : Int)) (sl l (a + 1) b) 0 0 s
  rw [hl] at h2 h3 h4
  have hz : (sl l a b)[b - (a + 1)]? = some z := by rw [hc]; exact h3
  obtain ⟨h5, _⟩ := sl_get hb hz
  refine ⟨x, z, ?_, ?_, ?_⟩
  · rw [show b - a - 1 = b - (a + 1) by omega]
    exact h2
  · rw [← h5]
    congr 1
    omega
  · rw [h4]
    simp only [hgt] at hleft
    have := Int.mul_ediv_add_emod left ((b - (a + 1) : Nat) : Int)
    have h6 := Int.emod_nonneg left (show ((b - (a + 1) : Nat) : Int) ≠ 0 by omega)
    have h7 := Int.emod_lt_of_pos left (show 0 < ((b - (a + 1) : Nat) : Int) by omega)
    generalize ((b - (a + 1) : Nat) : Int) * (left / ((b - (a + 1) : Nat) : Int)) = W at *
    generalize left % ((b - (a + 1) : Nat) : Int) = R at *
    omega

set_option maxHeartbeats 4000000 in
theorem l10 {v : V} {l : List Sy} {ph pt sf se sn : Int} (hm : l.length ≤ 9223372036854775807) (hv : SlV 4 v (E4 l)) : call tbl 10 [v, .agg [.i ph, .i pt], .agg [.i sf, .i se, .i sn]] H = some (.bool true) := by
  refine (call_start (show tbl 10 = some a10 from rfl)).trans ?_
  have hlen := hv.len
  rw [E4_len] at hlen
  obtain ⟨v', m, hs, hv', hml, _⟩ := cut hv 30
  simp only [Int.cast_ofNat_Int] at hs
  have hlen' := hv'.len
  rw [E4_len] at hlen'
  have hm' : m.length ≤ 9223372036854775807 := by omega
  have h13 := fun H => c13 (H := H) (ph := ph) (pt := pt) hm' hv'
  have hsh := hv'.sh
  by_cases he : errC m ph pt = 0
  case neg =>
    have h26 := fun f H => c26e (H := H) (just := f) hm' hv' (errG_err (a := sf) (b := se) he) he
    generalize errC m ph pt = e at *
    unfold a10
    simp (config := { maxSteps := 10000000 }) (disch := omega) only [↓G_seq, ↓G_skip, ↓G_ret, ↓G_region, ↓G_cond, ↓G_ops_nil, ↓G_op, Gv_some, ↓G_gop, Gw_tt, Gw_ff, Gw_tf, Gw_tup, Gc_true, Gc_false, dec_f, killAll, ↓get_setS, evalOp, ev, evs, Ab.get, b_eql, b_neq, one, Option.map_some, Option.bind_some, Option.map_none, asB, finish, resVs, resV, outVs, ownsLast, tupOf, callV, V.shift, V.shifts, List.append_nil, List.map_cons, List.map_nil, List.all_cons, List.all_nil, Bool.and_self, List.getElem?_cons_zero, List.getElem?_cons_succ, Nat.reduceEqDiff, reduceCtorEq, ↓reduceIte, Nat.succ_ne_self, decide_true, Bool.not_true, Bool.not_false, bne_self_eq_false, Bool.false_eq_true, Int.reduceAdd, pick3, V.cells, addOff, loadV, Ab.rowAt, rget, rset, V.scalar, mmV, Nat.reduceAdd, and_self, List.length_cons, List.length_nil, List.take_succ_cons, List.take_zero, List.drop_zero, Nat.le_refl, List.getD_cons_zero, Nat.zero_add, Nat.add_zero, len_nil, ti_bool, ti_int, ti_tup_nilsl, st_int, st_nilsl, ov_bool, fn_some, hlen, hs, c11, h13, hsh, h26, Nat.zero_lt_succ]
    done
  simp only [he] at h13
  by_cases hb : badR m.length sf se
  · have w := badR_w hb
    have h26 := fun f H => c26e (H := H) (just := f) hm' hv' (errG_bad he hb) (by decide)
    clear hb hv hv' hm hm' hml he
    rcases w with w | ⟨w1, w⟩ | ⟨w1, w2, w⟩
    all_goals
      unfold a10
      simp (config := { maxSteps := 10000000 }) (disch := omega) only [↓G_seq, ↓G_skip, ↓G_ret, ↓G_region, ↓G_cond, ↓G_ops_nil, ↓G_op, Gv_some, ↓G_gop, Gw_tt, Gw_ff, Gw_tf, Gw_ft, Gc_true, Gc_false, dec_t, dec_f, killAll, ↓get_setS, evalOp, ev, evs, Ab.get, b_eql, b_neq, b_lss, b_geq, one, Option.map_some, Option.bind_some, Option.map_none, asB, finish, resVs, resV, outVs, ownsLast, tupOf, callV, V.shift, V.shifts, List.append_nil, List.map_cons, List.map_nil, List.all_cons, List.all_nil, Bool.and_self, List.getElem?_cons_zero, List.getElem?_cons_succ, Nat.reduceEqDiff, reduceCtorEq, ↓reduceIte, Nat.succ_ne_self, decide_true, decide_false, Bool.not_true, Bool.not_false, bne_self_eq_false, Bool.false_eq_true, Int.reduceAdd, Int.reduceEq, pick3, V.cells, addOff, loadV, Ab.rowAt, rget, rset, V.scalar, mmV, Nat.reduceAdd, and_self, List.length_cons, List.length_nil, List.take_succ_cons, List.take_zero, List.drop_zero, Nat.le_refl, List.getD_cons_zero, Nat.zero_add, Nat.add_zero, len_nil, ti_bool, ti_int, ti_tup_nilsl, st_int, st_nilsl, ov_bool, fn_some, hlen, hs, c11, h13, hsh, hlen', h26, Nat.zero_lt_succ]
  · obtain ⟨a, b, rfl, rfl, w1, w2⟩ := goodR hb
    have h24 := fun H => c24 (H := H) (errC_ok he).1 w1 w2 (errC_in he) hv'
    by_cases hh : ph < hgt (sl m a b)
    · have h26 := fun f H => c26s (H := H) (just := f) hm' hv' w1 w2 he hh
      generalize hgt (sl m a b) = h at *
      clear hb hv hv' hm hm' hml he
      unfold a10
      simp (config := { maxSteps := 10000000 }) (disch := omega) only [↓G_seq, ↓G_skip, ↓G_ret, ↓G_region, ↓G_cond, ↓G_ops_nil, ↓G_op, Gv_some, ↓G_gop, Gw_tt, Gw_ff, Gc_true, Gc_false, dec_t, dec_f, killAll, ↓get_setS, evalOp, ev, evs, Ab.get, b_eql, b_neq, b_lss, b_gtr, b_geq, one, Option.map_some, Option.bind_some, Option.map_none, asB, finish, resVs, resV, outVs, ownsLast, tupOf, callV, V.shift, V.shifts, List.append_nil, List.map_cons, List.map_nil, List.all_cons, List.all_nil, Bool.and_self, List.getElem?_cons_zero, List.getElem?_cons_succ, Nat.reduceEqDiff, reduceCtorEq, ↓reduceIte, Nat.succ_ne_self, decide_true, decide_false, Bool.not_true, Bool.not_false, bne_self_eq_false, Bool.false_eq_true, Int.reduceAdd, Int.reduceEq, pick3, V.cells, addOff, loadV, Ab.rowAt, rget, rset, V.scalar, mmV, Nat.reduceAdd, and_self, List.length_cons, List.length_nil, List.take_succ_cons, List.take_zero, List.drop_zero, Nat.le_refl, List.getD_cons_zero, Nat.zero_add, Nat.add_zero, len_nil, ti_bool, ti_int, ti_tup_nilsl, st_int, st_nilsl, ov_bool, fn_some, hlen, hs, c11, h13, hsh, hlen', h26, h24, Nat.zero_lt_succ]
    · have hh' : hgt (sl m a b) ≤ ph := by omega
      have h26 := fun f H => c26 (H := H) (just := f) hm' hv' w1 w2 he hh'
      have h27 := fun f H => c27 (H := H) (just := f) hv' w1 w2 he hh'
      have hpl := places_last (l := m) (ph := ph) w1 w2
      have hlp : ∀ f, (places m ph a b f).length = b - a := fun f => by unfold places; rw [topsR_len, sl_len w2]
      have h16 := fun f H => c16 (H := H) (a := places m ph a b f) (b := places m ph a b f) (by rw [hlp]; omega) (by rw [hlp]; omega) (svT_ok _) (svT_ok _)
      have hp := hlp true
      have hsT := fun f => (svT_ok (places m ph a b f)).sh
      have hlT := (svT_ok (places m ph a b true)).len
      rw [I1_len, hp] at hlT
      simp only [decide_true] at h16
      have h0 := svT_ok (places m ph a b false)
      have hst0 := h0.st
      have hst1 := (svT_ok (places m ph a b true)).st
      by_cases h1 : b - a = 1
      · obtain rfl : b = a + 1 := by omega
        have e : ((a + 1 : Nat) : Int) - 1 = (a : Nat) := by omega
        simp only [e] at h26 h27 h24
        rw [e]
        clear hpl hlp hlT h0
        generalize places m ph a (a + 1) = P at *
        generalize hgt (sl m a (a + 1)) = h at *
        clear hb hv hv' hm hm' hml he
        unfold a10
        simp (config := { maxSteps := 10000000 }) (disch := omega) only [↓G_seq, ↓G_skip, ↓G_ret, ↓G_region, ↓G_cond, ↓G_ops_nil, ↓G_op, Gv_some, ↓G_gop, Gw_tt, Gw_ff, Gw_ft, Gc_false, dec_f, killAll, ↓get_setS, evalOp, ev, evs, Ab.get, b_eql, b_neq, b_lss, b_gtr, b_geq, one, Option.map_some, Option.bind_some, Option.map_none, asB, finish, resVs, resV, outVs, ownsLast, tupOf, callV, V.shift, V.shifts, List.append_nil, List.map_cons, List.map_nil, List.all_cons, List.all_nil, Bool.and_self, List.getElem?_cons_zero, List.getElem?_cons_succ, Nat.reduceEqDiff, reduceCtorEq, ↓reduceIte, Nat.succ_ne_self, decide_true, Bool.not_true, bne_self_eq_false, Bool.false_eq_true, Int.reduceAdd, pick3, V.cells, addOff, loadV, Ab.rowAt, rget, rset, V.scalar, mmV, Nat.reduceAdd, and_self, List.length_cons, List.length_nil, List.take_succ_cons, List.take_zero, List.drop_zero, Nat.le_refl, List.getD_cons_zero, Nat.zero_add, Nat.add_zero, ti_bool, ti_int, st_int, ov_bool, fn_some, hlen, hs, c11, h13, hsh, hlen', h26, h27, h24, h16, hsT, take_T, take_Tt, Nat.zero_lt_succ]
      · obtain ⟨x, z, e1, e2, e3⟩ := hpl h1 hh'
        have hE := (svT_ok (places m ph a b true)).el (I1_get _ _ _ e1)
        have hE2 := hv'.el (E4_get m _ _ e2)
        rw [show ((b - a - 1 : Nat) : Int) = ((b - a : Nat) : Int) - 1 by omega] at hE
        rw [show ((b - 1 : Nat) : Int) = (b : Int) - 1 by omega] at hE2
        obtain ⟨bz, _⟩ := errC_in he z (List.mem_of_getElem? e2)
        have hpg := (errC_ok he).2.1.1
        have hne : ¬ ((a : Nat) : Int) = (b : Nat) - 1 := by omega
        clear hpl hlp h0 e1
        generalize places m ph a b = P at *
        generalize hgt (sl m a b) = h at *
        clear hb hv hv' hm hm' he
        unfold a10
        simp (config := { maxSteps := 10000000 }) (disch := omega) only [↓G_seq, ↓G_skip, ↓G_ret, ↓G_region, ↓G_cond, ↓G_ops_nil, ↓G_op, Gv_some, ↓G_gop, Gw_tt, Gw_ff, Gc_false, dec_f, killAll, ↓get_setS, evalOp, ev, evs, Ab.get, b_add, b_sub, b_eql, b_neq, b_lss, b_gtr, b_geq, wrap_i64, one, Option.map_some, Option.bind_some, Option.map_none, asB, finish, resVs, resV, outVs, ownsLast, tupOf, callV, V.shift, V.shifts, List.append_nil, List.map_cons, List.map_nil, List.all_cons, List.all_nil, Bool.and_self, List.getElem?_cons_zero, List.getElem?_cons_succ, Nat.reduceEqDiff, reduceCtorEq, ↓reduceIte, Nat.succ_ne_self, decide_true, decide_false, Bool.not_true, bne_self_eq_false, Bool.false_eq_true, Int.reduceAdd, pick3, V.cells, addOff, loadV, Ab.rowAt, rget, rset, V.scalar, mmV, Nat.reduceAdd, and_self, List.length_cons, List.length_nil, List.take_succ_cons, List.take_zero, List.drop_zero, Nat.le_refl, List.getD_cons_zero, Nat.zero_add, Nat.add_zero, ti_bool, ti_int, st_int, ov_bool, fn_some, hlen, hs, c11, h13, hsh, hlen', h26, h27, h24, h16, hsT, take_T, take_Tt, hlT, hE, hE2, e3, hne, Nat.zero_lt_succ]

end Go.Proofs.Ytgghbckhdchcaaa

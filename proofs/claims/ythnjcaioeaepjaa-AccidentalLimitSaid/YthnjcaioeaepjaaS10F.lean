/-
  The laws AccidentalDisplays, AccidentalCarries, AccidentalShows and AccidentalKinds as equations.
-/
import Derived.Test.YthnjcaioeaepjaaS10E
import Derived.Test.YthnjcaioeaepjaaAbRow
namespace Go.Proofs.Ythnjcaioeaepjaa
open Go Go.Ab
set_option linter.unusedVariables false
set_option linter.unnecessarySimpa false
set_option linter.unusedSimpArgs false
set_option maxRecDepth 100000
variable {H : List (List Row)}

def kn : List Nt := [⟨0, 6, -1, 4, false, 0⟩, ⟨1, 6, 0, 4, false, 0⟩, ⟨2, 6, 0, 4, false, 0⟩, ⟨3, 6, -1, 4, false, 0⟩]
theorem kn_err : errR (-1) kn = 0 := by kernel_rfl
theorem kn_disp : (dispR kn kn (startR (-1))).1 = [(0, false), (3, false), (0, false), (2, false)] := by kernel_rfl
theorem c13 : call tbl 13 [] H = some (.bool true) := by
  refine (call_start (show tbl 13 = some a13 from rfl)).trans ?_
  have h := fun H => (c14 (H := H) kn_err (v := .sl .full 6 (E6 kn)) .full).trans (by rw [kn_disp])
  simp only [kn, E6, List.map_cons, List.map_nil, Nt.cells, M2, outAcc, reduceCtorEq, if_false, ↓reduceIte] at h
  unfold a13
  simp (config := { maxSteps := 10000000 }) (disch := omega) only [↓G_seq, ↓G_ret, ↓G_region, ↓G_ops_nil, ↓G_op, Gv_some, ↓G_gop, Gw_tt, killAll, ↓get_setS, ↓get_setN, evalOp, ev, evs, b_eql, one, Option.map_some, Option.bind_some, asB, finish, resVs, resV, outVs, ownsLast, tupOf, callV, V.shift, V.shifts, List.append_nil, List.nil_append, List.cons_append, List.map_cons, List.map_nil, List.all_cons, List.all_nil, Bool.true_and, Bool.and_self, List.getElem?_cons_zero, List.getElem?_cons_succ, Nat.reduceEqDiff, ↓reduceIte, Nat.succ_ne_self, decide_true, bne_self_eq_false, Bool.false_eq_true, Int.reduceNeg, Int.reduceAdd, Int.reduceLE, pick3, V.cells, fillV, splice, chop, addOff, loadV, storeV, Ab.rowAt, rget, rset, V.scalar, V.pure, Int.reduceToNat, Nat.reduceAdd, Nat.reduceLeDiff, true_and, and_self, List.length_cons, List.length_nil, List.take_succ_cons, List.take_zero, List.drop_succ_cons, List.drop_zero, Nat.le_refl, List.set_cons_zero, List.getD_cons_zero, List.replicate, List.flatten_cons, List.flatten_nil, Int.cast_ofNat_Int, Nat.zero_add, Nat.add_zero, len_any, el_any, ti_tup_own_f, st_int, ov_bool, fn_some, h, Nat.zero_lt_succ]

theorem l3 {f : Int} {v : V} {l : List Nt} (hm : l.length ≤ 9223372036854775807) (hv : SlV 6 v (E6 l)) : call tbl 3 [.i f, v] H = some (.bool true) := by
  refine (call_start (show tbl 3 = some a3 from rfl)).trans ?_
  have hlen := hv.len
  rw [E6_len] at hlen
  by_cases hl : 30 < l.length
  · unfold a3
    simp (config := { maxSteps := 10000000 }) (disch := omega) only [↓G_seq, ↓G_ret, ↓G_region, ↓G_cond, ↓G_ops_nil, ↓G_op, Gv_some, ↓G_gop, Gw_ff, Gc_true, dec_t, killAll, ↓get_setS, evalOp, ev, evs, Ab.get, b_gtr, one, Option.map_some, Option.bind_some, asB, finish, resVs, resV, outVs, ownsLast, tupOf, callV, V.shifts, List.append_nil, List.all_nil, List.getElem?_cons_zero, List.getElem?_cons_succ, Nat.reduceEqDiff, ↓reduceIte, Nat.succ_ne_self, Bool.not_true, bne_self_eq_false, Bool.false_eq_true, ti_bool, ov_bool, fn_some, c13, hlen]
    done
  have h15 := fun H => c15 (H := H) (by omega) hv
  have hv' := svE_ok 6 (E6 l)
  have h16 := fun H => c16 (H := H) f hm hv
  have hsh := hv'.sh
  have hsh' := hv.sh
  by_cases he : errR f l = 0
  · have h14 := fun H => c14 (H := H) he hv'
    have h17 := fun H => c17 (H := H) he hv
    have hw := svE_ok 2 (M2 (dispR l l (startR f)).1)
    have hll := (dispR_len l l (startR f)).1
    have h18 := fun H => c18 (H := H) (by omega) hw hw
    have hsw := hw.sh
    have hti := hw.ti_tup
    have hto := fun L s vs => out_take_tup (L := L) (s := s) (sz := 2) (M2 (dispR l l (startR f)).1) vs
    rw [he] at h16
    generalize svE 2 (M2 (dispR l l (startR f)).1) = w at *
    generalize hB : svE 6 (E6 l) = u at *
    unfold a3
    simp (config := { maxSteps := 10000000 }) (disch := omega) only [↓G_seq, ↓G_skip, ↓G_ret, ↓G_region, ↓G_cond, ↓G_ops_nil, ↓G_op, Gv_some, ↓G_gop, Gw_tt, Gw_ff, Gc_false, dec_f, killAll, ↓get_setS, evalOp, ev, evs, Ab.get, b_eql, b_neq, b_gtr, one, Option.map_some, Option.bind_some, asB, finish, resVs, resV, outVs, ownsLast, tupOf, callV, V.shift, V.shifts, List.append_nil, List.map_cons, List.map_nil, List.all_nil, List.getElem?_cons_zero, List.getElem?_cons_succ, Nat.reduceEqDiff, reduceCtorEq, ↓reduceIte, Nat.succ_ne_self, decide_true, Bool.not_true, bne_self_eq_false, Bool.false_eq_true, ti_bool, ti_int, st_any, st_int, ov_bool, fn_some, c13, hlen, hsh', h15, ↓out_take, hB, hsh, h14, h16, h17, h18, hsw, hti, ↓hto]
  · have h14 := fun H => c14_e (H := H) he hv'
    generalize errR f l = e at *
    generalize hB : svE 6 (E6 l) = u at *
    unfold a3
    simp (config := { maxSteps := 10000000 }) (disch := omega) only [↓G_seq, ↓G_skip, ↓G_ret, ↓G_region, ↓G_cond, ↓G_ops_nil, ↓G_op, Gv_some, ↓G_gop, Gw_tt, Gw_ff, Gc_true, Gc_false, dec_f, killAll, ↓get_setS, evalOp, ev, evs, Ab.get, b_eql, b_neq, b_gtr, one, Option.map_some, Option.bind_some, asB, finish, resVs, resV, outVs, ownsLast, tupOf, callV, V.shift, V.shifts, List.append_nil, List.map_cons, List.map_nil, List.all_nil, List.getElem?_cons_zero, List.getElem?_cons_succ, Nat.reduceEqDiff, reduceCtorEq, ↓reduceIte, Nat.succ_ne_self, decide_true, Bool.not_true, Bool.not_false, bne_self_eq_false, Bool.false_eq_true, len_nil, ti_bool, ti_int, ti_tup_nilsl, st_int, st_nilsl, ov_bool, fn_some, c13, hlen, hsh', h15, ↓out_take, hB, hsh, h14, h16]

theorem loop8 {k : List KI} {S : List Int} {v1 : Nat} {L : List Row} (hS : S.length = 77) (hv1 : 0 < v1) (hr : rget L 1 = ⟨v1, 77, [S.map V.i]⟩)
    (hx : ∀ fr', Ab.get fr' 6 = .i 0 → Gx tbl H [.tmp 4] 0 k fr' L = some (.bool true)) :
    ∀ (n i : Nat) (fr : List V), i + n = 77 → Ab.get fr 5 = .ptr 0 1 v1 0 0 → Ab.get fr 6 = .i 0 → Ab.get fr 9 = .sl .any 1 (I1 S) → Ab.get fr 10 = .i (i : Nat) →
    G tbl H [.tmp 4] (.code (.loop ( (.seq ( (.seq ( .region [] [ ⟨some 45, .mv (.t 10), none⟩, ⟨some 46, .bin .lss (.t 45) (.c (.int .i64 77)), none⟩]) ( (.cond (.t 46) ( .skip) ( .exit 0))))) ( (.seq ( (.block 1 ( (.seq ( .region [] [ ⟨some 49, .mv (.t 10), none⟩, ⟨some 50, .arrAddr 77 1 (.t 5) (.t 49), none⟩, ⟨some 51, .load false 1 (.t 50), none⟩, ⟨some 52, .mv (.t 9), none⟩, ⟨some 53, .mv (.t 10), none⟩, ⟨some 54, .elemAddr 1 (.t 52) (.t 53), none⟩, ⟨some 55, .load false 1 (.t 54), none⟩, ⟨some 56, .bin .neq (.t 51) (.t 55), none⟩]) ( (.cond (.t 56) ( (.seq ( .region [] [ ⟨some 4, .mv (.c (.bool false)), none⟩]) ( .ret))) ( .skip))))))) ( .region [] [ ⟨some 47, .mv (.t 10), none⟩, ⟨some 48, .bin .add (.t 47) (.c (.int .i64 1)), none⟩, ⟨some 10, .mv (.t 48), none⟩])))))) :: k) fr L = some (.bool true) := by
  intro n
  induction n with
  | zero =>
    intro i fr hi h5 h6 h9 h10
    refine G_loop.trans ?_
    simp (config := { maxSteps := 10000000 }) (disch := omega) only [↓G_seq, ↓G_exit, ↓G_region, ↓G_cond, ↓Gx_code, ↓G_ops_nil, ↓G_op, Gv_some, Gc_false, dec_f, killAll, ↓get_setS, evalOp, ev, b_lss, one, Option.map_some, List.getElem?_cons_zero, List.getElem?_cons_succ, ↓reduceIte, h10]
    refine hx _ ?_
    simp (config := { maxSteps := 10000000 }) (disch := omega) only [↓get_setS, List.getElem?_cons_zero, List.getElem?_cons_succ, Nat.reduceEqDiff, ↓reduceIte, h6]
  | succ n ih =>
    intro i fr hi h5 h6 h9 h10
    obtain ⟨x, hx'⟩ : ∃ x, S[i]? = some x := ⟨_, List.getElem?_eq_getElem (by omega)⟩
    have h1 := I1_get S i x hx'
    have h2 : (S.map V.i)[i]? = some (.i x) := by simp [hx']
    refine G_loop.trans ?_
    simp (config := { maxSteps := 10000000 }) (disch := omega) only [↓G_seq, ↓G_skip, ↓G_blk, ↓G_region, ↓G_block, ↓G_cond, ↓G_ops_nil, ↓G_op, Gv_some, Gc_true, Gc_false, dec_t, killAll, ↓get_setS, evalOp, ev, b_add, b_neq, b_lss, wrap_i64, one, Option.map_some, Option.bind_some, V.shift, Bool.true_and, Bool.and_self, List.getElem?_cons_zero, List.getElem?_cons_succ, Nat.reduceEqDiff, ↓reduceIte, Nat.succ_ne_self, decide_true, Bool.not_true, Bool.false_eq_true, pick3, arrV, loadV, Ab.rowAt, true_and, and_self, List.getD_cons_zero, Int.cast_ofNat_Int, Nat.zero_add, Nat.mul_one, el_any, nn, ite_ov, Int.toNat_natCast, h5, h9, h10, hr, h1, h2]
    refine ih (i + 1) _ (by omega) ?_ ?_ ?_ ?_
    all_goals simp (config := { maxSteps := 10000000 }) (disch := omega) only [↓get_setS, List.getElem?_cons_zero, List.getElem?_cons_succ, Nat.reduceEqDiff, ↓reduceIte, Nat.succ_ne_self, h5, h6, h9]
    congr 1

theorem l8 {f : Int} {v : V} {l : List Nt} (hm : l.length ≤ 9223372036854775807) (hv : SlV 6 v (E6 l)) : call tbl 8 [.i f, v] H = some (.bool true) := by
  refine (call_start (show tbl 8 = some a8 from rfl)).trans ?_
  have hlen := hv.len
  rw [E6_len] at hlen
  by_cases hl : 30 < l.length
  · unfold a8
    simp (config := { maxSteps := 10000000 }) (disch := omega) only [↓G_seq, ↓G_ret, ↓G_region, ↓G_cond, ↓G_ops_nil, ↓G_op, Gv_some, ↓G_gop, Gw_ff, Gc_true, dec_t, killAll, ↓get_setS, evalOp, ev, evs, Ab.get, b_gtr, one, Option.map_some, Option.bind_some, asB, finish, resVs, resV, outVs, ownsLast, tupOf, callV, V.shifts, List.append_nil, List.all_nil, List.getElem?_cons_zero, List.getElem?_cons_succ, Nat.reduceEqDiff, ↓reduceIte, Nat.succ_ne_self, Bool.not_true, bne_self_eq_false, Bool.false_eq_true, ti_bool, ov_bool, fn_some, c13, hlen]
    done
  have h15 := fun H => c15 (H := H) (by omega) hv
  have hv' := svE_ok 6 (E6 l)
  have h16 := fun H => c16 (H := H) f hm hv
  have hsh := hv'.sh
  have hsh' := hv.sh
  by_cases he : errR f l = 0
  · have h22 := fun H => c22 (H := H) he hv'
    have h17 := fun H => c17 (H := H) he hv
    have hw := svE_ok 2 (M2 (dispR l l (startR f)).1)
    have hti := hw.ti_tup
    have hsl := (dispR_len l l (startR f)).2
    rw [startR_len] at hsl
    obtain ⟨q1, q2, q3, q4, q5, q6⟩ := a77 _ hsl
    rw [he] at h16
    generalize svE 2 (M2 (dispR l l (startR f)).1) = w at *
    generalize (dispR l l (startR f)).2 = S at *
    generalize hB : svE 6 (E6 l) = u at *
    unfold a8
    simp (config := { maxSteps := 10000000 }) (disch := omega) only [↓G_seq, ↓G_skip, ↓G_region, ↓G_block, ↓G_cond, ↓G_ops_nil, ↓G_op, Gv_some, ↓G_gop, Gw_ff, Gc_false, dec_f, killAll, ↓get_setS, ↓get_setN, evalOp, ev, evs, Ab.get, b_neq, b_gtr, one, Option.map_some, Option.bind_some, asB, callV, V.shift, V.shifts, List.append_nil, List.nil_append, List.map_cons, List.map_nil, List.all_cons, List.all_nil, Bool.and_self, List.getElem?_cons_zero, List.getElem?_cons_succ, Nat.reduceEqDiff, reduceCtorEq, ↓reduceIte, Nat.succ_ne_self, decide_true, Bool.not_true, bne_self_eq_false, Bool.false_eq_true, Int.reduceAdd, Int.reduceLT, V.cells, splice, storeV, rget, rset, V.scalar, Nat.reduceAdd, Nat.reduceLT, and_self, List.length_cons, List.length_nil, List.take_zero, List.drop_succ_cons, List.drop_zero, Nat.le_refl, List.set_cons_zero, Nat.zero_add, ti_bool, ti_int, ti_tup_agg, st_any, st_int, st_agg, c13, hlen, hsh', h15, ↓out_take, hB, hsh, h22, h16, h17, hti, q1, q2]
    refine loop8 (S := S) (v1 := 1) hsl (by omega) ?_ (fun fr' g6 => ?_) 77 0 _ rfl ?_ ?_ ?_ ?_
    · simp (config := { maxSteps := 10000000 }) (disch := omega) only [List.getElem?_cons_zero, List.getElem?_cons_succ, rget]
    · simp (config := { maxSteps := 10000000 }) (disch := omega) only [↓G_seq, ↓G_ret, ↓G_region, ↓Gx_blk, ↓G_ops_nil, ↓G_op, Gv_some, killAll, ↓get_setS, evalOp, ev, b_eql, one, Option.map_some, Option.bind_some, finish, resVs, resV, outVs, ownsLast, tupOf, List.all_nil, List.getElem?_cons_zero, List.getElem?_cons_succ, ↓reduceIte, decide_true, ov_bool, fn_some, g6]
    all_goals simp (config := { maxSteps := 10000000 }) (disch := omega) only [↓get_setS, ↓get_setN, List.getElem?_cons_zero, List.getElem?_cons_succ, Nat.reduceEqDiff, ↓reduceIte, Nat.succ_ne_self, Int.cast_ofNat_Int]
  · have h22 := fun H => c22_e (H := H) he hv'
    generalize errR f l = e at *
    generalize hB : svE 6 (E6 l) = u at *
    unfold a8
    simp (config := { maxSteps := 10000000 }) (disch := omega) only [↓G_seq, ↓G_skip, ↓G_ret, ↓G_region, ↓G_cond, ↓G_ops_nil, ↓G_op, Gv_some, ↓G_gop, Gw_tt, Gw_ff, Gc_true, Gc_false, dec_f, killAll, ↓get_setS, ↓get_setN, evalOp, ev, evs, Ab.get, b_eql, b_neq, b_gtr, one, Option.map_some, Option.bind_some, asB, finish, resVs, resV, outVs, ownsLast, tupOf, callV, V.shift, V.shifts, List.append_nil, List.nil_append, List.cons_append, List.map_cons, List.map_nil, List.all_cons, List.all_nil, Bool.true_and, Bool.and_self, List.getElem?_cons_zero, List.getElem?_cons_succ, Nat.reduceEqDiff, reduceCtorEq, ↓reduceIte, Nat.succ_ne_self, decide_true, Bool.not_true, Bool.not_false, bne_self_eq_false, Bool.false_eq_true, Int.reduceAdd, Int.reduceLT, pick3, V.cells, fillV, splice, loadV, storeV, Ab.rowAt, rget, rset, V.scalar, Nat.reduceAdd, Nat.reduceLT, true_and, and_self, List.length_cons, List.length_nil, List.take_succ_cons, List.take_zero, List.drop_succ_cons, List.drop_zero, Nat.le_refl, List.set_cons_zero, List.getD_cons_zero, List.replicate, Nat.zero_add, ti_bool, ti_int, ti_tup_agg, st_int, st_agg, ov_bool, fn_some, c13, hlen, hsh', h15, ↓out_take, hB, hsh, h22, h16, zero77, eqCells]

theorem disp_get (l : List Nt) : ∀ (t : List Nt) (F : List Int) (i : Nat) (n : Nt), t[i]? = some n → ∃ F', (dispR l t F).1[i]? = some (stepD F' n (l.any (hitB n))).1
  | [], F, i, n, h => by simp at h
  | m :: t, F, 0, n, h => by
    simp only [List.getElem?_cons_zero, Option.some.injEq] at h
    subst h
    exact ⟨F, rfl⟩
  | m :: t, F, i + 1, n, h => by
    simp only [List.getElem?_cons_succ] at h
    obtain ⟨F', hF⟩ := disp_get l t _ i n h
    exact ⟨F', by simpa [dispR] using hF⟩

/-- What a mark says of its note. -/
theorem mark_of (F : List Int) (n : Nt) (cl : Bool) : ((stepD F n cl).1 = (0, false) ∧ n.sh = 0) ∨ ((stepD F n cl).1 = (n.al + 3, false)) ∨ ((stepD F n cl).1 = (n.al + 3, true) ∧ n.sh = 2) := by
  unfold stepD
  dsimp only
  split
  · generalize ((!n.h && decide (¬ n.al = (F[ixN n]?).getD 0)) || cl) = b
    cases b
    · by_cases z : n.sh = 2
      · simp [z]
      · simp [z]
    · simp
  · rename_i z
    left
    refine ⟨rfl, ?_⟩
    exact Classical.not_not.1 (fun y => z (.inr y))

theorem loop5 {k : List KI} {v w : V} {l : List Nt} {f : Int} {L : List Row} (hl : l.length ≤ 30) (he : errL 0 l = 0) (hv : SlV 6 v (E6 l)) (hw : SlV 2 w (M2 (dispR l l (startR f)).1))
    (hx : ∀ fr', Gx tbl H [.tmp 4] 0 k fr' L = some (.bool true)) :
    ∀ (n i : Nat) (fr : List V), i + n = l.length → Ab.get fr 1 = v → Ab.get fr 5 = w → Ab.get fr 7 = .i (i : Nat) →
    G tbl H [.tmp 4] (.code (.loop ( (.seq ( (.seq ( .region [] [ ⟨some 38, .mv (.t 7), none⟩, ⟨some 39, .mv (.t 5), none⟩, ⟨some 40, .len (.t 39), none⟩, ⟨some 41, .bin .lss (.t 38) (.t 40), none⟩]) ( (.cond (.t 41) ( .skip) ( .exit 0))))) ( (.seq ( (.block 1 ( (.seq ( .region [] [ ⟨some 44, .mv (.t 1), none⟩, ⟨some 45, .mv (.t 7), none⟩, ⟨some 46, .elemAddr 6 (.t 44) (.t 45), none⟩, ⟨some 47, .fieldAddr 5 (.t 46), none⟩, ⟨some 48, .load false 1 (.t 47), none⟩, ⟨some 49, .bin .neq (.t 48) (.c (.int .i64 0)), none⟩, ⟨some 50, .mv (.t 49), none⟩, ⟨some 51, .mv (.t 5), some (50, true)⟩, ⟨some 52, .mv (.t 7), some (50, true)⟩, ⟨some 53, .elemAddr 2 (.t 51) (.t 52), some (50, true)⟩, ⟨some 54, .fieldAddr 0 (.t 53), some (50, true)⟩, ⟨some 55, .load false 1 (.t 54), some (50, true)⟩, ⟨some 56, .bin .eql (.t 55) (.c (.int .i64 0)), some (50, true)⟩, ⟨some 57, .pick (.t 50) (.t 56) (.c (.bool false)), none⟩, ⟨some 58, .mv (.t 57), none⟩, ⟨some 59, .mv (.t 5), some (58, false)⟩, ⟨some 60, .mv (.t 7), some (58, false)⟩, ⟨some 61, .elemAddr 2 (.t 59) (.t 60), some (58, false)⟩, ⟨some 62, .fieldAddr 1 (.t 61), some (58, false)⟩, ⟨some 63, .load false 1 (.t 62), some (58, false)⟩, ⟨some 64, .mv (.t 63), some (58, false)⟩, ⟨some 65, .mv (.t 1), some (64, true)⟩, ⟨some 66, .mv (.t 7), some (64, true)⟩, ⟨some 67, .elemAddr 6 (.t 65) (.t 66), some (64, true)⟩, ⟨some 68, .fieldAddr 5 (.t 67), some (64, true)⟩, ⟨some 69, .load false 1 (.t 68), some (64, true)⟩, ⟨some 70, .bin .neq (.t 69) (.c (.int .i64 2)), some (64, true)⟩, ⟨some 71, .pick (.t 64) (.t 70) (.c (.bool false)), some (58, false)⟩, ⟨some 72, .pick (.t 58) (.c (.bool true)) (.t 71), none⟩, ⟨some 73, .mv (.t 72), none⟩, ⟨some 74, .mv (.t 5), some (73, false)⟩, ⟨some 75, .mv (.t 7), some (73, false)⟩, ⟨some 76, .elemAddr 2 (.t 74) (.t 75), some (73, false)⟩, ⟨some 77, .fieldAddr 0 (.t 76), some (73, false)⟩, ⟨some 78, .load false 1 (.t 77), some (73, false)⟩, ⟨some 79, .bin .neq (.t 78) (.c (.int .i64 0)), some (73, false)⟩, ⟨some 80, .mv (.t 79), some (73, false)⟩, ⟨some 81, .mv (.t 5), some (80, true)⟩, ⟨some 82, .mv (.t 7), some (80, true)⟩, ⟨some 83, .elemAddr 2 (.t 81) (.t 82), some (80, true)⟩, ⟨some 84, .fieldAddr 0 (.t 83), some (80, true)⟩, ⟨some 85, .load false 1 (.t 84), some (80, true)⟩, ⟨some 86, .mv (.t 1), some (80, true)⟩, ⟨some 87, .mv (.t 7), some (80, true)⟩, ⟨some 88, .elemAddr 6 (.t 86) (.t 87), some (80, true)⟩, ⟨some 89, .fieldAddr 1 (.t 88), some (80, true)⟩, ⟨some 90, .fieldAddr 1 (.t 89), some (80, true)⟩, ⟨some 91, .load false 1 (.t 90), some (80, true)⟩, ⟨some 92, .bin .add (.t 91) (.c (.int .i64 3)), some (80, true)⟩, ⟨some 93, .bin .neq (.t 85) (.t 92), some (80, true)⟩, ⟨some 94, .pick (.t 80) (.t 93) (.c (.bool false)), some (73, false)⟩, ⟨some 95, .pick (.t 73) (.c (.bool true)) (.t 94), none⟩]) ( (.cond (.t 95) ( (.seq ( .region [] [ ⟨some 4, .mv (.c (.bool false)), none⟩]) ( .ret))) ( .skip))))))) ( .region [] [ ⟨some 42, .mv (.t 7), none⟩, ⟨some 43, .bin .add (.t 42) (.c (.int .i64 1)), none⟩, ⟨some 7, .mv (.t 43), none⟩])))))) :: k) fr L = some (.bool true) := by
  intro n
  have hlen := hw.len
  rw [M2_len, (dispR_len l l (startR f)).1] at hlen
  induction n with
  | zero =>
    intro i fr hi h1 h5 h7
    refine G_loop.trans ?_
    simp (config := { maxSteps := 10000000 }) (disch := omega) only [↓G_seq, ↓G_exit, ↓G_region, ↓G_cond, ↓Gx_code, ↓G_ops_nil, ↓G_op, Gv_some, Gc_false, dec_f, killAll, ↓get_setS, evalOp, ev, b_lss, one, Option.map_some, List.getElem?_cons_zero, List.getElem?_cons_succ, Nat.reduceEqDiff, ↓reduceIte, Nat.succ_ne_self, h5, h7, hlen, hx]
  | succ n ih =>
    intro i fr hi h1 h5 h7
    obtain ⟨x, hx'⟩ : ∃ x, l[i]? = some x := ⟨_, List.getElem?_eq_getElem (by omega)⟩
    have hin := ((errL_sorted l 0 he).2 x (List.mem_of_getElem? hx')).2
    obtain ⟨⟨_, hal, _⟩, _⟩ := hin
    have hE := hv.el (E6_get l i x hx')
    obtain ⟨F', hF⟩ := disp_get l l (startR f) i x hx'
    have hM := hw.el (M2_get _ i _ hF)
    have hmk := mark_of F' x (l.any (hitB x))
    generalize (stepD F' x (l.any (hitB x))).1 = m at *
    refine G_loop.trans ?_
    rcases hmk with ⟨rfl, z⟩ | rfl | ⟨rfl, z⟩
    · simp (config := { maxSteps := 10000000 }) (disch := omega) only [↓G_seq, ↓G_skip, ↓G_blk, ↓G_region, ↓G_block, ↓G_cond, ↓G_ops_nil, ↓G_op, Gv_some, ↓G_gop, Gw_ff, Gw_tf, Gc_true, Gc_false, dec_t, killAll, ↓get_setS, evalOp, ev, b_add, b_neq, b_lss, wrap_i64, one, Option.map_some, asB, List.getElem?_cons_zero, List.getElem?_cons_succ, Nat.reduceEqDiff, ↓reduceIte, Nat.succ_ne_self, decide_true, Bool.not_true, Bool.false_eq_true, pick3, addOff, loadV, Nat.zero_add, Nat.add_zero, h1, h5, h7, hlen, hE, hM]
      refine ih (i + 1) _ (by omega) ?_ ?_ ?_
      all_goals simp (config := { maxSteps := 10000000 }) (disch := omega) only [↓get_setS, List.getElem?_cons_zero, List.getElem?_cons_succ, Nat.reduceEqDiff, ↓reduceIte, h1, h5]
      congr 1
    · by_cases z : x.sh = 0
      · simp (config := { maxSteps := 10000000 }) (disch := omega) only [↓G_seq, ↓G_skip, ↓G_blk, ↓G_region, ↓G_block, ↓G_cond, ↓G_ops_nil, ↓G_op, Gv_some, ↓G_gop, Gw_tt, Gw_ff, Gw_tf, Gc_true, Gc_false, dec_t, dec_f, killAll, ↓get_setS, evalOp, ev, b_add, b_neq, b_lss, wrap_i64, one, Option.map_some, asB, List.getElem?_cons_zero, List.getElem?_cons_succ, Nat.reduceEqDiff, ↓reduceIte, Nat.succ_ne_self, decide_true, Bool.not_true, Bool.not_false, Bool.false_eq_true, Int.reduceAdd, pick3, addOff, loadV, Nat.reduceAdd, Nat.zero_add, Nat.add_zero, h1, h5, h7, hlen, hE, hM]
        refine ih (i + 1) _ (by omega) ?_ ?_ ?_
        all_goals simp (config := { maxSteps := 10000000 }) (disch := omega) only [↓get_setS, List.getElem?_cons_zero, List.getElem?_cons_succ, Nat.reduceEqDiff, ↓reduceIte, h1, h5]
        congr 1
      · simp (config := { maxSteps := 10000000 }) (disch := omega) only [↓G_seq, ↓G_skip, ↓G_blk, ↓G_region, ↓G_block, ↓G_cond, ↓G_ops_nil, ↓G_op, Gv_some, ↓G_gop, Gw_tt, Gw_ff, Gw_tf, Gc_true, Gc_false, dec_t, dec_f, killAll, ↓get_setS, evalOp, ev, b_add, b_eql, b_neq, b_lss, wrap_i64, one, Option.map_some, asB, List.getElem?_cons_zero, List.getElem?_cons_succ, Nat.reduceEqDiff, ↓reduceIte, Nat.succ_ne_self, decide_true, Bool.not_true, Bool.not_false, Bool.false_eq_true, Int.reduceAdd, pick3, addOff, loadV, Nat.reduceAdd, Nat.zero_add, Nat.add_zero, h1, h5, h7, hlen, hE, hM]
        refine ih (i + 1) _ (by omega) ?_ ?_ ?_
        all_goals simp (config := { maxSteps := 10000000 }) (disch := omega) only [↓get_setS, List.getElem?_cons_zero, List.getElem?_cons_succ, Nat.reduceEqDiff, ↓reduceIte, h1, h5]
        congr 1
    · simp (config := { maxSteps := 10000000 }) (disch := omega) only [↓G_seq, ↓G_skip, ↓G_blk, ↓G_region, ↓G_block, ↓G_cond, ↓G_ops_nil, ↓G_op, Gv_some, ↓G_gop, Gw_tt, Gw_ff, Gc_true, Gc_false, dec_t, dec_f, killAll, ↓get_setS, evalOp, ev, b_add, b_eql, b_neq, b_lss, wrap_i64, one, Option.map_some, asB, List.getElem?_cons_zero, List.getElem?_cons_succ, Nat.reduceEqDiff, ↓reduceIte, Nat.succ_ne_self, decide_true, Bool.not_true, Bool.not_false, Bool.false_eq_true, Int.reduceAdd, pick3, addOff, loadV, Nat.reduceAdd, Nat.zero_add, Nat.add_zero, h1, h5, h7, hlen, hE, hM]
      refine ih (i + 1) _ (by omega) ?_ ?_ ?_
      all_goals simp (config := { maxSteps := 10000000 }) (disch := omega) only [↓get_setS, List.getElem?_cons_zero, List.getElem?_cons_succ, Nat.reduceEqDiff, ↓reduceIte, h1, h5]
      congr 1

theorem l5 {f : Int} {v : V} {l : List Nt} (hm : l.length ≤ 9223372036854775807) (hv : SlV 6 v (E6 l)) : call tbl 5 [.i f, v] H = some (.bool true) := by
  refine (call_start (show tbl 5 = some a5 from rfl)).trans ?_
  have hlen := hv.len
  rw [E6_len] at hlen
  by_cases hl : 30 < l.length
  · unfold a5
    simp (config := { maxSteps := 10000000 }) (disch := omega) only [↓G_seq, ↓G_ret, ↓G_region, ↓G_cond, ↓G_ops_nil, ↓G_op, Gv_some, ↓G_gop, Gw_ff, Gw_ft, Gc_true, dec_t, killAll, ↓get_setS, evalOp, ev, evs, Ab.get, b_gtr, one, Option.map_some, Option.bind_some, asB, finish, resVs, resV, outVs, ownsLast, tupOf, callV, V.shifts, List.append_nil, List.all_nil, List.getElem?_cons_zero, List.getElem?_cons_succ, Nat.reduceEqDiff, ↓reduceIte, Nat.succ_ne_self, Bool.not_true, bne_self_eq_false, Bool.false_eq_true, ti_bool, ov_bool, fn_some, c13, hlen]
    done
  have h15 := fun H => c15 (H := H) (by omega) hv
  have hv' := svE_ok 6 (E6 l)
  have h16 := fun H => c16 (H := H) f hm hv
  have hsh := hv'.sh
  have hsh' := hv.sh
  by_cases he : errR f l = 0
  · have h14 := fun H => c14 (H := H) he hv'
    have hw := svE_ok 2 (M2 (dispR l l (startR f)).1)
    have hll := (dispR_len l l (startR f)).1
    have hwl := hw.len
    rw [M2_len, hll] at hwl
    have hto := fun L s vs => out_take_tup (L := L) (s := s) (sz := 2) (M2 (dispR l l (startR f)).1) vs
    rw [he] at h16
    generalize svE 2 (M2 (dispR l l (startR f)).1) = w at *
    generalize hB : svE 6 (E6 l) = u at *
    unfold a5
    simp (config := { maxSteps := 10000000 }) (disch := omega) only [↓G_seq, ↓G_skip, ↓G_region, ↓G_block, ↓G_cond, ↓G_ops_nil, ↓G_op, Gv_some, ↓G_gop, Gw_ff, Gc_false, dec_f, killAll, ↓get_setS, evalOp, ev, evs, Ab.get, b_neq, b_gtr, one, Option.map_some, asB, callV, V.shift, V.shifts, List.append_nil, List.map_cons, List.map_nil, List.getElem?_cons_zero, List.getElem?_cons_succ, Nat.reduceEqDiff, reduceCtorEq, ↓reduceIte, Nat.succ_ne_self, decide_true, Bool.not_true, bne_self_eq_false, Bool.false_eq_true, ti_bool, ti_int, st_int, c13, hlen, hsh', h15, ↓out_take, hB, hsh, h14, h16, hwl, ↓hto]
    refine loop5 (f := f) (by omega) (errR_ok he).2.2 hv hw (fun fr' => ?_) l.length 0 _ (by omega) ?_ ?_ ?_
    all_goals simp (config := { maxSteps := 10000000 }) (disch := omega) only [↓G_seq, ↓G_ret, ↓G_region, ↓Gx_blk, ↓G_ops_nil, ↓G_op, Gv_some, killAll, ↓get_setS, evalOp, ev, Ab.get, Option.map_some, Option.bind_some, finish, resVs, resV, outVs, ownsLast, tupOf, List.all_nil, List.getElem?_cons_zero, List.getElem?_cons_succ, Nat.reduceEqDiff, ↓reduceIte, Nat.succ_ne_self, Int.cast_ofNat_Int, ov_bool, fn_some]
  · generalize errR f l = e at *
    unfold a5
    simp (config := { maxSteps := 10000000 }) (disch := omega) only [↓G_seq, ↓G_ret, ↓G_region, ↓G_cond, ↓G_ops_nil, ↓G_op, Gv_some, ↓G_gop, Gw_ff, Gc_true, dec_f, killAll, ↓get_setS, evalOp, ev, evs, Ab.get, b_neq, b_gtr, one, Option.map_some, Option.bind_some, asB, finish, resVs, resV, outVs, ownsLast, tupOf, callV, V.shift, V.shifts, List.append_nil, List.all_nil, List.getElem?_cons_zero, List.getElem?_cons_succ, Nat.reduceEqDiff, reduceCtorEq, ↓reduceIte, Nat.succ_ne_self, Bool.not_true, Bool.not_false, bne_self_eq_false, Bool.false_eq_true, ti_bool, ti_int, ov_bool, fn_some, c13, hlen, hsh', h16]

theorem l7' (a k : Int) : call tbl 7 [.i a, .i k] H = some (.bool true) := l7 (fun _ => c13) a k

theorem E6_of (els : List (List V)) (h : ∀ e ∈ els, fitCs [.int .i64, .int .i64, .int .i64, .int .i64, .bool, .int .i64] e) : ∃ l, els = E6 l := by
  induction els with
  | nil => exact ⟨[], rfl⟩
  | cons e es ih =>
    obtain ⟨l, rfl⟩ := ih (fun e he => h e (by simp [he]))
    have h0 := h e (by simp)
    obtain ⟨_, _, rfl, ⟨b0, rfl, _⟩, ⟨_, _, rfl, ⟨b1, rfl, _⟩, ⟨_, _, rfl, ⟨b2, rfl, _⟩, ⟨_, _, rfl, ⟨b3, rfl, _⟩, ⟨_, _, rfl, ⟨b4, rfl⟩, ⟨_, _, rfl, ⟨b5, rfl, _⟩, rfl⟩⟩⟩⟩⟩⟩ := h0
    exact ⟨⟨b0, b1, b2, b3, b4, b5⟩ :: l, rfl⟩
/-- A law's list of notes. -/
theorem arg6 {v : V} (h : v = .nilsl ∨ ∃ els, v = .sl .any 6 els ∧ els.length ≤ maxLen ∧ ∀ e ∈ els, fitCs [.int .i64, .int .i64, .int .i64, .int .i64, .bool, .int .i64] e) :
    ∃ l, SlV 6 v (E6 l) ∧ l.length ≤ 9223372036854775807 := by
  rcases h with rfl | ⟨els, rfl, hlen, hels⟩
  · exact ⟨[], .nil, by simp⟩
  · obtain ⟨l, rfl⟩ := E6_of els hels
    exact ⟨l, .any, by rw [E6_len] at hlen; exact Nat.le_trans hlen (by decide)⟩

end Go.Proofs.Ythnjcaioeaepjaa

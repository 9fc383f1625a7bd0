/-
  The law AccidentalScale as an equation.
-/
import Derived.Test.YthnjcaioeaepjaaS10V
namespace Go.Proofs.Ythnjcaioeaepjaa
open Go Go.Ab
set_option linter.unusedVariables false
set_option linter.unnecessarySimpa false
set_option linter.unusedSimpArgs false
set_option maxRecDepth 100000
variable {H : List (List Row)}

def fixN (f : Int) (n : Nt) : Nt := { n with al := keyR f n.s, sh := 0 }

theorem E6_set (l : List Nt) (i : Nat) (n : Nt) : (E6 l).set i [.i n.at_, .i n.s, .i n.al, .i n.o, .bool n.h, .i n.sh] = E6 (l.set i n) := by simp [E6, List.map_set, Nt.cells]

theorem loop4 {k : List KI} {rs : List ARes} {r : Option V} {v : V} {f : Int} {l : List Nt} {v1 : Nat} (hl : l.length ≤ 30) (hf : -7 ≤ f ∧ f ≤ 7) (hin : ∀ n ∈ l, inN n) (hv1 : 0 < v1)
    (hr : ∀ fr' L', Ab.get fr' 0 = .i f → Ab.get fr' 1 = v → Ab.get fr' 5 = .ref 0 1 v1 6 0 l.length → rget L' 1 = ⟨v1, 6, E6 (l.map (fixN f))⟩ → Gx tbl H rs 0 k fr' L' = r) :
    ∀ (q i : Nat) (c : List Nt) (fr : List V) (L : List Row), i + q = l.length → c.length = l.length → (∀ j, j < i → c[j]? = (l.map (fixN f))[j]?) → (∀ j, i ≤ j → c[j]? = l[j]?) → Ab.get fr 0 = .i f → Ab.get fr 1 = v → Ab.get fr 5 = .ref 0 1 v1 6 0 l.length → Ab.get fr 6 = .i (i : Nat) →
    rget L 1 = ⟨v1, 6, E6 c⟩ → G tbl H rs (.code (.loop ( (.seq ( (.seq ( .region [] [ ⟨some 27, .mv (.t 6), none⟩, ⟨some 28, .mv (.t 5), none⟩, ⟨some 29, .len (.t 28), none⟩, ⟨some 30, .bin .lss (.t 27) (.t 29), none⟩]) ( (.cond (.t 30) ( .skip) ( .exit 0))))) ( (.seq ( (.block 1 ( .region [] [ ⟨some 33, .mv (.t 5), none⟩, ⟨some 34, .mv (.t 6), none⟩, ⟨some 35, .mv (.t 5), none⟩, ⟨some 36, .mv (.t 6), none⟩, ⟨some 37, .mv (.t 0), none⟩, ⟨some 38, .mv (.t 5), none⟩, ⟨some 39, .mv (.t 6), none⟩, ⟨some 40, .elemAddr 6 (.t 38) (.t 39), none⟩, ⟨some 41, .fieldAddr 1 (.t 40), none⟩, ⟨some 42, .fieldAddr 0 (.t 41), none⟩, ⟨some 43, .load false 1 (.t 42), none⟩, ⟨some 44, .callf 0 (.c (.fn 19 [])) [(.t 37), (.t 43)], none⟩, ⟨some 45, .elemAddr 6 (.t 33) (.t 34), none⟩, ⟨some 46, .fieldAddr 1 (.t 45), none⟩, ⟨some 47, .fieldAddr 1 (.t 46), none⟩, ⟨none, .store 1 (.t 47) (.t 44), none⟩, ⟨some 48, .elemAddr 6 (.t 35) (.t 36), none⟩, ⟨some 49, .fieldAddr 5 (.t 48), none⟩, ⟨none, .store 1 (.t 49) (.c (.int .i64 0)), none⟩]))) ( .region [] [ ⟨some 31, .mv (.t 6), none⟩, ⟨some 32, .bin .add (.t 31) (.c (.int .i64 1)), none⟩, ⟨some 6, .mv (.t 32), none⟩])))))) :: k) fr L = r := by
  intro q
  induction q with
  | zero =>
    intro i c fr L hi hc b1 b2 h0 h1 h5 h6 r1
    have : c = l.map (fixN f) := by
      apply List.ext_getElem?
      intro j
      rcases Nat.lt_or_ge j i with hj | hj
      · exact b1 j hj
      · rw [List.getElem?_eq_none (by omega), List.getElem?_eq_none (by simp; omega)]
    subst this
    refine G_loop.trans ?_
    simp (config := { maxSteps := 10000000 }) (disch := omega) only [↓G_seq, ↓G_exit, ↓G_region, ↓G_cond, ↓Gx_code, ↓G_ops_nil, ↓G_op, Gv_some, Gc_false, dec_f, killAll, ↓get_setS, evalOp, ev, b_lss, one, Option.map_some, List.getElem?_cons_zero, List.getElem?_cons_succ, Nat.reduceEqDiff, ↓reduceIte, Nat.succ_ne_self, len_ref, h5, h6]
    refine hr _ _ ?_ ?_ ?_ ?_
    all_goals simp (config := { maxSteps := 10000000 }) (disch := omega) only [↓get_setS, List.getElem?_cons_zero, List.getElem?_cons_succ, Nat.reduceEqDiff, reduceCtorEq, ↓reduceIte, h0, h1, h5, r1]
  | succ q ih =>
    intro i c fr L hi hc b1 b2 h0 h1 h5 h6 r1
    obtain ⟨n, hn⟩ : ∃ n, l[i]? = some n := ⟨_, List.getElem?_eq_getElem (by omega)⟩
    have hci := (b2 i (Nat.le_refl _)).trans hn
    have hE := E6_get c i n hci
    have hi1 := hin n (List.mem_of_getElem? hn)
    have h19 := fun H => c19 (H := H) f n.s hf hi1.1
    have hs1 := E6_set c i { n with al := keyR f n.s }
    have hE2 : (E6 (c.set i { n with al := keyR f n.s }))[i]? = some [.i n.at_, .i n.s, .i (keyR f n.s), .i n.o, .bool n.h, .i n.sh] := E6_get _ i { n with al := keyR f n.s } (by rw [List.getElem?_set, if_pos rfl, if_pos (by omega)])
    have hs2 := E6_set (c.set i { n with al := keyR f n.s }) i (fixN f n)
    simp only [fixN] at hs2
    clear hin
    refine G_loop.trans ?_
    simp (config := { maxSteps := 10000000 }) (disch := omega) only [↓G_seq, ↓G_skip, ↓G_blk, ↓G_region, ↓G_block, ↓G_cond, ↓G_ops_nil, ↓G_op, Gv_some, Gc_true, dec_t, killAll, ↓get_setS, ↓get_setN, evalOp, ev, evs, rget_rset, b_add, b_lss, wrap_i64, one, Option.map_some, Option.bind_some, callV, V.shift, V.shifts, List.append_nil, List.nil_append, List.cons_append, List.all_cons, List.all_nil, Bool.and_true, Bool.true_and, Bool.and_self, List.getElem?_cons_zero, List.getElem?_cons_succ, Nat.reduceEqDiff, reduceCtorEq, ↓reduceIte, Nat.succ_ne_self, bne_self_eq_false, Bool.false_eq_true, Int.reduceAdd, pick3, V.cells, splice, addOff, loadV, storeV, Ab.rowAt, V.scalar, Nat.reduceAdd, Nat.reduceLeDiff, and_true, true_and, and_self, List.length_cons, List.length_nil, List.take_succ_cons, List.take_zero, List.drop_succ_cons, List.drop_zero, Nat.le_refl, List.getD_cons_zero, Nat.zero_add, Nat.add_zero, len_ref, el_ref, ti_int, fz_nil, fz_cons, fz_int, nn, ite_ov, Int.toNat_natCast, h0, h5, h6, r1, hE, h19, hs1, hE2, hs2, rset_rset]
    refine ih (i + 1) ((c.set i { n with al := keyR f n.s }).set i (fixN f n)) _ _ (by omega) (by simpa using hc) ?_ ?_ ?_ ?_ ?_ ?_ ?_
    · intro j hj
      rw [List.set_set, List.getElem?_set]
      by_cases e : i = j
      · subst e
        rw [if_pos rfl, if_pos (by omega)]
        simp [hn]
      · rw [if_neg e]
        exact b1 j (by omega)
    · intro j hj
      rw [List.set_set, List.getElem?_set, if_neg (by omega)]
      exact b2 j (by omega)
    · simp (config := { maxSteps := 10000000 }) (disch := omega) only [↓get_setS, ↓get_setN, List.getElem?_cons_zero, List.getElem?_cons_succ, reduceCtorEq, ↓reduceIte, h0]
    · simp (config := { maxSteps := 10000000 }) (disch := omega) only [↓get_setS, ↓get_setN, List.getElem?_cons_zero, List.getElem?_cons_succ, Nat.reduceEqDiff, ↓reduceIte, h1]
    · simp (config := { maxSteps := 10000000 }) (disch := omega) only [↓get_setS, ↓get_setN, List.getElem?_cons_zero, List.getElem?_cons_succ, Nat.reduceEqDiff, ↓reduceIte, Nat.succ_ne_self, h5]
    · simp (config := { maxSteps := 10000000 }) (disch := omega) only [↓get_setS, List.getElem?_cons_zero, List.getElem?_cons_succ, ↓reduceIte]
      congr 1
    · simp (config := { maxSteps := 10000000 }) (disch := omega) only [rget_rset, List.getElem?_cons_zero, List.getElem?_cons_succ, ↓reduceIte]
      rfl

theorem loop4b {k : List KI} {w : V} {n : Nat} {L : List Row} {rs : List ARes} {r : Option V} {v : V} (hn : n ≤ 30) (hw : SlV 2 w (M2 (List.replicate n (0, false))))
    (hx : ∀ fr', Ab.get fr' 1 = v → Ab.get fr' 7 = w → Ab.get fr' 8 = .i 0 → Gx tbl H rs 2 k fr' L = r) :
    ∀ (q i : Nat) (fr : List V), i + q = n → Ab.get fr 1 = v → Ab.get fr 7 = w → Ab.get fr 8 = .i 0 → Ab.get fr 9 = .i (i : Nat) →
    G tbl H rs (.code (.loop ( (.seq ( (.seq ( .region [] [ ⟨some 57, .mv (.t 9), none⟩, ⟨some 58, .mv (.t 7), none⟩, ⟨some 59, .len (.t 58), none⟩, ⟨some 60, .bin .lss (.t 57) (.t 59), none⟩]) ( (.cond (.t 60) ( .skip) ( .exit 2))))) ( (.seq ( (.block 3 ( (.seq ( .region [] [ ⟨some 63, .mv (.t 7), none⟩, ⟨some 64, .mv (.t 9), none⟩, ⟨some 65, .elemAddr 2 (.t 63) (.t 64), none⟩, ⟨some 66, .load true 2 (.t 65), none⟩, ⟨some 67, .build [(.int .i64 0), (.bool false)] [], none⟩, ⟨some 68, .eqagg [false, true] true (.t 66) (.t 67), none⟩]) ( (.cond (.t 68) ( (.seq ( .region [] [ ⟨some 4, .mv (.c (.bool false)), none⟩]) ( .ret))) ( .skip))))))) ( .region [] [ ⟨some 61, .mv (.t 9), none⟩, ⟨some 62, .bin .add (.t 61) (.c (.int .i64 1)), none⟩, ⟨some 9, .mv (.t 62), none⟩])))))) :: k) fr L = r := by
  intro q
  have hlen := hw.len
  rw [M2_len, List.length_replicate] at hlen
  induction q with
  | zero =>
    intro i fr hi h1 h7 h8 h9
    refine G_loop.trans ?_
    simp (config := { maxSteps := 10000000 }) (disch := omega) only [↓G_seq, ↓G_exit, ↓G_region, ↓G_cond, ↓Gx_code, ↓G_ops_nil, ↓G_op, Gv_some, Gc_false, dec_f, killAll, ↓get_setS, evalOp, ev, b_lss, one, Option.map_some, List.getElem?_cons_zero, List.getElem?_cons_succ, Nat.reduceEqDiff, ↓reduceIte, Nat.succ_ne_self, h7, h9, hlen]
    refine hx _ ?_ ?_ ?_
    all_goals simp (config := { maxSteps := 10000000 }) (disch := omega) only [↓get_setS, List.getElem?_cons_zero, List.getElem?_cons_succ, Nat.reduceEqDiff, ↓reduceIte, h1, h7, h8]
  | succ q ih =>
    intro i fr hi h1 h7 h8 h9
    have hE := hw.el (M2_get (List.replicate n (0, false)) i (0, false) (by rw [List.getElem?_replicate, if_pos (by omega)]))
    refine G_loop.trans ?_
    simp (config := { maxSteps := 10000000 }) (disch := omega) only [beq_self_eq_true, ↓G_seq, ↓G_skip, ↓G_blk, ↓G_region, ↓G_block, ↓G_cond, ↓G_ops_nil, ↓G_op, Gv_some, Gc_true, Gc_false, dec_t, killAll, ↓get_setS, evalOp, ev, b_add, b_lss, wrap_i64, one, Option.map_some, Bool.true_and, List.getElem?_cons_zero, List.getElem?_cons_succ, Nat.reduceEqDiff, ↓reduceIte, Nat.succ_ne_self, decide_true, Bool.not_true, Int.reduceAdd, pick3, fillV, loadV, Nat.reduceAdd, true_and, List.length_cons, List.length_nil, List.take_succ_cons, List.take_zero, List.drop_zero, Nat.le_refl, Nat.zero_add, h7, h9, hlen, hE, eqCells]
    refine ih (i + 1) _ (by omega) ?_ ?_ ?_ ?_
    all_goals simp (config := { maxSteps := 10000000 }) (disch := omega) only [↓get_setS, List.getElem?_cons_zero, List.getElem?_cons_succ, Nat.reduceEqDiff, ↓reduceIte, Nat.succ_ne_self, h1, h7, h8]
    congr 1

theorem okN_fix {f b : Int} {n : Nt} (h : okN b n = 0) : okN b (fixN f n) = 0 := by
  obtain ⟨h1, h2, h3⟩ := okN_0 h
  have := keyR_in f n.s
  refine okN_ok (by simp only [fixN]; omega) ⟨h2.1, ?_, h2.2.2⟩ (by simp [fixN])
  simp only [fixN]
  omega
theorem errL_fix (f : Int) : ∀ (l : List Nt) (b : Int), errL b l = 0 → errL b (l.map (fixN f)) = 0
  | [], _, _ => rfl
  | n :: t, b, h => by
    unfold errL at h
    split at h
    · contradiction
    · rename_i h1
      rw [List.map_cons, errL_0 (okN_fix (Classical.not_not.1 h1))]
      exact errL_fix f t n.at_ h
theorem errR_fix {f : Int} {l : List Nt} (h : errR f l = 0) : errR f (l.map (fixN f)) = 0 := by
  obtain ⟨h1, h2, h3⟩ := errR_ok h
  rw [errR_0 (by unfold guardR; rw [if_neg (by omega), if_neg (by simp; omega)])]
  exact errL_fix f l 0 h3

theorem any_fix (f : Int) (l : List Nt) (n : Nt) : (l.map (fixN f)).any (hitB (fixN f n)) = false := by
  rw [List.any_eq_false]
  intro x hx
  obtain ⟨y, _, rfl⟩ := List.mem_map.1 hx
  intro z
  simp only [hitB, Bool.and_eq_true, decide_eq_true_eq] at z
  have z3 : hitC (fixN f n) (fixN f y) := z.2
  obtain ⟨z1, _, z2⟩ := z3
  simp only [fixN] at z1 z2
  rw [z1] at z2
  exact z2 rfl

theorem disp_fix (f : Int) (l : List Nt) : ∀ (t : List Nt), (∀ n ∈ t, inN n) → dispR (l.map (fixN f)) (t.map (fixN f)) (startR f) = (List.replicate t.length (0, false), startR f)
  | [], _ => rfl
  | n :: t, h => by
    have hn := h n (by simp)
    obtain ⟨hq1, hq2⟩ := ixN_eq hn
    have hix : ixN (fixN f n) = ixN n := rfl
    have hx : (startR f)[ixN (fixN f n)]? = some (fixN f n).al := by
      rw [hix, startR_get f _ hq2]
      congr 2
      have := hn.1
      omega
    have hst := step_n (startR f) (fixN f n) ((l.map (fixN f)).any (hitB (fixN f n))) (fixN f n).al hx ⟨.inr rfl, any_fix f l n⟩
    rw [if_pos (show (fixN f n).sh = 0 from rfl)] at hst
    have ih := disp_fix f l t (fun m hm => h m (by simp [hm]))
    simp only [List.map_cons, dispR, hst, ih, List.length_cons, List.replicate_succ]

set_option maxHeartbeats 1000000 in
theorem l4 {f : Int} {v : V} {l : List Nt} (hm : l.length ≤ 9223372036854775807) (hv : SlV 6 v (E6 l)) : call tbl 4 [.i f, v] H = some (.bool true) := by
  refine (call_start (show tbl 4 = some a4 from rfl)).trans ?_
  have hlen := hv.len
  rw [E6_len] at hlen
  by_cases hl : 30 < l.length
  · unfold a4
    simp (config := { maxSteps := 10000000 }) (disch := omega) only [↓G_seq, ↓G_ret, ↓G_region, ↓G_cond, ↓G_ops_nil, ↓G_op, Gv_some, ↓G_gop, Gw_ff, Gw_ft, Gc_true, dec_t, killAll, ↓get_setS, evalOp, ev, evs, Ab.get, b_gtr, one, Option.map_some, Option.bind_some, asB, finish, resVs, resV, outVs, ownsLast, tupOf, callV, V.shifts, List.append_nil, List.all_nil, List.getElem?_cons_zero, List.getElem?_cons_succ, Nat.reduceEqDiff, ↓reduceIte, Nat.succ_ne_self, Bool.not_true, bne_self_eq_false, Bool.false_eq_true, ti_bool, ov_bool, fn_some, fz_nil, c13, hlen]
    done
  have h16 := fun H => c16 (H := H) f hm hv
  have hsh' := hv.sh
  have hfz := hv.fz
  by_cases he : errR f l = 0
  case neg =>
    generalize errR f l = e at *
    unfold a4
    simp (config := { maxSteps := 10000000 }) (disch := omega) only [↓G_seq, ↓G_ret, ↓G_region, ↓G_cond, ↓G_ops_nil, ↓G_op, Gv_some, ↓G_gop, Gw_ff, Gc_true, dec_f, killAll, ↓get_setS, evalOp, ev, evs, Ab.get, b_neq, b_gtr, one, Option.map_some, Option.bind_some, asB, finish, resVs, resV, outVs, ownsLast, tupOf, callV, V.shift, V.shifts, List.append_nil, List.all_nil, List.getElem?_cons_zero, List.getElem?_cons_succ, Nat.reduceEqDiff, reduceCtorEq, ↓reduceIte, Nat.succ_ne_self, Bool.not_true, Bool.not_false, bne_self_eq_false, Bool.false_eq_true, ti_bool, ti_int, ov_bool, fn_some, fz_nil, fz_cons, fz_int, c13, hlen, hsh', hfz, h16]
    done
  rw [he] at h16
  obtain ⟨hf, hl2, he2⟩ := errR_ok he
  have hin : ∀ n ∈ l, inN n := fun n hn => ((errL_sorted l 0 he2).2 n hn).2.1
  by_cases hz : l = []
  · subst hz
    have h15 := fun H => c15 (H := H) (l := []) (by simp) (v := .sl .full 6 []) .full
    have ho : outAcc 6 (E6 []) = .nilsl := rfl
    rw [ho] at h15
    have h14 := fun H => c14 (H := H) (f := f) (l := []) he (v := .nilsl) .nil
    have ho2 : outAcc 2 (M2 (dispR [] [] (startR f)).1) = .nilsl := rfl
    rw [ho2] at h14
    have hel := hv.els
    have hap : ∀ L, appV (L :: H) 1 6 48 (.sl .full 6 []) v = some (.sl .full 6 [], L) := by
      intro L
      simp only [appV, hel, Option.bind_some, E6, List.map_nil, List.isEmpty_nil, if_true]
      rfl
    clear hin
    unfold a4
    simp (config := { maxSteps := 10000000 }) (disch := omega) only [↓G_seq, ↓G_skip, ↓G_ret, ↓G_exit, ↓G_region, ↓G_block, ↓G_cond, ↓Gx_blk, ↓Gx_code, ↓G_ops_nil, ↓G_op, Gv_some, ↓G_gop, Gw_tt, Gw_ff, Gc_false, killAll, ↓get_setS, evalOp, ev, evs, Ab.get, b_eql, b_neq, b_lss, b_gtr, one, Option.map_some, Option.bind_some, asB, finish, resVs, resV, outVs, ownsLast, tupOf, callV, V.shift, V.shifts, List.append_nil, List.map_cons, List.map_nil, List.all_nil, Bool.true_and, List.getElem?_cons_zero, List.getElem?_cons_succ, Nat.reduceEqDiff, reduceCtorEq, ↓reduceIte, Nat.succ_ne_self, decide_true, decide_false, Bool.not_true, bne_self_eq_false, Bool.false_eq_true, Int.reduceAdd, Int.reduceLT, fillV, chop, Nat.reduceAdd, Nat.reduceLT, true_and, List.length_cons, List.length_nil, List.replicate, List.flatten_nil, Int.cast_ofNat_Int, Nat.zero_add, len_nil, len_full, ti_bool, ti_int, ti_nilsl, ti_tup_nilsl, st_int, st_nilsl, ov_bool, fn_some, fz_nil, fz_cons, fz_full, fz_int, fz_nilsl, ↓G_loop, c13, hlen, hsh', hfz, h16, hap, h15, h14]
    done
  have hE6 := E6_len l
  have hpos : 0 < l.length := List.length_pos_iff.2 hz
  have hap : ∀ L, appV (L :: H) 1 6 48 (.sl .full 6 []) v = some (.ref 0 1 ((rget L 1).ver + 1) 6 0 l.length, rset L 1 ⟨(rget L 1).ver + 1, 6, E6 l⟩) := by
    intro L
    have hne : (E6 l).isEmpty = false := by
      cases h : E6 l with
      | nil => rw [h] at hE6; simp at hE6; omega
      | cons => rfl
    have hall : (E6 l).all (fun e => e.length = 6 ∧ e.all V.scalar) = true := by simp [E6, Nt.cells, V.scalar]
    simp only [appV, hv.els, Option.bind_some, hne, Bool.false_eq_true, if_false, List.getD_cons_zero, List.nil_append, List.length_nil, Nat.zero_add]
    rw [if_pos ⟨by simp [roomy, hE6]; omega, hall⟩, hE6]
  have hfl : (l.map (fixN f)).length = l.length := by simp
  have hE6' : (E6 (l.map (fixN f))).length = l.length := by rw [E6_len, hfl]
  have hp6 := E6_pure (l.map (fixN f))
  have htk : List.take l.length (E6 (l.map (fixN f))) = E6 (l.map (fixN f)) := List.take_of_length_le (by omega)
  have h15 := fun H => c15 (H := H) (l := l.map (fixN f)) (by omega) (v := .sl .any 6 (E6 (l.map (fixN f)))) .any
  have hto0 := fun L s => out_take (L := L) (s := s) (sz := 6) (E6 (l.map (fixN f)))
  have hv' := svE_ok 6 (E6 (l.map (fixN f)))
  have hsh := hv'.sh
  have hfz2 := hv'.fz
  have h14 := fun H => c14 (H := H) (errR_fix he) hv'
  rw [disp_fix f l l hin] at h14
  have hto := fun L s vs => out_take_tup (L := L) (s := s) (sz := 2) (M2 (List.replicate l.length (0, false))) vs
  have hw := svE_ok 2 (M2 (List.replicate l.length (0, false)))
  have hwl := hw.len
  rw [M2_len, List.length_replicate] at hwl
  have hti := hw.ti_tup
  simp only at h14
  generalize hW : svE 2 (M2 (List.replicate l.length (0, false))) = w at *
  generalize hB : svE 6 (E6 (l.map (fixN f))) = u at *
  have hmain := fun k r hr => loop4 (H := H) (k := k) (rs := [.tmp 4]) (r := r) (v := v) (f := f) (l := l) (v1 := 1) (by omega) hf hin (by omega) hr l.length 0 l
  clear hin
  unfold a4
  simp (config := { maxSteps := 10000000 }) (disch := omega) only [↓G_seq, ↓G_skip, ↓G_region, ↓G_block, ↓G_cond, ↓G_ops_nil, ↓G_op, Gv_some, ↓G_gop, Gw_ff, Gc_false, dec_f, killAll, ↓get_setS, evalOp, ev, evs, Ab.get, b_neq, b_gtr, one, Option.map_some, Option.bind_some, asB, callV, V.shift, V.shifts, List.append_nil, List.all_nil, Bool.true_and, List.getElem?_cons_zero, List.getElem?_cons_succ, Nat.reduceEqDiff, reduceCtorEq, ↓reduceIte, Nat.succ_ne_self, decide_true, Bool.not_true, bne_self_eq_false, Bool.false_eq_true, Int.reduceAdd, Int.reduceLT, fillV, chop, rget, rset, Nat.reduceAdd, Nat.reduceLT, true_and, List.length_cons, List.length_nil, List.replicate, List.flatten_nil, Nat.zero_add, ti_bool, ti_int, fz_nil, fz_cons, fz_int, c13, hlen, hsh', hfz, h16, hap]
  refine hmain _ _ (fun fr' L' g0 g1 g5 s1 => ?_) _ _ (by omega) rfl (by intro j hj; omega) (fun _ _ => rfl) ?_ ?_ ?_ ?_ ?_
  · clear hmain
    simp (config := { maxSteps := 10000000 }) (disch := omega) only [↓G_seq, ↓G_region, ↓G_block, ↓Gx_blk, ↓G_ops_nil, ↓G_op, Gv_some, killAll, ↓get_setS, evalOp, ev, evs, Option.map_some, Option.bind_some, callV, V.shift, V.shifts, List.append_nil, List.map_cons, List.map_nil, Bool.and_true, Bool.true_and, List.getElem?_cons_zero, List.getElem?_cons_succ, Nat.reduceEqDiff, ↓reduceIte, Nat.succ_ne_self, bne_self_eq_false, Int.reduceAdd, Nat.reduceAdd, and_true, true_and, List.drop_zero, Nat.zero_add, st_int, fz_nil, fz_cons, fz_int, fz_ref0, ite_ov, g0, g5, s1, hp6, htk, h15, ↓hto0, hsh, hfz2, h14, ↓hto, Nat.zero_lt_succ]
    refine loop4b (v := v) (w := w) (n := l.length) (by omega) hw (fun fr2 f1 f7 f8 => ?_) l.length 0 _ (by omega) ?_ ?_ ?_ ?_
    · simp (config := { maxSteps := 10000000 }) (disch := omega) only [↓G_seq, ↓G_ret, ↓G_region, ↓Gx_blk, ↓G_ops_nil, ↓G_op, Gv_some, ↓G_gop, Gw_tt, killAll, ↓get_setS, evalOp, ev, b_eql, one, Option.map_some, Option.bind_some, asB, finish, resVs, resV, outVs, ownsLast, tupOf, List.all_nil, List.getElem?_cons_zero, List.getElem?_cons_succ, Nat.reduceEqDiff, ↓reduceIte, Nat.succ_ne_self, decide_true, ov_bool, fn_some, f1, f7, f8, hlen, hwl]
    all_goals simp (config := { maxSteps := 10000000 }) (disch := omega) only [↓get_setS, List.getElem?_cons_zero, List.getElem?_cons_succ, Nat.reduceEqDiff, ↓reduceIte, Nat.succ_ne_self, Int.cast_ofNat_Int, g1]
  all_goals simp (config := { maxSteps := 10000000 }) (disch := omega) only [↓get_setS, Ab.get, List.getElem?_cons_zero, List.getElem?_cons_succ, Nat.reduceEqDiff, reduceCtorEq, ↓reduceIte, Nat.succ_ne_self, rget, Int.cast_ofNat_Int]

end Go.Proofs.Ythnjcaioeaepjaa

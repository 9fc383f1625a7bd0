/-
  The accidental package: what is in force at the beginning.
-/
import Derived.Test.YthnjcaioeaepjaaFns10
import Derived.Test.YthnjcaioeaepjaaAbSl
namespace Go.Proofs.Ythnjcaioeaepjaa
open Go Go.Ab
set_option linter.unusedVariables false
set_option linter.unnecessarySimpa false
set_option linter.unusedSimpArgs false
set_option maxRecDepth 100000
variable {H : List (List Row)}

def plc (s : Int) : Int := if s = 0 then 1 else if s = 1 then 3 else if s = 2 then 5 else if s = 3 then 0 else if s = 4 then 2 else if s = 5 then 4 else 6
def keyR (f s : Int) : Int := if plc s < f then 1 else if 6 - plc s < -f then -1 else 0
def startR (f : Int) : List Int := (List.range 77).map fun (i : Nat) => keyR f ((i : Int) % 7)

theorem startR_len (f : Int) : (startR f).length = 77 := by simp [startR]
theorem startR_get (f : Int) (i : Nat) (h : i < 77) : (startR f)[i]? = some (keyR f ((i : Int) % 7)) := by simp [startR, h]
theorem keyR_in (f s : Int) : -1 ≤ keyR f s ∧ keyR f s ≤ 1 := by
  unfold keyR
  split
  · omega
  · split <;> omega

theorem steps (s : Int) (h : 0 ≤ s ∧ s ≤ 6) : s = 0 ∨ s = 1 ∨ s = 2 ∨ s = 3 ∨ s = 4 ∨ s = 5 ∨ s = 6 := by omega
theorem plc_in (s : Int) (h : 0 ≤ s ∧ s ≤ 6) : 0 ≤ plc s ∧ plc s ≤ 6 := by
  rcases steps s h with rfl | rfl | rfl | rfl | rfl | rfl | rfl
  all_goals decide

theorem c41 (s : Int) (h : 0 ≤ s ∧ s ≤ 6) : call tbl 41 [.i s] H = some (.i (plc s - 1)) := by
  rcases steps s h with rfl | rfl | rfl | rfl | rfl | rfl | rfl
  all_goals exact call_of 30 (by kernel_rfl)

theorem c40 (f s : Int) (hf : -7 ≤ f ∧ f ≤ 7) (h : 0 ≤ s ∧ s ≤ 6) : call tbl 40 [.i f, .i s] H = some (.i (keyR f s)) := by
  refine (call_start (show tbl 40 = some a40 from rfl)).trans ?_
  have hp := plc_in s h
  have h41 := fun H => c41 (H := H) s h
  unfold a40 keyR
  generalize plc s = p at *
  by_cases h1 : p < f
  · rw [if_pos h1]
    simp (config := { maxSteps := 10000000 }) (disch := omega) only [↓G_seq, ↓G_ret, ↓G_region, ↓G_block, ↓G_cond, ↓G_ops_nil, ↓G_op, Gv_some, Gc_true, dec_t, killAll, ↓get_setS, evalOp, ev, evs, Ab.get, b_add, b_lss, wrap_i64, one, Option.map_some, Option.bind_some, finish, resVs, resV, outVs, ownsLast, tupOf, callV, V.shift, V.shifts, List.append_nil, List.all_nil, List.getElem?_cons_zero, List.getElem?_cons_succ, Nat.reduceEqDiff, reduceCtorEq, ↓reduceIte, Nat.succ_ne_self, bne_self_eq_false, Int.reduceNeg, ti_int, ov_int, fn_some, h41]
  rw [if_neg h1]
  by_cases h2 : 6 - p < -f
  · rw [if_pos h2]
    simp (config := { maxSteps := 10000000 }) (disch := omega) only [↓G_seq, ↓G_ret, ↓G_region, ↓G_block, ↓G_cond, ↓G_ops_nil, ↓G_op, Gv_some, Gc_true, Gc_false, dec_t, dec_f, killAll, ↓get_setS, evalOp, ev, evs, Ab.get, b_add, b_sub, b_lss, wrap_i64, one, Option.map_some, Option.bind_some, finish, resVs, resV, outVs, ownsLast, tupOf, callV, V.shift, V.shifts, List.append_nil, List.all_nil, List.getElem?_cons_zero, List.getElem?_cons_succ, Nat.reduceEqDiff, reduceCtorEq, ↓reduceIte, Nat.succ_ne_self, bne_self_eq_false, Int.reduceNeg, ti_int, ov_int, fn_some, h41]
  · rw [if_neg h2]
    simp (config := { maxSteps := 10000000 }) (disch := omega) only [↓G_seq, ↓G_skip, ↓G_ret, ↓G_blk, ↓G_region, ↓G_block, ↓G_cond, ↓G_ops_nil, ↓G_op, Gv_some, Gc_false, dec_f, killAll, ↓get_setS, evalOp, ev, evs, Ab.get, b_add, b_sub, b_lss, wrap_i64, one, Option.map_some, Option.bind_some, finish, resVs, resV, outVs, ownsLast, tupOf, callV, V.shift, V.shifts, List.append_nil, List.all_nil, List.getElem?_cons_zero, List.getElem?_cons_succ, Nat.reduceEqDiff, reduceCtorEq, ↓reduceIte, Nat.succ_ne_self, bne_self_eq_false, Int.reduceNeg, ti_int, ov_int, fn_some, h41]

theorem c38 (f : Int) (hf : -7 ≤ f ∧ f ≤ 7) : call tbl 38 [.i f] H = some (.i 0) := by
  refine (call_start (show tbl 38 = some a38 from rfl)).trans ?_
  unfold a38
  simp (config := { maxSteps := 10000000 }) (disch := omega) only [↓G_seq, ↓G_skip, ↓G_ret, ↓G_region, ↓G_cond, ↓G_ops_nil, ↓G_op, Gv_some, ↓G_gop, Gw_ff, Gc_false, dec_f, killAll, ↓get_setS, evalOp, ev, Ab.get, b_lss, b_gtr, one, Option.map_some, Option.bind_some, asB, finish, resVs, resV, outVs, ownsLast, tupOf, List.all_nil, List.getElem?_cons_zero, List.getElem?_cons_succ, Nat.reduceEqDiff, reduceCtorEq, ↓reduceIte, Nat.succ_ne_self, Bool.false_eq_true, Int.reduceNeg, ov_int, fn_some]
theorem c39 (s : Int) (h : 0 ≤ s ∧ s ≤ 6) : call tbl 39 [.i s] H = some (.bool true) := by
  refine (call_start (show tbl 39 = some a39 from rfl)).trans ?_
  unfold a39
  simp (config := { maxSteps := 10000000 }) (disch := omega) only [↓G_seq, ↓G_ret, ↓G_region, ↓G_ops_nil, ↓G_op, Gv_some, ↓G_gop, Gw_tt, dec_t, killAll, ↓get_setS, evalOp, ev, Ab.get, b_leq, b_geq, one, Option.map_some, Option.bind_some, asB, finish, resVs, resV, outVs, ownsLast, tupOf, List.all_nil, List.getElem?_cons_zero, List.getElem?_cons_succ, Nat.reduceEqDiff, reduceCtorEq, ↓reduceIte, Nat.succ_ne_self, ov_bool, fn_some]
theorem c37 (f s : Int) (hf : -7 ≤ f ∧ f ≤ 7) (h : 0 ≤ s ∧ s ≤ 6) : call tbl 37 [.i f, .i s] H = some (.tup [.i (keyR f s), .i 0]) := by
  refine (call_start (show tbl 37 = some a37 from rfl)).trans ?_
  unfold a37
  simp (config := { maxSteps := 10000000 }) (disch := omega) only [↓G_seq, ↓G_skip, ↓G_ret, ↓G_region, ↓G_cond, ↓G_ops_nil, ↓G_op, Gv_some, Gc_false, killAll, ↓get_setS, evalOp, ev, evs, Ab.get, b_neq, one, Option.map_some, Option.bind_some, asB, finish, resVs, resV, outVs, ownsLast, tupOf, callV, V.shift, V.shifts, List.append_nil, List.all_cons, List.all_nil, Bool.and_self, List.getElem?_cons_zero, List.getElem?_cons_succ, Nat.reduceEqDiff, reduceCtorEq, ↓reduceIte, Nat.succ_ne_self, decide_true, Bool.not_true, bne_self_eq_false, and_self, ti_bool, ti_int, ov_int, fn_some, c38 f hf, c39 s h, c40 f s hf h]

theorem splice_set (l : List Int) (i : Nat) (x : Int) (h : i < l.length) : (l.map V.i).take i ++ [V.i x] ++ (l.map V.i).drop (i + 1) = (l.set i x).map V.i := by
  rw [List.map_set, List.set_eq_take_append_cons_drop, if_pos (by simpa using h)]
  simp

theorem loop33 {k : List KI} {rs : List ARes} {r : Option V} {f : Int} {v1 v2 : Nat} {e1 : List (List V)} (hf : -7 ≤ f ∧ f ≤ 7) (hv2 : 0 < v2)
    (hr : ∀ fr' L', Ab.get fr' 2 = .ptr 0 1 v1 0 0 → Ab.get fr' 3 = .ptr 0 2 v2 0 0 → rget L' 1 = ⟨v1, 77, e1⟩ → rget L' 2 = ⟨v2, 77, [(startR f).map V.i]⟩ → Gx tbl H rs 0 k fr' L' = r) :
    ∀ (n i : Nat) (F : List Int) (fr : List V) (L : List Row), i + n = 77 → Ab.get fr 0 = .i f → Ab.get fr 2 = .ptr 0 1 v1 0 0 → Ab.get fr 3 = .ptr 0 2 v2 0 0 → Ab.get fr 5 = .i (i : Nat) → rget L 1 = ⟨v1, 77, e1⟩ → rget L 2 = ⟨v2, 77, [F.map V.i]⟩ →
    F.length = 77 → (∀ j, j < i → F[j]? = some (keyR f ((j : Int) % 7))) → G tbl H rs (.code (.loop ( (.seq ( .region [] [ ⟨some 6, .bin .lss (.t 5) (.c (.int .i64 77)), none⟩]) ( (.seq ( (.cond (.t 6) ( .skip) ( .exit 0))) ( (.seq ( (.block 1 ( (.seq ( .region [] [ ⟨some 7, .mv (.t 5), none⟩, ⟨some 4, .mv (.t 7), none⟩]) ( .region [] [ ⟨some 9, .mv (.t 4), none⟩, ⟨some 10, .mv (.t 0), none⟩, ⟨some 11, .mv (.t 4), none⟩, ⟨some 12, .bin .rem (.t 11) (.c (.int .i64 7)), none⟩, ⟨some 13, .call 0 (.c (.fn 37 [])) [(.t 10), (.t 12)], none⟩, ⟨some 8, .mv (.t 13), none⟩, ⟨some 14, .ext (.t 8) 0, none⟩, ⟨some 15, .ext (.t 8) 1, none⟩, ⟨some 16, .arrAddr 77 1 (.t 3) (.t 9), none⟩, ⟨none, .store 1 (.t 16) (.t 14), none⟩]))))) ( .region [] [ ⟨some 17, .bin .add (.t 5) (.c (.int .i64 1)), none⟩, ⟨some 5, .mv (.t 17), none⟩])))))))) :: k) fr L = r := by
  intro n
  induction n with
  | zero =>
    intro i F fr L hi h0 h2 h3 h5 r1 r2 hF hb
    refine G_loop.trans ?_
    simp (config := { maxSteps := 10000000 }) (disch := omega) only [↓G_seq, ↓G_exit, ↓G_region, ↓G_cond, ↓Gx_code, ↓G_ops_nil, ↓G_op, Gv_some, Gc_false, dec_f, killAll, ↓get_setS, evalOp, ev, b_lss, one, Option.map_some, List.getElem?_cons_zero, List.getElem?_cons_succ, ↓reduceIte, h5]
    refine hr _ _ ?_ ?_ ?_ ?_
    · simp (config := { maxSteps := 10000000 }) (disch := omega) only [↓get_setS, List.getElem?_cons_zero, List.getElem?_cons_succ, Nat.reduceEqDiff, ↓reduceIte, h2]
    · simp (config := { maxSteps := 10000000 }) (disch := omega) only [↓get_setS, List.getElem?_cons_zero, List.getElem?_cons_succ, Nat.reduceEqDiff, ↓reduceIte, h3]
    · simp (config := { maxSteps := 10000000 }) (disch := omega) only [List.getElem?_cons_zero, List.getElem?_cons_succ, r1]
    · rw [r2]
      congr 3
      apply List.ext_getElem?
      intro j
      rcases Nat.lt_or_ge j 77 with hj | hj
      · rw [hb j (by omega), startR_get f j hj]
      · rw [List.getElem?_eq_none (by omega), List.getElem?_eq_none (by rw [startR_len]; omega)]
  | succ n ih =>
    intro i F fr L hi h0 h2 h3 h5 r1 r2 hF hb
    have h37 := fun H => c37 (H := H) f ((i : Int) % 7) hf (by omega)
    have hsp := splice_set F i (keyR f ((i : Int) % 7)) (by omega)
    have hlen : (F.map V.i).length = 77 := by simpa using hF
    have hm : ((i : Nat) : Int).tmod 7 = (i : Int) % 7 := tmod_pos (by omega)
    refine G_loop.trans ?_
    have e0 : 0 + i * 1 = i := by omega
    simp (config := { maxSteps := 10000000 }) (disch := omega) only [↓G_seq, ↓G_skip, ↓G_blk, ↓G_region, ↓G_block, ↓G_cond, ↓G_ops_nil, ↓G_op, Gv_some, Gc_true, dec_t, killAll, ↓get_setS, ↓get_setN, evalOp, ev, evs, b_add, b_lss, b_rem, wrap_i64, one, Option.map_some, Option.bind_some, callV, V.shift, V.shifts, List.append_nil, List.map_cons, List.map_nil, List.all_cons, List.all_nil, Bool.and_true, Bool.true_and, Bool.and_self, List.getElem?_cons_zero, List.getElem?_cons_succ, Nat.reduceEqDiff, reduceCtorEq, ↓reduceIte, Nat.succ_ne_self, bne_self_eq_false, V.cells, splice, arrV, storeV, V.scalar, Nat.reduceLeDiff, and_true, true_and, and_self, List.length_cons, List.length_nil, List.set_cons_zero, Int.cast_ofNat_Int, Nat.zero_add, Nat.mul_one, ti_tup_int, st_int, nn, ite_ov, Int.toNat_natCast, h0, h3, h5, h37, r2, hm, hlen, hsp]
    refine ih (i + 1) (F.set i (keyR f ((i : Int) % 7))) _ _ (by omega) ?_ ?_ ?_ ?_ ?_ ?_ (by simpa using hF) ?_
    · simp (config := { maxSteps := 10000000 }) (disch := omega) only [↓get_setS, ↓get_setN, List.getElem?_cons_zero, List.getElem?_cons_succ, reduceCtorEq, ↓reduceIte, h0]
    · simp (config := { maxSteps := 10000000 }) (disch := omega) only [↓get_setS, ↓get_setN, List.getElem?_cons_zero, List.getElem?_cons_succ, Nat.reduceEqDiff, ↓reduceIte, h2]
    · simp (config := { maxSteps := 10000000 }) (disch := omega) only [↓get_setS, ↓get_setN, List.getElem?_cons_zero, List.getElem?_cons_succ, Nat.reduceEqDiff, ↓reduceIte, Nat.succ_ne_self, h3]
    · simp (config := { maxSteps := 10000000 }) (disch := omega) only [↓get_setS, List.getElem?_cons_zero, List.getElem?_cons_succ, ↓reduceIte]
      congr 1
    · simp (config := { maxSteps := 10000000 }) (disch := omega) only [rget_rset, List.getElem?_cons_zero, List.getElem?_cons_succ, ↓reduceIte, Nat.succ_ne_self, r1]
    · simp (config := { maxSteps := 10000000 }) (disch := omega) only [rget_rset, List.getElem?_cons_zero, List.getElem?_cons_succ, ↓reduceIte]
    · intro j hj
      rw [List.getElem?_set]
      by_cases e : i = j
      · subst e
        rw [if_pos rfl, if_pos (by omega)]
      · rw [if_neg e]
        exact hb j (by omega)

theorem shifts_i (d : Nat) : ∀ l : List Int, V.shifts d (l.map V.i) = l.map V.i
  | [] => rfl
  | x :: l => by simp only [List.map_cons, V.shifts, V.shift, shifts_i d l]

theorem c33 (f : Int) (hf : -7 ≤ f ∧ f ≤ 7) : call tbl 33 [.i f] H = some (.agg ((startR f).map V.i)) := by
  refine (call_start (show tbl 33 = some a33 from rfl)).trans ?_
  unfold a33
  simp (config := { maxSteps := 10000000 }) (disch := omega) only [↓G_seq, ↓G_region, ↓G_block, ↓G_ops_nil, ↓G_op, Gv_some, killAll, evalOp, ev, List.all_cons, List.all_nil, Bool.and_self, List.getElem?_cons_zero, List.getElem?_cons_succ, ↓reduceIte, Int.reduceAdd, rget, rset, V.scalar, Nat.reduceAdd, and_self, List.length_cons, List.length_nil, Nat.zero_add]
  refine loop33 (f := f) (v1 := 1) (v2 := 1) (e1 := [List.replicate 77 (.i 0)]) hf (by omega) (fun fr' L' g2 g3 s1 s2 => ?_) 77 0 (List.replicate 77 0) _ _ rfl ?_ ?_ ?_ ?_ rfl ?_ (by simp) (by intro j hj; omega)
  · have hl : ((startR f).map V.i).length = 77 := by simp [startR_len]
    have hsc : ((startR f).map V.i).all V.scalar = true := by simp [V.scalar]
    have hpu : ((startR f).map V.i).all V.pure = true := by simp [V.pure]
    have ht : ((startR f).map V.i).take 77 = (startR f).map V.i := List.take_of_length_le (by omega)
    have hd : List.drop 77 ((startR f).map V.i) = [] := List.drop_of_length_le (by omega)
    have hsh : V.shifts 0 ((startR f).map V.i) = (startR f).map V.i := shifts_i 0 _
    have hz : List.drop 77 (List.replicate 77 (V.i 0)) = [] := List.drop_of_length_le (by simp)
    have hzl : (List.replicate 77 (V.i 0)).length = 77 := by simp
    generalize (startR f).map V.i = S at *
    generalize List.replicate 77 (V.i 0) = Z at *
    simp (config := { maxSteps := 10000000 }) (disch := omega) only [↓G_seq, ↓G_ret, ↓G_region, ↓Gx_blk, ↓G_ops_nil, ↓G_op, Gv_some, killAll, ↓get_setS, ↓get_setN, evalOp, ev, rget_rset, one, Option.map_some, Option.bind_some, finish, resVs, resV, outVs, ownsLast, tupOf, V.shift, List.append_nil, List.nil_append, List.all_nil, Bool.and_self, List.getElem?_cons_zero, List.getElem?_cons_succ, Nat.reduceEqDiff, ↓reduceIte, pick3, V.cells, splice, loadV, storeV, Ab.rowAt, and_self, List.take_zero, List.drop_zero, Nat.le_refl, List.set_cons_zero, List.getD_cons_zero, Nat.zero_add, ov_agg, fn_some, g2, g3, s1, s2, hl, hsc, hpu, Nat.zero_lt_succ, ht, hsh, hz, hzl]
  all_goals simp (config := { maxSteps := 10000000 }) (disch := omega) only [↓get_setS, Ab.get, List.map_cons, List.map_nil, List.getElem?_cons_zero, List.getElem?_cons_succ, Nat.reduceEqDiff, reduceCtorEq, ↓reduceIte, Nat.succ_ne_self, rget, List.replicate, Int.cast_ofNat_Int]

theorem loop29 {k : List KI} {rs : List ARes} {r : Option V} {f : Int} (hf : -7 ≤ f ∧ f ≤ 7) (h19 : ∀ i : Nat, i < 77 → ∀ H, call tbl 19 [.i f, .i ((i : Int) % 7)] H = some (.i (keyR f ((i : Int) % 7))))
    (hr : ∀ fr' L', Acc 1 1 L' (Ab.get fr' 3) ((startR f).map fun x => [V.i x]) → Gx tbl H rs 0 k fr' L' = r) :
    ∀ (n i : Nat) (fr : List V) (L : List Row), i + n = 77 → Ab.get fr 0 = .i f → Ab.get fr 4 = .i (i : Nat) → Acc 1 1 L (Ab.get fr 3) (((startR f).take i).map fun x => [V.i x]) →
    G tbl H rs (.code (.loop ( (.seq ( (.seq ( .region [] [ ⟨some 5, .mv (.t 4), none⟩, ⟨some 6, .bin .lss (.t 5) (.c (.int .i64 77)), none⟩]) ( (.cond (.t 6) ( .skip) ( .exit 0))))) ( (.seq ( (.block 1 ( .region [] [ ⟨some 9, .mv (.t 3), none⟩, ⟨some 10, .mv (.t 0), none⟩, ⟨some 11, .mv (.t 4), none⟩, ⟨some 12, .bin .rem (.t 11) (.c (.int .i64 7)), none⟩, ⟨some 13, .call 0 (.c (.fn 19 [])) [(.t 10), (.t 12)], none⟩, ⟨some 14, .lit 1 [(.int .i64 0)] 1 [(0, 1, (.t 13))], none⟩, ⟨some 15, .app 1 1 8 (.t 9) (.t 14), none⟩, ⟨some 3, .mv (.t 15), none⟩]))) ( .region [] [ ⟨some 7, .mv (.t 4), none⟩, ⟨some 8, .bin .add (.t 7) (.c (.int .i64 1)), none⟩, ⟨some 4, .mv (.t 8), none⟩])))))) :: k) fr L = r := by
  intro n
  induction n with
  | zero =>
    intro i fr L hi h0 h4 hacc
    refine G_loop.trans ?_
    simp (config := { maxSteps := 10000000 }) (disch := omega) only [↓G_seq, ↓G_exit, ↓G_region, ↓G_cond, ↓Gx_code, ↓G_ops_nil, ↓G_op, Gv_some, Gc_false, dec_f, killAll, ↓get_setS, evalOp, ev, b_lss, one, Option.map_some, List.getElem?_cons_zero, List.getElem?_cons_succ, ↓reduceIte, h4]
    refine hr _ _ ?_
    simp (config := { maxSteps := 10000000 }) (disch := omega) only [↓get_setS, List.getElem?_cons_zero, List.getElem?_cons_succ, Nat.reduceEqDiff, ↓reduceIte]
    rw [List.take_of_length_le (by rw [startR_len]; omega)] at hacc
    exact hacc
  | succ n ih =>
    intro i fr L hi h0 h4 hacc
    have h := h19 i (by omega)
    have hm : ((i : Nat) : Int).tmod 7 = (i : Int) % 7 := tmod_pos (by omega)
    generalize hv : Ab.get fr 3 = v3 at hacc
    have hap := acc_app (H := H) (bytes := 8) (y := .sl .full 1 [[.i (keyR f ((i : Int) % 7))]]) (new := [[.i (keyR f ((i : Int) % 7))]]) hacc rfl (by simp) (by omega) (by simp; omega) (by simp [V.scalar])
    refine G_loop.trans ?_
    simp (config := { maxSteps := 10000000 }) (disch := omega) only [↓G_seq, ↓G_skip, ↓G_blk, ↓G_region, ↓G_block, ↓G_cond, ↓G_ops_nil, ↓G_op, Gv_some, Gc_true, dec_t, killAll, ↓get_setS, evalOp, ev, evs, b_add, b_lss, b_rem, wrap_i64, one, Option.map_some, Option.bind_some, callV, V.shift, V.shifts, List.append_nil, List.nil_append, List.all_cons, List.all_nil, Bool.true_and, Bool.and_self, List.getElem?_cons_zero, List.getElem?_cons_succ, Nat.reduceEqDiff, reduceCtorEq, ↓reduceIte, Nat.succ_ne_self, bne_self_eq_false, Int.reduceLT, V.cells, fillV, splice, chop, V.scalar, V.pure, Nat.reduceLT, true_and, and_self, List.length_cons, List.length_nil, List.take_succ_cons, List.take_zero, List.drop_succ_cons, List.drop_zero, Nat.le_refl, List.replicate, List.flatten_cons, List.flatten_nil, Nat.zero_add, ti_int, h0, h4, hv, hm, h, hap.1]
    refine ih (i + 1) _ _ (by omega) ?_ ?_ ?_
    · simp (config := { maxSteps := 10000000 }) (disch := omega) only [↓get_setS, List.getElem?_cons_zero, List.getElem?_cons_succ, reduceCtorEq, ↓reduceIte, h0]
    · simp (config := { maxSteps := 10000000 }) (disch := omega) only [↓get_setS, List.getElem?_cons_zero, List.getElem?_cons_succ, ↓reduceIte]
      congr 1
    · simp (config := { maxSteps := 10000000 }) (disch := omega) only [↓get_setS, List.getElem?_cons_zero, List.getElem?_cons_succ, Nat.reduceEqDiff, ↓reduceIte, Nat.succ_ne_self]
      rw [List.take_add_one, startR_get f i (by omega)]
      simpa using hap.2

theorem stepsP (s : Int) (h : 0 ≤ s ∧ s ≤ 6) : (s = 0 ∧ plc s = 1) ∨ (s = 1 ∧ plc s = 3) ∨ (s = 2 ∧ plc s = 5) ∨ (s = 3 ∧ plc s = 0) ∨ (s = 4 ∧ plc s = 2) ∨ (s = 5 ∧ plc s = 4) ∨ (s = 6 ∧ plc s = 6) := by
  rcases steps s h with rfl | rfl | rfl | rfl | rfl | rfl | rfl
  all_goals decide

set_option maxHeartbeats 4000000 in
theorem c19 (f s : Int) (h : -7 ≤ f ∧ f ≤ 7) (k : 0 ≤ s ∧ s ≤ 6) : call tbl 19 [.i f, .i s] H = some (.i (keyR f s)) := by
  refine (call_start (show tbl 19 = some a19 from rfl)).trans ?_
  have hs := stepsP s k
  unfold keyR
  generalize plc s = p at *
  by_cases h1 : p < f
  · rw [if_pos h1]
    rcases hs with ⟨rfl, rfl⟩ | ⟨rfl, rfl⟩ | ⟨rfl, rfl⟩ | ⟨rfl, rfl⟩ | ⟨rfl, rfl⟩ | ⟨rfl, rfl⟩ | ⟨rfl, rfl⟩
    all_goals
      unfold a19
      simp (config := { maxSteps := 10000000 }) (disch := omega) only [↓G_seq, ↓G_skip, ↓G_ret, ↓G_blk, ↓G_region, ↓G_block, ↓G_cond, ↓G_ops_nil, ↓G_op, Gv_some, ↓G_gop, Gw_tt, Gw_tf, Gc_true, Gc_false, dec_t, dec_f, killAll, ↓get_setS, evalOp, ev, Ab.get, b_add, b_sub, b_eql, b_lss, wrap_i64, one, Option.map_some, Option.bind_some, asB, finish, resVs, resV, outVs, ownsLast, tupOf, List.append_nil, List.nil_append, List.cons_append, List.all_cons, List.all_nil, Bool.true_and, Bool.and_self, List.getElem?_cons_zero, List.getElem?_cons_succ, Nat.reduceEqDiff, reduceCtorEq, ↓reduceIte, Nat.succ_ne_self, decide_true, decide_false, Bool.false_eq_true, Int.reduceNeg, Int.reduceAdd, Int.reduceSub, Int.reduceLT, Int.reduceLE, Int.reduceEq, pick3, V.cells, fillV, splice, chop, loadV, V.scalar, V.pure, Int.reduceToNat, Nat.reduceAdd, Nat.reduceSub, Nat.reduceLT, Nat.reduceLeDiff, true_and, and_self, List.length_cons, List.length_nil, List.take_succ_cons, List.take_zero, List.drop_succ_cons, List.drop_zero, Nat.le_refl, List.replicate, List.flatten_cons, List.flatten_nil, Nat.zero_add, el_full, ov_int, fn_some, ↓G_loop]
  rw [if_neg h1]
  by_cases h2 : 6 - p < -f
  · rw [if_pos h2]
    rcases hs with ⟨rfl, rfl⟩ | ⟨rfl, rfl⟩ | ⟨rfl, rfl⟩ | ⟨rfl, rfl⟩ | ⟨rfl, rfl⟩ | ⟨rfl, rfl⟩ | ⟨rfl, rfl⟩
    all_goals
      unfold a19
      simp (config := { maxSteps := 10000000 }) (disch := omega) only [↓G_seq, ↓G_skip, ↓G_ret, ↓G_blk, ↓G_region, ↓G_block, ↓G_cond, ↓G_ops_nil, ↓G_op, Gv_some, ↓G_gop, Gw_tt, Gw_tf, Gc_true, Gc_false, dec_t, dec_f, killAll, ↓get_setS, evalOp, ev, Ab.get, b_add, b_sub, b_eql, b_lss, wrap_i64, one, Option.map_some, Option.bind_some, asB, finish, resVs, resV, outVs, ownsLast, tupOf, List.append_nil, List.nil_append, List.cons_append, List.all_cons, List.all_nil, Bool.true_and, Bool.and_self, List.getElem?_cons_zero, List.getElem?_cons_succ, Nat.reduceEqDiff, reduceCtorEq, ↓reduceIte, Nat.succ_ne_self, decide_true, decide_false, Bool.false_eq_true, Int.reduceNeg, Int.reduceAdd, Int.reduceSub, Int.reduceLT, Int.reduceLE, Int.reduceEq, pick3, V.cells, fillV, splice, chop, loadV, V.scalar, V.pure, Int.reduceToNat, Nat.reduceAdd, Nat.reduceSub, Nat.reduceLT, Nat.reduceLeDiff, true_and, and_self, List.length_cons, List.length_nil, List.take_succ_cons, List.take_zero, List.drop_succ_cons, List.drop_zero, Nat.le_refl, List.replicate, List.flatten_cons, List.flatten_nil, Nat.zero_add, el_full, ov_int, fn_some, ↓G_loop]
  · rw [if_neg h2]
    rcases hs with ⟨rfl, rfl⟩ | ⟨rfl, rfl⟩ | ⟨rfl, rfl⟩ | ⟨rfl, rfl⟩ | ⟨rfl, rfl⟩ | ⟨rfl, rfl⟩ | ⟨rfl, rfl⟩
    all_goals
      unfold a19
      simp (config := { maxSteps := 10000000 }) (disch := omega) only [↓G_seq, ↓G_skip, ↓G_ret, ↓G_blk, ↓G_exit, ↓G_region, ↓G_block, ↓G_cond, ↓Gx_blk, ↓Gx_code, ↓G_ops_nil, ↓G_op, Gv_some, ↓G_gop, Gw_tt, Gw_tf, Gc_true, Gc_false, dec_f, killAll, ↓get_setS, evalOp, ev, Ab.get, b_add, b_sub, b_eql, b_lss, wrap_i64, one, Option.map_some, Option.bind_some, asB, finish, resVs, resV, outVs, ownsLast, tupOf, List.append_nil, List.nil_append, List.cons_append, List.all_cons, List.all_nil, Bool.true_and, Bool.and_self, List.getElem?_cons_zero, List.getElem?_cons_succ, Nat.reduceEqDiff, reduceCtorEq, ↓reduceIte, Nat.succ_ne_self, decide_true, decide_false, Bool.false_eq_true, Int.reduceNeg, Int.reduceAdd, Int.reduceSub, Int.reduceLT, Int.reduceLE, Int.reduceEq, pick3, V.cells, fillV, splice, chop, loadV, V.scalar, V.pure, Int.reduceToNat, Nat.reduceAdd, Nat.reduceSub, Nat.reduceLT, Nat.reduceLeDiff, true_and, and_self, List.length_cons, List.length_nil, List.take_succ_cons, List.take_zero, List.drop_succ_cons, List.drop_zero, Nat.le_refl, List.replicate, List.flatten_cons, List.flatten_nil, Nat.zero_add, el_full, ov_int, fn_some, ↓G_loop]

theorem c29 (f : Int) (hf : -7 ≤ f ∧ f ≤ 7) : call tbl 29 [.i f] H = some (.sl .own 1 ((startR f).map fun x => [V.i x])) := by
  refine (call_start (show tbl 29 = some a29 from rfl)).trans ?_
  unfold a29
  simp (config := { maxSteps := 10000000 }) (disch := omega) only [↓G_seq, ↓G_region, ↓G_block, ↓G_ops_nil, ↓G_op, Gv_some, killAll, evalOp, ev, List.getElem?_cons_zero, List.getElem?_cons_succ]
  refine loop29 hf (fun i hi H => c19 f _ hf (by omega)) (fun fr' L' hacc => ?_) 77 0 _ _ rfl ?_ ?_ ?_
  · generalize hv : Ab.get fr' 3 = v at hacc
    have ho := hacc.out (by omega) (by simp [V.pure])
    rw [outAcc, if_neg (by intro z; have := congrArg List.length z; simp [startR_len] at this)] at ho
    simp (config := { maxSteps := 10000000 }) (disch := omega) only [↓G_seq, ↓G_ret, ↓G_region, ↓Gx_blk, ↓G_ops_nil, ↓G_op, Gv_some, killAll, ↓get_setS, evalOp, ev, Option.map_some, Option.bind_some, finish, resVs, resV, outVs, ownsLast, tupOf, List.all_nil, List.getElem?_cons_zero, List.getElem?_cons_succ, ↓reduceIte, fn_some, hv, ↓ho]
  · simp (config := { maxSteps := 10000000 }) (disch := omega) only [↓get_setS, Ab.get, List.getElem?_cons_zero, List.getElem?_cons_succ, reduceCtorEq, ↓reduceIte]
  · simp (config := { maxSteps := 10000000 }) (disch := omega) only [↓get_setS, List.getElem?_cons_zero, List.getElem?_cons_succ, ↓reduceIte, Int.cast_ofNat_Int]
  · simp (config := { maxSteps := 10000000 }) (disch := omega) only [↓get_setS, List.map_nil, List.getElem?_cons_zero, List.getElem?_cons_succ, ↓reduceIte, Nat.succ_ne_self, List.take_zero]
    exact Acc.nil

end Go.Proofs.Ythnjcaioeaepjaa

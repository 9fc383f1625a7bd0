/-
  Display and Carry, and the reference's Display.
-/
import Derived.Test.YthnjcaioeaepjaaS10D
namespace Go.Proofs.Ythnjcaioeaepjaa
open Go Go.Ab
set_option linter.unusedVariables false
set_option linter.unnecessarySimpa false
set_option linter.unusedSimpArgs false
set_option maxRecDepth 100000
variable {H : List (List Row)}

/-- Arrays of 77 numbers as cells. -/
structure A77 (S : List V) : Prop where
  len : S.length = 77
  sc : S.all V.scalar = true
  pu : S.all V.pure = true
  take : S.take 77 = S
  drop : S.drop 77 = []
  sh : ∀ d, V.shifts d S = S
theorem a77 (F : List Int) (h : F.length = 77) : A77 (F.map V.i) :=
  ⟨by simpa using h, by simp [V.scalar], by simp [V.pure], List.take_of_length_le (by simp; omega), List.drop_of_length_le (by simp; omega), fun d => shifts_i d F⟩

theorem errR_ok {f : Int} {l : List Nt} (h : errR f l = 0) : (-7 ≤ f ∧ f ≤ 7) ∧ l.length ≤ 2560 ∧ errL 0 l = 0 := by
  unfold errR at h
  by_cases g : guardR f (l.length : Nat) = 0
  · rw [if_neg (fun z => z g)] at h
    have := guardR_len g
    exact ⟨this.1, by omega, h⟩
  · rw [if_pos g] at h
    exact absurd h g

theorem c28 {f : Int} {v : V} {l : List Nt} (he : errR f l = 0) (hv : SlV 6 v (E6 l)) :
    call tbl 28 [.i f, v] H = some (.tup [outAcc 2 (M2 (dispR l l (startR f)).1), .agg ((dispR l l (startR f)).2.map V.i)]) := by
  refine (call_start (show tbl 28 = some a28 from rfl)).trans ?_
  obtain ⟨hf, hl, he'⟩ := errR_ok he
  have hlen := hv.len
  rw [E6_len] at hlen
  have hS := a77 (startR f) (startR_len f)
  have h33 := fun H => c33 (H := H) f hf
  have hsl := (dispR_len l l (startR f)).2
  rw [startR_len] at hsl
  have hS2 := a77 _ hsl
  have h36 := fun H => c36 (H := H) (by omega) hv
  obtain ⟨p1, p2, p3, p4, p5, p6⟩ := hS
  unfold a28
  simp (config := { maxSteps := 10000000 }) (disch := omega) only [↓G_seq, ↓G_region, ↓G_block, ↓G_ops_nil, ↓G_op, Gv_some, killAll, ↓get_setS, ↓get_setN, evalOp, ev, evs, Ab.get, one, Option.map_some, Option.bind_some, callV, V.shift, V.shifts, List.append_nil, List.nil_append, List.all_cons, List.all_nil, Bool.and_self, List.getElem?_cons_zero, List.getElem?_cons_succ, Nat.reduceEqDiff, reduceCtorEq, ↓reduceIte, bne_self_eq_false, Int.reduceAdd, Int.reduceLT, V.cells, splice, storeV, rget, rset, V.scalar, Nat.reduceAdd, Nat.reduceLT, and_self, List.length_cons, List.length_nil, List.take_zero, List.drop_succ_cons, List.drop_zero, Nat.le_refl, List.set_cons_zero, Nat.zero_add, ti_own_f, ti_agg, hlen, h33, h36, hv.sh, p1, p2]
  refine loop28 (l := l) (v := v) (v1 := 1) (v2 := 1) (e1 := [List.replicate 77 (.i 0)]) (by omega) hv he' (by omega) (dispR l l (startR f)).1 (dispR l l (startR f)).2 (fun fr' L' g5 g6 s1 s2 hacc => ?_) l 0 (startR f) [] _ _ rfl (by omega) rfl (startR_len f) rfl rfl ?_ ?_ ?_ ?_ ?_ ?_ ?_ ?_ ?_
  · have hz : List.drop 77 (List.replicate 77 (V.i 0)) = [] := List.drop_of_length_le (by simp)
    have hzl : (List.replicate 77 (V.i 0)).length = 77 := by simp
    obtain ⟨q1, q2, q3, q4, q5, q6⟩ := hS2
    generalize (dispR l l (startR f)).2.map V.i = S at *
    generalize List.replicate 77 (V.i 0) = Z at *
    generalize hv8 : Ab.get fr' 8 = v8 at hacc
    have ho : ∀ r1, outV (rset L' 1 r1) v8 = some (outAcc 2 (M2 (dispR l l (startR f)).1)) := fun r1 => (hacc.mono (by simp [rget_rset])).out (by omega) (M2_pure _)
    simp (config := { maxSteps := 10000000 }) (disch := omega) only [↓G_seq, ↓G_ret, ↓G_region, ↓Gx_blk, ↓G_ops_nil, ↓G_op, Gv_some, killAll, ↓get_setS, ↓get_setN, evalOp, ev, rget_rset, one, Option.map_some, Option.bind_some, finish, resVs, resV, outVs, ownsLast, tupOf, V.shift, List.append_nil, List.nil_append, List.all_cons, List.all_nil, Bool.and_self, List.getElem?_cons_zero, List.getElem?_cons_succ, Nat.reduceEqDiff, ↓reduceIte, Nat.succ_ne_self, pick3, V.cells, splice, loadV, storeV, Ab.rowAt, and_self, List.take_zero, List.drop_zero, Nat.le_refl, List.set_cons_zero, List.getD_cons_zero, Nat.zero_add, ov_agg, fn_some, g5, g6, s1, s2, hv8, ho, q1, q2, q3, q4, q6, hz, hzl, Nat.zero_lt_succ]
  all_goals simp (config := { maxSteps := 10000000 }) (disch := omega) only [↓get_setS, ↓get_setN, List.getElem?_cons_zero, List.getElem?_cons_succ, Nat.reduceEqDiff, ↓reduceIte, Nat.succ_ne_self, rget, List.replicate, Int.cast_ofNat_Int]
  exact Acc.nil

def zero77 : List V := List.replicate 77 (.i 0)

theorem c14_e {f : Int} {v : V} {l : List Nt} (he : errR f l ≠ 0) (hv : SlV 6 v (E6 l)) : call tbl 14 [.i f, v] H = some (.tup [.nilsl, .i (errR f l)]) := by
  refine (call_start (show tbl 14 = some a14 from rfl)).trans ?_
  have h27 := fun H => c27 (H := H) f hv
  generalize errR f l = e at *
  unfold a14
  simp (config := { maxSteps := 10000000 }) (disch := omega) only [↓G_seq, ↓G_ret, ↓G_region, ↓G_cond, ↓G_ops_nil, ↓G_op, Gv_some, Gc_true, dec_f, killAll, ↓get_setS, evalOp, ev, evs, Ab.get, b_neq, one, Option.map_some, Option.bind_some, finish, resVs, resV, outVs, ownsLast, tupOf, callV, V.shift, V.shifts, List.append_nil, List.all_cons, List.all_nil, Bool.and_self, List.getElem?_cons_zero, List.getElem?_cons_succ, Nat.reduceEqDiff, reduceCtorEq, ↓reduceIte, Nat.succ_ne_self, Nat.reduceBNe, Bool.not_false, and_self, ti_int, ov_int, ov_nilsl, fn_some, fz_nil, fz_cons, fz_int, h27, hv.sh, hv.fz]
theorem c14 {f : Int} {v : V} {l : List Nt} (he : errR f l = 0) (hv : SlV 6 v (E6 l)) : call tbl 14 [.i f, v] H = some (.tup [outAcc 2 (M2 (dispR l l (startR f)).1), .i 0]) := by
  refine (call_start (show tbl 14 = some a14 from rfl)).trans ?_
  have h27 := fun H => (c27 (H := H) f hv).trans (by rw [he])
  have h28 := fun H => c28 (H := H) he hv
  have hsl := (dispR_len l l (startR f)).2
  rw [startR_len] at hsl
  obtain ⟨q1, q2, q3, q4, q5, q6⟩ := a77 _ hsl
  generalize (dispR l l (startR f)).2.map V.i = S at *
  have hpu := M2_pure (dispR l l (startR f)).1
  generalize M2 (dispR l l (startR f)).1 = A at *
  unfold a14
  by_cases hA : A = []
  · subst hA
    have ho : outAcc 2 [] = .nilsl := rfl
    simp (config := { maxSteps := 10000000 }) (disch := omega) only [↓G_seq, ↓G_skip, ↓G_ret, ↓G_region, ↓G_cond, ↓G_ops_nil, ↓G_op, Gv_some, Gc_false, killAll, ↓get_setS, ↓get_setN, evalOp, ev, evs, Ab.get, b_neq, one, Option.map_some, Option.bind_some, finish, resVs, resV, outVs, ownsLast, tupOf, callV, V.shift, V.shifts, List.append_nil, List.nil_append, List.map_cons, List.map_nil, List.all_cons, List.all_nil, Bool.and_self, List.getElem?_cons_zero, List.getElem?_cons_succ, Nat.reduceEqDiff, reduceCtorEq, ↓reduceIte, Nat.succ_ne_self, Nat.reduceBNe, decide_true, Bool.not_true, Int.reduceAdd, Int.reduceLT, V.cells, splice, storeV, rget, rset, V.scalar, Nat.reduceAdd, Nat.reduceLT, and_self, List.length_cons, List.length_nil, List.take_zero, List.drop_succ_cons, List.drop_zero, Nat.le_refl, List.set_cons_zero, Nat.zero_add, ti_int, ti_tup_nilsl, st_nilsl, st_agg, ov_int, ov_nilsl, fn_some, fz_nil, fz_cons, fz_int, h27, hv.sh, hv.fz, h28, ho, q1, q2]
  · have ho : outAcc 2 A = .sl .own 2 A := by unfold outAcc; rw [if_neg hA]
    simp (config := { maxSteps := 10000000 }) (disch := omega) only [↓G_seq, ↓G_skip, ↓G_ret, ↓G_region, ↓G_cond, ↓G_ops_nil, ↓G_op, Gv_some, Gc_false, killAll, ↓get_setS, ↓get_setN, evalOp, ev, evs, Ab.get, b_neq, one, Option.map_some, Option.bind_some, finish, resVs, resV, outVs, ownsLast, tupOf, callV, V.shift, V.shifts, List.append_nil, List.nil_append, List.map_cons, List.map_nil, List.all_cons, List.all_nil, Bool.and_self, List.getElem?_cons_zero, List.getElem?_cons_succ, Nat.reduceEqDiff, reduceCtorEq, ↓reduceIte, Nat.succ_ne_self, Nat.reduceBNe, decide_true, Bool.not_true, Int.reduceAdd, V.cells, splice, storeV, rget, rset, V.scalar, Nat.reduceAdd, and_self, List.length_cons, List.length_nil, List.take_zero, List.drop_succ_cons, List.drop_zero, Nat.le_refl, List.set_cons_zero, Nat.zero_add, ti_int, ti_tup_own_t, st_agg, ov_int, ov_ref0, fn_some, fz_nil, fz_cons, fz_int, h27, hv.sh, hv.fz, h28, ho, q1, q2, hpu, Nat.zero_lt_succ]

theorem c22_e {f : Int} {v : V} {l : List Nt} (he : errR f l ≠ 0) (hv : SlV 6 v (E6 l)) : call tbl 22 [.i f, v] H = some (.tup [.agg zero77, .i (errR f l)]) := by
  refine (call_start (show tbl 22 = some a22 from rfl)).trans ?_
  have h27 := fun H => c27 (H := H) f hv
  generalize errR f l = e at *
  unfold a22
  simp (config := { maxSteps := 10000000 }) (disch := omega) only [↓G_seq, ↓G_ret, ↓G_region, ↓G_cond, ↓G_ops_nil, ↓G_op, Gv_some, Gc_true, dec_f, killAll, ↓get_setS, ↓get_setN, evalOp, ev, evs, Ab.get, b_neq, one, Option.map_some, Option.bind_some, finish, resVs, resV, outVs, ownsLast, tupOf, callV, V.shift, V.shifts, List.append_nil, List.nil_append, List.cons_append, List.all_cons, List.all_nil, Bool.and_self, List.getElem?_cons_zero, List.getElem?_cons_succ, Nat.reduceEqDiff, reduceCtorEq, ↓reduceIte, Nat.succ_ne_self, Bool.not_false, bne_self_eq_false, Int.reduceAdd, pick3, V.cells, fillV, splice, loadV, storeV, Ab.rowAt, rget, rset, V.scalar, V.pure, Nat.reduceAdd, and_self, List.length_cons, List.length_nil, List.take_succ_cons, List.take_zero, List.drop_succ_cons, List.drop_zero, Nat.le_refl, List.set_cons_zero, List.getD_cons_zero, Nat.zero_add, ti_int, ov_int, ov_agg, fn_some, h27, hv.sh, Nat.zero_lt_succ]
  rfl
theorem c22 {f : Int} {v : V} {l : List Nt} (he : errR f l = 0) (hv : SlV 6 v (E6 l)) : call tbl 22 [.i f, v] H = some (.tup [.agg ((dispR l l (startR f)).2.map V.i), .i 0]) := by
  refine (call_start (show tbl 22 = some a22 from rfl)).trans ?_
  have h27 := fun H => (c27 (H := H) f hv).trans (by rw [he])
  have h28 := fun H => c28 (H := H) he hv
  have hsl := (dispR_len l l (startR f)).2
  rw [startR_len] at hsl
  obtain ⟨q1, q2, q3, q4, q5, q6⟩ := a77 _ hsl
  generalize (dispR l l (startR f)).2.map V.i = S at *
  generalize M2 (dispR l l (startR f)).1 = A at *
  unfold a22
  simp (config := { maxSteps := 10000000 }) (disch := omega) only [↓G_seq, ↓G_skip, ↓G_ret, ↓G_region, ↓G_cond, ↓G_ops_nil, ↓G_op, Gv_some, Gc_false, killAll, ↓get_setS, ↓get_setN, evalOp, ev, evs, Ab.get, b_neq, one, Option.map_some, Option.bind_some, finish, resVs, resV, outVs, ownsLast, tupOf, callV, V.shift, V.shifts, List.append_nil, List.nil_append, List.map_cons, List.map_nil, List.all_cons, List.all_nil, Bool.and_self, List.getElem?_cons_zero, List.getElem?_cons_succ, Nat.reduceEqDiff, reduceCtorEq, ↓reduceIte, Nat.succ_ne_self, decide_true, Bool.not_true, bne_self_eq_false, Int.reduceAdd, pick3, V.cells, splice, loadV, storeV, Ab.rowAt, rget, rset, V.scalar, Nat.reduceAdd, and_self, List.length_cons, List.length_nil, List.take_zero, List.drop_succ_cons, List.drop_zero, Nat.le_refl, List.set_cons_zero, List.getD_cons_zero, Nat.zero_add, ti_int, st_agg, ov_int, ov_agg, fn_some, h27, hv.sh, h28, ↓out_take_tup, q1, q2, q3, q4, q6, Nat.zero_lt_succ]

/-- The program's copy of the notes. -/
theorem loop15 {k : List KI} {rs : List ARes} {r : Option V} {v : V} {l : List Nt} (hl : l.length ≤ 1000000) (hv : SlV 6 v (E6 l)) :
    ∀ (n i : Nat) (fr : List V) (L : List Row), i + n = l.length → Ab.get fr 0 = v → Ab.get fr 4 = .i (i : Nat) →
    Acc 1 6 L (Ab.get fr 3) (E6 (l.take i)) → (∀ fr' L', Acc 1 6 L' (Ab.get fr' 3) (E6 l) → Gx tbl H rs 0 k fr' L' = r) →
    G tbl H rs (.code (.loop ( (.seq ( (.seq ( .region [] [ ⟨some 5, .mv (.t 4), none⟩, ⟨some 6, .mv (.t 0), none⟩, ⟨some 7, .len (.t 6), none⟩, ⟨some 8, .bin .lss (.t 5) (.t 7), none⟩]) ( (.cond (.t 8) ( .skip) ( .exit 0))))) ( (.seq ( (.block 1 ( .region [] [ ⟨some 11, .mv (.t 3), none⟩, ⟨some 12, .mv (.t 0), none⟩, ⟨some 13, .mv (.t 4), none⟩, ⟨some 14, .elemAddr 6 (.t 12) (.t 13), none⟩, ⟨some 15, .fieldAddr 0 (.t 14), none⟩, ⟨some 16, .load false 1 (.t 15), none⟩, ⟨some 17, .mv (.t 0), none⟩, ⟨some 18, .mv (.t 4), none⟩, ⟨some 19, .elemAddr 6 (.t 17) (.t 18), none⟩, ⟨some 20, .fieldAddr 1 (.t 19), none⟩, ⟨some 21, .load true 3 (.t 20), none⟩, ⟨some 22, .mv (.t 0), none⟩, ⟨some 23, .mv (.t 4), none⟩, ⟨some 24, .elemAddr 6 (.t 22) (.t 23), none⟩, ⟨some 25, .fieldAddr 4 (.t 24), none⟩, ⟨some 26, .load false 1 (.t 25), none⟩, ⟨some 27, .mv (.t 0), none⟩, ⟨some 28, .mv (.t 4), none⟩, ⟨some 29, .elemAddr 6 (.t 27) (.t 28), none⟩, ⟨some 30, .fieldAddr 5 (.t 29), none⟩, ⟨some 31, .load false 1 (.t 30), none⟩, ⟨some 32, .build [(.int .i64 0), (.int .i64 0), (.int .i64 0), (.int .i64 0), (.bool false), (.int .i64 0)] [(0, 1, (.t 16)), (1, 3, (.t 21)), (4, 1, (.t 26)), (5, 1, (.t 31))], none⟩, ⟨some 33, .lit 6 [(.int .i64 0), (.int .i64 0), (.int .i64 0), (.int .i64 0), (.bool false), (.int .i64 0)] 1 [(0, 6, (.t 32))], none⟩, ⟨some 34, .app 1 6 48 (.t 11) (.t 33), none⟩, ⟨some 3, .mv (.t 34), none⟩]))) ( .region [] [ ⟨some 9, .mv (.t 4), none⟩, ⟨some 10, .bin .add (.t 9) (.c (.int .i64 1)), none⟩, ⟨some 4, .mv (.t 10), none⟩])))))) :: k) fr L = r := by
  intro n
  have hlen := hv.len
  rw [E6_len] at hlen
  induction n with
  | zero =>
    intro i fr L hi h0 h4 hacc hr
    refine G_loop.trans ?_
    simp (config := { maxSteps := 10000000 }) (disch := omega) only [↓G_seq, ↓G_exit, ↓G_region, ↓G_cond, ↓Gx_code, ↓G_ops_nil, ↓G_op, Gv_some, Gc_false, dec_f, killAll, ↓get_setS, evalOp, ev, b_lss, one, Option.map_some, List.getElem?_cons_zero, List.getElem?_cons_succ, Nat.reduceEqDiff, reduceCtorEq, ↓reduceIte, Nat.succ_ne_self, h0, h4, hlen]
    refine hr _ _ ?_
    simp (config := { maxSteps := 10000000 }) (disch := omega) only [↓get_setS, List.getElem?_cons_zero, List.getElem?_cons_succ, Nat.reduceEqDiff, ↓reduceIte]
    rw [List.take_of_length_le (by omega)] at hacc
    exact hacc
  | succ n ih =>
    intro i fr L hi h0 h4 hacc hr
    obtain ⟨x, hx⟩ : ∃ x, l[i]? = some x := ⟨_, List.getElem?_eq_getElem (by omega)⟩
    have hE := hv.el (E6_get l i x hx)
    generalize hv3 : Ab.get fr 3 = v3 at hacc
    have hap := acc_app (H := H) (bytes := 48) (y := .sl .full 6 [[.i x.at_, .i x.s, .i x.al, .i x.o, .bool x.h, .i x.sh]]) (new := [[.i x.at_, .i x.s, .i x.al, .i x.o, .bool x.h, .i x.sh]]) hacc rfl (by simp) (by omega) (by
      rw [E6_len]
      simp
      omega) (by simp [V.scalar])
    refine G_loop.trans ?_
    simp (config := { maxSteps := 10000000 }) (disch := omega) only [↓G_seq, ↓G_skip, ↓G_blk, ↓G_region, ↓G_block, ↓G_cond, ↓G_ops_nil, ↓G_op, Gv_some, Gc_true, dec_t, killAll, ↓get_setS, evalOp, ev, b_add, b_lss, wrap_i64, one, Option.map_some, Option.bind_some, List.append_nil, List.nil_append, List.cons_append, List.all_cons, List.all_nil, Bool.true_and, Bool.and_self, List.getElem?_cons_zero, List.getElem?_cons_succ, Nat.reduceEqDiff, reduceCtorEq, ↓reduceIte, Nat.succ_ne_self, Bool.false_eq_true, Int.reduceAdd, Int.reduceLT, pick3, V.cells, fillV, splice, chop, addOff, loadV, V.scalar, V.pure, Nat.reduceAdd, Nat.reduceLT, Nat.reduceLeDiff, true_and, and_self, List.length_cons, List.length_nil, List.take_succ_cons, List.take_zero, List.drop_succ_cons, List.drop_zero, Nat.le_refl, List.replicate, List.flatten_cons, List.flatten_nil, Nat.zero_add, Nat.add_zero, h0, h4, hlen, hE, hv3, hap.1]
    refine ih (i + 1) _ _ (by omega) ?_ ?_ ?_ hr
    · simp (config := { maxSteps := 10000000 }) (disch := omega) only [↓get_setS, List.getElem?_cons_zero, List.getElem?_cons_succ, reduceCtorEq, ↓reduceIte, h0]
    · simp (config := { maxSteps := 10000000 }) (disch := omega) only [↓get_setS, List.getElem?_cons_zero, List.getElem?_cons_succ, ↓reduceIte]
      congr 1
    · simp (config := { maxSteps := 10000000 }) (disch := omega) only [↓get_setS, List.getElem?_cons_zero, List.getElem?_cons_succ, Nat.reduceEqDiff, ↓reduceIte, Nat.succ_ne_self]
      rw [List.take_add_one, hx]
      simpa [E6, Nt.cells] using hap.2

theorem c15 {v : V} {l : List Nt} (hl : l.length ≤ 1000000) (hv : SlV 6 v (E6 l)) : call tbl 15 [v] H = some (outAcc 6 (E6 l)) := by
  refine (call_start (show tbl 15 = some a15 from rfl)).trans ?_
  unfold a15
  simp (config := { maxSteps := 10000000 }) (disch := omega) only [↓G_seq, ↓G_region, ↓G_block, ↓G_ops_nil, ↓G_op, Gv_some, killAll, evalOp, ev, List.getElem?_cons_zero, List.getElem?_cons_succ]
  refine loop15 hl hv l.length 0 _ _ (by omega) ?_ ?_ ?_ fun fr' L' hacc => ?_
  · simp (config := { maxSteps := 10000000 }) (disch := omega) only [↓get_setS, Ab.get, List.getElem?_cons_zero, List.getElem?_cons_succ, reduceCtorEq, ↓reduceIte]
  · simp (config := { maxSteps := 10000000 }) (disch := omega) only [↓get_setS, List.getElem?_cons_zero, List.getElem?_cons_succ, ↓reduceIte, Int.cast_ofNat_Int]
  · simp (config := { maxSteps := 10000000 }) (disch := omega) only [↓get_setS, List.getElem?_cons_zero, List.getElem?_cons_succ, ↓reduceIte, Nat.succ_ne_self, List.take_zero]
    exact Acc.nil
  · generalize hv : Ab.get fr' 3 = v3 at hacc
    have ho := hacc.out (by omega) (E6_pure _)
    simp (config := { maxSteps := 10000000 }) (disch := omega) only [↓G_seq, ↓G_ret, ↓G_region, ↓Gx_blk, ↓G_ops_nil, ↓G_op, Gv_some, killAll, ↓get_setS, evalOp, ev, Option.map_some, Option.bind_some, finish, resVs, resV, outVs, ownsLast, tupOf, List.all_nil, List.getElem?_cons_zero, List.getElem?_cons_succ, ↓reduceIte, fn_some, hv, ↓ho]

/-- Marks are compared with themselves. -/
theorem loop18 {k : List KI} {v w : V} {m : List (Int × Bool)} (hl : m.length ≤ 4096) (hv : SlV 2 v (M2 m)) (hw : SlV 2 w (M2 m))
    (hx : ∀ fr' L', Gx tbl H [.tmp 4] 0 k fr' L' = some (.bool true)) :
    ∀ (t : List (Int × Bool)) (i : Nat) (fr : List V) (L : List Row), m.drop i = t → i ≤ m.length → Ab.get fr 0 = v → Ab.get fr 1 = w → Ab.get fr 5 = .i (i : Nat) →
    G tbl H [.tmp 4] (.code (.loop ( (.seq ( (.seq ( .region [] [ ⟨some 11, .mv (.t 5), none⟩, ⟨some 12, .mv (.t 0), none⟩, ⟨some 13, .len (.t 12), none⟩, ⟨some 14, .bin .lss (.t 11) (.t 13), none⟩]) ( (.cond (.t 14) ( .skip) ( .exit 0))))) ( (.seq ( (.block 1 ( (.seq ( .region [] [ ⟨some 17, .mv (.t 0), none⟩, ⟨some 18, .mv (.t 5), none⟩, ⟨some 19, .elemAddr 2 (.t 17) (.t 18), none⟩, ⟨some 20, .fieldAddr 0 (.t 19), none⟩, ⟨some 21, .load false 1 (.t 20), none⟩, ⟨some 22, .mv (.t 1), none⟩, ⟨some 23, .mv (.t 5), none⟩, ⟨some 24, .elemAddr 2 (.t 22) (.t 23), none⟩, ⟨some 25, .fieldAddr 0 (.t 24), none⟩, ⟨some 26, .load false 1 (.t 25), none⟩, ⟨some 27, .bin .neq (.t 21) (.t 26), none⟩, ⟨some 28, .mv (.t 27), none⟩, ⟨some 29, .mv (.t 0), some (28, false)⟩, ⟨some 30, .mv (.t 5), some (28, false)⟩, ⟨some 31, .elemAddr 2 (.t 29) (.t 30), some (28, false)⟩, ⟨some 32, .fieldAddr 1 (.t 31), some (28, false)⟩, ⟨some 33, .load false 1 (.t 32), some (28, false)⟩, ⟨some 34, .mv (.t 1), some (28, false)⟩, ⟨some 35, .mv (.t 5), some (28, false)⟩, ⟨some 36, .elemAddr 2 (.t 34) (.t 35), some (28, false)⟩, ⟨some 37, .fieldAddr 1 (.t 36), some (28, false)⟩, ⟨some 38, .load false 1 (.t 37), some (28, false)⟩, ⟨some 39, .eqb true (.t 33) (.t 38), some (28, false)⟩, ⟨some 40, .pick (.t 28) (.c (.bool true)) (.t 39), none⟩]) ( (.cond (.t 40) ( (.seq ( .region [] [ ⟨some 4, .mv (.c (.bool false)), none⟩]) ( .ret))) ( .skip))))))) ( .region [] [ ⟨some 15, .mv (.t 5), none⟩, ⟨some 16, .bin .add (.t 15) (.c (.int .i64 1)), none⟩, ⟨some 5, .mv (.t 16), none⟩])))))) :: k) fr L = some (.bool true) := by
  intro t
  have hlen := hv.len
  rw [M2_len] at hlen
  induction t with
  | nil =>
    intro i fr L ht hi h0 h1 h5
    have := drop_nil ht
    refine G_loop.trans ?_
    simp (config := { maxSteps := 10000000 }) (disch := omega) only [↓G_seq, ↓G_exit, ↓G_region, ↓G_cond, ↓Gx_code, ↓G_ops_nil, ↓G_op, Gv_some, Gc_false, dec_f, killAll, ↓get_setS, evalOp, ev, b_lss, one, Option.map_some, List.getElem?_cons_zero, List.getElem?_cons_succ, Nat.reduceEqDiff, reduceCtorEq, ↓reduceIte, Nat.succ_ne_self, h0, h5, hlen, hx]
  | cons x t ih =>
    intro i fr L ht hi h0 h1 h5
    obtain ⟨e1, e2, e3⟩ := drop_cons ht
    have hE := hv.el (M2_get m i x e1)
    have hE' := hw.el (M2_get m i x e1)
    refine G_loop.trans ?_
    simp (config := { maxSteps := 10000000 }) (disch := omega) only [beq_self_eq_true, ↓G_seq, ↓G_skip, ↓G_blk, ↓G_region, ↓G_block, ↓G_cond, ↓G_ops_nil, ↓G_op, Gv_some, ↓G_gop, Gw_ff, Gc_true, Gc_false, dec_t, killAll, ↓get_setS, evalOp, ev, b_add, b_neq, b_lss, wrap_i64, one, Option.map_some, asB, List.getElem?_cons_zero, List.getElem?_cons_succ, Nat.reduceEqDiff, reduceCtorEq, ↓reduceIte, Nat.succ_ne_self, decide_true, Bool.not_true, Bool.false_eq_true, pick3, addOff, loadV, Nat.zero_add, Nat.add_zero, h0, h1, h5, hlen, hE, hE']
    refine ih (i + 1) _ _ e2 (by omega) ?_ ?_ ?_
    all_goals simp (config := { maxSteps := 10000000 }) (disch := omega) only [↓get_setS, List.getElem?_cons_zero, List.getElem?_cons_succ, Nat.reduceEqDiff, reduceCtorEq, ↓reduceIte, h0, h1]
    congr 1

theorem c18 {v w : V} {m : List (Int × Bool)} (hl : m.length ≤ 4096) (hv : SlV 2 v (M2 m)) (hw : SlV 2 w (M2 m)) : call tbl 18 [v, w] H = some (.bool true) := by
  refine (call_start (show tbl 18 = some a18 from rfl)).trans ?_
  have hlen := hv.len
  have hlen' := hw.len
  rw [M2_len] at hlen hlen'
  unfold a18
  simp (config := { maxSteps := 10000000 }) (disch := omega) only [↓G_seq, ↓G_skip, ↓G_region, ↓G_block, ↓G_cond, ↓G_ops_nil, ↓G_op, Gv_some, Gc_false, killAll, ↓get_setS, evalOp, ev, Ab.get, b_neq, one, Option.map_some, List.getElem?_cons_zero, List.getElem?_cons_succ, Nat.reduceEqDiff, reduceCtorEq, ↓reduceIte, Nat.succ_ne_self, decide_true, Bool.not_true, hlen, hlen']
  refine loop18 hl hv hw (fun fr' L' => ?_) m 0 _ _ rfl (by omega) ?_ ?_ ?_
  all_goals simp (config := { maxSteps := 10000000 }) (disch := omega) only [↓G_seq, ↓G_ret, ↓G_region, ↓Gx_blk, ↓G_ops_nil, ↓G_op, Gv_some, killAll, ↓get_setS, evalOp, ev, Ab.get, Option.map_some, Option.bind_some, finish, resVs, resV, outVs, ownsLast, tupOf, List.all_nil, List.getElem?_cons_zero, List.getElem?_cons_succ, Nat.reduceEqDiff, reduceCtorEq, ↓reduceIte, Int.cast_ofNat_Int, ov_bool, fn_some]

set_option maxHeartbeats 2000000 in
theorem loop17 {k : List KI} {rs : List ARes} {r : Option V} {v : V} {l : List Nt} {v1 : Nat} (hl : l.length ≤ 4096) (hv : SlV 6 v (E6 l)) (he : errL 0 l = 0) (hv1 : 0 < v1) (M : List (Int × Bool)) (S : List Int)
    (hr : ∀ fr' L', Ab.get fr' 6 = .ref 0 1 v1 1 0 77 → rget L' 1 = ⟨v1, 1, I1 S⟩ → Acc 6 2 L' (Ab.get fr' 7) (M2 M) → Gx tbl H rs 0 k fr' L' = r) :
    ∀ (t : List Nt) (i : Nat) (F : List Int) (acc : List (Int × Bool)) (fr : List V) (L : List Row), l.drop i = t → i ≤ l.length → acc.length = i → F.length = 77 → M = acc ++ (dispR l t F).1 → S = (dispR l t F).2 →
    Ab.get fr 1 = v → Ab.get fr 6 = .ref 0 1 v1 1 0 77 → Ab.get fr 8 = .i (i : Nat) →
    rget L 1 = ⟨v1, 1, I1 F⟩ → Acc 6 2 L (Ab.get fr 7) (M2 acc) →
    G tbl H rs (.code (.loop ( (.seq ( (.seq ( .region [] [ ⟨some 15, .mv (.t 8), none⟩, ⟨some 16, .mv (.t 1), none⟩, ⟨some 17, .len (.t 16), none⟩, ⟨some 18, .bin .lss (.t 15) (.t 17), none⟩]) ( (.cond (.t 18) ( .skip) ( .exit 0))))) ( (.seq ( (.block 1 ( (.seq ( .region [] [ ⟨some 21, .mv (.t 1), none⟩, ⟨some 22, .mv (.t 8), none⟩, ⟨some 23, .elemAddr 6 (.t 21) (.t 22), none⟩, ⟨some 24, .load true 6 (.t 23), none⟩, ⟨some 9, .alloc 2 [(.int .i64 0), (.int .i64 0), (.int .i64 0), (.int .i64 0), (.bool false), (.int .i64 0)], none⟩, ⟨none, .store 6 (.t 9) (.t 24), none⟩]) ( (.seq ( .region [] [ ⟨some 25, .fieldAddr 1 (.t 9), none⟩, ⟨some 26, .fieldAddr 0 (.t 25), none⟩, ⟨some 27, .load false 1 (.t 26), none⟩, ⟨some 28, .fieldAddr 1 (.t 9), none⟩, ⟨some 29, .fieldAddr 2 (.t 28), none⟩, ⟨some 30, .load false 1 (.t 29), none⟩, ⟨some 31, .callf 3 (.c (.fn 30 [])) [(.t 27), (.t 30)], none⟩, ⟨some 10, .mv (.t 31), none⟩]) ( (.seq ( .region [] [ ⟨some 32, .fieldAddr 4 (.t 9), none⟩, ⟨some 33, .load false 1 (.t 32), none⟩, ⟨some 34, .not (.t 33), none⟩, ⟨some 35, .mv (.t 34), none⟩, ⟨some 36, .fieldAddr 1 (.t 9), some (35, true)⟩, ⟨some 37, .fieldAddr 1 (.t 36), some (35, true)⟩, ⟨some 38, .load false 1 (.t 37), some (35, true)⟩, ⟨some 39, .mv (.t 6), some (35, true)⟩, ⟨some 40, .mv (.t 10), some (35, true)⟩, ⟨some 41, .elemAddr 1 (.t 39) (.t 40), some (35, true)⟩, ⟨some 42, .load false 1 (.t 41), some (35, true)⟩, ⟨some 43, .bin .neq (.t 38) (.t 42), some (35, true)⟩, ⟨some 44, .pick (.t 35) (.t 43) (.c (.bool false)), none⟩, ⟨some 45, .mv (.t 44), none⟩, ⟨some 46, .mv (.t 1), some (45, false)⟩, ⟨some 47, .mv (.t 8), some (45, false)⟩, ⟨some 48, .callf 4 (.c (.fn 26 [])) [(.t 46), (.t 47)], some (45, false)⟩, ⟨some 49, .pick (.t 45) (.c (.bool true)) (.t 48), none⟩, ⟨some 11, .mv (.t 49), none⟩]) ( (.seq ( .region [] [ ⟨some 50, .build [(.int .i64 0), (.bool false)] [], none⟩, ⟨some 12, .alloc 5 [(.int .i64 0), (.bool false)], none⟩, ⟨none, .store 2 (.t 12) (.t 50), none⟩]) ( (.seq ( (.seq ( .region [] [ ⟨some 51, .mv (.t 11), none⟩, ⟨some 52, .mv (.t 51), none⟩, ⟨some 53, .fieldAddr 5 (.t 9), some (52, false)⟩, ⟨some 54, .load false 1 (.t 53), some (52, false)⟩, ⟨some 55, .bin .neq (.t 54) (.c (.int .i64 0)), some (52, false)⟩, ⟨some 56, .pick (.t 52) (.c (.bool true)) (.t 55), none⟩]) ( (.cond (.t 56) ( (.seq ( .region [] [ ⟨some 57, .fieldAddr 1 (.t 9), none⟩, ⟨some 58, .fieldAddr 1 (.t 57), none⟩, ⟨some 59, .load false 1 (.t 58), none⟩, ⟨some 60, .bin .add (.t 59) (.c (.int .i64 3)), none⟩, ⟨some 61, .mv (.t 11), none⟩, ⟨some 62, .not (.t 61), none⟩, ⟨some 63, .mv (.t 62), none⟩, ⟨some 64, .fieldAddr 5 (.t 9), some (63, true)⟩, ⟨some 65, .load false 1 (.t 64), some (63, true)⟩, ⟨some 66, .bin .eql (.t 65) (.c (.int .i64 2)), some (63, true)⟩, ⟨some 67, .pick (.t 63) (.t 66) (.c (.bool false)), none⟩, ⟨some 68, .build [(.int .i64 0), (.bool false)] [(0, 1, (.t 60)), (1, 1, (.t 67))], none⟩, ⟨none, .store 2 (.t 12) (.t 68), none⟩]) ( .region [] [ ⟨some 69, .mv (.t 6), none⟩, ⟨some 70, .mv (.t 10), none⟩, ⟨some 71, .fieldAddr 1 (.t 9), none⟩, ⟨some 72, .fieldAddr 1 (.t 71), none⟩, ⟨some 73, .load false 1 (.t 72), none⟩, ⟨some 74, .elemAddr 1 (.t 69) (.t 70), none⟩, ⟨none, .store 1 (.t 74) (.t 73), none⟩]))) ( .skip))))) ( .region [] [ ⟨some 75, .mv (.t 7), none⟩, ⟨some 76, .load true 2 (.t 12), none⟩, ⟨some 77, .lit 2 [(.int .i64 0), (.bool false)] 1 [(0, 2, (.t 76))], none⟩, ⟨some 78, .app 6 2 16 (.t 75) (.t 77), none⟩, ⟨some 7, .mv (.t 78), none⟩]))))))))))))) ( .region [] [ ⟨some 19, .mv (.t 8), none⟩, ⟨some 20, .bin .add (.t 19) (.c (.int .i64 1)), none⟩, ⟨some 8, .mv (.t 20), none⟩])))))) :: k) fr L = r := by
  intro t
  have hlen := hv.len
  rw [E6_len] at hlen
  induction t with
  | nil =>
    intro i F acc fr L ht hi ha hF hM hS h1 h6 h8 r1 hacc
    have := drop_nil ht
    simp only [dispR, List.append_nil] at hM hS
    subst hM hS
    refine G_loop.trans ?_
    simp (config := { maxSteps := 10000000 }) (disch := omega) only [↓G_seq, ↓G_exit, ↓G_region, ↓G_cond, ↓Gx_code, ↓G_ops_nil, ↓G_op, Gv_some, Gc_false, dec_f, killAll, ↓get_setS, evalOp, ev, b_lss, one, Option.map_some, List.getElem?_cons_zero, List.getElem?_cons_succ, Nat.reduceEqDiff, ↓reduceIte, Nat.succ_ne_self, h1, h8, hlen]
    refine hr _ _ ?_ ?_ ?_
    · simp (config := { maxSteps := 10000000 }) (disch := omega) only [↓get_setS, List.getElem?_cons_zero, List.getElem?_cons_succ, Nat.reduceEqDiff, ↓reduceIte, h6]
    · simp (config := { maxSteps := 10000000 }) (disch := omega) only [List.getElem?_cons_zero, List.getElem?_cons_succ, r1]
    · simp (config := { maxSteps := 10000000 }) (disch := omega) only [↓get_setS, List.getElem?_cons_zero, List.getElem?_cons_succ, Nat.reduceEqDiff, ↓reduceIte]
      exact hacc
  | cons n t ih =>
    intro i F acc fr L ht hi ha hF hM hS h1 h6 h8 r1 hacc
    obtain ⟨e1', e2, e3⟩ := drop_cons ht
    have hE := hv.el (E6_get l i n e1')
    have hsh := hv.sh
    have hfz := hv.fz
    have hin := ((errL_sorted l 0 he).2 n (List.mem_of_getElem? e1')).2
    obtain ⟨hq, hq77⟩ := ixN_eq hin.1
    have h30 := fun H => (c30 (H := H) n.s n.o hin.1.1 hin.1.2.2).trans (by rw [← hq])
    have h26 := fun H => c26 (H := H) hl hv e1'
    have hal := hin.1.2.1
    obtain ⟨x, hx⟩ : ∃ x, F[ixN n]? = some x := ⟨_, List.getElem?_eq_getElem (by omega)⟩
    have hFx := I1_get F (ixN n) x hx
    have hFs := I1_set F (ixN n) n.al
    have hy := step_y F n (l.any (hitB n)) x hx
    have hn := step_n F n (l.any (hitB n)) x hx
    generalize hv7 : Ab.get fr 7 = v7 at hacc
    have hap : ∀ (m : Int × Bool) (L1 : List Row), rget L1 6 = rget L 6 → appV (L1 :: H) 6 2 16 v7 (.sl .full 2 [[.i m.1, .bool m.2]]) = some (.ref 0 6 ((rget L 6).ver + 1) 2 0 (acc.length + 1), rset L1 6 ⟨(rget L 6).ver + 1, 2, M2 acc ++ [[.i m.1, .bool m.2]]⟩) := by
      intro m L1 h1
      have := (acc_app (H := H) (bytes := 16) (y := .sl .full 2 [[.i m.1, .bool m.2]]) (new := [[.i m.1, .bool m.2]]) (hacc.mono h1) rfl (by simp) (by omega) (by rw [M2_len]; simp; omega) (by simp [V.scalar])).1
      rw [this, h1, M2_len]
      rfl
    have next : ∀ (m : Int × Bool) (F' : List Int) (fr' : List V) (L' : List Row), stepD F n (l.any (hitB n)) = (m, F') → Ab.get fr' 1 = v → Ab.get fr' 6 = .ref 0 1 v1 1 0 77 → Ab.get fr' 8 = .i ((i : Nat) + 1) → rget L' 1 = ⟨v1, 1, I1 F'⟩ →
        Ab.get fr' 7 = .ref 0 6 ((rget L 6).ver + 1) 2 0 (acc.length + 1) →
        rget L' 6 = ⟨(rget L 6).ver + 1, 2, M2 acc ++ [[.i m.1, .bool m.2]]⟩ → G tbl H rs (.code (.loop ( (.seq ( (.seq ( .region [] [ ⟨some 15, .mv (.t 8), none⟩, ⟨some 16, .mv (.t 1), none⟩, ⟨some 17, .len (.t 16), none⟩, ⟨some 18, .bin .lss (.t 15) (.t 17), none⟩]) ( (.cond (.t 18) ( .skip) ( .exit 0))))) ( (.seq ( (.block 1 ( (.seq ( .region [] [ ⟨some 21, .mv (.t 1), none⟩, ⟨some 22, .mv (.t 8), none⟩, ⟨some 23, .elemAddr 6 (.t 21) (.t 22), none⟩, ⟨some 24, .load true 6 (.t 23), none⟩, ⟨some 9, .alloc 2 [(.int .i64 0), (.int .i64 0), (.int .i64 0), (.int .i64 0), (.bool false), (.int .i64 0)], none⟩, ⟨none, .store 6 (.t 9) (.t 24), none⟩]) ( (.seq ( .region [] [ ⟨some 25, .fieldAddr 1 (.t 9), none⟩, ⟨some 26, .fieldAddr 0 (.t 25), none⟩, ⟨some 27, .load false 1 (.t 26), none⟩, ⟨some 28, .fieldAddr 1 (.t 9), none⟩, ⟨some 29, .fieldAddr 2 (.t 28), none⟩, ⟨some 30, .load false 1 (.t 29), none⟩, ⟨some 31, .callf 3 (.c (.fn 30 [])) [(.t 27), (.t 30)], none⟩, ⟨some 10, .mv (.t 31), none⟩]) ( (.seq ( .region [] [ ⟨some 32, .fieldAddr 4 (.t 9), none⟩, ⟨some 33, .load false 1 (.t 32), none⟩, ⟨some 34, .not (.t 33), none⟩, ⟨some 35, .mv (.t 34), none⟩, ⟨some 36, .fieldAddr 1 (.t 9), some (35, true)⟩, ⟨some 37, .fieldAddr 1 (.t 36), some (35, true)⟩, ⟨some 38, .load false 1 (.t 37), some (35, true)⟩, ⟨some 39, .mv (.t 6), some (35, true)⟩, ⟨some 40, .mv (.t 10), some (35, true)⟩, ⟨some 41, .elemAddr 1 (.t 39) (.t 40), some (35, true)⟩, ⟨some 42, .load false 1 (.t 41), some (35, true)⟩, ⟨some 43, .bin .neq (.t 38) (.t 42), some (35, true)⟩, ⟨some 44, .pick (.t 35) (.t 43) (.c (.bool false)), none⟩, ⟨some 45, .mv (.t 44), none⟩, ⟨some 46, .mv (.t 1), some (45, false)⟩, ⟨some 47, .mv (.t 8), some (45, false)⟩, ⟨some 48, .callf 4 (.c (.fn 26 [])) [(.t 46), (.t 47)], some (45, false)⟩, ⟨some 49, .pick (.t 45) (.c (.bool true)) (.t 48), none⟩, ⟨some 11, .mv (.t 49), none⟩]) ( (.seq ( .region [] [ ⟨some 50, .build [(.int .i64 0), (.bool false)] [], none⟩, ⟨some 12, .alloc 5 [(.int .i64 0), (.bool false)], none⟩, ⟨none, .store 2 (.t 12) (.t 50), none⟩]) ( (.seq ( (.seq ( .region [] [ ⟨some 51, .mv (.t 11), none⟩, ⟨some 52, .mv (.t 51), none⟩, ⟨some 53, .fieldAddr 5 (.t 9), some (52, false)⟩, ⟨some 54, .load false 1 (.t 53), some (52, false)⟩, ⟨some 55, .bin .neq (.t 54) (.c (.int .i64 0)), some (52, false)⟩, ⟨some 56, .pick (.t 52) (.c (.bool true)) (.t 55), none⟩]) ( (.cond (.t 56) ( (.seq ( .region [] [ ⟨some 57, .fieldAddr 1 (.t 9), none⟩, ⟨some 58, .fieldAddr 1 (.t 57), none⟩, ⟨some 59, .load false 1 (.t 58), none⟩, ⟨some 60, .bin .add (.t 59) (.c (.int .i64 3)), none⟩, ⟨some 61, .mv (.t 11), none⟩, ⟨some 62, .not (.t 61), none⟩, ⟨some 63, .mv (.t 62), none⟩, ⟨some 64, .fieldAddr 5 (.t 9), some (63, true)⟩, ⟨some 65, .load false 1 (.t 64), some (63, true)⟩, ⟨some 66, .bin .eql (.t 65) (.c (.int .i64 2)), some (63, true)⟩, ⟨some 67, .pick (.t 63) (.t 66) (.c (.bool false)), none⟩, ⟨some 68, .build [(.int .i64 0), (.bool false)] [(0, 1, (.t 60)), (1, 1, (.t 67))], none⟩, ⟨none, .store 2 (.t 12) (.t 68), none⟩]) ( .region [] [ ⟨some 69, .mv (.t 6), none⟩, ⟨some 70, .mv (.t 10), none⟩, ⟨some 71, .fieldAddr 1 (.t 9), none⟩, ⟨some 72, .fieldAddr 1 (.t 71), none⟩, ⟨some 73, .load false 1 (.t 72), none⟩, ⟨some 74, .elemAddr 1 (.t 69) (.t 70), none⟩, ⟨none, .store 1 (.t 74) (.t 73), none⟩]))) ( .skip))))) ( .region [] [ ⟨some 75, .mv (.t 7), none⟩, ⟨some 76, .load true 2 (.t 12), none⟩, ⟨some 77, .lit 2 [(.int .i64 0), (.bool false)] 1 [(0, 2, (.t 76))], none⟩, ⟨some 78, .app 6 2 16 (.t 75) (.t 77), none⟩, ⟨some 7, .mv (.t 78), none⟩]))))))))))))) ( .region [] [ ⟨some 19, .mv (.t 8), none⟩, ⟨some 20, .bin .add (.t 19) (.c (.int .i64 1)), none⟩, ⟨some 8, .mv (.t 20), none⟩])))))) :: k) fr' L' = r := by
      intro m F' fr' L' hs g1 g6 g8 s1 g7 s6
      have hl2 : F'.length = F.length := by
        have := stepD_len F n (l.any (hitB n))
        rw [hs] at this
        exact this
      have hl' : F'.length = 77 := by omega
      simp only [dispR, hs] at hM hS
      refine ih (i + 1) F' (acc ++ [m]) fr' L' e2 (by omega) (by simp; omega) hl' (by rw [hM]; simp) hS g1 g6 (by rw [g8]; congr 1) s1 ?_
      rw [g7]
      exact Acc.mk (ver := (rget L 6).ver + 1) (by omega) (by rw [M2_len]; simp) (by rw [s6, M2_app]) (by simp [M2])
    clear ih hM hS hr hv
    have hap2 := fun m r1 r2 r5 => hap m (rset (rset (rset L 2 r2) 5 r5) 1 r1) (by simp [rget_rset])
    have hap1 := fun m r2 r5 => hap m (rset (rset L 2 r2) 5 r5) (by simp [rget_rset])
    clear hap
    refine G_loop.trans ?_
    generalize l.any (hitB n) = cl at *
    by_cases c1 : n.h = false ∧ ¬ n.al = x
    · have hs := hy (.inl c1)
      obtain ⟨c1, c2⟩ := c1
      have hap' := hap2 (n.al + 3, false)
      clear hy hn hap1 hap2
      simp (config := { maxSteps := 10000000 }) (disch := omega) only [↓G_seq, ↓G_skip, ↓G_blk, ↓G_region, ↓G_block, ↓G_cond, ↓G_ops_nil, ↓G_op, Gv_some, ↓G_gop, Gw_tt, Gw_tf, Gw_ft, Gc_true, dec_t, dec_f, killAll, ↓get_setS, ↓get_setN, evalOp, ev, evs, rget_rset, b_add, b_neq, b_lss, wrap_i64, one, Option.map_some, Option.bind_some, asB, callV, V.shift, V.shifts, List.append_nil, List.nil_append, List.cons_append, List.all_cons, List.all_nil, Bool.and_true, Bool.true_and, Bool.and_self, List.getElem?_cons_zero, List.getElem?_cons_succ, Nat.reduceEqDiff, ↓reduceIte, Nat.succ_ne_self, Nat.reduceBNe, Bool.not_true, Bool.not_false, Bool.false_eq_true, Int.reduceAdd, pick3, V.cells, fillV, splice, chop, addOff, loadV, storeV, Ab.rowAt, V.scalar, V.pure, Nat.reduceAdd, Nat.reduceLeDiff, and_true, true_and, and_self, List.length_cons, List.length_nil, List.take_succ_cons, List.take_zero, List.drop_succ_cons, List.drop_zero, Nat.le_refl, List.set_cons_zero, List.getD_cons_zero, List.replicate, List.flatten_cons, List.flatten_nil, Int.cast_ofNat_Int, Nat.zero_add, Nat.add_zero, el_ref, ti_int, fz_nil, fz_cons, fz_int, nn, ite_ov, Int.toNat_natCast, h1, h6, h8, hlen, hE, h30, r1, hFx, hFs, hv7, hap', c1, rset_rset, Nat.zero_lt_succ]
      refine next _ _ _ _ hs ?_ ?_ ?_ ?_ ?_ ?_
      all_goals simp (config := { maxSteps := 10000000 }) (disch := omega) only [↓get_setS, ↓get_setN, rget_rset, List.getElem?_cons_zero, List.getElem?_cons_succ, Nat.reduceEqDiff, ↓reduceIte, Nat.succ_ne_self, h1, h6]
    cases cl
    case neg.true =>
      have hs := hy (.inr rfl)
      have hap' := hap2 (n.al + 3, false)
      clear hy hn hap1 hap2
      cases hh : n.h
      · have c2 : n.al = x := Classical.not_not.1 (fun z => c1 ⟨hh, z⟩)
        simp (config := { maxSteps := 10000000 }) (disch := omega) only [↓G_seq, ↓G_skip, ↓G_blk, ↓G_region, ↓G_block, ↓G_cond, ↓G_ops_nil, ↓G_op, Gv_some, ↓G_gop, Gw_tt, Gw_ff, Gw_tf, Gw_ft, Gc_true, dec_t, killAll, ↓get_setS, ↓get_setN, evalOp, ev, evs, rget_rset, b_add, b_neq, b_lss, wrap_i64, one, Option.map_some, Option.bind_some, asB, callV, V.shift, V.shifts, List.append_nil, List.nil_append, List.cons_append, List.all_cons, List.all_nil, Bool.and_true, Bool.true_and, Bool.and_self, List.getElem?_cons_zero, List.getElem?_cons_succ, Nat.reduceEqDiff, ↓reduceIte, Nat.succ_ne_self, Nat.reduceBNe, Bool.not_true, Bool.not_false, Bool.false_eq_true, Int.reduceAdd, pick3, V.cells, fillV, splice, chop, addOff, loadV, storeV, Ab.rowAt, V.scalar, V.pure, Nat.reduceAdd, Nat.reduceLeDiff, and_true, true_and, and_self, List.length_cons, List.length_nil, List.take_succ_cons, List.take_zero, List.drop_succ_cons, List.drop_zero, Nat.le_refl, List.set_cons_zero, List.getD_cons_zero, List.replicate, List.flatten_cons, List.flatten_nil, Int.cast_ofNat_Int, Nat.zero_add, Nat.add_zero, el_ref, ti_bool, ti_int, fz_nil, fz_cons, fz_int, nn, ite_ov, Int.toNat_natCast, h1, h6, h8, hlen, hE, hsh, hfz, h30, h26, r1, hFx, hFs, hv7, hap', hh, rset_rset, Nat.zero_lt_succ]
        refine next _ _ _ _ hs ?_ ?_ ?_ ?_ ?_ ?_
        all_goals simp (config := { maxSteps := 10000000 }) (disch := omega) only [↓get_setS, ↓get_setN, rget_rset, List.getElem?_cons_zero, List.getElem?_cons_succ, Nat.reduceEqDiff, ↓reduceIte, Nat.succ_ne_self, h1, h6]
      · simp (config := { maxSteps := 10000000 }) (disch := omega) only [↓G_seq, ↓G_skip, ↓G_blk, ↓G_region, ↓G_block, ↓G_cond, ↓G_ops_nil, ↓G_op, Gv_some, ↓G_gop, Gw_ff, Gw_tf, Gw_ft, Gc_true, dec_t, killAll, ↓get_setS, ↓get_setN, evalOp, ev, evs, rget_rset, b_add, b_lss, wrap_i64, one, Option.map_some, Option.bind_some, asB, callV, V.shift, V.shifts, List.append_nil, List.nil_append, List.cons_append, List.all_cons, List.all_nil, Bool.and_true, Bool.true_and, Bool.and_self, List.getElem?_cons_zero, List.getElem?_cons_succ, Nat.reduceEqDiff, ↓reduceIte, Nat.succ_ne_self, Nat.reduceBNe, Bool.not_true, Bool.false_eq_true, Int.reduceAdd, pick3, V.cells, fillV, splice, chop, addOff, loadV, storeV, Ab.rowAt, V.scalar, V.pure, Nat.reduceAdd, Nat.reduceLeDiff, and_true, true_and, and_self, List.length_cons, List.length_nil, List.take_succ_cons, List.take_zero, List.drop_succ_cons, List.drop_zero, Nat.le_refl, List.set_cons_zero, List.getD_cons_zero, List.replicate, List.flatten_cons, List.flatten_nil, Int.cast_ofNat_Int, Nat.zero_add, Nat.add_zero, el_ref, ti_bool, ti_int, fz_nil, fz_cons, fz_int, nn, ite_ov, Int.toNat_natCast, h1, h6, h8, hlen, hE, hsh, hfz, h30, h26, r1, hFx, hFs, hv7, hap', hh, rset_rset, Nat.zero_lt_succ]
        refine next _ _ _ _ hs ?_ ?_ ?_ ?_ ?_ ?_
        all_goals simp (config := { maxSteps := 10000000 }) (disch := omega) only [↓get_setS, ↓get_setN, rget_rset, List.getElem?_cons_zero, List.getElem?_cons_succ, Nat.reduceEqDiff, ↓reduceIte, Nat.succ_ne_self, h1, h6]
    have c2 : n.h = true ∨ n.al = x := by
      cases hh : n.h
      · exact .inr (Classical.not_not.1 (fun z => c1 ⟨hh, z⟩))
      · exact .inl rfl
    have hs := hn ⟨c2, rfl⟩
    clear hy hn c1
    by_cases z : n.sh = 0
    · rw [if_pos z] at hs
      have hap' := hap1 (0, false)
      clear hap1 hap2
      cases hh : n.h
      · have c3 : n.al = x := c2.resolve_left (by simp [hh])
        clear c2
        simp (config := { maxSteps := 10000000 }) (disch := omega) only [↓G_seq, ↓G_skip, ↓G_blk, ↓G_region, ↓G_block, ↓G_cond, ↓G_ops_nil, ↓G_op, Gv_some, ↓G_gop, Gw_tt, Gw_ff, Gc_true, Gc_false, dec_t, killAll, ↓get_setS, ↓get_setN, evalOp, ev, evs, rget_rset, b_add, b_neq, b_lss, wrap_i64, one, Option.map_some, Option.bind_some, asB, callV, V.shift, V.shifts, List.append_nil, List.nil_append, List.cons_append, List.all_cons, List.all_nil, Bool.true_and, Bool.and_self, List.getElem?_cons_zero, List.getElem?_cons_succ, Nat.reduceEqDiff, ↓reduceIte, Nat.succ_ne_self, Nat.reduceBNe, Bool.not_true, Bool.not_false, Bool.false_eq_true, Int.reduceAdd, pick3, V.cells, fillV, splice, chop, addOff, loadV, storeV, Ab.rowAt, V.scalar, V.pure, Nat.reduceAdd, true_and, and_self, List.length_cons, List.length_nil, List.take_succ_cons, List.take_zero, List.drop_succ_cons, List.drop_zero, Nat.le_refl, List.set_cons_zero, List.getD_cons_zero, List.replicate, List.flatten_cons, List.flatten_nil, Int.cast_ofNat_Int, Nat.zero_add, Nat.add_zero, el_ref, ti_bool, ti_int, fz_nil, fz_cons, fz_int, nn, ite_ov, Int.toNat_natCast, h1, h6, h8, hlen, hE, hsh, hfz, h30, h26, r1, hFx, hv7, hap', hh, rset_rset, Nat.zero_lt_succ]
        refine next _ _ _ _ hs ?_ ?_ ?_ ?_ ?_ ?_
        all_goals simp (config := { maxSteps := 10000000 }) (disch := omega) only [↓get_setS, ↓get_setN, rget_rset, List.getElem?_cons_zero, List.getElem?_cons_succ, Nat.reduceEqDiff, ↓reduceIte, Nat.succ_ne_self, h1, h6, r1]
      · clear c2
        simp (config := { maxSteps := 10000000 }) (disch := omega) only [↓G_seq, ↓G_skip, ↓G_blk, ↓G_region, ↓G_block, ↓G_cond, ↓G_ops_nil, ↓G_op, Gv_some, ↓G_gop, Gw_ff, Gw_tf, Gc_true, Gc_false, dec_t, killAll, ↓get_setS, ↓get_setN, evalOp, ev, evs, rget_rset, b_add, b_neq, b_lss, wrap_i64, one, Option.map_some, Option.bind_some, asB, callV, V.shift, V.shifts, List.append_nil, List.nil_append, List.cons_append, List.all_cons, List.all_nil, Bool.true_and, Bool.and_self, List.getElem?_cons_zero, List.getElem?_cons_succ, Nat.reduceEqDiff, ↓reduceIte, Nat.succ_ne_self, Nat.reduceBNe, Bool.not_true, Bool.false_eq_true, Int.reduceAdd, pick3, V.cells, fillV, splice, chop, addOff, loadV, storeV, Ab.rowAt, V.scalar, V.pure, Nat.reduceAdd, true_and, and_self, List.length_cons, List.length_nil, List.take_succ_cons, List.take_zero, List.drop_succ_cons, List.drop_zero, Nat.le_refl, List.set_cons_zero, List.getD_cons_zero, List.replicate, List.flatten_cons, List.flatten_nil, Nat.zero_add, Nat.add_zero, ti_bool, ti_int, fz_nil, fz_cons, fz_int, h1, h8, hlen, hE, hsh, hfz, h30, h26, hv7, hap', hh, rset_rset, Nat.zero_lt_succ]
        refine next _ _ _ _ hs ?_ ?_ ?_ ?_ ?_ ?_
        all_goals simp (config := { maxSteps := 10000000 }) (disch := omega) only [↓get_setS, ↓get_setN, rget_rset, List.getElem?_cons_zero, List.getElem?_cons_succ, Nat.reduceEqDiff, ↓reduceIte, Nat.succ_ne_self, h1, h6, r1]
    · rw [if_neg z] at hs
      have hap' := hap2 (n.al + 3, decide (n.sh = 2))
      clear hap1 hap2
      cases hh : n.h
      · have c3 : n.al = x := c2.resolve_left (by simp [hh])
        clear c2
        by_cases z2 : n.sh = 2
        · rw [decide_eq_true z2] at hap' hs
          simp (config := { maxSteps := 10000000 }) (disch := omega) only [↓G_seq, ↓G_skip, ↓G_blk, ↓G_region, ↓G_block, ↓G_cond, ↓G_ops_nil, ↓G_op, Gv_some, ↓G_gop, Gw_tt, Gw_ff, Gc_true, dec_t, dec_f, killAll, ↓get_setS, ↓get_setN, evalOp, ev, evs, rget_rset, b_add, b_eql, b_neq, b_lss, wrap_i64, one, Option.map_some, Option.bind_some, asB, callV, V.shift, V.shifts, List.append_nil, List.nil_append, List.cons_append, List.all_cons, List.all_nil, Bool.and_true, Bool.true_and, Bool.and_self, List.getElem?_cons_zero, List.getElem?_cons_succ, Nat.reduceEqDiff, ↓reduceIte, Nat.succ_ne_self, Nat.reduceBNe, Bool.not_true, Bool.not_false, Bool.false_eq_true, Int.reduceAdd, pick3, V.cells, fillV, splice, chop, addOff, loadV, storeV, Ab.rowAt, V.scalar, V.pure, Nat.reduceAdd, Nat.reduceLeDiff, and_true, true_and, and_self, List.length_cons, List.length_nil, List.take_succ_cons, List.take_zero, List.drop_succ_cons, List.drop_zero, Nat.le_refl, List.set_cons_zero, List.getD_cons_zero, List.replicate, List.flatten_cons, List.flatten_nil, Int.cast_ofNat_Int, Nat.zero_add, Nat.add_zero, el_ref, ti_bool, ti_int, fz_nil, fz_cons, fz_int, nn, ite_ov, Int.toNat_natCast, h1, h6, h8, hlen, hE, hsh, hfz, h30, h26, r1, hFx, hFs, hv7, hap', hh, rset_rset, Nat.zero_lt_succ]
          refine next _ _ _ _ hs ?_ ?_ ?_ ?_ ?_ ?_
          all_goals simp (config := { maxSteps := 10000000 }) (disch := omega) only [↓get_setS, ↓get_setN, rget_rset, List.getElem?_cons_zero, List.getElem?_cons_succ, Nat.reduceEqDiff, ↓reduceIte, Nat.succ_ne_self, h1, h6]
        · rw [decide_eq_false z2] at hap' hs
          simp (config := { maxSteps := 10000000 }) (disch := omega) only [↓G_seq, ↓G_skip, ↓G_blk, ↓G_region, ↓G_block, ↓G_cond, ↓G_ops_nil, ↓G_op, Gv_some, ↓G_gop, Gw_tt, Gw_ff, Gc_true, dec_t, dec_f, killAll, ↓get_setS, ↓get_setN, evalOp, ev, evs, rget_rset, b_add, b_eql, b_neq, b_lss, wrap_i64, one, Option.map_some, Option.bind_some, asB, callV, V.shift, V.shifts, List.append_nil, List.nil_append, List.cons_append, List.all_cons, List.all_nil, Bool.and_true, Bool.true_and, Bool.and_self, List.getElem?_cons_zero, List.getElem?_cons_succ, Nat.reduceEqDiff, ↓reduceIte, Nat.succ_ne_self, Nat.reduceBNe, Bool.not_true, Bool.not_false, Bool.false_eq_true, Int.reduceAdd, pick3, V.cells, fillV, splice, chop, addOff, loadV, storeV, Ab.rowAt, V.scalar, V.pure, Nat.reduceAdd, Nat.reduceLeDiff, and_true, true_and, and_self, List.length_cons, List.length_nil, List.take_succ_cons, List.take_zero, List.drop_succ_cons, List.drop_zero, Nat.le_refl, List.set_cons_zero, List.getD_cons_zero, List.replicate, List.flatten_cons, List.flatten_nil, Int.cast_ofNat_Int, Nat.zero_add, Nat.add_zero, el_ref, ti_bool, ti_int, fz_nil, fz_cons, fz_int, nn, ite_ov, Int.toNat_natCast, h1, h6, h8, hlen, hE, hsh, hfz, h30, h26, r1, hFx, hFs, hv7, hap', hh, rset_rset, Nat.zero_lt_succ]
          refine next _ _ _ _ hs ?_ ?_ ?_ ?_ ?_ ?_
          all_goals simp (config := { maxSteps := 10000000 }) (disch := omega) only [↓get_setS, ↓get_setN, rget_rset, List.getElem?_cons_zero, List.getElem?_cons_succ, Nat.reduceEqDiff, ↓reduceIte, Nat.succ_ne_self, h1, h6]
      · clear c2
        by_cases z2 : n.sh = 2
        · rw [decide_eq_true z2] at hap' hs
          simp (config := { maxSteps := 10000000 }) (disch := omega) only [↓G_seq, ↓G_skip, ↓G_blk, ↓G_region, ↓G_block, ↓G_cond, ↓G_ops_nil, ↓G_op, Gv_some, ↓G_gop, Gw_tt, Gw_ff, Gw_tf, Gc_true, dec_t, dec_f, killAll, ↓get_setS, ↓get_setN, evalOp, ev, evs, rget_rset, b_add, b_eql, b_neq, b_lss, wrap_i64, one, Option.map_some, Option.bind_some, asB, callV, V.shift, V.shifts, List.append_nil, List.nil_append, List.cons_append, List.all_cons, List.all_nil, Bool.and_true, Bool.true_and, Bool.and_self, List.getElem?_cons_zero, List.getElem?_cons_succ, Nat.reduceEqDiff, ↓reduceIte, Nat.succ_ne_self, Nat.reduceBNe, Bool.not_true, Bool.not_false, Bool.false_eq_true, Int.reduceAdd, pick3, V.cells, fillV, splice, chop, addOff, loadV, storeV, Ab.rowAt, V.scalar, V.pure, Nat.reduceAdd, Nat.reduceLeDiff, and_true, true_and, and_self, List.length_cons, List.length_nil, List.take_succ_cons, List.take_zero, List.drop_succ_cons, List.drop_zero, Nat.le_refl, List.set_cons_zero, List.getD_cons_zero, List.replicate, List.flatten_cons, List.flatten_nil, Int.cast_ofNat_Int, Nat.zero_add, Nat.add_zero, el_ref, ti_bool, ti_int, fz_nil, fz_cons, fz_int, nn, ite_ov, Int.toNat_natCast, h1, h6, h8, hlen, hE, hsh, hfz, h30, h26, r1, hFx, hFs, hv7, hap', hh, rset_rset, Nat.zero_lt_succ]
          refine next _ _ _ _ hs ?_ ?_ ?_ ?_ ?_ ?_
          all_goals simp (config := { maxSteps := 10000000 }) (disch := omega) only [↓get_setS, ↓get_setN, rget_rset, List.getElem?_cons_zero, List.getElem?_cons_succ, Nat.reduceEqDiff, ↓reduceIte, Nat.succ_ne_self, h1, h6]
        · rw [decide_eq_false z2] at hap' hs
          simp (config := { maxSteps := 10000000 }) (disch := omega) only [↓G_seq, ↓G_skip, ↓G_blk, ↓G_region, ↓G_block, ↓G_cond, ↓G_ops_nil, ↓G_op, Gv_some, ↓G_gop, Gw_tt, Gw_ff, Gw_tf, Gc_true, dec_t, dec_f, killAll, ↓get_setS, ↓get_setN, evalOp, ev, evs, rget_rset, b_add, b_eql, b_neq, b_lss, wrap_i64, one, Option.map_some, Option.bind_some, asB, callV, V.shift, V.shifts, List.append_nil, List.nil_append, List.cons_append, List.all_cons, List.all_nil, Bool.and_true, Bool.true_and, Bool.and_self, List.getElem?_cons_zero, List.getElem?_cons_succ, Nat.reduceEqDiff, ↓reduceIte, Nat.succ_ne_self, Nat.reduceBNe, Bool.not_true, Bool.not_false, Bool.false_eq_true, Int.reduceAdd, pick3, V.cells, fillV, splice, chop, addOff, loadV, storeV, Ab.rowAt, V.scalar, V.pure, Nat.reduceAdd, Nat.reduceLeDiff, and_true, true_and, and_self, List.length_cons, List.length_nil, List.take_succ_cons, List.take_zero, List.drop_succ_cons, List.drop_zero, Nat.le_refl, List.set_cons_zero, List.getD_cons_zero, List.replicate, List.flatten_cons, List.flatten_nil, Int.cast_ofNat_Int, Nat.zero_add, Nat.add_zero, el_ref, ti_bool, ti_int, fz_nil, fz_cons, fz_int, nn, ite_ov, Int.toNat_natCast, h1, h6, h8, hlen, hE, hsh, hfz, h30, h26, r1, hFx, hFs, hv7, hap', hh, rset_rset, Nat.zero_lt_succ]
          refine next _ _ _ _ hs ?_ ?_ ?_ ?_ ?_ ?_
          all_goals simp (config := { maxSteps := 10000000 }) (disch := omega) only [↓get_setS, ↓get_setN, rget_rset, List.getElem?_cons_zero, List.getElem?_cons_succ, Nat.reduceEqDiff, ↓reduceIte, Nat.succ_ne_self, h1, h6]

theorem c17 {f : Int} {v : V} {l : List Nt} (he : errR f l = 0) (hv : SlV 6 v (E6 l)) :
    call tbl 17 [.i f, v] H = some (.tup [svE 2 (M2 (dispR l l (startR f)).1), .sl .any 1 (I1 (dispR l l (startR f)).2)]) := by
  refine (call_start (show tbl 17 = some a17 from rfl)).trans ?_
  obtain ⟨hf, hl, he'⟩ := errR_ok he
  have h29 := fun H => c29 (H := H) f hf
  have hsl := (dispR_len l l (startR f)).2
  rw [startR_len] at hsl
  have hsl' := startR_len f
  unfold a17
  simp (config := { maxSteps := 10000000 }) (disch := omega) only [↓G_seq, ↓G_region, ↓G_block, ↓G_ops_nil, ↓G_op, Gv_some, killAll, ↓get_setS, evalOp, ev, evs, Ab.get, Option.map_some, Option.bind_some, callV, V.shift, V.shifts, List.append_nil, List.getElem?_cons_zero, List.getElem?_cons_succ, reduceCtorEq, ↓reduceIte, Nat.reduceBNe, rget, rset, Nat.zero_add, ti_own_t, fz_nil, fz_cons, fz_int, h29, List.length_map, hsl']
  refine loop17 (l := l) (v := v) (v1 := 1) (by omega) hv he' (by omega) (dispR l l (startR f)).1 (dispR l l (startR f)).2 (fun fr' L' g6 s1 hacc => ?_) l 0 (startR f) [] _ _ rfl (by omega) rfl (startR_len f) rfl rfl ?_ ?_ ?_ ?_ ?_
  · generalize hv7 : Ab.get fr' 7 = v7 at hacc
    have ho := hacc.out (by omega) (M2_pure _)
    obtain ⟨L2, hz, hrow⟩ := Acc.fz hacc (M2_pure _)
    have hrow1 := (hrow 1 (by decide)).trans s1
    have hIl : (I1 (dispR l l (startR f)).2).length = 77 := by rw [I1_len]; exact hsl
    have hIt : List.take 77 (I1 (dispR l l (startR f)).2) = I1 (dispR l l (startR f)).2 := List.take_of_length_le (by omega)
    have hso := (svE_ok 2 (M2 (dispR l l (startR f)).1)).out
    have hpu := I1_pure (dispR l l (startR f)).2
    simp (config := { maxSteps := 10000000 }) (disch := omega) only [finF, ↓G_seq, ↓G_ret, ↓G_region, ↓Gx_blk, ↓G_ops_nil, ↓G_op, Gv_some, killAll, ↓get_setS, evalOp, ev, Option.map_some, Option.bind_some, finish, resVs, resV, outVs, ownsLast, tupOf, List.all_cons, List.all_nil, Bool.and_true, Bool.true_and, Bool.and_self, List.getElem?_cons_zero, List.getElem?_cons_succ, Nat.reduceEqDiff, ↓reduceIte, Nat.succ_ne_self, Bool.false_eq_true, Int.reduceAdd, Nat.reduceAdd, and_true, true_and, and_self, List.drop_zero, Nat.le_refl, Nat.zero_add, ov_any, ov_ref0, fn_some, fz_nil, fz_cons, fz_ref0, g6, s1, hv7, ho, hz, hrow1, hIl, hIt, hso, hpu, Nat.zero_lt_succ]
  all_goals simp (config := { maxSteps := 10000000 }) (disch := omega) only [↓get_setS, Ab.get, List.getElem?_cons_zero, List.getElem?_cons_succ, Nat.reduceEqDiff, ↓reduceIte, Nat.succ_ne_self, rget, Int.cast_ofNat_Int]
  · rfl
  · exact Acc.nil

end Go.Proofs.Ythnjcaioeaepjaa

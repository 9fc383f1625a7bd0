/-
  Check of lists of spans.
-/
import Derived.Test.YtfngllcjikmbkaaS14E
import Derived.Test.YtfngllcjikmbkaaAbRow
namespace Go.Proofs.Ytfngllcjikmbkaa
open Go Go.Ab
set_option linter.unusedVariables false
set_option linter.unnecessarySimpa false
set_option linter.unusedSimpArgs false
set_option maxRecDepth 100000
variable {H : List (List Row)}

theorem rset_rset (L : List Row) (i : Nat) (a b : Row) : rset (rset L i a) i b = rset L i b := by
  induction L generalizing i with
  | nil =>
    induction i with
    | zero => rfl
    | succ i ih => simp [rset, ih]
  | cons x l ih => cases i <;> simp [rset, ih]

def prS (s : Sp) : Int := properR s.k s.m1 s.a1 s.s1 s.v1 s.m2 s.a2 s.s2 s.v2
def chk (l : List Sp) : List Sp → Nat → Int × Int
  | [], _ => (-1, 0)
  | s :: t, i => if prS s ≠ 0 then (i, prS s) else if (l.take i).any (fun a => conflictB a s) = true then (i, 26) else chk l t (i + 1)

theorem sub_take (l : List Sp) (i : Nat) (h : i ≤ l.length) : subV 9 (.sl .any 9 (E9 l)) none (some (.i (i : Nat))) none = some (.sl .any 9 (E9 (l.take i))) := by
  have : (i : Int) ≤ ((E9 l).length : Nat) := by rw [E9_len]; omega
  simp [subV, bounds, this, E9]
  have h2 : i ≤ l.length := h
  simp [h2]

theorem loop20 {k : List KI} {l : List Sp} (hl : l.length ≤ 4096)
    (hx : ∀ fr' L', Gx tbl H [.tmp 2, .tmp 3] 0 k fr' L' = some (.tup [.i (-1), .i 0])) :
    ∀ (t : List Sp) (i : Nat) (fr : List V) (L : List Row), l.drop i = t → i ≤ l.length → Ab.get fr 0 = .sl .any 9 (E9 l) → Ab.get fr 10 = .sl .any 9 (E9 l) → Ab.get fr 11 = .i (l.length : Nat) → Ab.get fr 12 = .i (i : Nat) →
    G tbl H [.tmp 2, .tmp 3] (.code (.loop ( (.seq ( .region [] [ ⟨some 13, .bin .lss (.t 12) (.t 11), none⟩]) ( (.seq ( (.cond (.t 13) ( .skip) ( .exit 0))) ( (.seq ( (.block 1 ( (.seq ( .region [] [ ⟨some 14, .mv (.t 12), none⟩, ⟨some 15, .elemAddr 9 (.t 10) (.t 12), none⟩, ⟨some 16, .load true 9 (.t 15), none⟩, ⟨some 5, .alloc 1 [(.int .i64 0), (.int .i64 0), (.int .i64 0), (.int .i64 0), (.int .i64 0), (.int .i64 0), (.int .i64 0), (.int .i64 0), (.int .i64 0)], none⟩, ⟨some 4, .mv (.t 14), none⟩, ⟨none, .store 9 (.t 5) (.t 16), none⟩]) ( (.seq ( (.seq ( .region [] [ ⟨some 17, .load true 9 (.t 5), none⟩, ⟨some 18, .call 0 (.c (.fn 12 [])) [(.t 17)], none⟩, ⟨some 6, .mv (.t 18), none⟩]) ( (.seq ( .region [] [ ⟨some 19, .mv (.t 6), none⟩, ⟨some 20, .bin .neq (.t 19) (.c (.int .i64 0)), none⟩]) ( (.cond (.t 20) ( (.seq ( .region [] [ ⟨some 21, .mv (.t 4), none⟩, ⟨some 22, .mv (.t 6), none⟩, ⟨some 2, .mv (.t 21), none⟩, ⟨some 3, .mv (.t 22), none⟩]) ( .ret))) ( .skip))))))) ( (.seq ( .region [] [ ⟨some 23, .mv (.t 0), none⟩, ⟨some 24, .mv (.t 4), none⟩, ⟨some 25, .sub 9 (.t 23) none (some (.t 24)) none, none⟩, ⟨some 26, .mkfn 48 [(.t 5)], none⟩, ⟨some 27, .call 0 (.c (.fn 47 [])) [(.t 25), (.t 26)], none⟩]) ( (.cond (.t 27) ( (.seq ( .region [] [ ⟨some 28, .mv (.t 4), none⟩, ⟨some 2, .mv (.t 28), none⟩, ⟨some 3, .mv (.c (.int .i64 26)), none⟩]) ( .ret))) ( .skip))))))))))) ( .region [] [ ⟨some 29, .bin .add (.t 12) (.c (.int .i64 1)), none⟩, ⟨some 12, .mv (.t 29), none⟩])))))))) :: k) fr L = some (.tup [.i (chk l t i).1, .i (chk l t i).2]) := by
  intro t
  induction t with
  | nil =>
    intro i fr L ht hi h0 h10 h11 h12
    have : l.length ≤ i := by
      rcases Nat.lt_or_ge i l.length with h2 | h2
      · rw [List.drop_eq_getElem_cons h2] at ht
        cases ht
      · exact h2
    refine G_loop.trans ?_
    simp (config := { maxSteps := 10000000 }) (disch := omega) only [↓G_seq, ↓G_exit, ↓G_region, ↓G_cond, ↓Gx_code, ↓G_ops_nil, ↓G_op, Gv_some, Gc_false, dec_f, killAll, ↓get_setS, evalOp, ev, b_lss, one, Option.map_some, List.getElem?_cons_zero, List.getElem?_cons_succ, ↓reduceIte, Int.reduceNeg, h11, h12, hx, chk]
  | cons s t ih =>
    intro i fr L ht hi h0 h10 h11 h12
    obtain ⟨e1, e2, e3⟩ := drop_cons ht
    have hE := E9_get l i s e1
    have hsub := sub_take l i hi
    have h12' : ∀ H, call tbl 12 [.agg [.i s.k, .i s.m1, .i s.a1, .i s.s1, .i s.v1, .i s.m2, .i s.a2, .i s.s2, .i s.v2]] H = some (.i (prS s)) := fun H => c12 _ _ _ _ _ _ _ _ _
    have h47 : ∀ ver, call tbl 47 [.sl .any 9 (E9 (l.take i)), .fn 48 [.ptr 1 1 (ver + 1) 0 0]] (rset L 1 ⟨ver + 1, 9, [[.i s.k, .i s.m1, .i s.a1, .i s.s1, .i s.v1, .i s.m2, .i s.a2, .i s.s2, .i s.v2]]⟩ :: H) = some (.bool ((l.take i).any fun a => conflictB a s)) := fun ver => c47 (H := _ :: H) (l.take i) s 0 (ver + 1) (by simp; omega) (by omega) (by simp [rget_rset])
    refine G_loop.trans ?_
    unfold chk
    by_cases hp : prS s = 0
    case neg =>
      rw [if_pos hp]
      simp (config := { maxSteps := 10000000 }) (disch := omega) only [fin2, ↓G_seq, ↓G_skip, ↓G_ret, ↓G_region, ↓G_block, ↓G_cond, ↓G_ops_nil, ↓G_op, Gv_some, Gc_true, dec_t, dec_f, killAll, ↓get_setS, ↓get_setN, evalOp, ev, evs, rget_rset, b_neq, b_lss, one, Option.map_some, Option.bind_some, finish, resVs, resV, outVs, outV, ownsLast, tupOf, callV, takeIn, V.shift, V.shifts, List.append_nil, List.nil_append, List.cons_append, List.all_cons, List.all_nil, Bool.and_self, List.getElem?_cons_zero, List.getElem?_cons_succ, Nat.reduceEqDiff, reduceCtorEq, ↓reduceIte, Nat.succ_ne_self, Bool.not_false, bne_self_eq_false, Int.reduceAdd, ne_eq, not_false_eq_true, elemV, pick3, V.cells, splice, loadV, storeV, Ab.rowAt, V.scalar, Nat.reduceAdd, and_self, List.length_cons, List.length_nil, List.take_succ_cons, List.take_zero, List.drop_succ_cons, List.drop_zero, Nat.le_refl, List.set_cons_zero, List.getD_cons_zero, Nat.zero_add, nn, Int.toNat_natCast, h10, h11, h12, hE, h12', Nat.zero_lt_succ]
      done
    rw [if_neg (fun z => z hp)]
    cases hc : (l.take i).any fun a => conflictB a s
    · simp only [hc] at h47
      simp (config := { maxSteps := 10000000 }) (disch := omega) only [↓G_seq, ↓G_skip, ↓G_blk, ↓G_region, ↓G_block, ↓G_cond, ↓G_ops_nil, ↓G_op, Gv_some, Gc_true, Gc_false, dec_t, killAll, ↓get_setS, ↓get_setN, evalOp, ev, evs, rget_rset, b_add, b_neq, b_lss, wrap_i64, one, Option.map_some, Option.bind_some, Option.map_none, callV, takeIn, V.shift, V.shifts, List.append_nil, List.nil_append, List.cons_append, List.all_cons, List.all_nil, Bool.and_self, List.getElem?_cons_zero, List.getElem?_cons_succ, Nat.reduceEqDiff, reduceCtorEq, ↓reduceIte, Nat.succ_ne_self, decide_true, Bool.not_true, bne_self_eq_false, Bool.false_eq_true, Int.reduceAdd, ne_eq, not_false_eq_true, elemV, pick3, V.cells, splice, loadV, storeV, Ab.rowAt, V.scalar, Nat.reduceAdd, and_self, List.length_cons, List.length_nil, List.take_succ_cons, List.take_zero, List.drop_succ_cons, List.drop_zero, Nat.le_refl, List.set_cons_zero, List.getD_cons_zero, Nat.zero_add, nn, Int.toNat_natCast, h0, h10, h11, h12, hE, h12', hp, Nat.zero_lt_succ, hsub, rset_rset, h47]
      refine ih (i + 1) _ _ e2 (by omega) ?_ ?_ ?_ ?_
      · simp (config := { maxSteps := 10000000 }) (disch := omega) only [↓get_setS, ↓get_setN, List.getElem?_cons_zero, List.getElem?_cons_succ, reduceCtorEq, ↓reduceIte, h0]
      · simp (config := { maxSteps := 10000000 }) (disch := omega) only [↓get_setS, ↓get_setN, List.getElem?_cons_zero, List.getElem?_cons_succ, Nat.reduceEqDiff, ↓reduceIte, h10]
      · simp (config := { maxSteps := 10000000 }) (disch := omega) only [↓get_setS, ↓get_setN, List.getElem?_cons_zero, List.getElem?_cons_succ, Nat.reduceEqDiff, ↓reduceIte, Nat.succ_ne_self, h11]
      · simp (config := { maxSteps := 10000000 }) (disch := omega) only [↓get_setS, List.getElem?_cons_zero, List.getElem?_cons_succ, ↓reduceIte]
        congr 1
    · simp only [hc] at h47
      simp (config := { maxSteps := 10000000 }) (disch := omega) only [fin2, ↓G_seq, ↓G_skip, ↓G_ret, ↓G_region, ↓G_block, ↓G_cond, ↓G_ops_nil, ↓G_op, Gv_some, Gc_true, Gc_false, dec_t, killAll, ↓get_setS, ↓get_setN, evalOp, ev, evs, rget_rset, b_neq, b_lss, one, Option.map_some, Option.bind_some, Option.map_none, finish, resVs, resV, outVs, outV, ownsLast, tupOf, callV, takeIn, V.shift, V.shifts, List.append_nil, List.nil_append, List.cons_append, List.all_cons, List.all_nil, Bool.and_self, List.getElem?_cons_zero, List.getElem?_cons_succ, Nat.reduceEqDiff, reduceCtorEq, ↓reduceIte, Nat.succ_ne_self, decide_true, Bool.not_true, bne_self_eq_false, Int.reduceAdd, ne_eq, not_false_eq_true, elemV, pick3, V.cells, splice, loadV, storeV, Ab.rowAt, V.scalar, Nat.reduceAdd, and_self, List.length_cons, List.length_nil, List.take_succ_cons, List.take_zero, List.drop_succ_cons, List.drop_zero, Nat.le_refl, List.set_cons_zero, List.getD_cons_zero, Nat.zero_add, nn, Int.toNat_natCast, h0, h10, h11, h12, hE, h12', hp, Nat.zero_lt_succ, hsub, rset_rset, h47]
      done

theorem c20 (l : List Sp) (hl : l.length ≤ 4096) : call tbl 20 [.sl .any 9 (E9 l)] H = some (.tup [.i (chk l l 0).1, .i (chk l l 0).2]) := by
  refine (call_start (show tbl 20 = some a20 from rfl)).trans ?_
  have hlen := E9_len l
  unfold a20
  simp (config := { maxSteps := 10000000 }) (disch := omega) only [↓G_seq, ↓G_skip, ↓G_region, ↓G_block, ↓G_cond, ↓G_ops_nil, ↓G_op, Gv_some, Gc_false, dec_f, killAll, ↓get_setS, evalOp, ev, Ab.get, b_gtr, one, Option.map_some, List.getElem?_cons_zero, List.getElem?_cons_succ, reduceCtorEq, ↓reduceIte, Int.reduceNeg, lenV, hlen]
  refine loop20 hl (fun fr' L' => ?_) l 0 _ _ rfl (by omega) ?_ ?_ ?_ ?_
  all_goals simp (config := { maxSteps := 10000000 }) (disch := omega) only [fin2, ↓G_seq, ↓G_ret, ↓G_region, ↓Gx_blk, ↓G_ops_nil, ↓G_op, Gv_some, killAll, ↓get_setS, evalOp, ev, Ab.get, Option.map_some, Option.bind_some, finish, resVs, resV, outVs, outV, ownsLast, tupOf, List.all_cons, List.all_nil, Bool.and_self, List.getElem?_cons_zero, List.getElem?_cons_succ, Nat.reduceEqDiff, reduceCtorEq, ↓reduceIte, Nat.succ_ne_self, Int.reduceNeg, and_self, Int.cast_ofNat_Int]
theorem c20n : call tbl 20 [.nilsl] H = some (.tup [.i (-1), .i 0]) := call_of 20 (by kernel_rfl)

theorem inner22 {k : List KI} {l : List Sp} {s : Sp} {i : Nat} {L : List Row} (hl : l.length ≤ 4096) (hs : l[i]? = some s) :
    ∀ (t : List Sp) (j : Nat) (fr : List V), (l.take i).drop j = t → j ≤ i → Ab.get fr 0 = .sl .any 9 (E9 l) → Ab.get fr 4 = .i (i : Nat) → Ab.get fr 6 = .i (j : Nat) → ∀ r : Option V,
    (t.any (fun a => conflictB a s) = true → r = some (.tup [.i (i : Nat), .i 26])) →
    (t.any (fun a => conflictB a s) = false → ∀ fr', Ab.get fr' 0 = .sl .any 9 (E9 l) → Ab.get fr' 4 = .i (i : Nat) → Gx tbl H [.tmp 2, .tmp 3] 2 k fr' L = r) →
    G tbl H [.tmp 2, .tmp 3] (.code (.loop ( (.seq ( (.seq ( .region [] [ ⟨some 25, .mv (.t 6), none⟩, ⟨some 26, .mv (.t 4), none⟩, ⟨some 27, .bin .lss (.t 25) (.t 26), none⟩]) ( (.cond (.t 27) ( .skip) ( .exit 2))))) ( (.seq ( (.block 3 ( (.seq ( .region [] [ ⟨some 30, .mv (.t 0), none⟩, ⟨some 31, .mv (.t 4), none⟩, ⟨some 32, .elemAddr 9 (.t 30) (.t 31), none⟩, ⟨some 33, .load true 9 (.t 32), none⟩, ⟨some 34, .mv (.t 0), none⟩, ⟨some 35, .mv (.t 6), none⟩, ⟨some 36, .elemAddr 9 (.t 34) (.t 35), none⟩, ⟨some 37, .load true 9 (.t 36), none⟩, ⟨some 38, .call 0 (.c (.fn 18 [])) [(.t 33), (.t 37)], none⟩]) ( (.cond (.t 38) ( (.seq ( .region [] [ ⟨some 39, .mv (.t 4), none⟩, ⟨some 2, .mv (.t 39), none⟩, ⟨some 3, .mv (.c (.int .i64 26)), none⟩]) ( .ret))) ( .skip))))))) ( .region [] [ ⟨some 28, .mv (.t 6), none⟩, ⟨some 29, .bin .add (.t 28) (.c (.int .i64 1)), none⟩, ⟨some 6, .mv (.t 29), none⟩])))))) :: k) fr L = r := by
  have hi : i < l.length := by
    rcases Nat.lt_or_ge i l.length with h2 | h2
    · exact h2
    · rw [List.getElem?_eq_none h2] at hs
      cases hs
  intro t
  induction t with
  | nil =>
    intro j fr ht hj h0 h4 h6 r hr hr'
    have : i ≤ j := by
      rcases Nat.lt_or_ge j i with h2 | h2
      · rw [List.drop_eq_getElem_cons (by simp; omega)] at ht
        cases ht
      · exact h2
    refine G_loop.trans ?_
    simp (config := { maxSteps := 10000000 }) (disch := omega) only [↓G_seq, ↓G_exit, ↓G_region, ↓G_cond, ↓Gx_code, ↓G_ops_nil, ↓G_op, Gv_some, Gc_false, dec_f, killAll, ↓get_setS, evalOp, ev, b_lss, one, Option.map_some, List.getElem?_cons_zero, List.getElem?_cons_succ, Nat.reduceEqDiff, ↓reduceIte, Nat.succ_ne_self, h4, h6]
    refine hr' rfl _ ?_ ?_
    all_goals simp (config := { maxSteps := 10000000 }) (disch := omega) only [↓get_setS, List.getElem?_cons_zero, List.getElem?_cons_succ, Nat.reduceEqDiff, reduceCtorEq, ↓reduceIte, h0, h4]
  | cons a t ih =>
    intro j fr ht hj h0 h4 h6 r hr hr'
    obtain ⟨e1, e2, e3⟩ := drop_cons ht
    simp only [List.length_take] at e3
    have e1' : l[j]? = some a := by
      rw [List.getElem?_take] at e1
      split at e1
      · exact e1
      · cases e1
    have hE := E9_get l j a e1'
    have hE' := E9_get l i s hs
    have h18 : ∀ H, call tbl 18 [.agg [.i s.k, .i s.m1, .i s.a1, .i s.s1, .i s.v1, .i s.m2, .i s.a2, .i s.s2, .i s.v2], .agg [.i a.k, .i a.m1, .i a.a1, .i a.s1, .i a.v1, .i a.m2, .i a.a2, .i a.s2, .i a.v2]] H = some (.bool (conflictB a s)) := fun H => (c18 s a).trans (by rw [conflict_symm])
    refine G_loop.trans ?_
    cases hc : conflictB a s
    · rw [List.any_cons, hc, Bool.false_or] at hr hr'
      simp only [hc] at h18
      simp (config := { maxSteps := 10000000 }) (disch := omega) only [↓G_seq, ↓G_skip, ↓G_blk, ↓G_region, ↓G_block, ↓G_cond, ↓G_ops_nil, ↓G_op, Gv_some, Gc_true, Gc_false, dec_t, killAll, ↓get_setS, evalOp, ev, evs, b_add, b_lss, wrap_i64, one, Option.map_some, callV, takeIn, V.shift, V.shifts, List.append_nil, Bool.and_self, List.getElem?_cons_zero, List.getElem?_cons_succ, Nat.reduceEqDiff, reduceCtorEq, ↓reduceIte, Nat.succ_ne_self, bne_self_eq_false, Int.reduceAdd, ne_eq, not_false_eq_true, elemV, pick3, loadV, Nat.reduceAdd, and_self, List.length_cons, List.length_nil, List.take_succ_cons, List.take_zero, List.drop_zero, Nat.le_refl, Nat.zero_add, nn, Int.toNat_natCast, h0, h4, h6, hE, hE', h18]
      refine ih (j + 1) _ e2 (by omega) ?_ ?_ ?_ r hr hr'
      · simp (config := { maxSteps := 10000000 }) (disch := omega) only [↓get_setS, List.getElem?_cons_zero, List.getElem?_cons_succ, reduceCtorEq, ↓reduceIte, h0]
      · simp (config := { maxSteps := 10000000 }) (disch := omega) only [↓get_setS, List.getElem?_cons_zero, List.getElem?_cons_succ, Nat.reduceEqDiff, ↓reduceIte, h4]
      · simp (config := { maxSteps := 10000000 }) (disch := omega) only [↓get_setS, List.getElem?_cons_zero, List.getElem?_cons_succ, ↓reduceIte]
        congr 1
    · rw [List.any_cons, hc, Bool.true_or] at hr
      simp only [hc] at h18
      rw [hr rfl]
      simp (config := { maxSteps := 10000000 }) (disch := omega) only [fin2, ↓G_seq, ↓G_skip, ↓G_ret, ↓G_region, ↓G_block, ↓G_cond, ↓G_ops_nil, ↓G_op, Gv_some, Gc_true, dec_t, killAll, ↓get_setS, evalOp, ev, evs, b_lss, one, Option.map_some, Option.bind_some, finish, resVs, resV, outVs, outV, ownsLast, tupOf, callV, takeIn, V.shift, V.shifts, List.append_nil, List.all_cons, List.all_nil, Bool.and_self, List.getElem?_cons_zero, List.getElem?_cons_succ, Nat.reduceEqDiff, reduceCtorEq, ↓reduceIte, Nat.succ_ne_self, bne_self_eq_false, Int.reduceAdd, ne_eq, not_false_eq_true, elemV, pick3, loadV, Nat.reduceAdd, and_self, List.length_cons, List.length_nil, List.take_succ_cons, List.take_zero, List.drop_zero, Nat.le_refl, Nat.zero_add, nn, Int.toNat_natCast, h0, h4, h6, hE, hE', h18]

theorem loop22 {k : List KI} {l : List Sp} (hl : l.length ≤ 4096)
    (hx : ∀ fr' L', Gx tbl H [.tmp 2, .tmp 3] 0 k fr' L' = some (.tup [.i (-1), .i 0])) :
    ∀ (t : List Sp) (i : Nat) (fr : List V) (L : List Row), l.drop i = t → i ≤ l.length → Ab.get fr 0 = .sl .any 9 (E9 l) → Ab.get fr 4 = .i (i : Nat) →
    G tbl H [.tmp 2, .tmp 3] (.code (.loop ( (.seq ( (.seq ( .region [] [ ⟨some 10, .mv (.t 4), none⟩, ⟨some 11, .mv (.t 0), none⟩, ⟨some 12, .len (.t 11), none⟩, ⟨some 13, .bin .lss (.t 10) (.t 12), none⟩]) ( (.cond (.t 13) ( .skip) ( .exit 0))))) ( (.seq ( (.block 1 ( (.seq ( (.seq ( .region [] [ ⟨some 16, .mv (.t 0), none⟩, ⟨some 17, .mv (.t 4), none⟩, ⟨some 18, .elemAddr 9 (.t 16) (.t 17), none⟩, ⟨some 19, .load true 9 (.t 18), none⟩, ⟨some 20, .call 0 (.c (.fn 14 [])) [(.t 19)], none⟩, ⟨some 5, .mv (.t 20), none⟩]) ( (.seq ( .region [] [ ⟨some 21, .mv (.t 5), none⟩, ⟨some 22, .bin .neq (.t 21) (.c (.int .i64 0)), none⟩]) ( (.cond (.t 22) ( (.seq ( .region [] [ ⟨some 23, .mv (.t 4), none⟩, ⟨some 24, .mv (.t 5), none⟩, ⟨some 2, .mv (.t 23), none⟩, ⟨some 3, .mv (.t 24), none⟩]) ( .ret))) ( .skip))))))) ( (.seq ( .region [] [ ⟨some 6, .mv (.c (.int .i64 0)), none⟩]) ( (.block 2 ( (.loop ( (.seq ( (.seq ( .region [] [ ⟨some 25, .mv (.t 6), none⟩, ⟨some 26, .mv (.t 4), none⟩, ⟨some 27, .bin .lss (.t 25) (.t 26), none⟩]) ( (.cond (.t 27) ( .skip) ( .exit 2))))) ( (.seq ( (.block 3 ( (.seq ( .region [] [ ⟨some 30, .mv (.t 0), none⟩, ⟨some 31, .mv (.t 4), none⟩, ⟨some 32, .elemAddr 9 (.t 30) (.t 31), none⟩, ⟨some 33, .load true 9 (.t 32), none⟩, ⟨some 34, .mv (.t 0), none⟩, ⟨some 35, .mv (.t 6), none⟩, ⟨some 36, .elemAddr 9 (.t 34) (.t 35), none⟩, ⟨some 37, .load true 9 (.t 36), none⟩, ⟨some 38, .call 0 (.c (.fn 18 [])) [(.t 33), (.t 37)], none⟩]) ( (.cond (.t 38) ( (.seq ( .region [] [ ⟨some 39, .mv (.t 4), none⟩, ⟨some 2, .mv (.t 39), none⟩, ⟨some 3, .mv (.c (.int .i64 26)), none⟩]) ( .ret))) ( .skip))))))) ( .region [] [ ⟨some 28, .mv (.t 6), none⟩, ⟨some 29, .bin .add (.t 28) (.c (.int .i64 1)), none⟩, ⟨some 6, .mv (.t 29), none⟩]))))))))))))))) ( .region [] [ ⟨some 14, .mv (.t 4), none⟩, ⟨some 15, .bin .add (.t 14) (.c (.int .i64 1)), none⟩, ⟨some 4, .mv (.t 15), none⟩])))))) :: k) fr L = some (.tup [.i (chk l t i).1, .i (chk l t i).2]) := by
  intro t
  have hlen := E9_len l
  induction t with
  | nil =>
    intro i fr L ht hi h0 h4
    have : l.length ≤ i := by
      rcases Nat.lt_or_ge i l.length with h2 | h2
      · rw [List.drop_eq_getElem_cons h2] at ht
        cases ht
      · exact h2
    refine G_loop.trans ?_
    simp (config := { maxSteps := 10000000 }) (disch := omega) only [↓G_seq, ↓G_exit, ↓G_region, ↓G_cond, ↓Gx_code, ↓G_ops_nil, ↓G_op, Gv_some, Gc_false, dec_f, killAll, ↓get_setS, evalOp, ev, b_lss, one, Option.map_some, List.getElem?_cons_zero, List.getElem?_cons_succ, Nat.reduceEqDiff, reduceCtorEq, ↓reduceIte, Nat.succ_ne_self, Int.reduceNeg, lenV, h0, h4, hlen, hx, chk]
  | cons s t ih =>
    intro i fr L ht hi h0 h4
    obtain ⟨e1, e2, e3⟩ := drop_cons ht
    have hE := E9_get l i s e1
    have h14 : ∀ H, call tbl 14 [.agg [.i s.k, .i s.m1, .i s.a1, .i s.s1, .i s.v1, .i s.m2, .i s.a2, .i s.s2, .i s.v2]] H = some (.i (prS s)) := fun H => c14 _ _ _ _ _ _ _ _ _
    refine G_loop.trans ?_
    unfold chk
    by_cases hp : prS s = 0
    case neg =>
      rw [if_pos hp]
      simp (config := { maxSteps := 10000000 }) (disch := omega) only [fin2, ↓G_seq, ↓G_skip, ↓G_ret, ↓G_region, ↓G_block, ↓G_cond, ↓G_ops_nil, ↓G_op, Gv_some, Gc_true, dec_t, dec_f, killAll, ↓get_setS, evalOp, ev, evs, b_neq, b_lss, one, Option.map_some, Option.bind_some, finish, resVs, resV, outVs, outV, ownsLast, tupOf, callV, takeIn, V.shift, V.shifts, List.append_nil, List.all_cons, List.all_nil, Bool.and_self, List.getElem?_cons_zero, List.getElem?_cons_succ, Nat.reduceEqDiff, reduceCtorEq, ↓reduceIte, Nat.succ_ne_self, Bool.not_false, bne_self_eq_false, Int.reduceAdd, ne_eq, not_false_eq_true, elemV, pick3, loadV, lenV, Nat.reduceAdd, and_self, List.length_cons, List.length_nil, List.take_succ_cons, List.take_zero, List.drop_zero, Nat.le_refl, Nat.zero_add, nn, Int.toNat_natCast, h0, h4, hlen, hE, h14]
      done
    rw [if_neg (fun z => z hp)]
    simp (config := { maxSteps := 10000000 }) (disch := omega) only [↓G_seq, ↓G_skip, ↓G_region, ↓G_block, ↓G_cond, ↓G_ops_nil, ↓G_op, Gv_some, Gc_true, Gc_false, dec_t, killAll, ↓get_setS, evalOp, ev, evs, b_neq, b_lss, one, Option.map_some, callV, takeIn, V.shift, V.shifts, List.append_nil, Bool.and_self, List.getElem?_cons_zero, List.getElem?_cons_succ, Nat.reduceEqDiff, reduceCtorEq, ↓reduceIte, Nat.succ_ne_self, decide_true, Bool.not_true, bne_self_eq_false, Int.reduceAdd, ne_eq, not_false_eq_true, elemV, pick3, loadV, lenV, Nat.reduceAdd, and_self, List.length_cons, List.length_nil, List.take_succ_cons, List.take_zero, List.drop_zero, Nat.le_refl, Nat.zero_add, nn, Int.toNat_natCast, h0, h4, hlen, hE, h14, hp]
    refine inner22 (l := l) (s := s) (i := i) hl e1 (l.take i) 0 _ rfl (by omega) ?_ ?_ ?_ _ ?_ ?_
    · simp (config := { maxSteps := 10000000 }) (disch := omega) only [↓get_setS, List.getElem?_cons_zero, List.getElem?_cons_succ, reduceCtorEq, ↓reduceIte, h0]
    · simp (config := { maxSteps := 10000000 }) (disch := omega) only [↓get_setS, List.getElem?_cons_zero, List.getElem?_cons_succ, Nat.reduceEqDiff, ↓reduceIte, Nat.succ_ne_self, h4]
    · simp (config := { maxSteps := 10000000 }) (disch := omega) only [↓get_setS, List.getElem?_cons_zero, List.getElem?_cons_succ, ↓reduceIte, Int.cast_ofNat_Int]
    · intro hc
      rw [if_pos hc]
    · intro hc fr' g0 g4
      rw [if_neg (by rw [hc]; simp)]
      simp (config := { maxSteps := 10000000 }) (disch := omega) only [↓G_blk, ↓G_region, ↓Gx_blk, ↓G_ops_nil, ↓G_op, Gv_some, killAll, ↓get_setS, evalOp, ev, b_add, wrap_i64, one, Option.map_some, List.getElem?_cons_zero, List.getElem?_cons_succ, ↓reduceIte, g4]
      refine ih (i + 1) _ _ e2 (by omega) ?_ ?_
      · simp (config := { maxSteps := 10000000 }) (disch := omega) only [↓get_setS, List.getElem?_cons_zero, List.getElem?_cons_succ, reduceCtorEq, ↓reduceIte, g0]
      · simp (config := { maxSteps := 10000000 }) (disch := omega) only [↓get_setS, List.getElem?_cons_zero, List.getElem?_cons_succ, ↓reduceIte]
        congr 1

theorem c22 (l : List Sp) (hl : l.length ≤ 4096) : call tbl 22 [.sl .any 9 (E9 l)] H = some (.tup [.i (chk l l 0).1, .i (chk l l 0).2]) := by
  refine (call_start (show tbl 22 = some a22 from rfl)).trans ?_
  have hlen := E9_len l
  unfold a22
  simp (config := { maxSteps := 10000000 }) (disch := omega) only [↓G_seq, ↓G_skip, ↓G_region, ↓G_block, ↓G_cond, ↓G_ops_nil, ↓G_op, Gv_some, Gc_false, dec_f, killAll, ↓get_setS, evalOp, ev, Ab.get, b_gtr, one, Option.map_some, List.getElem?_cons_zero, List.getElem?_cons_succ, reduceCtorEq, ↓reduceIte, Int.reduceNeg, lenV, hlen]
  refine loop22 hl (fun fr' L' => ?_) l 0 _ _ rfl (by omega) ?_ ?_
  all_goals simp (config := { maxSteps := 10000000 }) (disch := omega) only [fin2, ↓G_seq, ↓G_ret, ↓G_region, ↓Gx_blk, ↓G_ops_nil, ↓G_op, Gv_some, killAll, ↓get_setS, evalOp, ev, Ab.get, Option.map_some, Option.bind_some, finish, resVs, resV, outVs, outV, ownsLast, tupOf, List.all_cons, List.all_nil, Bool.and_self, List.getElem?_cons_zero, List.getElem?_cons_succ, reduceCtorEq, ↓reduceIte, Nat.succ_ne_self, Int.reduceNeg, and_self, Int.cast_ofNat_Int]
theorem c22n : call tbl 22 [.nilsl] H = some (.tup [.i (-1), .i 0]) := call_of 20 (by kernel_rfl)

theorem l5n : call tbl 5 [.nilsl] H = some (.bool true) := by
  refine (call_start (show tbl 5 = some a5 from rfl)).trans ?_
  unfold a5
  simp (config := { maxSteps := 10000000 }) (disch := omega) only [fin2, ↓G_seq, ↓G_skip, ↓G_ret, ↓G_region, ↓G_cond, ↓G_ops_nil, ↓G_op, Gv_some, ↓G_gop, Gw_tt, Gw_ff, Gc_false, killAll, ↓get_setS, evalOp, ev, evs, Ab.get, b_eql, b_gtr, one, Option.map_some, Option.bind_some, asB, finish, resVs, resV, outVs, outV, ownsLast, tupOf, callV, takeIn, Ab.settle, V.shift, V.shifts, List.append_nil, List.map_cons, List.map_nil, List.all_nil, List.getElem?_cons_zero, List.getElem?_cons_succ, Nat.reduceEqDiff, reduceCtorEq, ↓reduceIte, Nat.succ_ne_self, decide_true, decide_false, Bool.not_true, bne_self_eq_false, Bool.false_eq_true, Int.reduceNeg, Int.reduceLT, lenV, Nat.reduceLT, c11, c21n, c20n, c22n]

theorem l5 (l : List Sp) (hlm : l.length ≤ 9223372036854775807) : call tbl 5 [.sl .any 9 (E9 l)] H = some (.bool true) := by
  refine (call_start (show tbl 5 = some a5 from rfl)).trans ?_
  have hlen := E9_len l
  by_cases hl : 20 < l.length
  · unfold a5
    simp (config := { maxSteps := 10000000 }) (disch := omega) only [fin2, ↓G_seq, ↓G_ret, ↓G_region, ↓G_cond, ↓G_ops_nil, ↓G_op, Gv_some, ↓G_gop, Gw_ff, Gc_true, dec_t, killAll, ↓get_setS, evalOp, ev, evs, Ab.get, b_gtr, one, Option.map_some, Option.bind_some, asB, finish, resVs, resV, outVs, outV, ownsLast, tupOf, callV, takeIn, V.shifts, List.append_nil, List.all_nil, List.getElem?_cons_zero, List.getElem?_cons_succ, Nat.reduceEqDiff, reduceCtorEq, ↓reduceIte, Nat.succ_ne_self, Bool.not_true, bne_self_eq_false, Bool.false_eq_true, lenV, c11, hlen]
    done
  by_cases hz : l = []
  · subst hz
    have h21 : ∀ H, call tbl 21 [.sl .any 9 (E9 [])] H = some .nilsl := fun H => c21 [] (by simp)
    have h22 : ∀ H, call tbl 22 [.sl .any 9 (E9 [])] H = some (.tup [.i (-1), .i 0]) := fun H => c22 [] (by simp)
    unfold a5
    simp (config := { maxSteps := 10000000 }) (disch := omega) only [fin2, ↓G_seq, ↓G_skip, ↓G_ret, ↓G_region, ↓G_cond, ↓G_ops_nil, ↓G_op, Gv_some, ↓G_gop, Gw_tt, Gw_ff, Gc_false, killAll, ↓get_setS, evalOp, ev, evs, Ab.get, b_eql, b_gtr, one, Option.map_some, Option.bind_some, asB, finish, resVs, resV, outVs, outV, ownsLast, tupOf, callV, takeIn, Ab.settle, V.shift, V.shifts, List.append_nil, List.map_cons, List.map_nil, List.all_nil, List.getElem?_cons_zero, List.getElem?_cons_succ, Nat.reduceEqDiff, reduceCtorEq, ↓reduceIte, Nat.succ_ne_self, decide_true, decide_false, Bool.not_true, bne_self_eq_false, Bool.false_eq_true, Int.reduceNeg, Int.reduceLT, lenV, Nat.reduceLT, List.length_nil, Int.cast_ofNat_Int, c11, hlen, h21, c20n, h22]
    done
  · have h21 : ∀ H, call tbl 21 [.sl .any 9 (E9 l)] H = some (.sl .own 9 (E9 l)) := fun H => (c21 l (by omega)).trans (by rw [outAcc, if_neg (fun z => hz (E9_nil.1 z))])
    unfold a5
    simp (config := { maxSteps := 10000000 }) (disch := omega) only [fin2, ↓G_seq, ↓G_skip, ↓G_ret, ↓G_region, ↓G_cond, ↓G_ops_nil, ↓G_op, Gv_some, ↓G_gop, Gw_tt, Gw_ff, Gc_false, dec_f, killAll, ↓get_setS, evalOp, ev, evs, Ab.get, b_eql, b_gtr, one, Option.map_some, Option.bind_some, asB, finish, resVs, resV, outVs, outV, ownsLast, tupOf, callV, takeIn, Ab.settle, V.shift, V.shifts, List.append_nil, List.map_cons, List.map_nil, List.all_nil, List.getElem?_cons_zero, List.getElem?_cons_succ, Nat.reduceEqDiff, reduceCtorEq, ↓reduceIte, Nat.succ_ne_self, decide_true, Bool.not_true, bne_self_eq_false, Bool.false_eq_true, lenV, c11, hlen, h21, c20 l (by omega), c22 l (by omega)]
    done

theorem E9_of (els : List (List V)) (h : ∀ e ∈ els, fitCs [.int .i64, .int .i64, .int .i64, .int .i64, .int .i64, .int .i64, .int .i64, .int .i64, .int .i64] e) : ∃ l, els = E9 l := by
  induction els with
  | nil => exact ⟨[], rfl⟩
  | cons e es ih =>
    obtain ⟨l, rfl⟩ := ih (fun e he => h e (by simp [he]))
    have h0 := h e (by simp)
    obtain ⟨_, _, rfl, ⟨b0, rfl, _⟩, ⟨_, _, rfl, ⟨b1, rfl, _⟩, ⟨_, _, rfl, ⟨b2, rfl, _⟩, ⟨_, _, rfl, ⟨b3, rfl, _⟩, ⟨_, _, rfl, ⟨b4, rfl, _⟩, ⟨_, _, rfl, ⟨b5, rfl, _⟩, ⟨_, _, rfl, ⟨b6, rfl, _⟩, ⟨_, _, rfl, ⟨b7, rfl, _⟩, ⟨_, _, rfl, ⟨b8, rfl, _⟩, rfl⟩⟩⟩⟩⟩⟩⟩⟩⟩ := h0
    exact ⟨⟨b0, b1, b2, b3, b4, b5, b6, b7, b8⟩ :: l, rfl⟩

end Go.Proofs.Ytfngllcjikmbkaa

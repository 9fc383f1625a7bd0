/-
  Lists of spans: the law SpannerChecks as an equation.
-/
import Derived.Test.YtfngllcjikmbkaaS14D
namespace Go.Proofs.Ytfngllcjikmbkaa
open Go Go.Ab
set_option linter.unusedVariables false
set_option linter.unnecessarySimpa false
set_option linter.unusedSimpArgs false
set_option maxRecDepth 100000
variable {H : List (List Row)}

def Sp.cells (s : Sp) : List V := [.i s.k, .i s.m1, .i s.a1, .i s.s1, .i s.v1, .i s.m2, .i s.a2, .i s.s2, .i s.v2]
def E9 (l : List Sp) : List (List V) := l.map Sp.cells
theorem E9_get (l : List Sp) (i : Nat) (x : Sp) (h : l[i]? = some x) : (E9 l)[i]? = some [.i x.k, .i x.m1, .i x.a1, .i x.s1, .i x.v1, .i x.m2, .i x.a2, .i x.s2, .i x.v2] := by simp [E9, h, Sp.cells]
theorem E9_len (l : List Sp) : (E9 l).length = l.length := by simp [E9]
theorem E9_pure (l : List Sp) : (E9 l).all (fun e => e.all V.pure) = true := by simp [E9, Sp.cells, V.pure]
theorem E9_nil {l : List Sp} : E9 l = [] ↔ l = [] := by simp [E9]

/-- The copy of a list. -/
theorem loop21 {k : List KI} {rs : List ARes} {r : Option V} {l : List Sp} (hl : l.length ≤ 1000000) :
    ∀ (n i : Nat) (fr : List V) (L : List Row), i + n = l.length → Ab.get fr 0 = .sl .any 9 (E9 l) → Ab.get fr 4 = .i (i : Nat) →
    Acc 1 9 L (Ab.get fr 3) (E9 (l.take i)) → (∀ fr' L', Acc 1 9 L' (Ab.get fr' 3) (E9 l) → Gx tbl H rs 0 k fr' L' = r) →
    G tbl H rs (.code (.loop ( (.seq ( (.seq ( .region [] [ ⟨some 5, .mv (.t 4), none⟩, ⟨some 6, .mv (.t 0), none⟩, ⟨some 7, .len (.t 6), none⟩, ⟨some 8, .bin .lss (.t 5) (.t 7), none⟩]) ( (.cond (.t 8) ( .skip) ( .exit 0))))) ( (.seq ( (.block 1 ( .region [] [ ⟨some 11, .mv (.t 3), none⟩, ⟨some 12, .mv (.t 0), none⟩, ⟨some 13, .mv (.t 4), none⟩, ⟨some 14, .elemAddr 9 (.t 12) (.t 13), none⟩, ⟨some 15, .load true 9 (.t 14), none⟩, ⟨some 16, .call 0 (.c (.fn 13 [])) [(.t 15)], none⟩, ⟨some 17, .lit 9 [(.int .i64 0), (.int .i64 0), (.int .i64 0), (.int .i64 0), (.int .i64 0), (.int .i64 0), (.int .i64 0), (.int .i64 0), (.int .i64 0)] 1 [(0, 9, (.t 16))], none⟩, ⟨some 18, .app 1 9 72 (.t 11) (.t 17), none⟩, ⟨some 3, .mv (.t 18), none⟩]))) ( .region [] [ ⟨some 9, .mv (.t 4), none⟩, ⟨some 10, .bin .add (.t 9) (.c (.int .i64 1)), none⟩, ⟨some 4, .mv (.t 10), none⟩])))))) :: k) fr L = r := by
  intro n
  have hlen := E9_len l
  induction n with
  | zero =>
    intro i fr L hi h0 h4 hacc hr
    refine G_loop.trans ?_
    simp (config := { maxSteps := 10000000 }) (disch := omega) only [↓G_seq, ↓G_exit, ↓G_region, ↓G_cond, ↓Gx_code, ↓G_ops_nil, ↓G_op, Gv_some, Gc_false, dec_f, killAll, ↓get_setS, evalOp, ev, b_lss, one, Option.map_some, List.getElem?_cons_zero, List.getElem?_cons_succ, Nat.reduceEqDiff, reduceCtorEq, ↓reduceIte, Nat.succ_ne_self, lenV, h0, h4, hlen]
    refine hr _ _ ?_
    simp (config := { maxSteps := 10000000 }) (disch := omega) only [↓get_setS, List.getElem?_cons_zero, List.getElem?_cons_succ, Nat.reduceEqDiff, ↓reduceIte]
    rw [List.take_of_length_le (by omega)] at hacc
    exact hacc
  | succ n ih =>
    intro i fr L hi h0 h4 hacc hr
    refine G_loop.trans ?_
    obtain ⟨x, hx⟩ : ∃ x, l[i]? = some x := ⟨_, List.getElem?_eq_getElem (by omega)⟩
    have hE := E9_get l i x hx
    have h13 := fun H => c13 (H := H) x.k x.m1 x.a1 x.s1 x.v1 x.m2 x.a2 x.s2 x.v2
    generalize hv : Ab.get fr 3 = v3 at hacc
    obtain ⟨v', L', hap, hacc', _⟩ := hacc.app (H := H) (bytes := 72) (y := .sl .full 9 [x.cells]) (new := [x.cells]) rfl (by simp) (by omega) (by
      rw [E9_len]
      simp
      omega) (by simp [Sp.cells, V.scalar])
    unfold Sp.cells at hap
    simp (config := { maxSteps := 10000000 }) (disch := omega) only [↓G_seq, ↓G_skip, ↓G_blk, ↓G_region, ↓G_block, ↓G_cond, ↓G_ops_nil, ↓G_op, Gv_some, Gc_true, dec_t, killAll, ↓get_setS, evalOp, ev, evs, b_add, b_lss, wrap_i64, one, Option.map_some, Option.bind_some, callV, takeIn, V.shift, V.shifts, List.append_nil, List.nil_append, List.all_cons, List.all_nil, Bool.true_and, Bool.and_self, List.getElem?_cons_zero, List.getElem?_cons_succ, Nat.reduceEqDiff, reduceCtorEq, ↓reduceIte, Nat.succ_ne_self, bne_self_eq_false, Int.reduceAdd, Int.reduceLT, ne_eq, not_false_eq_true, elemV, pick3, V.cells, fillV, splice, chop, loadV, V.scalar, V.pure, lenV, Nat.reduceAdd, Nat.reduceLT, true_and, and_self, List.length_cons, List.length_nil, List.take_succ_cons, List.take_zero, List.drop_succ_cons, List.drop_zero, Nat.le_refl, List.replicate, List.flatten_cons, List.flatten_nil, Nat.zero_add, nn, Int.toNat_natCast, h0, h4, hlen, hE, h13, hv, hap]
    refine ih (i + 1) _ _ (by omega) ?_ ?_ ?_ hr
    · simp (config := { maxSteps := 10000000 }) (disch := omega) only [↓get_setS, List.getElem?_cons_zero, List.getElem?_cons_succ, reduceCtorEq, ↓reduceIte, h0]
    · simp (config := { maxSteps := 10000000 }) (disch := omega) only [↓get_setS, List.getElem?_cons_zero, List.getElem?_cons_succ, ↓reduceIte]
      congr 1
    · simp (config := { maxSteps := 10000000 }) (disch := omega) only [↓get_setS, List.getElem?_cons_zero, List.getElem?_cons_succ, Nat.reduceEqDiff, ↓reduceIte, Nat.succ_ne_self]
      rw [List.take_add_one, hx]
      simpa [E9] using hacc'

theorem c21 (l : List Sp) (hl : l.length ≤ 1000000) : call tbl 21 [.sl .any 9 (E9 l)] H = some (outAcc 9 (E9 l)) := by
  refine (call_start (show tbl 21 = some a21 from rfl)).trans ?_
  unfold a21
  simp (config := { maxSteps := 10000000 }) (disch := omega) only [↓G_seq, ↓G_region, ↓G_block, ↓G_ops_nil, ↓G_op, Gv_some, killAll, evalOp, ev, List.getElem?_cons_zero, List.getElem?_cons_succ]
  refine loop21 (l := l) hl l.length 0 _ _ (by omega) ?_ ?_ ?_ fun fr' L' hacc => ?_
  · simp (config := { maxSteps := 10000000 }) (disch := omega) only [↓get_setS, Ab.get, List.getElem?_cons_zero, List.getElem?_cons_succ, reduceCtorEq, ↓reduceIte]
  · simp (config := { maxSteps := 10000000 }) (disch := omega) only [↓get_setS, List.getElem?_cons_zero, List.getElem?_cons_succ, ↓reduceIte, Int.cast_ofNat_Int]
  · simp (config := { maxSteps := 10000000 }) (disch := omega) only [↓get_setS, List.getElem?_cons_zero, List.getElem?_cons_succ, ↓reduceIte, Nat.succ_ne_self, List.take_zero]
    exact Acc.nil
  · generalize hv : Ab.get fr' 3 = v at hacc
    have ho := hacc.out (by omega) (E9_pure _)
    simp (config := { maxSteps := 10000000 }) (disch := omega) only [fin2, ↓G_seq, ↓G_ret, ↓G_region, ↓Gx_blk, ↓G_ops_nil, ↓G_op, Gv_some, killAll, ↓get_setS, evalOp, ev, Option.map_some, Option.bind_some, finish, resVs, resV, outVs, ownsLast, tupOf, List.all_nil, List.getElem?_cons_zero, List.getElem?_cons_succ, ↓reduceIte, hv, ↓ho]
theorem c21n : call tbl 21 [.nilsl] H = some .nilsl := call_of 20 (by kernel_rfl)

theorem c48 (a s : Sp) (d ver : Nat) (hv : 0 < ver) (hr : rget (H.getD d []) 1 = ⟨ver, 9, [[.i s.k, .i s.m1, .i s.a1, .i s.s1, .i s.v1, .i s.m2, .i s.a2, .i s.s2, .i s.v2]]⟩) : call tbl 48 [.agg [.i a.k, .i a.m1, .i a.a1, .i a.s1, .i a.v1, .i a.m2, .i a.a2, .i a.s2, .i a.v2], .ptr (d + 1) 1 ver 0 0] H = some (.bool (conflictB a s)) := by
  refine (call_start (show tbl 48 = some a48 from rfl)).trans ?_
  unfold a48
  simp (config := { maxSteps := 10000000 }) (disch := omega) only [fin2, ↓G_seq, ↓G_ret, ↓G_region, ↓G_ops_nil, ↓G_op, Gv_some, killAll, ↓get_setS, evalOp, ev, evs, Ab.get, one, Option.map_some, Option.bind_some, finish, resVs, resV, outVs, outV, ownsLast, tupOf, callV, takeIn, V.shift, V.shifts, List.append_nil, List.all_cons, List.all_nil, Bool.true_and, Bool.and_self, List.getElem?_cons_zero, List.getElem?_cons_succ, Nat.reduceEqDiff, ↓reduceIte, Nat.succ_ne_self, bne_self_eq_false, Int.reduceAdd, Int.reduceLT, pick3, V.cells, loadV, Ab.rowAt, rget, rset, V.scalar, Nat.reduceAdd, Nat.reduceLT, true_and, and_self, List.length_cons, List.length_nil, List.take_succ_cons, List.take_zero, List.drop_zero, Nat.le_refl, List.getD_cons_zero, List.getD_cons_succ, Nat.zero_add, ite_ov, hr, c19]

def ixR (s : Sp) : List Sp → Nat → Int
  | [], _ => -1
  | a :: t, i => if conflictB a s = true then i else ixR s t (i + 1)
theorem ixR_any (s : Sp) : ∀ (t : List Sp) (i : Nat), decide (0 ≤ ixR s t i) = t.any (fun a => conflictB a s)
  | [], i => by simp [ixR]
  | a :: t, i => by
    unfold ixR
    cases h : conflictB a s
    · simp [h, ← ixR_any s t (i + 1)]
    · simp [h]

theorem drop_cons {l t : List Sp} {i : Nat} {a : Sp} (h : l.drop i = a :: t) : l[i]? = some a ∧ l.drop (i + 1) = t ∧ i < l.length := by
  have h1 : i < l.length := by
    rcases Nat.lt_or_ge i l.length with h2 | h2
    · exact h2
    · rw [List.drop_of_length_le h2] at h
      cases h
  have h2 := List.drop_eq_getElem_cons h1
  rw [h] at h2
  injection h2 with h3 h4
  exact ⟨by rw [List.getElem?_eq_getElem h1, h3], h4.symm, h1⟩

theorem loop60 {k : List KI} {l : List Sp} {s : Sp} {d ver : Nat} {L : List Row} (hl : l.length ≤ 1000000) (hv : 0 < ver) (hr : rget (H.getD d []) 1 = ⟨ver, 9, [[.i s.k, .i s.m1, .i s.a1, .i s.s1, .i s.v1, .i s.m2, .i s.a2, .i s.s2, .i s.v2]]⟩)
    (hx : ∀ fr', Gx tbl H [.tmp 4] 0 k fr' L = some (.i (-1))) :
    ∀ (t : List Sp) (i : Nat) (fr : List V), l.drop i = t → i ≤ l.length → Ab.get fr 0 = .sl .any 9 (E9 l) → Ab.get fr 7 = .i (l.length : Nat) → Ab.get fr 8 = .i (i : Nat) → Ab.get fr 1 = .fn 48 [.ptr (d + 1) 1 ver 0 0] →
    G tbl H [.tmp 4] (.code (.loop ( (.seq ( .region [] [ ⟨some 9, .bin .lss (.t 8) (.t 7), none⟩]) ( (.seq ( (.cond (.t 9) ( .skip) ( .exit 0))) ( (.seq ( (.block 1 ( (.seq ( .region [] [ ⟨some 10, .mv (.t 8), none⟩, ⟨some 5, .mv (.t 10), none⟩]) ( (.seq ( .region [] [ ⟨some 11, .mv (.t 1), none⟩, ⟨some 12, .mv (.t 0), none⟩, ⟨some 13, .mv (.t 5), none⟩, ⟨some 14, .elemAddr 9 (.t 12) (.t 13), none⟩, ⟨some 15, .load true 9 (.t 14), none⟩, ⟨some 16, .call 0 (.t 11) [(.t 15)], none⟩]) ( (.cond (.t 16) ( (.seq ( .region [] [ ⟨some 17, .mv (.t 5), none⟩, ⟨some 4, .mv (.t 17), none⟩]) ( .ret))) ( .skip))))))))) ( .region [] [ ⟨some 18, .bin .add (.t 8) (.c (.int .i64 1)), none⟩, ⟨some 8, .mv (.t 18), none⟩])))))))) :: k) fr L = some (.i (ixR s t i)) := by
  intro t
  induction t with
  | nil =>
    intro i fr ht hi h0 h7 h8 h1
    have : l.length ≤ i := by
      rcases Nat.lt_or_ge i l.length with h2 | h2
      · rw [List.drop_eq_getElem_cons h2] at ht
        cases ht
      · exact h2
    refine G_loop.trans ?_
    simp (config := { maxSteps := 10000000 }) (disch := omega) only [↓G_seq, ↓G_exit, ↓G_region, ↓G_cond, ↓Gx_code, ↓G_ops_nil, ↓G_op, Gv_some, Gc_false, dec_f, killAll, ↓get_setS, evalOp, ev, b_lss, one, Option.map_some, List.getElem?_cons_zero, List.getElem?_cons_succ, ↓reduceIte, Int.reduceNeg, h7, h8, hx, ixR]
  | cons a t ih =>
    intro i fr ht hi h0 h7 h8 h1
    obtain ⟨e1, e2, e3⟩ := drop_cons ht
    have hE := E9_get l i a e1
    have h48 : ∀ L, call tbl 48 [.agg [.i a.k, .i a.m1, .i a.a1, .i a.s1, .i a.v1, .i a.m2, .i a.a2, .i a.s2, .i a.v2], .ptr (d + 1 + 1) 1 ver 0 0] (L :: H) = some (.bool (conflictB a s)) := fun L => c48 (H := L :: H) a s (d + 1) ver hv (by simpa using hr)
    refine G_loop.trans ?_
    unfold ixR
    cases hc : conflictB a s
    · rw [hc] at h48
      simp (config := { maxSteps := 10000000 }) (disch := omega) only [↓G_seq, ↓G_skip, ↓G_blk, ↓G_region, ↓G_block, ↓G_cond, ↓G_ops_nil, ↓G_op, Gv_some, Gc_true, Gc_false, dec_t, killAll, ↓get_setS, evalOp, ev, evs, b_add, b_lss, wrap_i64, one, Option.map_some, callV, takeIn, V.shift, V.shifts, List.nil_append, List.cons_append, Bool.and_self, List.getElem?_cons_zero, List.getElem?_cons_succ, Nat.reduceEqDiff, reduceCtorEq, ↓reduceIte, Nat.succ_ne_self, bne_self_eq_false, Bool.false_eq_true, Int.reduceAdd, ne_eq, not_false_eq_true, elemV, pick3, loadV, Nat.reduceAdd, and_self, List.length_cons, List.length_nil, List.take_succ_cons, List.take_zero, List.drop_zero, Nat.le_refl, Nat.zero_add, nn, Int.toNat_natCast, h0, h7, h8, h1, hE, h48]
      refine ih (i + 1) _ e2 (by omega) ?_ ?_ ?_ ?_
      · simp (config := { maxSteps := 10000000 }) (disch := omega) only [↓get_setS, List.getElem?_cons_zero, List.getElem?_cons_succ, reduceCtorEq, ↓reduceIte, h0]
      · simp (config := { maxSteps := 10000000 }) (disch := omega) only [↓get_setS, List.getElem?_cons_zero, List.getElem?_cons_succ, Nat.reduceEqDiff, ↓reduceIte, Nat.succ_ne_self, h7]
      · simp (config := { maxSteps := 10000000 }) (disch := omega) only [↓get_setS, List.getElem?_cons_zero, List.getElem?_cons_succ, ↓reduceIte]
        congr 1
      · simp (config := { maxSteps := 10000000 }) (disch := omega) only [↓get_setS, List.getElem?_cons_zero, List.getElem?_cons_succ, Nat.reduceEqDiff, ↓reduceIte, h1]
    · rw [hc] at h48
      simp (config := { maxSteps := 10000000 }) (disch := omega) only [fin2, ↓G_seq, ↓G_skip, ↓G_ret, ↓G_region, ↓G_block, ↓G_cond, ↓G_ops_nil, ↓G_op, Gv_some, Gc_true, dec_t, killAll, ↓get_setS, evalOp, ev, evs, b_lss, one, Option.map_some, Option.bind_some, finish, resVs, resV, outVs, outV, ownsLast, tupOf, callV, takeIn, V.shift, V.shifts, List.nil_append, List.cons_append, List.all_nil, Bool.and_self, List.getElem?_cons_zero, List.getElem?_cons_succ, Nat.reduceEqDiff, reduceCtorEq, ↓reduceIte, Nat.succ_ne_self, bne_self_eq_false, Int.reduceAdd, ne_eq, not_false_eq_true, elemV, pick3, loadV, Nat.reduceAdd, and_self, List.length_cons, List.length_nil, List.take_succ_cons, List.take_zero, List.drop_zero, Nat.le_refl, Nat.zero_add, nn, Int.toNat_natCast, h0, h7, h8, h1, hE, h48]

theorem c60 (l : List Sp) (s : Sp) (d ver : Nat) (hl : l.length ≤ 1000000) (hv : 0 < ver) (hr : rget (H.getD d []) 1 = ⟨ver, 9, [[.i s.k, .i s.m1, .i s.a1, .i s.s1, .i s.v1, .i s.m2, .i s.a2, .i s.s2, .i s.v2]]⟩) :
    call tbl 60 [.sl .any 9 (E9 l), .fn 48 [.ptr (d + 1) 1 ver 0 0]] H = some (.i (ixR s l 0)) := by
  refine (call_start (show tbl 60 = some a60 from rfl)).trans ?_
  have hlen := E9_len l
  unfold a60
  simp (config := { maxSteps := 10000000 }) (disch := omega) only [↓G_seq, ↓G_region, ↓G_block, ↓G_ops_nil, ↓G_op, Gv_some, killAll, ↓get_setS, evalOp, ev, Ab.get, one, Option.map_some, List.getElem?_cons_zero, List.getElem?_cons_succ, reduceCtorEq, ↓reduceIte, Int.reduceNeg, lenV, hlen]
  refine loop60 hl hv hr (fun fr' => ?_) l 0 _ rfl (by omega) ?_ ?_ ?_ ?_
  all_goals simp (config := { maxSteps := 10000000 }) (disch := omega) only [fin2, ↓G_seq, ↓G_ret, ↓G_region, ↓Gx_blk, ↓G_ops_nil, ↓G_op, Gv_some, killAll, ↓get_setS, evalOp, ev, Ab.get, Option.map_some, Option.bind_some, finish, resVs, resV, outVs, outV, ownsLast, tupOf, List.all_nil, List.getElem?_cons_zero, List.getElem?_cons_succ, Nat.reduceEqDiff, reduceCtorEq, ↓reduceIte, Nat.succ_ne_self, Int.reduceNeg, Int.cast_ofNat_Int]

theorem c47 (l : List Sp) (s : Sp) (d ver : Nat) (hl : l.length ≤ 1000000) (hv : 0 < ver) (hr : rget (H.getD d []) 1 = ⟨ver, 9, [[.i s.k, .i s.m1, .i s.a1, .i s.s1, .i s.v1, .i s.m2, .i s.a2, .i s.s2, .i s.v2]]⟩) :
    call tbl 47 [.sl .any 9 (E9 l), .fn 48 [.ptr (d + 1) 1 ver 0 0]] H = some (.bool (l.any fun a => conflictB a s)) := by
  refine (call_start (show tbl 47 = some a47 from rfl)).trans ?_
  have h60 : ∀ L, call tbl 60 [.sl .any 9 (E9 l), .fn 48 [.ptr (d + 1 + 1) 1 ver 0 0]] (L :: H) = some (.i (ixR s l 0)) := fun L => c60 (H := L :: H) l s (d + 1) ver hl hv (by simpa using hr)
  have hi := ixR_any s l 0
  unfold a47
  by_cases hz : 0 ≤ ixR s l 0
  · rw [← hi]
    simp (config := { maxSteps := 10000000 }) (disch := omega) only [fin2, ↓G_seq, ↓G_ret, ↓G_region, ↓G_ops_nil, ↓G_op, Gv_some, dec_t, killAll, ↓get_setS, evalOp, ev, evs, Ab.get, b_geq, one, Option.map_some, Option.bind_some, finish, resVs, resV, outVs, outV, ownsLast, tupOf, callV, takeIn, V.shift, V.shifts, List.append_nil, List.all_nil, List.getElem?_cons_zero, List.getElem?_cons_succ, Nat.reduceEqDiff, reduceCtorEq, ↓reduceIte, Nat.succ_ne_self, bne_self_eq_false, h60]
  · rw [← hi]
    simp (config := { maxSteps := 10000000 }) (disch := omega) only [fin2, ↓G_seq, ↓G_ret, ↓G_region, ↓G_ops_nil, ↓G_op, Gv_some, dec_f, killAll, ↓get_setS, evalOp, ev, evs, Ab.get, b_geq, one, Option.map_some, Option.bind_some, finish, resVs, resV, outVs, outV, ownsLast, tupOf, callV, takeIn, V.shift, V.shifts, List.append_nil, List.all_nil, List.getElem?_cons_zero, List.getElem?_cons_succ, Nat.reduceEqDiff, reduceCtorEq, ↓reduceIte, Nat.succ_ne_self, bne_self_eq_false, h60]

end Go.Proofs.Ytfngllcjikmbkaa

/-
  Line breaks: measures, their check, the badness of a line.
-/
import Derived.Test.YtdgifbmimfnmlaaFns32
import Derived.Test.YtdgifbmimfnmlaaAbSl
import Derived.Test.YtdgifbmimfnmlaaAbRow
import Derived.Test.YtdgifbmimfnmlaaAbPath
namespace Go.Proofs.Ytdgifbmimfnmlaa
open Go Go.Ab
set_option linter.unusedVariables false
set_option linter.unnecessarySimpa false
set_option linter.unusedSimpArgs false
set_option maxRecDepth 100000
variable {H : List (List Row)}

structure Me where
  p : Int
  m : Int
  n : Int
  o : Int
  b : Int

def Me.cells (s : Me) : List V := [.i s.p, .i s.m, .i s.n, .i s.o, .i s.b]
def E5 (l : List Me) : List (List V) := l.map Me.cells
theorem E5_get (l : List Me) (i : Nat) (s : Me) (h : l[i]? = some s) : (E5 l)[i]? = some [.i s.p, .i s.m, .i s.n, .i s.o, .i s.b] := by simp [E5, h, Me.cells]
theorem E5_len (l : List Me) : (E5 l).length = l.length := by simp [E5]
theorem E5_pure (l : List Me) : (E5 l).all (fun e => e.all V.pure) = true := by simp [E5, Me.cells, V.pure]
theorem E5_sub (l : List Me) (a b : Nat) : ((E5 l).take b).drop a = E5 ((l.take b).drop a) := by simp [E5, List.map_take, List.map_drop]

def I1 (l : List Int) : List (List V) := l.map fun x => [V.i x]
theorem I1_len (l : List Int) : (I1 l).length = l.length := by simp [I1]
theorem I1_pure (l : List Int) : (I1 l).all (fun e => e.all V.pure) = true := by simp [I1, V.pure]
theorem I1_get (l : List Int) (i : Nat) (x : Int) (h : l[i]? = some x) : (I1 l)[i]? = some [.i x] := by simp [I1, h]
theorem I1_app (l : List Int) (x : Int) : I1 l ++ [[.i x]] = I1 (l ++ [x]) := by simp [I1]
theorem I1_sc (l : List Int) : ∀ e ∈ I1 l, e.length = 1 ∧ e.all V.scalar = true := by
  intro e he
  unfold I1 at he
  obtain ⟨x, _, rfl⟩ := List.mem_map.1 he
  exact ⟨rfl, rfl⟩

/-- The widths of a measure are permitted. -/
def inM (s : Me) : Prop := (0 ≤ s.p ∧ s.p ≤ 16777216) ∧ (0 ≤ s.o ∧ s.o ≤ 16777216) ∧ (s.o ≤ s.m ∧ s.m ≤ 16777216) ∧ (s.m ≤ s.n ∧ s.n ≤ 16777216)
instance (s : Me) : Decidable (inM s) := by unfold inM; exact inferInstance
def okM (s : Me) : Int := if ¬ inM s then 2 else if ¬ (0 ≤ s.b ∧ s.b ≤ 3) then 11 else 0
def errS : List Me → Int
  | [] => 0
  | s :: t => if okM s ≠ 0 then okM s else errS t
def errL (l : List Me) : Int := if l.length = 0 then 4 else if 1024 < l.length then 9 else errS l

theorem okM_p {s : Me} (k : ¬ inM s) : okM s = 2 := by unfold okM; rw [if_pos k]
theorem okM_k {s : Me} (k : inM s) (j : ¬ (0 ≤ s.b ∧ s.b ≤ 3)) : okM s = 11 := by unfold okM; rw [if_neg (fun z => z k), if_pos j]
theorem okM_ok {s : Me} (k : inM s) (j : 0 ≤ s.b ∧ s.b ≤ 3) : okM s = 0 := by unfold okM; rw [if_neg (fun z => z k), if_neg (fun z => z j)]
theorem errS_e {e : Int} {s : Me} {t : List Me} (h : okM s = e) (he : e ≠ 0) : errS (s :: t) = e := by
  unfold errS
  rw [h, if_pos he]
theorem errS_0 {s : Me} {t : List Me} (h : okM s = 0) : errS (s :: t) = errS t := by
  conv => lhs; unfold errS
  rw [h, if_neg (by decide)]
theorem okM_0 {s : Me} (h : okM s = 0) : inM s ∧ 0 ≤ s.b ∧ s.b ≤ 3 := by
  unfold okM at h
  split at h
  · cases h
  split at h
  · cases h
  · rename_i h1 h2
    exact ⟨Classical.not_not.1 h1, by omega⟩
theorem errS_mem : ∀ (l : List Me), errS l = 0 → ∀ s ∈ l, inM s ∧ 0 ≤ s.b ∧ s.b ≤ 3
  | [], _, s, hs => by simp at hs
  | x :: t, h, s, hs => by
    unfold errS at h
    split at h
    · contradiction
    · rename_i h1
      rcases List.mem_cons.1 hs with rfl | hs
      · exact okM_0 (Classical.not_not.1 h1)
      · exact errS_mem t h s hs
theorem errL_ok {l : List Me} (h : errL l = 0) : 0 < l.length ∧ l.length ≤ 1024 ∧ errS l = 0 := by
  unfold errL at h
  split at h
  · cases h
  split at h
  · cases h
  · rename_i h1 h2
    exact ⟨by omega, by omega, h⟩
theorem errL_in {l : List Me} (h : errL l = 0) : ∀ s ∈ l, inM s := fun s hs => (errS_mem l (errL_ok h).2.2 s hs).1

/-- Which of the widths is not permitted, the first. -/
theorem badM {s : Me} (h : ¬ inM s) : (s.p < 0 ∨ 16777216 < s.p) ∨ ((0 ≤ s.p ∧ s.p ≤ 16777216) ∧ (s.o < 0 ∨ 16777216 < s.o)) ∨ ((0 ≤ s.p ∧ s.p ≤ 16777216) ∧ (0 ≤ s.o ∧ s.o ≤ 16777216) ∧ (s.m < s.o ∨ 16777216 < s.m)) ∨
    ((0 ≤ s.p ∧ s.p ≤ 16777216) ∧ (0 ≤ s.o ∧ s.o ≤ 16777216) ∧ (s.o ≤ s.m ∧ s.m ≤ 16777216) ∧ (s.n < s.m ∨ 16777216 < s.n)) := by
  unfold inM at h
  omega

theorem c24 (a b c : Int) : call tbl 24 [.i a, .i b, .i c] H = some (.bool (decide (b ≤ a ∧ a ≤ c))) := by
  refine (call_start (show tbl 24 = some a24 from rfl)).trans ?_
  by_cases h1 : b ≤ a
  · by_cases h2 : a ≤ c
    · unfold a24
      simp (config := { maxSteps := 10000000 }) (disch := omega) only [↓G_seq, ↓G_ret, ↓G_region, ↓G_ops_nil, ↓G_op, Gv_some, ↓G_gop, Gw_tt, dec_t, killAll, ↓get_setS, evalOp, ev, Ab.get, b_leq, b_geq, one, Option.map_some, Option.bind_some, asB, finish, resVs, resV, outVs, ownsLast, tupOf, List.all_nil, List.getElem?_cons_zero, List.getElem?_cons_succ, Nat.reduceEqDiff, reduceCtorEq, ↓reduceIte, Nat.succ_ne_self, ov_bool, fn_some]
    · unfold a24
      simp (config := { maxSteps := 10000000 }) (disch := omega) only [↓G_seq, ↓G_ret, ↓G_region, ↓G_ops_nil, ↓G_op, Gv_some, ↓G_gop, Gw_tt, dec_t, dec_f, killAll, ↓get_setS, evalOp, ev, Ab.get, b_leq, b_geq, one, Option.map_some, Option.bind_some, asB, finish, resVs, resV, outVs, ownsLast, tupOf, List.all_nil, List.getElem?_cons_zero, List.getElem?_cons_succ, Nat.reduceEqDiff, reduceCtorEq, ↓reduceIte, Nat.succ_ne_self, ov_bool, fn_some]
  · unfold a24
    simp (config := { maxSteps := 10000000 }) (disch := omega) only [↓G_seq, ↓G_ret, ↓G_region, ↓G_ops_nil, ↓G_op, Gv_some, ↓G_gop, Gw_tf, dec_f, killAll, ↓get_setS, evalOp, ev, Ab.get, b_geq, one, Option.map_some, Option.bind_some, asB, finish, resVs, resV, outVs, ownsLast, tupOf, List.all_nil, List.getElem?_cons_zero, List.getElem?_cons_succ, Nat.reduceEqDiff, reduceCtorEq, ↓reduceIte, Nat.succ_ne_self, Bool.false_eq_true, ov_bool, fn_some]
theorem c25 (a b c : Int) : call tbl 25 [.i a, .i b, .i c] H = some (.bool (decide (b ≤ a ∧ a ≤ c))) := by
  refine (call_start (show tbl 25 = some a25 from rfl)).trans ?_
  by_cases h1 : b ≤ a
  · by_cases h2 : a ≤ c
    · unfold a25
      simp (config := { maxSteps := 10000000 }) (disch := omega) only [↓G_seq, ↓G_ret, ↓G_region, ↓G_ops_nil, ↓G_op, Gv_some, ↓G_gop, Gw_tt, dec_t, killAll, ↓get_setS, evalOp, ev, Ab.get, b_leq, b_geq, one, Option.map_some, Option.bind_some, asB, finish, resVs, resV, outVs, ownsLast, tupOf, List.all_nil, List.getElem?_cons_zero, List.getElem?_cons_succ, Nat.reduceEqDiff, reduceCtorEq, ↓reduceIte, Nat.succ_ne_self, ov_bool, fn_some]
    · unfold a25
      simp (config := { maxSteps := 10000000 }) (disch := omega) only [↓G_seq, ↓G_ret, ↓G_region, ↓G_ops_nil, ↓G_op, Gv_some, ↓G_gop, Gw_tt, dec_t, dec_f, killAll, ↓get_setS, evalOp, ev, Ab.get, b_leq, b_geq, one, Option.map_some, Option.bind_some, asB, finish, resVs, resV, outVs, ownsLast, tupOf, List.all_nil, List.getElem?_cons_zero, List.getElem?_cons_succ, Nat.reduceEqDiff, reduceCtorEq, ↓reduceIte, Nat.succ_ne_self, ov_bool, fn_some]
  · unfold a25
    simp (config := { maxSteps := 10000000 }) (disch := omega) only [↓G_seq, ↓G_ret, ↓G_region, ↓G_ops_nil, ↓G_op, Gv_some, ↓G_gop, Gw_tf, dec_f, killAll, ↓get_setS, evalOp, ev, Ab.get, b_geq, one, Option.map_some, Option.bind_some, asB, finish, resVs, resV, outVs, ownsLast, tupOf, List.all_nil, List.getElem?_cons_zero, List.getElem?_cons_succ, Nat.reduceEqDiff, reduceCtorEq, ↓reduceIte, Nat.succ_ne_self, Bool.false_eq_true, ov_bool, fn_some]

theorem loop35 {k : List KI} {v : V} {l : List Me} (hl : l.length ≤ 1024) (hv : SlV 5 v (E5 l))
    (hx : ∀ fr' L', Gx tbl H [.tmp 2] 1 k fr' L' = some (.i 0)) :
    ∀ (t : List Me) (i : Nat) (fr : List V) (L : List Row), l.drop i = t → i ≤ l.length → Ab.get fr 13 = v → Ab.get fr 14 = .i (l.length : Nat) → Ab.get fr 15 = .i (i : Nat) →
    G tbl H [.tmp 2] (.code (.loop ( (.seq ( .region [] [ ⟨some 16, .bin .lss (.t 15) (.t 14), none⟩]) ( (.seq ( (.cond (.t 16) ( .skip) ( .exit 1))) ( (.seq ( (.block 2 ( (.seq ( .region [] [ ⟨some 17, .elemAddr 5 (.t 13) (.t 15), none⟩, ⟨some 18, .load true 5 (.t 17), none⟩, ⟨some 4, .alloc 1 [(.int .i64 0), (.int .i64 0), (.int .i64 0), (.int .i64 0), (.int .i64 0)], none⟩, ⟨none, .store 5 (.t 4) (.t 18), none⟩]) ( (.seq ( (.seq ( .region [] [ ⟨some 19, .fieldAddr 0 (.t 4), none⟩, ⟨some 20, .load false 1 (.t 19), none⟩, ⟨some 21, .call 0 (.c (.fn 24 [])) [(.t 20), (.c (.int .i64 0)), (.c (.int .i64 16777216))], none⟩, ⟨some 22, .not (.t 21), none⟩, ⟨some 23, .mv (.t 22), none⟩, ⟨some 24, .fieldAddr 3 (.t 4), some (23, false)⟩, ⟨some 25, .load false 1 (.t 24), some (23, false)⟩, ⟨some 26, .call 0 (.c (.fn 24 [])) [(.t 25), (.c (.int .i64 0)), (.c (.int .i64 16777216))], some (23, false)⟩, ⟨some 27, .not (.t 26), some (23, false)⟩, ⟨some 28, .pick (.t 23) (.c (.bool true)) (.t 27), none⟩, ⟨some 29, .mv (.t 28), none⟩, ⟨some 30, .fieldAddr 1 (.t 4), some (29, false)⟩, ⟨some 31, .load false 1 (.t 30), some (29, false)⟩, ⟨some 32, .fieldAddr 3 (.t 4), some (29, false)⟩, ⟨some 33, .load false 1 (.t 32), some (29, false)⟩, ⟨some 34, .call 0 (.c (.fn 24 [])) [(.t 31), (.t 33), (.c (.int .i64 16777216))], some (29, false)⟩, ⟨some 35, .not (.t 34), some (29, false)⟩, ⟨some 36, .pick (.t 29) (.c (.bool true)) (.t 35), none⟩, ⟨some 37, .mv (.t 36), none⟩, ⟨some 38, .fieldAddr 2 (.t 4), some (37, false)⟩, ⟨some 39, .load false 1 (.t 38), some (37, false)⟩, ⟨some 40, .fieldAddr 1 (.t 4), some (37, false)⟩, ⟨some 41, .load false 1 (.t 40), some (37, false)⟩, ⟨some 42, .call 0 (.c (.fn 24 [])) [(.t 39), (.t 41), (.c (.int .i64 16777216))], some (37, false)⟩, ⟨some 43, .not (.t 42), some (37, false)⟩, ⟨some 44, .pick (.t 37) (.c (.bool true)) (.t 43), none⟩]) ( (.cond (.t 44) ( (.seq ( .region [] [ ⟨some 2, .mv (.c (.int .i64 2)), none⟩]) ( .ret))) ( .skip))))) ( (.seq ( .region [] [ ⟨some 45, .fieldAddr 4 (.t 4), none⟩, ⟨some 46, .load false 1 (.t 45), none⟩, ⟨some 47, .call 0 (.c (.fn 24 [])) [(.t 46), (.c (.int .i64 0)), (.c (.int .i64 3))], none⟩, ⟨some 48, .not (.t 47), none⟩]) ( (.cond (.t 48) ( (.seq ( .region [] [ ⟨some 2, .mv (.c (.int .i64 11)), none⟩]) ( .ret))) ( .skip))))))))))) ( .region [] [ ⟨some 49, .bin .add (.t 15) (.c (.int .i64 1)), none⟩, ⟨some 15, .mv (.t 49), none⟩])))))))) :: k) fr L = some (.i (errS t)) := by
  intro t
  induction t with
  | nil =>
    intro i fr L ht hi h13 h14 h15
    have := drop_nil ht
    refine G_loop.trans ?_
    simp (config := { maxSteps := 10000000 }) (disch := omega) only [↓G_seq, ↓G_exit, ↓G_region, ↓G_cond, ↓Gx_code, ↓G_ops_nil, ↓G_op, Gv_some, Gc_false, dec_f, killAll, ↓get_setS, evalOp, ev, b_lss, one, Option.map_some, List.getElem?_cons_zero, List.getElem?_cons_succ, ↓reduceIte, h14, h15, hx, errS]
  | cons s t ih =>
    intro i fr L ht hi h13 h14 h15
    obtain ⟨e1, e2, e3⟩ := drop_cons ht
    have hE := hv.el (E5_get l i s e1)
    have next : ∀ fr' L', Ab.get fr' 13 = v → Ab.get fr' 14 = .i (l.length : Nat) → Ab.get fr' 15 = .i ((i : Nat) + 1) → G tbl H [.tmp 2] (.code (.loop ( (.seq ( .region [] [ ⟨some 16, .bin .lss (.t 15) (.t 14), none⟩]) ( (.seq ( (.cond (.t 16) ( .skip) ( .exit 1))) ( (.seq ( (.block 2 ( (.seq ( .region [] [ ⟨some 17, .elemAddr 5 (.t 13) (.t 15), none⟩, ⟨some 18, .load true 5 (.t 17), none⟩, ⟨some 4, .alloc 1 [(.int .i64 0), (.int .i64 0), (.int .i64 0), (.int .i64 0), (.int .i64 0)], none⟩, ⟨none, .store 5 (.t 4) (.t 18), none⟩]) ( (.seq ( (.seq ( .region [] [ ⟨some 19, .fieldAddr 0 (.t 4), none⟩, ⟨some 20, .load false 1 (.t 19), none⟩, ⟨some 21, .call 0 (.c (.fn 24 [])) [(.t 20), (.c (.int .i64 0)), (.c (.int .i64 16777216))], none⟩, ⟨some 22, .not (.t 21), none⟩, ⟨some 23, .mv (.t 22), none⟩, ⟨some 24, .fieldAddr 3 (.t 4), some (23, false)⟩, ⟨some 25, .load false 1 (.t 24), some (23, false)⟩, ⟨some 26, .call 0 (.c (.fn 24 [])) [(.t 25), (.c (.int .i64 0)), (.c (.int .i64 16777216))], some (23, false)⟩, ⟨some 27, .not (.t 26), some (23, false)⟩, ⟨some 28, .pick (.t 23) (.c (.bool true)) (.t 27), none⟩, ⟨some 29, .mv (.t 28), none⟩, ⟨some 30, .fieldAddr 1 (.t 4), some (29, false)⟩, ⟨some 31, .load false 1 (.t 30), some (29, false)⟩, ⟨some 32, .fieldAddr 3 (.t 4), some (29, false)⟩, ⟨some 33, .load false 1 (.t 32), some (29, false)⟩, ⟨some 34, .call 0 (.c (.fn 24 [])) [(.t 31), (.t 33), (.c (.int .i64 16777216))], some (29, false)⟩, ⟨some 35, .not (.t 34), some (29, false)⟩, ⟨some 36, .pick (.t 29) (.c (.bool true)) (.t 35), none⟩, ⟨some 37, .mv (.t 36), none⟩, ⟨some 38, .fieldAddr 2 (.t 4), some (37, false)⟩, ⟨some 39, .load false 1 (.t 38), some (37, false)⟩, ⟨some 40, .fieldAddr 1 (.t 4), some (37, false)⟩, ⟨some 41, .load false 1 (.t 40), some (37, false)⟩, ⟨some 42, .call 0 (.c (.fn 24 [])) [(.t 39), (.t 41), (.c (.int .i64 16777216))], some (37, false)⟩, ⟨some 43, .not (.t 42), some (37, false)⟩, ⟨some 44, .pick (.t 37) (.c (.bool true)) (.t 43), none⟩]) ( (.cond (.t 44) ( (.seq ( .region [] [ ⟨some 2, .mv (.c (.int .i64 2)), none⟩]) ( .ret))) ( .skip))))) ( (.seq ( .region [] [ ⟨some 45, .fieldAddr 4 (.t 4), none⟩, ⟨some 46, .load false 1 (.t 45), none⟩, ⟨some 47, .call 0 (.c (.fn 24 [])) [(.t 46), (.c (.int .i64 0)), (.c (.int .i64 3))], none⟩, ⟨some 48, .not (.t 47), none⟩]) ( (.cond (.t 48) ( (.seq ( .region [] [ ⟨some 2, .mv (.c (.int .i64 11)), none⟩]) ( .ret))) ( .skip))))))))))) ( .region [] [ ⟨some 49, .bin .add (.t 15) (.c (.int .i64 1)), none⟩, ⟨some 15, .mv (.t 49), none⟩])))))))) :: k) fr' L' = some (.i (errS t)) := by
      intro fr' L' g13 g14 g15
      exact ih (i + 1) fr' L' e2 (by omega) g13 g14 (by rw [g15]; congr 1)
    clear ih hx
    refine G_loop.trans ?_
    by_cases c1 : inM s
    case neg =>
      rw [errS_e (okM_p c1) (by decide)]
      have w := badM c1
      clear c1 next
      rcases w with (w | w) | ⟨w1, w | w⟩ | ⟨w1, w2, w | w⟩ | ⟨w1, w2, w3, w | w⟩
      all_goals simp (config := { maxSteps := 10000000 }) (disch := omega) only [↓G_seq, ↓G_skip, ↓G_ret, ↓G_region, ↓G_block, ↓G_cond, ↓G_ops_nil, ↓G_op, Gv_some, ↓G_gop, Gw_ff, Gw_ft, Gc_true, dec_t, dec_f, killAll, ↓get_setS, ↓get_setN, evalOp, ev, evs, rget_rset, b_lss, one, Option.map_some, Option.bind_some, asB, finish, resVs, resV, outVs, ownsLast, tupOf, callV, V.shift, V.shifts, List.append_nil, List.nil_append, List.cons_append, List.all_cons, List.all_nil, Bool.and_self, List.getElem?_cons_zero, List.getElem?_cons_succ, Nat.reduceEqDiff, ↓reduceIte, Nat.succ_ne_self, Bool.not_true, Bool.not_false, bne_self_eq_false, Bool.false_eq_true, Int.reduceAdd, pick3, V.cells, splice, addOff, loadV, storeV, Ab.rowAt, V.scalar, Nat.reduceAdd, and_self, List.length_cons, List.length_nil, List.take_succ_cons, List.take_zero, List.drop_succ_cons, List.drop_zero, Nat.le_refl, List.set_cons_zero, List.getD_cons_zero, Nat.zero_add, Nat.add_zero, ti_bool, ov_int, fn_some, h13, h14, h15, hE, c24, rset_rset, Nat.zero_lt_succ]
    have c1' := c1
    obtain ⟨q1, q2, q3, q4⟩ := c1
    by_cases c2 : 0 ≤ s.b ∧ s.b ≤ 3
    case neg =>
      rw [errS_e (okM_k c1' c2) (by decide)]
      have w : s.b < 0 ∨ 3 < s.b := by omega
      clear c2 next
      rcases w with w | w
      all_goals simp (config := { maxSteps := 10000000 }) (disch := omega) only [↓G_seq, ↓G_skip, ↓G_ret, ↓G_region, ↓G_block, ↓G_cond, ↓G_ops_nil, ↓G_op, Gv_some, ↓G_gop, Gw_ff, Gc_true, Gc_false, dec_t, dec_f, killAll, ↓get_setS, ↓get_setN, evalOp, ev, evs, rget_rset, b_lss, one, Option.map_some, Option.bind_some, asB, finish, resVs, resV, outVs, ownsLast, tupOf, callV, V.shift, V.shifts, List.append_nil, List.nil_append, List.cons_append, List.all_cons, List.all_nil, Bool.and_self, List.getElem?_cons_zero, List.getElem?_cons_succ, Nat.reduceEqDiff, ↓reduceIte, Nat.succ_ne_self, Bool.not_true, Bool.not_false, bne_self_eq_false, Bool.false_eq_true, Int.reduceAdd, pick3, V.cells, splice, addOff, loadV, storeV, Ab.rowAt, V.scalar, Nat.reduceAdd, and_self, List.length_cons, List.length_nil, List.take_succ_cons, List.take_zero, List.drop_succ_cons, List.drop_zero, Nat.le_refl, List.set_cons_zero, List.getD_cons_zero, Nat.zero_add, Nat.add_zero, ti_bool, ov_int, fn_some, h13, h14, h15, hE, c24, rset_rset, Nat.zero_lt_succ]
    rw [errS_0 (okM_ok c1' c2)]
    simp (config := { maxSteps := 10000000 }) (disch := omega) only [↓G_seq, ↓G_skip, ↓G_blk, ↓G_region, ↓G_block, ↓G_cond, ↓G_ops_nil, ↓G_op, Gv_some, ↓G_gop, Gw_ff, Gc_true, Gc_false, dec_t, killAll, ↓get_setS, ↓get_setN, evalOp, ev, evs, rget_rset, b_add, b_lss, wrap_i64, one, Option.map_some, Option.bind_some, asB, callV, V.shift, V.shifts, List.append_nil, List.nil_append, List.cons_append, List.all_cons, List.all_nil, Bool.and_self, List.getElem?_cons_zero, List.getElem?_cons_succ, Nat.reduceEqDiff, ↓reduceIte, Nat.succ_ne_self, Bool.not_true, bne_self_eq_false, Bool.false_eq_true, Int.reduceAdd, pick3, V.cells, splice, addOff, loadV, storeV, Ab.rowAt, V.scalar, Nat.reduceAdd, and_self, List.length_cons, List.length_nil, List.take_succ_cons, List.take_zero, List.drop_succ_cons, List.drop_zero, Nat.le_refl, List.set_cons_zero, List.getD_cons_zero, Nat.zero_add, Nat.add_zero, ti_bool, h13, h14, h15, hE, c24, rset_rset, Nat.zero_lt_succ]
    refine next _ _ ?_ ?_ ?_
    all_goals simp (config := { maxSteps := 10000000 }) (disch := omega) only [↓get_setS, ↓get_setN, List.getElem?_cons_zero, List.getElem?_cons_succ, Nat.reduceEqDiff, ↓reduceIte, Nat.succ_ne_self, h13, h14]

theorem c35 {v : V} {l : List Me} (hm : l.length ≤ 9223372036854775807) (hv : SlV 5 v (E5 l)) : call tbl 35 [v] H = some (.i (errL l)) := by
  refine (call_start (show tbl 35 = some a35 from rfl)).trans ?_
  have hlen := hv.len
  rw [E5_len] at hlen
  unfold errL
  by_cases h1 : l.length = 0
  · rw [if_pos h1]
    unfold a35
    simp (config := { maxSteps := 10000000 }) (disch := omega) only [↓G_seq, ↓G_ret, ↓G_region, ↓G_block, ↓G_cond, ↓G_ops_nil, ↓G_op, Gv_some, Gc_true, dec_t, killAll, ↓get_setS, evalOp, ev, Ab.get, b_eql, one, Option.map_some, Option.bind_some, finish, resVs, resV, outVs, ownsLast, tupOf, List.all_nil, List.getElem?_cons_zero, List.getElem?_cons_succ, reduceCtorEq, ↓reduceIte, ov_int, fn_some, hlen]
    done
  rw [if_neg h1]
  by_cases h2 : 1024 < l.length
  · rw [if_pos h2]
    unfold a35
    simp (config := { maxSteps := 10000000 }) (disch := omega) only [↓G_seq, ↓G_ret, ↓G_region, ↓G_block, ↓G_cond, ↓G_ops_nil, ↓G_op, Gv_some, Gc_true, Gc_false, dec_t, dec_f, killAll, ↓get_setS, evalOp, ev, Ab.get, b_eql, b_gtr, one, Option.map_some, Option.bind_some, finish, resVs, resV, outVs, ownsLast, tupOf, List.all_nil, List.getElem?_cons_zero, List.getElem?_cons_succ, reduceCtorEq, ↓reduceIte, ov_int, fn_some, hlen]
    done
  rw [if_neg h2]
  unfold a35
  simp (config := { maxSteps := 10000000 }) (disch := omega) only [↓G_seq, ↓G_skip, ↓G_blk, ↓G_region, ↓G_block, ↓G_cond, ↓G_ops_nil, ↓G_op, Gv_some, Gc_false, dec_f, killAll, ↓get_setS, evalOp, ev, Ab.get, b_eql, b_gtr, one, Option.map_some, List.getElem?_cons_zero, List.getElem?_cons_succ, reduceCtorEq, ↓reduceIte, hlen]
  refine loop35 (l := l) (by omega) hv (fun fr' L' => ?_) l 0 _ _ rfl (by omega) ?_ ?_ ?_
  all_goals simp (config := { maxSteps := 10000000 }) (disch := omega) only [↓G_seq, ↓G_ret, ↓G_region, ↓Gx_blk, ↓G_ops_nil, ↓G_op, Gv_some, killAll, ↓get_setS, evalOp, ev, Option.map_some, Option.bind_some, finish, resVs, resV, outVs, ownsLast, tupOf, List.all_nil, List.getElem?_cons_zero, List.getElem?_cons_succ, Nat.reduceEqDiff, ↓reduceIte, Nat.succ_ne_self, Int.cast_ofNat_Int, ov_int, fn_some]

theorem loop13 {k : List KI} {v : V} {l : List Me} (hl : l.length ≤ 1024) (hv : SlV 5 v (E5 l))
    (hx : ∀ fr' L', Gx tbl H [.tmp 2] 0 k fr' L' = some (.i 0)) :
    ∀ (t : List Me) (i : Nat) (fr : List V) (L : List Row), l.drop i = t → i ≤ l.length → Ab.get fr 0 = v → Ab.get fr 3 = .i (i : Nat) →
    G tbl H [.tmp 2] (.code (.loop ( (.seq ( (.seq ( .region [] [ ⟨some 11, .mv (.t 3), none⟩, ⟨some 12, .mv (.t 0), none⟩, ⟨some 13, .len (.t 12), none⟩, ⟨some 14, .bin .lss (.t 11) (.t 13), none⟩]) ( (.cond (.t 14) ( .skip) ( .exit 0))))) ( (.seq ( (.block 1 ( (.seq ( .region [] [ ⟨some 17, .mv (.t 0), none⟩, ⟨some 18, .mv (.t 3), none⟩, ⟨some 19, .elemAddr 5 (.t 17) (.t 18), none⟩, ⟨some 20, .load true 5 (.t 19), none⟩, ⟨some 4, .alloc 1 [(.int .i64 0), (.int .i64 0), (.int .i64 0), (.int .i64 0), (.int .i64 0)], none⟩, ⟨none, .store 5 (.t 4) (.t 20), none⟩]) ( (.seq ( (.seq ( .region [] [ ⟨some 21, .fieldAddr 0 (.t 4), none⟩, ⟨some 22, .load false 1 (.t 21), none⟩, ⟨some 23, .call 0 (.c (.fn 25 [])) [(.t 22), (.c (.int .i64 0)), (.c (.int .i64 16777216))], none⟩, ⟨some 24, .not (.t 23), none⟩, ⟨some 25, .mv (.t 24), none⟩, ⟨some 26, .fieldAddr 3 (.t 4), some (25, false)⟩, ⟨some 27, .load false 1 (.t 26), some (25, false)⟩, ⟨some 28, .call 0 (.c (.fn 25 [])) [(.t 27), (.c (.int .i64 0)), (.c (.int .i64 16777216))], some (25, false)⟩, ⟨some 29, .not (.t 28), some (25, false)⟩, ⟨some 30, .pick (.t 25) (.c (.bool true)) (.t 29), none⟩, ⟨some 31, .mv (.t 30), none⟩, ⟨some 32, .fieldAddr 1 (.t 4), some (31, false)⟩, ⟨some 33, .load false 1 (.t 32), some (31, false)⟩, ⟨some 34, .fieldAddr 3 (.t 4), some (31, false)⟩, ⟨some 35, .load false 1 (.t 34), some (31, false)⟩, ⟨some 36, .call 0 (.c (.fn 25 [])) [(.t 33), (.t 35), (.c (.int .i64 16777216))], some (31, false)⟩, ⟨some 37, .not (.t 36), some (31, false)⟩, ⟨some 38, .pick (.t 31) (.c (.bool true)) (.t 37), none⟩, ⟨some 39, .mv (.t 38), none⟩, ⟨some 40, .fieldAddr 2 (.t 4), some (39, false)⟩, ⟨some 41, .load false 1 (.t 40), some (39, false)⟩, ⟨some 42, .fieldAddr 1 (.t 4), some (39, false)⟩, ⟨some 43, .load false 1 (.t 42), some (39, false)⟩, ⟨some 44, .call 0 (.c (.fn 25 [])) [(.t 41), (.t 43), (.c (.int .i64 16777216))], some (39, false)⟩, ⟨some 45, .not (.t 44), some (39, false)⟩, ⟨some 46, .pick (.t 39) (.c (.bool true)) (.t 45), none⟩]) ( (.cond (.t 46) ( (.seq ( .region [] [ ⟨some 2, .mv (.c (.int .i64 2)), none⟩]) ( .ret))) ( .skip))))) ( (.seq ( .region [] [ ⟨some 47, .fieldAddr 4 (.t 4), none⟩, ⟨some 48, .load false 1 (.t 47), none⟩, ⟨some 49, .call 0 (.c (.fn 25 [])) [(.t 48), (.c (.int .i64 0)), (.c (.int .i64 3))], none⟩, ⟨some 50, .not (.t 49), none⟩]) ( (.cond (.t 50) ( (.seq ( .region [] [ ⟨some 2, .mv (.c (.int .i64 11)), none⟩]) ( .ret))) ( .skip))))))))))) ( .region [] [ ⟨some 15, .mv (.t 3), none⟩, ⟨some 16, .bin .add (.t 15) (.c (.int .i64 1)), none⟩, ⟨some 3, .mv (.t 16), none⟩])))))) :: k) fr L = some (.i (errS t)) := by
  intro t
  have hlen := hv.len
  rw [E5_len] at hlen
  induction t with
  | nil =>
    intro i fr L ht hi h0 h3
    have := drop_nil ht
    refine G_loop.trans ?_
    simp (config := { maxSteps := 10000000 }) (disch := omega) only [↓G_seq, ↓G_exit, ↓G_region, ↓G_cond, ↓Gx_code, ↓G_ops_nil, ↓G_op, Gv_some, Gc_false, dec_f, killAll, ↓get_setS, evalOp, ev, b_lss, one, Option.map_some, List.getElem?_cons_zero, List.getElem?_cons_succ, Nat.reduceEqDiff, reduceCtorEq, ↓reduceIte, Nat.succ_ne_self, h0, h3, hlen, hx, errS]
  | cons s t ih =>
    intro i fr L ht hi h0 h3
    obtain ⟨e1, e2, e3⟩ := drop_cons ht
    have hE := hv.el (E5_get l i s e1)
    have next : ∀ fr' L', Ab.get fr' 0 = v → Ab.get fr' 3 = .i ((i : Nat) + 1) → G tbl H [.tmp 2] (.code (.loop ( (.seq ( (.seq ( .region [] [ ⟨some 11, .mv (.t 3), none⟩, ⟨some 12, .mv (.t 0), none⟩, ⟨some 13, .len (.t 12), none⟩, ⟨some 14, .bin .lss (.t 11) (.t 13), none⟩]) ( (.cond (.t 14) ( .skip) ( .exit 0))))) ( (.seq ( (.block 1 ( (.seq ( .region [] [ ⟨some 17, .mv (.t 0), none⟩, ⟨some 18, .mv (.t 3), none⟩, ⟨some 19, .elemAddr 5 (.t 17) (.t 18), none⟩, ⟨some 20, .load true 5 (.t 19), none⟩, ⟨some 4, .alloc 1 [(.int .i64 0), (.int .i64 0), (.int .i64 0), (.int .i64 0), (.int .i64 0)], none⟩, ⟨none, .store 5 (.t 4) (.t 20), none⟩]) ( (.seq ( (.seq ( .region [] [ ⟨some 21, .fieldAddr 0 (.t 4), none⟩, ⟨some 22, .load false 1 (.t 21), none⟩, ⟨some 23, .call 0 (.c (.fn 25 [])) [(.t 22), (.c (.int .i64 0)), (.c (.int .i64 16777216))], none⟩, ⟨some 24, .not (.t 23), none⟩, ⟨some 25, .mv (.t 24), none⟩, ⟨some 26, .fieldAddr 3 (.t 4), some (25, false)⟩, ⟨some 27, .load false 1 (.t 26), some (25, false)⟩, ⟨some 28, .call 0 (.c (.fn 25 [])) [(.t 27), (.c (.int .i64 0)), (.c (.int .i64 16777216))], some (25, false)⟩, ⟨some 29, .not (.t 28), some (25, false)⟩, ⟨some 30, .pick (.t 25) (.c (.bool true)) (.t 29), none⟩, ⟨some 31, .mv (.t 30), none⟩, ⟨some 32, .fieldAddr 1 (.t 4), some (31, false)⟩, ⟨some 33, .load false 1 (.t 32), some (31, false)⟩, ⟨some 34, .fieldAddr 3 (.t 4), some (31, false)⟩, ⟨some 35, .load false 1 (.t 34), some (31, false)⟩, ⟨some 36, .call 0 (.c (.fn 25 [])) [(.t 33), (.t 35), (.c (.int .i64 16777216))], some (31, false)⟩, ⟨some 37, .not (.t 36), some (31, false)⟩, ⟨some 38, .pick (.t 31) (.c (.bool true)) (.t 37), none⟩, ⟨some 39, .mv (.t 38), none⟩, ⟨some 40, .fieldAddr 2 (.t 4), some (39, false)⟩, ⟨some 41, .load false 1 (.t 40), some (39, false)⟩, ⟨some 42, .fieldAddr 1 (.t 4), some (39, false)⟩, ⟨some 43, .load false 1 (.t 42), some (39, false)⟩, ⟨some 44, .call 0 (.c (.fn 25 [])) [(.t 41), (.t 43), (.c (.int .i64 16777216))], some (39, false)⟩, ⟨some 45, .not (.t 44), some (39, false)⟩, ⟨some 46, .pick (.t 39) (.c (.bool true)) (.t 45), none⟩]) ( (.cond (.t 46) ( (.seq ( .region [] [ ⟨some 2, .mv (.c (.int .i64 2)), none⟩]) ( .ret))) ( .skip))))) ( (.seq ( .region [] [ ⟨some 47, .fieldAddr 4 (.t 4), none⟩, ⟨some 48, .load false 1 (.t 47), none⟩, ⟨some 49, .call 0 (.c (.fn 25 [])) [(.t 48), (.c (.int .i64 0)), (.c (.int .i64 3))], none⟩, ⟨some 50, .not (.t 49), none⟩]) ( (.cond (.t 50) ( (.seq ( .region [] [ ⟨some 2, .mv (.c (.int .i64 11)), none⟩]) ( .ret))) ( .skip))))))))))) ( .region [] [ ⟨some 15, .mv (.t 3), none⟩, ⟨some 16, .bin .add (.t 15) (.c (.int .i64 1)), none⟩, ⟨some 3, .mv (.t 16), none⟩])))))) :: k) fr' L' = some (.i (errS t)) := by
      intro fr' L' g0 g3
      exact ih (i + 1) fr' L' e2 (by omega) g0 (by rw [g3]; congr 1)
    clear ih hx
    refine G_loop.trans ?_
    by_cases c1 : inM s
    case neg =>
      rw [errS_e (okM_p c1) (by decide)]
      have w := badM c1
      clear c1 next
      rcases w with (w | w) | ⟨w1, w | w⟩ | ⟨w1, w2, w | w⟩ | ⟨w1, w2, w3, w | w⟩
      all_goals simp (config := { maxSteps := 10000000 }) (disch := omega) only [↓G_seq, ↓G_skip, ↓G_ret, ↓G_region, ↓G_block, ↓G_cond, ↓G_ops_nil, ↓G_op, Gv_some, ↓G_gop, Gw_ff, Gw_ft, Gc_true, dec_t, dec_f, killAll, ↓get_setS, ↓get_setN, evalOp, ev, evs, rget_rset, b_lss, one, Option.map_some, Option.bind_some, asB, finish, resVs, resV, outVs, ownsLast, tupOf, callV, V.shift, V.shifts, List.append_nil, List.nil_append, List.cons_append, List.all_cons, List.all_nil, Bool.and_self, List.getElem?_cons_zero, List.getElem?_cons_succ, Nat.reduceEqDiff, reduceCtorEq, ↓reduceIte, Nat.succ_ne_self, Bool.not_true, Bool.not_false, bne_self_eq_false, Bool.false_eq_true, Int.reduceAdd, pick3, V.cells, splice, addOff, loadV, storeV, Ab.rowAt, V.scalar, Nat.reduceAdd, and_self, List.length_cons, List.length_nil, List.take_succ_cons, List.take_zero, List.drop_succ_cons, List.drop_zero, Nat.le_refl, List.set_cons_zero, List.getD_cons_zero, Nat.zero_add, Nat.add_zero, ti_bool, ov_int, fn_some, h0, h3, hlen, hE, c25, rset_rset, Nat.zero_lt_succ]
    have c1' := c1
    obtain ⟨q1, q2, q3, q4⟩ := c1
    by_cases c2 : 0 ≤ s.b ∧ s.b ≤ 3
    case neg =>
      rw [errS_e (okM_k c1' c2) (by decide)]
      have w : s.b < 0 ∨ 3 < s.b := by omega
      clear c2 next
      rcases w with w | w
      all_goals simp (config := { maxSteps := 10000000 }) (disch := omega) only [↓G_seq, ↓G_skip, ↓G_ret, ↓G_region, ↓G_block, ↓G_cond, ↓G_ops_nil, ↓G_op, Gv_some, ↓G_gop, Gw_ff, Gc_true, Gc_false, dec_t, dec_f, killAll, ↓get_setS, ↓get_setN, evalOp, ev, evs, rget_rset, b_lss, one, Option.map_some, Option.bind_some, asB, finish, resVs, resV, outVs, ownsLast, tupOf, callV, V.shift, V.shifts, List.append_nil, List.nil_append, List.cons_append, List.all_cons, List.all_nil, Bool.and_self, List.getElem?_cons_zero, List.getElem?_cons_succ, Nat.reduceEqDiff, reduceCtorEq, ↓reduceIte, Nat.succ_ne_self, Bool.not_true, Bool.not_false, bne_self_eq_false, Bool.false_eq_true, Int.reduceAdd, pick3, V.cells, splice, addOff, loadV, storeV, Ab.rowAt, V.scalar, Nat.reduceAdd, and_self, List.length_cons, List.length_nil, List.take_succ_cons, List.take_zero, List.drop_succ_cons, List.drop_zero, Nat.le_refl, List.set_cons_zero, List.getD_cons_zero, Nat.zero_add, Nat.add_zero, ti_bool, ov_int, fn_some, h0, h3, hlen, hE, c25, rset_rset, Nat.zero_lt_succ]
    rw [errS_0 (okM_ok c1' c2)]
    simp (config := { maxSteps := 10000000 }) (disch := omega) only [↓G_seq, ↓G_skip, ↓G_blk, ↓G_region, ↓G_block, ↓G_cond, ↓G_ops_nil, ↓G_op, Gv_some, ↓G_gop, Gw_ff, Gc_true, Gc_false, dec_t, killAll, ↓get_setS, ↓get_setN, evalOp, ev, evs, rget_rset, b_add, b_lss, wrap_i64, one, Option.map_some, Option.bind_some, asB, callV, V.shift, V.shifts, List.append_nil, List.nil_append, List.cons_append, List.all_cons, List.all_nil, Bool.and_self, List.getElem?_cons_zero, List.getElem?_cons_succ, Nat.reduceEqDiff, reduceCtorEq, ↓reduceIte, Nat.succ_ne_self, Bool.not_true, bne_self_eq_false, Bool.false_eq_true, Int.reduceAdd, pick3, V.cells, splice, addOff, loadV, storeV, Ab.rowAt, V.scalar, Nat.reduceAdd, and_self, List.length_cons, List.length_nil, List.take_succ_cons, List.take_zero, List.drop_succ_cons, List.drop_zero, Nat.le_refl, List.set_cons_zero, List.getD_cons_zero, Nat.zero_add, Nat.add_zero, ti_bool, h0, h3, hlen, hE, c25, rset_rset, Nat.zero_lt_succ]
    refine next _ _ ?_ ?_
    all_goals simp (config := { maxSteps := 10000000 }) (disch := omega) only [↓get_setS, ↓get_setN, List.getElem?_cons_zero, List.getElem?_cons_succ, reduceCtorEq, ↓reduceIte, h0]

theorem c13 {v : V} {l : List Me} (hm : l.length ≤ 9223372036854775807) (hv : SlV 5 v (E5 l)) : call tbl 13 [v] H = some (.i (errL l)) := by
  refine (call_start (show tbl 13 = some a13 from rfl)).trans ?_
  have hlen := hv.len
  rw [E5_len] at hlen
  unfold errL
  by_cases h1 : l.length = 0
  · rw [if_pos h1]
    unfold a13
    simp (config := { maxSteps := 10000000 }) (disch := omega) only [↓G_seq, ↓G_ret, ↓G_region, ↓G_cond, ↓G_ops_nil, ↓G_op, Gv_some, Gc_true, dec_t, killAll, ↓get_setS, evalOp, ev, Ab.get, b_eql, one, Option.map_some, Option.bind_some, finish, resVs, resV, outVs, ownsLast, tupOf, List.all_nil, List.getElem?_cons_zero, List.getElem?_cons_succ, reduceCtorEq, ↓reduceIte, ov_int, fn_some, hlen]
    done
  rw [if_neg h1]
  by_cases h2 : 1024 < l.length
  · rw [if_pos h2]
    unfold a13
    simp (config := { maxSteps := 10000000 }) (disch := omega) only [↓G_seq, ↓G_skip, ↓G_ret, ↓G_region, ↓G_cond, ↓G_ops_nil, ↓G_op, Gv_some, Gc_true, Gc_false, dec_t, dec_f, killAll, ↓get_setS, evalOp, ev, Ab.get, b_eql, b_gtr, one, Option.map_some, Option.bind_some, finish, resVs, resV, outVs, ownsLast, tupOf, List.all_nil, List.getElem?_cons_zero, List.getElem?_cons_succ, reduceCtorEq, ↓reduceIte, ov_int, fn_some, hlen]
    done
  rw [if_neg h2]
  unfold a13
  simp (config := { maxSteps := 10000000 }) (disch := omega) only [↓G_seq, ↓G_skip, ↓G_region, ↓G_block, ↓G_cond, ↓G_ops_nil, ↓G_op, Gv_some, Gc_false, dec_f, killAll, ↓get_setS, evalOp, ev, Ab.get, b_eql, b_gtr, one, Option.map_some, List.getElem?_cons_zero, List.getElem?_cons_succ, reduceCtorEq, ↓reduceIte, hlen]
  refine loop13 (l := l) (by omega) hv (fun fr' L' => ?_) l 0 _ _ rfl (by omega) ?_ ?_
  all_goals simp (config := { maxSteps := 10000000 }) (disch := omega) only [↓G_seq, ↓G_ret, ↓G_region, ↓Gx_blk, ↓G_ops_nil, ↓G_op, Gv_some, killAll, ↓get_setS, evalOp, ev, Ab.get, Option.map_some, Option.bind_some, finish, resVs, resV, outVs, ownsLast, tupOf, List.all_nil, List.getElem?_cons_zero, List.getElem?_cons_succ, reduceCtorEq, ↓reduceIte, Int.cast_ofNat_Int, ov_int, fn_some]

/-- A page's width and indent. -/
def inP (w d : Int) : Prop := (1 ≤ w ∧ w ≤ 16777216) ∧ (0 ≤ d ∧ d < w)
instance (w d : Int) : Decidable (inP w d) := by unfold inP; exact inferInstance
theorem badP {w d : Int} (h : ¬ inP w d) : (w < 1 ∨ 16777216 < w) ∨ ((1 ≤ w ∧ w ≤ 16777216) ∧ (d < 0 ∨ w ≤ d)) := by
  unfold inP at h
  omega
def errP (w d : Int) : Int := if inP w d then 0 else 2
theorem c15 {v : V} {l : List Me} {w d : Int} (hv : SlV 5 v (E5 l)) : call tbl 15 [.agg [v, .i w, .i d]] H = some (.i (errP w d)) := by
  refine (call_start (show tbl 15 = some a15 from rfl)).trans ?_
  have hsc := hv.scalar
  unfold V.scalar at hsc
  unfold errP
  by_cases h : inP w d
  · rw [if_pos h]
    obtain ⟨q1, q2⟩ := h
    unfold a15
    simp (config := { maxSteps := 10000000 }) (disch := omega) only [↓G_seq, ↓G_skip, ↓G_ret, ↓G_region, ↓G_cond, ↓G_ops_nil, ↓G_op, Gv_some, ↓G_gop, Gw_ff, Gc_false, dec_f, killAll, ↓get_setS, evalOp, ev, Ab.get, b_lss, b_gtr, b_geq, one, Option.map_some, Option.bind_some, asB, finish, resVs, resV, outVs, ownsLast, tupOf, V.shift, List.all_cons, List.all_nil, Bool.and_self, List.getElem?_cons_zero, List.getElem?_cons_succ, Nat.reduceEqDiff, ↓reduceIte, Nat.succ_ne_self, Bool.false_eq_true, Int.reduceAdd, pick3, V.cells, addOff, loadV, Ab.rowAt, rget, rset, V.scalar, Nat.reduceAdd, and_self, List.length_cons, List.length_nil, List.getD_cons_zero, Nat.zero_add, ov_int, fn_some, hsc, Nat.zero_lt_succ]
  · rw [if_neg h]
    have w := badP h
    clear h
    rcases w with (w | w) | ⟨w1, w | w⟩
    all_goals
      unfold a15
      simp (config := { maxSteps := 10000000 }) (disch := omega) only [↓G_seq, ↓G_ret, ↓G_region, ↓G_cond, ↓G_ops_nil, ↓G_op, Gv_some, ↓G_gop, Gw_ff, Gw_ft, Gc_true, dec_t, dec_f, killAll, ↓get_setS, evalOp, ev, Ab.get, b_lss, b_gtr, b_geq, one, Option.map_some, Option.bind_some, asB, finish, resVs, resV, outVs, ownsLast, tupOf, V.shift, List.all_cons, List.all_nil, Bool.and_self, List.getElem?_cons_zero, List.getElem?_cons_succ, Nat.reduceEqDiff, ↓reduceIte, Nat.succ_ne_self, Bool.false_eq_true, Int.reduceAdd, pick3, V.cells, addOff, loadV, Ab.rowAt, rget, rset, V.scalar, Nat.reduceAdd, and_self, List.length_cons, List.length_nil, List.getD_cons_zero, Nat.zero_add, ov_int, fn_some, hsc, Nat.zero_lt_succ]

/-- The error of measures, a width and an indent. -/
def errA (l : List Me) (w d : Int) : Int := if errL l = 0 then errP w d else errL l
theorem c26 {v : V} {l : List Me} {w d : Int} (hm : l.length ≤ 9223372036854775807) (hv : SlV 5 v (E5 l)) : call tbl 26 [v, .i w, .i d] H = some (.i (errA l w d)) := by
  refine (call_start (show tbl 26 = some a26 from rfl)).trans ?_
  have h35 := fun H => c35 (H := H) hm hv
  have hsh := hv.sh
  unfold errA
  by_cases h : errL l = 0
  case neg =>
    rw [if_neg h]
    generalize errL l = e at *
    unfold a26
    simp (config := { maxSteps := 10000000 }) (disch := omega) only [↓G_seq, ↓G_ret, ↓G_region, ↓G_cond, ↓G_ops_nil, ↓G_op, Gv_some, Gc_true, dec_f, killAll, ↓get_setS, evalOp, ev, evs, Ab.get, b_neq, one, Option.map_some, Option.bind_some, finish, resVs, resV, outVs, ownsLast, tupOf, callV, V.shifts, List.append_nil, List.all_nil, List.getElem?_cons_zero, List.getElem?_cons_succ, Nat.reduceEqDiff, reduceCtorEq, ↓reduceIte, Bool.not_false, bne_self_eq_false, ti_int, ov_int, fn_some, h35, hsh]
    done
  rw [if_pos h]
  rw [h] at h35
  unfold errP
  by_cases h : inP w d
  · rw [if_pos h]
    obtain ⟨q1, q2⟩ := h
    unfold a26
    simp (config := { maxSteps := 10000000 }) (disch := omega) only [↓G_seq, ↓G_skip, ↓G_ret, ↓G_region, ↓G_cond, ↓G_ops_nil, ↓G_op, Gv_some, ↓G_gop, Gw_ff, Gc_false, dec_t, killAll, ↓get_setS, evalOp, ev, evs, Ab.get, b_sub, b_neq, wrap_i64, one, Option.map_some, Option.bind_some, asB, finish, resVs, resV, outVs, ownsLast, tupOf, callV, V.shift, V.shifts, List.append_nil, List.all_nil, List.getElem?_cons_zero, List.getElem?_cons_succ, Nat.reduceEqDiff, reduceCtorEq, ↓reduceIte, Nat.succ_ne_self, decide_true, Bool.not_true, bne_self_eq_false, Bool.false_eq_true, ti_bool, ti_int, ov_int, fn_some, h35, hsh, c24]
  · rw [if_neg h]
    have w := badP h
    clear h
    rcases w with (w | w) | ⟨w1, w | w⟩
    all_goals
      unfold a26
      simp (config := { maxSteps := 10000000 }) (disch := omega) only [↓G_seq, ↓G_skip, ↓G_ret, ↓G_region, ↓G_cond, ↓G_ops_nil, ↓G_op, Gv_some, ↓G_gop, Gw_ff, Gw_ft, Gc_true, Gc_false, dec_t, dec_f, killAll, ↓get_setS, evalOp, ev, evs, Ab.get, b_sub, b_neq, wrap_i64, one, Option.map_some, Option.bind_some, asB, finish, resVs, resV, outVs, ownsLast, tupOf, callV, V.shift, V.shifts, List.append_nil, List.all_nil, List.getElem?_cons_zero, List.getElem?_cons_succ, Nat.reduceEqDiff, reduceCtorEq, ↓reduceIte, Nat.succ_ne_self, decide_true, Bool.not_true, Bool.not_false, bne_self_eq_false, Bool.false_eq_true, ti_bool, ti_int, ov_int, fn_some, h35, hsh, c24]

/-! ### Badness -/
def inf : Int := 1125899906842624
theorem hinf : inf = 1125899906842624 := rfl
def qA (w m n : Int) : Int := (100 * (n - w)).tdiv (n - m + 1)
def qB (w n : Int) : Int := (100 * (w - n)).tdiv (n + 1)
def cap (q : Int) : Int := if 10000 < q then 10000 else q
def inB (w m n : Int) : Prop := (0 ≤ w ∧ w ≤ 1099511627776) ∧ (0 ≤ m ∧ m ≤ 1099511627776) ∧ (m ≤ n ∧ n ≤ 1099511627776) ∧ m ≤ w
instance (w m n : Int) : Decidable (inB w m n) := by unfold inB; exact inferInstance
def badN (w m n : Int) : Int := if ¬ inB w m n then inf else if w < n then 100 * qA w m n * qA w m n else cap (qB w n) * cap (qB w n)
theorem badB {w m n : Int} (h : ¬ inB w m n) : (w < 0 ∨ 1099511627776 < w) ∨ ((0 ≤ w ∧ w ≤ 1099511627776) ∧ (m < 0 ∨ 1099511627776 < m)) ∨ ((0 ≤ w ∧ w ≤ 1099511627776) ∧ (0 ≤ m ∧ m ≤ 1099511627776) ∧ (n < m ∨ 1099511627776 < n)) ∨
    ((0 ≤ w ∧ w ≤ 1099511627776) ∧ (0 ≤ m ∧ m ≤ 1099511627776) ∧ (m ≤ n ∧ n ≤ 1099511627776) ∧ w < m) := by
  unfold inB at h
  omega
theorem qA_in {w m n : Int} (h : inB w m n) (h2 : w < n) : 0 ≤ qA w m n ∧ qA w m n ≤ 99 := by
  unfold inB at h
  unfold qA
  rw [Int.tdiv_eq_ediv_of_nonneg (by omega)]
  refine ⟨Int.ediv_nonneg (by omega) (by omega), ?_⟩
  have := Int.ediv_lt_of_lt_mul (a := 100 * (n - w)) (b := 100) (c := n - m + 1) (by omega) (by omega)
  omega
theorem qB_in {w m n : Int} (h : inB w m n) (h2 : n ≤ w) : 0 ≤ qB w n ∧ qB w n ≤ 109951162777600 := by
  unfold inB at h
  unfold qB
  rw [Int.tdiv_eq_ediv_of_nonneg (by omega)]
  refine ⟨Int.ediv_nonneg (by omega) (by omega), ?_⟩
  have := Int.ediv_le_self (a := 100 * (w - n)) (n + 1) (by omega)
  omega
theorem sqA {x : Int} (h : 0 ≤ x ∧ x ≤ 99) : (0 ≤ 100 * x * x ∧ 100 * x * x ≤ 980100) := by
  have h1 := Int.mul_nonneg h.1 h.1
  have h2 := Int.mul_le_mul h.2 h.2 h.1 (by omega : (0 : Int) ≤ 99)
  rw [Int.mul_assoc]
  omega
theorem sqB {x : Int} (h : 0 ≤ x ∧ x ≤ 10000) : 0 ≤ x * x ∧ x * x ≤ 100000000 := by
  have h1 := Int.mul_nonneg h.1 h.1
  have h2 := Int.mul_le_mul h.2 h.2 h.1 (by omega : (0 : Int) ≤ 10000)
  omega
theorem badN_in {w m n : Int} (h : inB w m n) : 0 ≤ badN w m n ∧ badN w m n ≤ 100000000 := by
  unfold badN
  rw [if_neg (fun z => z h)]
  split
  · rename_i h2
    have := sqA (qA_in h h2)
    omega
  · rename_i h2
    have := qB_in h (by omega)
    have := sqB (x := cap (qB w n)) (by unfold cap; split <;> omega)
    omega
theorem badN_out {w m n : Int} (h : ¬ inB w m n) : badN w m n = inf := by
  unfold badN
  rw [if_pos h]

theorem c11 {w m n : Int} : call tbl 11 [.i w, .i m, .i n] H = some (.i (badN w m n)) := by
  refine (call_start (show tbl 11 = some a11 from rfl)).trans ?_
  have hinf' := hinf
  by_cases h : inB w m n
  case neg =>
    rw [badN_out h, hinf]
    have w := badB h
    clear h
    rcases w with (w | w) | ⟨w1, w | w⟩ | ⟨w1, w2, w | w⟩ | ⟨w1, w2, w3, w⟩
    all_goals
      unfold a11
      simp (config := { maxSteps := 10000000 }) (disch := omega) only [↓G_seq, ↓G_ret, ↓G_region, ↓G_cond, ↓G_ops_nil, ↓G_op, Gv_some, ↓G_gop, Gw_ff, Gw_ft, Gc_true, dec_t, dec_f, killAll, ↓get_setS, evalOp, ev, evs, Ab.get, b_gtr, one, Option.map_some, Option.bind_some, asB, finish, resVs, resV, outVs, ownsLast, tupOf, callV, V.shift, V.shifts, List.append_nil, List.all_nil, List.getElem?_cons_zero, List.getElem?_cons_succ, Nat.reduceEqDiff, reduceCtorEq, ↓reduceIte, Nat.succ_ne_self, Bool.not_true, Bool.not_false, bne_self_eq_false, Bool.false_eq_true, ti_bool, ov_int, fn_some, c24]
  unfold badN
  rw [if_neg (fun z => z h)]
  have hA : (100 * (n - w)).tdiv (n - m + 1) = qA w m n := rfl
  have hB : (100 * (w - n)).tdiv (n + 1) = qB w n := rfl
  by_cases h2 : w < n
  · have q := qA_in h h2
    have s := sqA q
    rw [if_pos h2]
    unfold inB at h
    obtain ⟨i1, i2, i3, i4⟩ := h
    generalize qA w m n = x at *
    generalize hxx : 100 * x * x = y at *
    unfold a11
    simp (config := { maxSteps := 10000000 }) (disch := omega) only [↓G_seq, ↓G_skip, ↓G_ret, ↓G_region, ↓G_cond, ↓G_ops_nil, ↓G_op, Gv_some, ↓G_gop, Gw_ff, Gc_true, Gc_false, dec_t, dec_f, killAll, ↓get_setS, evalOp, ev, evs, Ab.get, b_add, b_sub, b_mul, b_gtr, b_quo, wrap_i64, one, Option.map_some, Option.bind_some, asB, finish, resVs, resV, outVs, ownsLast, tupOf, callV, V.shift, V.shifts, List.append_nil, List.all_nil, List.getElem?_cons_zero, List.getElem?_cons_succ, Nat.reduceEqDiff, reduceCtorEq, ↓reduceIte, Nat.succ_ne_self, Bool.not_true, bne_self_eq_false, Bool.false_eq_true, ti_bool, ov_int, fn_some, c24, hA, hxx]
  · have q := qB_in h (by omega)
    rw [if_neg h2]
    unfold inB at h
    obtain ⟨i1, i2, i3, i4⟩ := h
    generalize qB w n = x at *
    unfold cap
    by_cases c : 10000 < x
    · rw [if_pos c]
      unfold a11
      simp (config := { maxSteps := 10000000 }) (disch := omega) only [↓G_seq, ↓G_skip, ↓G_ret, ↓G_region, ↓G_cond, ↓G_ops_nil, ↓G_op, Gv_some, ↓G_gop, Gw_ff, Gc_true, Gc_false, dec_t, dec_f, killAll, ↓get_setS, evalOp, ev, evs, Ab.get, b_add, b_sub, b_mul, b_gtr, b_quo, wrap_i64, one, Option.map_some, Option.bind_some, asB, finish, resVs, resV, outVs, ownsLast, tupOf, callV, V.shift, V.shifts, List.append_nil, List.all_nil, List.getElem?_cons_zero, List.getElem?_cons_succ, Nat.reduceEqDiff, reduceCtorEq, ↓reduceIte, Nat.succ_ne_self, Bool.not_true, bne_self_eq_false, Bool.false_eq_true, Int.reduceMul, Nat.reduceMul, ti_bool, ov_int, fn_some, c24, hB]
    · rw [if_neg c]
      have s := sqB (x := x) (by omega)
      generalize hxx : x * x = y at *
      unfold a11
      simp (config := { maxSteps := 10000000 }) (disch := omega) only [↓G_seq, ↓G_skip, ↓G_ret, ↓G_region, ↓G_cond, ↓G_ops_nil, ↓G_op, Gv_some, ↓G_gop, Gw_ff, Gc_false, dec_t, dec_f, killAll, ↓get_setS, evalOp, ev, evs, Ab.get, b_add, b_sub, b_mul, b_gtr, b_quo, wrap_i64, one, Option.map_some, Option.bind_some, asB, finish, resVs, resV, outVs, ownsLast, tupOf, callV, V.shift, V.shifts, List.append_nil, List.all_nil, List.getElem?_cons_zero, List.getElem?_cons_succ, Nat.reduceEqDiff, reduceCtorEq, ↓reduceIte, Nat.succ_ne_self, Bool.not_true, bne_self_eq_false, Bool.false_eq_true, ti_bool, ov_int, fn_some, c24, hB, hxx]

theorem c12 {w m n : Int} : call tbl 12 [.i w, .i m, .i n] H = some (.i (badN w m n)) := by
  refine (call_start (show tbl 12 = some a12 from rfl)).trans ?_
  have hinf' := hinf
  by_cases h : inB w m n
  case neg =>
    rw [badN_out h, hinf]
    have w := badB h
    clear h
    rcases w with (w | w) | ⟨w1, w | w⟩ | ⟨w1, w2, w | w⟩ | ⟨w1, w2, w3, w⟩
    all_goals
      unfold a12
      simp (config := { maxSteps := 10000000 }) (disch := omega) only [↓G_seq, ↓G_ret, ↓G_region, ↓G_cond, ↓G_ops_nil, ↓G_op, Gv_some, ↓G_gop, Gw_ff, Gw_ft, Gc_true, dec_t, dec_f, killAll, ↓get_setS, evalOp, ev, evs, Ab.get, b_gtr, one, Option.map_some, Option.bind_some, asB, finish, resVs, resV, outVs, ownsLast, tupOf, callV, V.shift, V.shifts, List.append_nil, List.all_nil, List.getElem?_cons_zero, List.getElem?_cons_succ, Nat.reduceEqDiff, reduceCtorEq, ↓reduceIte, Nat.succ_ne_self, Bool.not_true, Bool.not_false, bne_self_eq_false, Bool.false_eq_true, ti_bool, ov_int, fn_some, c25]
  unfold badN
  rw [if_neg (fun z => z h)]
  have hA : (100 * (n - w)).tdiv (n - m + 1) = qA w m n := rfl
  have hB : (100 * (w - n)).tdiv (n + 1) = qB w n := rfl
  by_cases h2 : w < n
  · have q := qA_in h h2
    have s := sqA q
    rw [if_pos h2]
    unfold inB at h
    obtain ⟨i1, i2, i3, i4⟩ := h
    generalize qA w m n = x at *
    generalize hxx : 100 * x * x = y at *
    unfold a12
    simp (config := { maxSteps := 10000000 }) (disch := omega) only [↓G_seq, ↓G_skip, ↓G_ret, ↓G_region, ↓G_cond, ↓G_ops_nil, ↓G_op, Gv_some, ↓G_gop, Gw_ff, Gc_true, Gc_false, dec_t, dec_f, killAll, ↓get_setS, evalOp, ev, evs, Ab.get, b_add, b_sub, b_mul, b_gtr, b_quo, wrap_i64, one, Option.map_some, Option.bind_some, asB, finish, resVs, resV, outVs, ownsLast, tupOf, callV, V.shift, V.shifts, List.append_nil, List.all_nil, List.getElem?_cons_zero, List.getElem?_cons_succ, Nat.reduceEqDiff, reduceCtorEq, ↓reduceIte, Nat.succ_ne_self, Bool.not_true, bne_self_eq_false, Bool.false_eq_true, ti_bool, ov_int, fn_some, c25, hA, hxx]
  · have q := qB_in h (by omega)
    rw [if_neg h2]
    unfold inB at h
    obtain ⟨i1, i2, i3, i4⟩ := h
    generalize qB w n = x at *
    unfold cap
    by_cases c : 10000 < x
    · rw [if_pos c]
      have e : (if x < 10000 then x else 10000) = 10000 := if_neg (by omega)
      unfold a12
      simp (config := { maxSteps := 10000000 }) (disch := omega) only [↓G_seq, ↓G_skip, ↓G_ret, ↓G_region, ↓G_cond, ↓G_ops_nil, ↓G_op, Gv_some, ↓G_gop, Gw_ff, Gc_false, dec_t, dec_f, killAll, ↓get_setS, evalOp, ev, evs, Ab.get, b_add, b_sub, b_mul, b_gtr, b_quo, wrap_i64, one, Option.map_some, Option.bind_some, asB, finish, resVs, resV, outVs, ownsLast, tupOf, callV, V.shift, V.shifts, List.append_nil, List.all_nil, List.getElem?_cons_zero, List.getElem?_cons_succ, Nat.reduceEqDiff, reduceCtorEq, ↓reduceIte, Nat.succ_ne_self, Bool.not_true, bne_self_eq_false, Bool.false_eq_true, Int.reduceMul, mmV, Nat.reduceMul, ti_bool, ov_int, fn_some, c25, hB, e]
    · rw [if_neg c]
      have s := sqB (x := x) (by omega)
      generalize hxx : x * x = y at *
      by_cases c2 : x < 10000
      · have e : (if x < 10000 then x else 10000) = x := if_pos c2
        unfold a12
        simp (config := { maxSteps := 10000000 }) (disch := omega) only [↓G_seq, ↓G_skip, ↓G_ret, ↓G_region, ↓G_cond, ↓G_ops_nil, ↓G_op, Gv_some, ↓G_gop, Gw_ff, Gc_false, dec_t, dec_f, killAll, ↓get_setS, evalOp, ev, evs, Ab.get, b_add, b_sub, b_mul, b_gtr, b_quo, wrap_i64, one, Option.map_some, Option.bind_some, asB, finish, resVs, resV, outVs, ownsLast, tupOf, callV, V.shift, V.shifts, List.append_nil, List.all_nil, List.getElem?_cons_zero, List.getElem?_cons_succ, Nat.reduceEqDiff, reduceCtorEq, ↓reduceIte, Nat.succ_ne_self, Bool.not_true, bne_self_eq_false, Bool.false_eq_true, mmV, ti_bool, ov_int, fn_some, c25, hB, hxx, e]
      · obtain rfl : x = 10000 := by omega
        unfold a12
        simp (config := { maxSteps := 10000000 }) (disch := omega) only [↓G_seq, ↓G_skip, ↓G_ret, ↓G_region, ↓G_cond, ↓G_ops_nil, ↓G_op, Gv_some, ↓G_gop, Gw_ff, Gc_false, dec_t, dec_f, killAll, ↓get_setS, evalOp, ev, evs, Ab.get, b_add, b_sub, b_mul, b_gtr, b_quo, wrap_i64, one, Option.map_some, Option.bind_some, asB, finish, resVs, resV, outVs, ownsLast, tupOf, callV, V.shift, V.shifts, List.append_nil, List.all_nil, List.getElem?_cons_zero, List.getElem?_cons_succ, Nat.reduceEqDiff, reduceCtorEq, ↓reduceIte, Nat.succ_ne_self, Bool.not_true, bne_self_eq_false, Bool.false_eq_true, Int.reduceLT, mmV, Nat.reduceLT, ti_bool, ov_int, fn_some, c25, hB, hxx]

theorem c10 : call tbl 10 [] H = some (.bool true) := call_of 200 (by kernel_rfl)

/-- The law of badness. -/
theorem l3 (w m n : Int) : call tbl 3 [.i w, .i m, .i n] H = some (.bool true) := by
  refine (call_start (show tbl 3 = some a3 from rfl)).trans ?_
  unfold a3
  simp (config := { maxSteps := 10000000 }) (disch := omega) only [↓G_seq, ↓G_ret, ↓G_region, ↓G_ops_nil, ↓G_op, Gv_some, ↓G_gop, Gw_tt, killAll, ↓get_setS, evalOp, ev, evs, Ab.get, b_eql, one, Option.map_some, Option.bind_some, asB, finish, resVs, resV, outVs, ownsLast, tupOf, callV, V.shift, V.shifts, List.append_nil, List.all_nil, List.getElem?_cons_zero, List.getElem?_cons_succ, Nat.reduceEqDiff, reduceCtorEq, ↓reduceIte, Nat.succ_ne_self, decide_true, bne_self_eq_false, ti_bool, ti_int, ov_bool, fn_some, c10, c11, c12]

end Go.Proofs.Ytdgifbmimfnmlaa

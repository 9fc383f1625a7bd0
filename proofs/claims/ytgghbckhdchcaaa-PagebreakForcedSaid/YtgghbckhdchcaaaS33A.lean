/-
  Page breaks: systems, their check, heights.
-/
import Derived.Test.YtgghbckhdchcaaaFns33
import Derived.Test.YtgghbckhdchcaaaAbSl
import Derived.Test.YtgghbckhdchcaaaAbRow
namespace Go.Proofs.Ytgghbckhdchcaaa
open Go Go.Ab
set_option linter.unusedVariables false
set_option linter.unnecessarySimpa false
set_option linter.unusedSimpArgs false
set_option maxRecDepth 100000
variable {H : List (List Row)}

structure Sy where
  h : Int
  g : Int
  r : Int
  b : Int

def Sy.cells (s : Sy) : List V := [.i s.h, .i s.g, .i s.r, .i s.b]
def E4 (l : List Sy) : List (List V) := l.map Sy.cells
theorem E4_get (l : List Sy) (i : Nat) (s : Sy) (h : l[i]? = some s) : (E4 l)[i]? = some [.i s.h, .i s.g, .i s.r, .i s.b] := by simp [E4, h, Sy.cells]
theorem E4_len (l : List Sy) : (E4 l).length = l.length := by simp [E4]
theorem E4_pure (l : List Sy) : (E4 l).all (fun e => e.all V.pure) = true := by simp [E4, Sy.cells, V.pure]
theorem E4_sub (l : List Sy) (a b : Nat) : ((E4 l).take b).drop a = E4 ((l.take b).drop a) := by simp [E4, List.map_take, List.map_drop]

def I1 (l : List Int) : List (List V) := l.map fun x => [V.i x]
theorem I1_len (l : List Int) : (I1 l).length = l.length := by simp [I1]
theorem I1_pure (l : List Int) : (I1 l).all (fun e => e.all V.pure) = true := by simp [I1, V.pure]
theorem I1_get (l : List Int) (i : Nat) (x : Int) (h : l[i]? = some x) : (I1 l)[i]? = some [.i x] := by simp [I1, h]
theorem I1_app (l : List Int) (x : Int) : I1 l ++ [[.i x]] = I1 (l ++ [x]) := by simp [I1]

/-- The sizes of a system are permitted. -/
def inS (s : Sy) : Prop := (1 ≤ s.h ∧ s.h ≤ 16777216) ∧ (0 ≤ s.g ∧ s.g ≤ 16777216) ∧ (0 ≤ s.r ∧ s.r ≤ 4398046511104)
instance (s : Sy) : Decidable (inS s) := by unfold inS; exact inferInstance
def okS (s : Sy) : Int := if ¬ inS s then 2 else if ¬ (0 ≤ s.b ∧ s.b ≤ 3) then 11 else 0
def errS : List Sy → Int
  | [] => 0
  | s :: t => if okS s ≠ 0 then okS s else errS t
def inPg (ph pt : Int) : Prop := (1 ≤ ph ∧ ph ≤ 16777216) ∧ (0 ≤ pt ∧ pt ≤ 4398046511104)
instance (ph pt : Int) : Decidable (inPg ph pt) := by unfold inPg; exact inferInstance
def errC (l : List Sy) (ph pt : Int) : Int := if 1024 < l.length then 9 else if ¬ inPg ph pt then 2 else errS l

theorem okS_p {s : Sy} (k : ¬ inS s) : okS s = 2 := by unfold okS; rw [if_pos k]
theorem okS_k {s : Sy} (k : inS s) (j : ¬ (0 ≤ s.b ∧ s.b ≤ 3)) : okS s = 11 := by unfold okS; rw [if_neg (fun z => z k), if_pos j]
theorem okS_ok {s : Sy} (k : inS s) (j : 0 ≤ s.b ∧ s.b ≤ 3) : okS s = 0 := by unfold okS; rw [if_neg (fun z => z k), if_neg (fun z => z j)]
theorem errS_e {e : Int} {s : Sy} {t : List Sy} (h : okS s = e) (he : e ≠ 0) : errS (s :: t) = e := by
  unfold errS
  rw [h, if_pos he]
theorem errS_0 {s : Sy} {t : List Sy} (h : okS s = 0) : errS (s :: t) = errS t := by
  conv => lhs; unfold errS
  rw [h, if_neg (by decide)]
theorem okS_0 {s : Sy} (h : okS s = 0) : inS s ∧ 0 ≤ s.b ∧ s.b ≤ 3 := by
  unfold okS at h
  split at h
  · cases h
  split at h
  · cases h
  · rename_i h1 h2
    exact ⟨Classical.not_not.1 h1, by omega⟩
theorem errS_mem : ∀ (l : List Sy), errS l = 0 → ∀ s ∈ l, inS s ∧ 0 ≤ s.b ∧ s.b ≤ 3
  | [], _, s, hs => by simp at hs
  | x :: t, h, s, hs => by
    unfold errS at h
    split at h
    · contradiction
    · rename_i h1
      rcases List.mem_cons.1 hs with rfl | hs
      · exact okS_0 (Classical.not_not.1 h1)
      · exact errS_mem t h s hs
theorem errC_ok {l : List Sy} {ph pt : Int} (h : errC l ph pt = 0) : l.length ≤ 1024 ∧ inPg ph pt ∧ errS l = 0 := by
  unfold errC at h
  split at h
  · cases h
  split at h
  · cases h
  · rename_i h1 h2
    exact ⟨by omega, Classical.not_not.1 h2, h⟩

/-- Which of the sizes is not permitted, the first. -/
theorem badS {s : Sy} (h : ¬ inS s) : (s.h < 1 ∨ 16777216 < s.h) ∨ ((1 ≤ s.h ∧ s.h ≤ 16777216) ∧ (s.g < 0 ∨ 16777216 < s.g)) ∨ ((1 ≤ s.h ∧ s.h ≤ 16777216) ∧ (0 ≤ s.g ∧ s.g ≤ 16777216) ∧ (s.r < 0 ∨ 4398046511104 < s.r)) := by
  unfold inS at h
  omega
theorem badPg {ph pt : Int} (h : ¬ inPg ph pt) : (ph < 1 ∨ 16777216 < ph) ∨ ((1 ≤ ph ∧ ph ≤ 16777216) ∧ (pt < 0 ∨ 4398046511104 < pt)) := by
  unfold inPg at h
  omega

theorem loop12 {k : List KI} {v : V} {l : List Sy} (hl : l.length ≤ 1024) (hv : SlV 4 v (E4 l))
    (hx : ∀ fr' L', Gx tbl H [.tmp 4] 1 k fr' L' = some (.i 0)) :
    ∀ (t : List Sy) (i : Nat) (fr : List V) (L : List Row), l.drop i = t → i ≤ l.length → Ab.get fr 30 = v → Ab.get fr 31 = .i (l.length : Nat) → Ab.get fr 32 = .i (i : Nat) →
    G tbl H [.tmp 4] (.code (.loop ( (.seq ( .region [] [ ⟨some 33, .bin .lss (.t 32) (.t 31), none⟩]) ( (.seq ( (.cond (.t 33) ( .skip) ( .exit 1))) ( (.seq ( (.block 2 ( (.seq ( .region [] [ ⟨some 34, .elemAddr 4 (.t 30) (.t 32), none⟩, ⟨some 35, .load true 4 (.t 34), none⟩, ⟨some 6, .alloc 2 [(.int .i64 0), (.int .i64 0), (.int .i64 0), (.int .i64 0)], none⟩, ⟨none, .store 4 (.t 6) (.t 35), none⟩]) ( (.block 3 ( (.seq ( .region [] [ ⟨some 37, .fieldAddr 0 (.t 6), none⟩, ⟨some 38, .load false 1 (.t 37), none⟩, ⟨some 39, .bin .lss (.t 38) (.c (.int .i64 1)), none⟩, ⟨some 40, .mv (.t 39), none⟩, ⟨some 41, .fieldAddr 0 (.t 6), some (40, false)⟩, ⟨some 42, .load false 1 (.t 41), some (40, false)⟩, ⟨some 43, .bin .gtr (.t 42) (.c (.int .i64 16777216)), some (40, false)⟩, ⟨some 44, .pick (.t 40) (.c (.bool true)) (.t 43), none⟩, ⟨some 45, .mv (.t 44), none⟩, ⟨some 46, .fieldAddr 1 (.t 6), some (45, false)⟩, ⟨some 47, .load false 1 (.t 46), some (45, false)⟩, ⟨some 48, .bin .lss (.t 47) (.c (.int .i64 0)), some (45, false)⟩, ⟨some 49, .pick (.t 45) (.c (.bool true)) (.t 48), none⟩, ⟨some 50, .mv (.t 49), none⟩, ⟨some 51, .fieldAddr 1 (.t 6), some (50, false)⟩, ⟨some 52, .load false 1 (.t 51), some (50, false)⟩, ⟨some 53, .bin .gtr (.t 52) (.c (.int .i64 16777216)), some (50, false)⟩, ⟨some 54, .pick (.t 50) (.c (.bool true)) (.t 53), none⟩, ⟨some 55, .mv (.t 54), none⟩, ⟨some 56, .fieldAddr 2 (.t 6), some (55, false)⟩, ⟨some 57, .load false 1 (.t 56), some (55, false)⟩, ⟨some 58, .bin .lss (.t 57) (.c (.int .i64 0)), some (55, false)⟩, ⟨some 59, .pick (.t 55) (.c (.bool true)) (.t 58), none⟩, ⟨some 60, .mv (.t 59), none⟩, ⟨some 61, .fieldAddr 2 (.t 6), some (60, false)⟩, ⟨some 62, .load false 1 (.t 61), some (60, false)⟩, ⟨some 63, .bin .gtr (.t 62) (.c (.int .i64 4398046511104)), some (60, false)⟩, ⟨some 64, .pick (.t 60) (.c (.bool true)) (.t 63), none⟩, ⟨some 36, .mv (.t 64), none⟩]) ( (.cond (.t 36) ( (.seq ( .region [] [ ⟨some 4, .mv (.c (.int .i64 2)), none⟩]) ( .ret))) ( (.seq ( .region [] [ ⟨some 66, .fieldAddr 3 (.t 6), none⟩, ⟨some 67, .load false 1 (.t 66), none⟩, ⟨some 68, .bin .lss (.t 67) (.c (.int .i64 0)), none⟩, ⟨some 69, .mv (.t 68), none⟩, ⟨some 70, .fieldAddr 3 (.t 6), some (69, false)⟩, ⟨some 71, .load false 1 (.t 70), some (69, false)⟩, ⟨some 72, .bin .gtr (.t 71) (.c (.int .i64 3)), some (69, false)⟩, ⟨some 73, .pick (.t 69) (.c (.bool true)) (.t 72), none⟩, ⟨some 65, .mv (.t 73), none⟩]) ( (.cond (.t 65) ( (.seq ( .region [] [ ⟨some 4, .mv (.c (.int .i64 11)), none⟩]) ( .ret))) ( .skip))))))))))))))) ( .region [] [ ⟨some 74, .bin .add (.t 32) (.c (.int .i64 1)), none⟩, ⟨some 32, .mv (.t 74), none⟩])))))))) :: k) fr L = some (.i (errS t)) := by
  intro t
  induction t with
  | nil =>
    intro i fr L ht hi h30 h31 h32
    have := drop_nil ht
    refine G_loop.trans ?_
    simp (config := { maxSteps := 10000000 }) (disch := omega) only [↓G_seq, ↓G_exit, ↓G_region, ↓G_cond, ↓Gx_code, ↓G_ops_nil, ↓G_op, Gv_some, Gc_false, dec_f, killAll, ↓get_setS, evalOp, ev, b_lss, one, Option.map_some, List.getElem?_cons_zero, List.getElem?_cons_succ, ↓reduceIte, h31, h32, hx, errS]
  | cons s t ih =>
    intro i fr L ht hi h30 h31 h32
    obtain ⟨e1, e2, e3⟩ := drop_cons ht
    have hE := hv.el (E4_get l i s e1)
    have next : ∀ fr' L', Ab.get fr' 30 = v → Ab.get fr' 31 = .i (l.length : Nat) → Ab.get fr' 32 = .i ((i : Nat) + 1) → G tbl H [.tmp 4] (.code (.loop ( (.seq ( .region [] [ ⟨some 33, .bin .lss (.t 32) (.t 31), none⟩]) ( (.seq ( (.cond (.t 33) ( .skip) ( .exit 1))) ( (.seq ( (.block 2 ( (.seq ( .region [] [ ⟨some 34, .elemAddr 4 (.t 30) (.t 32), none⟩, ⟨some 35, .load true 4 (.t 34), none⟩, ⟨some 6, .alloc 2 [(.int .i64 0), (.int .i64 0), (.int .i64 0), (.int .i64 0)], none⟩, ⟨none, .store 4 (.t 6) (.t 35), none⟩]) ( (.block 3 ( (.seq ( .region [] [ ⟨some 37, .fieldAddr 0 (.t 6), none⟩, ⟨some 38, .load false 1 (.t 37), none⟩, ⟨some 39, .bin .lss (.t 38) (.c (.int .i64 1)), none⟩, ⟨some 40, .mv (.t 39), none⟩, ⟨some 41, .fieldAddr 0 (.t 6), some (40, false)⟩, ⟨some 42, .load false 1 (.t 41), some (40, false)⟩, ⟨some 43, .bin .gtr (.t 42) (.c (.int .i64 16777216)), some (40, false)⟩, ⟨some 44, .pick (.t 40) (.c (.bool true)) (.t 43), none⟩, ⟨some 45, .mv (.t 44), none⟩, ⟨some 46, .fieldAddr 1 (.t 6), some (45, false)⟩, ⟨some 47, .load false 1 (.t 46), some (45, false)⟩, ⟨some 48, .bin .lss (.t 47) (.c (.int .i64 0)), some (45, false)⟩, ⟨some 49, .pick (.t 45) (.c (.bool true)) (.t 48), none⟩, ⟨some 50, .mv (.t 49), none⟩, ⟨some 51, .fieldAddr 1 (.t 6), some (50, false)⟩, ⟨some 52, .load false 1 (.t 51), some (50, false)⟩, ⟨some 53, .bin .gtr (.t 52) (.c (.int .i64 16777216)), some (50, false)⟩, ⟨some 54, .pick (.t 50) (.c (.bool true)) (.t 53), none⟩, ⟨some 55, .mv (.t 54), none⟩, ⟨some 56, .fieldAddr 2 (.t 6), some (55, false)⟩, ⟨some 57, .load false 1 (.t 56), some (55, false)⟩, ⟨some 58, .bin .lss (.t 57) (.c (.int .i64 0)), some (55, false)⟩, ⟨some 59, .pick (.t 55) (.c (.bool true)) (.t 58), none⟩, ⟨some 60, .mv (.t 59), none⟩, ⟨some 61, .fieldAddr 2 (.t 6), some (60, false)⟩, ⟨some 62, .load false 1 (.t 61), some (60, false)⟩, ⟨some 63, .bin .gtr (.t 62) (.c (.int .i64 4398046511104)), some (60, false)⟩, ⟨some 64, .pick (.t 60) (.c (.bool true)) (.t 63), none⟩, ⟨some 36, .mv (.t 64), none⟩]) ( (.cond (.t 36) ( (.seq ( .region [] [ ⟨some 4, .mv (.c (.int .i64 2)), none⟩]) ( .ret))) ( (.seq ( .region [] [ ⟨some 66, .fieldAddr 3 (.t 6), none⟩, ⟨some 67, .load false 1 (.t 66), none⟩, ⟨some 68, .bin .lss (.t 67) (.c (.int .i64 0)), none⟩, ⟨some 69, .mv (.t 68), none⟩, ⟨some 70, .fieldAddr 3 (.t 6), some (69, false)⟩, ⟨some 71, .load false 1 (.t 70), some (69, false)⟩, ⟨some 72, .bin .gtr (.t 71) (.c (.int .i64 3)), some (69, false)⟩, ⟨some 73, .pick (.t 69) (.c (.bool true)) (.t 72), none⟩, ⟨some 65, .mv (.t 73), none⟩]) ( (.cond (.t 65) ( (.seq ( .region [] [ ⟨some 4, .mv (.c (.int .i64 11)), none⟩]) ( .ret))) ( .skip))))))))))))))) ( .region [] [ ⟨some 74, .bin .add (.t 32) (.c (.int .i64 1)), none⟩, ⟨some 32, .mv (.t 74), none⟩])))))))) :: k) fr' L' = some (.i (errS t)) := by
      intro fr' L' g30 g31 g32
      exact ih (i + 1) fr' L' e2 (by omega) g30 g31 (by rw [g32]; congr 1)
    clear ih hx
    refine G_loop.trans ?_
    by_cases c1 : inS s
    case neg =>
      rw [errS_e (okS_p c1) (by decide)]
      have w := badS c1
      clear c1 next
      rcases w with (w | w) | ⟨w1, w | w⟩ | ⟨w1, w2, w | w⟩
      all_goals simp (config := { maxSteps := 10000000 }) (disch := omega) only [↓G_seq, ↓G_skip, ↓G_ret, ↓G_region, ↓G_block, ↓G_cond, ↓G_ops_nil, ↓G_op, Gv_some, ↓G_gop, Gw_ff, Gw_ft, Gc_true, dec_t, dec_f, killAll, ↓get_setS, ↓get_setN, evalOp, ev, rget_rset, b_lss, b_gtr, one, Option.map_some, Option.bind_some, asB, finish, resVs, resV, outVs, ownsLast, tupOf, V.shift, List.nil_append, List.cons_append, List.all_cons, List.all_nil, Bool.and_self, List.getElem?_cons_zero, List.getElem?_cons_succ, Nat.reduceEqDiff, ↓reduceIte, Nat.succ_ne_self, Bool.false_eq_true, Int.reduceAdd, pick3, V.cells, splice, addOff, loadV, storeV, Ab.rowAt, V.scalar, Nat.reduceAdd, and_self, List.length_cons, List.length_nil, List.take_succ_cons, List.take_zero, List.drop_succ_cons, List.drop_zero, Nat.le_refl, List.set_cons_zero, List.getD_cons_zero, Nat.zero_add, Nat.add_zero, ov_int, fn_some, h30, h31, h32, hE, rset_rset, Nat.zero_lt_succ]
    have c1' := c1
    obtain ⟨q1, q2, q3⟩ := c1
    by_cases c2 : 0 ≤ s.b ∧ s.b ≤ 3
    case neg =>
      rw [errS_e (okS_k c1' c2) (by decide)]
      have w : s.b < 0 ∨ 3 < s.b := by omega
      clear c2 next
      rcases w with w | w
      all_goals simp (config := { maxSteps := 10000000 }) (disch := omega) only [↓G_seq, ↓G_skip, ↓G_ret, ↓G_region, ↓G_block, ↓G_cond, ↓G_ops_nil, ↓G_op, Gv_some, ↓G_gop, Gw_ff, Gw_ft, Gc_true, Gc_false, dec_t, dec_f, killAll, ↓get_setS, ↓get_setN, evalOp, ev, rget_rset, b_lss, b_gtr, one, Option.map_some, Option.bind_some, asB, finish, resVs, resV, outVs, ownsLast, tupOf, V.shift, List.nil_append, List.cons_append, List.all_cons, List.all_nil, Bool.and_self, List.getElem?_cons_zero, List.getElem?_cons_succ, Nat.reduceEqDiff, ↓reduceIte, Nat.succ_ne_self, Bool.false_eq_true, Int.reduceAdd, pick3, V.cells, splice, addOff, loadV, storeV, Ab.rowAt, V.scalar, Nat.reduceAdd, and_self, List.length_cons, List.length_nil, List.take_succ_cons, List.take_zero, List.drop_succ_cons, List.drop_zero, Nat.le_refl, List.set_cons_zero, List.getD_cons_zero, Nat.zero_add, Nat.add_zero, ov_int, fn_some, h30, h31, h32, hE, rset_rset, Nat.zero_lt_succ]
    rw [errS_0 (okS_ok c1' c2)]
    simp (config := { maxSteps := 10000000 }) (disch := omega) only [↓G_seq, ↓G_skip, ↓G_blk, ↓G_region, ↓G_block, ↓G_cond, ↓G_ops_nil, ↓G_op, Gv_some, ↓G_gop, Gw_ff, Gc_true, Gc_false, dec_t, dec_f, killAll, ↓get_setS, ↓get_setN, evalOp, ev, rget_rset, b_add, b_lss, b_gtr, wrap_i64, one, Option.map_some, Option.bind_some, asB, V.shift, List.nil_append, List.cons_append, List.all_cons, List.all_nil, Bool.and_self, List.getElem?_cons_zero, List.getElem?_cons_succ, Nat.reduceEqDiff, ↓reduceIte, Nat.succ_ne_self, Bool.false_eq_true, Int.reduceAdd, pick3, V.cells, splice, addOff, loadV, storeV, Ab.rowAt, V.scalar, Nat.reduceAdd, and_self, List.length_cons, List.length_nil, List.take_succ_cons, List.take_zero, List.drop_succ_cons, List.drop_zero, Nat.le_refl, List.set_cons_zero, List.getD_cons_zero, Nat.zero_add, Nat.add_zero, h30, h31, h32, hE, rset_rset, Nat.zero_lt_succ]
    refine next _ _ ?_ ?_ ?_
    all_goals simp (config := { maxSteps := 10000000 }) (disch := omega) only [↓get_setS, ↓get_setN, List.getElem?_cons_zero, List.getElem?_cons_succ, Nat.reduceEqDiff, ↓reduceIte, Nat.succ_ne_self, h30, h31]

theorem c12 {v : V} {l : List Sy} {ph pt : Int} (hm : l.length ≤ 9223372036854775807) (hv : SlV 4 v (E4 l)) : call tbl 12 [v, .agg [.i ph, .i pt]] H = some (.i (errC l ph pt)) := by
  refine (call_start (show tbl 12 = some a12 from rfl)).trans ?_
  have hlen := hv.len
  rw [E4_len] at hlen
  unfold errC
  by_cases h1 : 1024 < l.length
  · rw [if_pos h1]
    unfold a12
    simp (config := { maxSteps := 10000000 }) (disch := omega) only [↓G_seq, ↓G_ret, ↓G_region, ↓G_block, ↓G_cond, ↓G_ops_nil, ↓G_op, Gv_some, Gc_true, dec_t, killAll, ↓get_setS, evalOp, ev, Ab.get, b_gtr, one, Option.map_some, Option.bind_some, finish, resVs, resV, outVs, ownsLast, tupOf, List.all_cons, List.all_nil, Bool.and_self, List.getElem?_cons_zero, List.getElem?_cons_succ, reduceCtorEq, ↓reduceIte, Int.reduceAdd, V.cells, rget, rset, V.scalar, Nat.reduceAdd, and_self, List.length_cons, List.length_nil, Nat.zero_add, ov_int, fn_some, hlen]
    done
  rw [if_neg h1]
  by_cases h2 : inPg ph pt
  case neg =>
    rw [if_pos h2]
    have w := badPg h2
    clear h2
    rcases w with (w | w) | ⟨w1, w | w⟩
    all_goals
      unfold a12
      simp (config := { maxSteps := 10000000 }) (disch := omega) only [↓G_seq, ↓G_ret, ↓G_region, ↓G_block, ↓G_cond, ↓G_ops_nil, ↓G_op, Gv_some, ↓G_gop, Gw_ff, Gw_ft, Gc_true, Gc_false, dec_t, dec_f, killAll, ↓get_setS, evalOp, ev, Ab.get, b_lss, b_gtr, one, Option.map_some, Option.bind_some, asB, finish, resVs, resV, outVs, ownsLast, tupOf, V.shift, List.all_cons, List.all_nil, Bool.and_self, List.getElem?_cons_zero, List.getElem?_cons_succ, Nat.reduceEqDiff, reduceCtorEq, ↓reduceIte, Nat.succ_ne_self, Bool.false_eq_true, Int.reduceAdd, pick3, V.cells, addOff, loadV, Ab.rowAt, rget, rset, V.scalar, Nat.reduceAdd, and_self, List.length_cons, List.length_nil, List.getD_cons_zero, Nat.zero_add, Nat.add_zero, ov_int, fn_some, hlen, Nat.zero_lt_succ]
  rw [if_neg (fun z => z h2)]
  obtain ⟨q1, q2⟩ := h2
  unfold a12
  simp (config := { maxSteps := 10000000 }) (disch := omega) only [↓G_seq, ↓G_skip, ↓G_blk, ↓G_region, ↓G_block, ↓G_cond, ↓G_ops_nil, ↓G_op, Gv_some, ↓G_gop, Gw_ff, Gc_false, dec_f, killAll, ↓get_setS, evalOp, ev, Ab.get, b_lss, b_gtr, one, Option.map_some, Option.bind_some, asB, V.shift, List.all_cons, List.all_nil, Bool.and_self, List.getElem?_cons_zero, List.getElem?_cons_succ, Nat.reduceEqDiff, reduceCtorEq, ↓reduceIte, Nat.succ_ne_self, Bool.false_eq_true, Int.reduceAdd, pick3, V.cells, addOff, loadV, Ab.rowAt, rget, rset, V.scalar, Nat.reduceAdd, and_self, List.length_cons, List.length_nil, List.getD_cons_zero, Nat.zero_add, Nat.add_zero, hlen, Nat.zero_lt_succ]
  refine loop12 (l := l) (by omega) hv (fun fr' L' => ?_) l 0 _ _ rfl (by omega) ?_ ?_ ?_
  all_goals simp (config := { maxSteps := 10000000 }) (disch := omega) only [↓G_seq, ↓G_ret, ↓G_region, ↓Gx_blk, ↓G_ops_nil, ↓G_op, Gv_some, killAll, ↓get_setS, evalOp, ev, Option.map_some, Option.bind_some, finish, resVs, resV, outVs, ownsLast, tupOf, List.all_nil, List.getElem?_cons_zero, List.getElem?_cons_succ, Nat.reduceEqDiff, ↓reduceIte, Nat.succ_ne_self, Int.cast_ofNat_Int, ov_int, fn_some]

theorem loop13 {k : List KI} {v : V} {l : List Sy} (hl : l.length ≤ 1024) (hv : SlV 4 v (E4 l))
    (hx : ∀ fr' L', Gx tbl H [.tmp 4] 1 k fr' L' = some (.i 0)) :
    ∀ (t : List Sy) (i : Nat) (fr : List V) (L : List Row), l.drop i = t → i ≤ l.length → Ab.get fr 0 = v → Ab.get fr 5 = .i (i : Nat) →
    G tbl H [.tmp 4] (.code (.loop ( (.seq ( (.seq ( .region [] [ ⟨some 30, .mv (.t 5), none⟩, ⟨some 31, .mv (.t 0), none⟩, ⟨some 32, .len (.t 31), none⟩, ⟨some 33, .bin .lss (.t 30) (.t 32), none⟩]) ( (.cond (.t 33) ( .skip) ( .exit 1))))) ( (.seq ( (.block 2 ( (.seq ( .region [] [ ⟨some 36, .mv (.t 0), none⟩, ⟨some 37, .mv (.t 5), none⟩, ⟨some 38, .elemAddr 4 (.t 36) (.t 37), none⟩, ⟨some 39, .load true 4 (.t 38), none⟩, ⟨some 6, .alloc 2 [(.int .i64 0), (.int .i64 0), (.int .i64 0), (.int .i64 0)], none⟩, ⟨none, .store 4 (.t 6) (.t 39), none⟩]) ( (.seq ( (.seq ( .region [] [ ⟨some 40, .fieldAddr 0 (.t 6), none⟩, ⟨some 41, .load false 1 (.t 40), none⟩, ⟨some 42, .bin .lss (.t 41) (.c (.int .i64 1)), none⟩, ⟨some 43, .mv (.t 42), none⟩, ⟨some 44, .fieldAddr 0 (.t 6), some (43, false)⟩, ⟨some 45, .load false 1 (.t 44), some (43, false)⟩, ⟨some 46, .bin .gtr (.t 45) (.c (.int .i64 16777216)), some (43, false)⟩, ⟨some 47, .pick (.t 43) (.c (.bool true)) (.t 46), none⟩, ⟨some 48, .mv (.t 47), none⟩, ⟨some 49, .fieldAddr 1 (.t 6), some (48, false)⟩, ⟨some 50, .load false 1 (.t 49), some (48, false)⟩, ⟨some 51, .bin .lss (.t 50) (.c (.int .i64 0)), some (48, false)⟩, ⟨some 52, .pick (.t 48) (.c (.bool true)) (.t 51), none⟩, ⟨some 53, .mv (.t 52), none⟩, ⟨some 54, .fieldAddr 1 (.t 6), some (53, false)⟩, ⟨some 55, .load false 1 (.t 54), some (53, false)⟩, ⟨some 56, .bin .gtr (.t 55) (.c (.int .i64 16777216)), some (53, false)⟩, ⟨some 57, .pick (.t 53) (.c (.bool true)) (.t 56), none⟩, ⟨some 58, .mv (.t 57), none⟩, ⟨some 59, .fieldAddr 2 (.t 6), some (58, false)⟩, ⟨some 60, .load false 1 (.t 59), some (58, false)⟩, ⟨some 61, .bin .lss (.t 60) (.c (.int .i64 0)), some (58, false)⟩, ⟨some 62, .pick (.t 58) (.c (.bool true)) (.t 61), none⟩, ⟨some 63, .mv (.t 62), none⟩, ⟨some 64, .fieldAddr 2 (.t 6), some (63, false)⟩, ⟨some 65, .load false 1 (.t 64), some (63, false)⟩, ⟨some 66, .bin .gtr (.t 65) (.c (.int .i64 4398046511104)), some (63, false)⟩, ⟨some 67, .pick (.t 63) (.c (.bool true)) (.t 66), none⟩]) ( (.cond (.t 67) ( (.seq ( .region [] [ ⟨some 4, .mv (.c (.int .i64 2)), none⟩]) ( .ret))) ( .skip))))) ( (.seq ( .region [] [ ⟨some 68, .fieldAddr 3 (.t 6), none⟩, ⟨some 69, .load false 1 (.t 68), none⟩, ⟨some 70, .bin .lss (.t 69) (.c (.int .i64 0)), none⟩, ⟨some 71, .mv (.t 70), none⟩, ⟨some 72, .fieldAddr 3 (.t 6), some (71, false)⟩, ⟨some 73, .load false 1 (.t 72), some (71, false)⟩, ⟨some 74, .bin .gtr (.t 73) (.c (.int .i64 3)), some (71, false)⟩, ⟨some 75, .pick (.t 71) (.c (.bool true)) (.t 74), none⟩]) ( (.cond (.t 75) ( (.seq ( .region [] [ ⟨some 4, .mv (.c (.int .i64 11)), none⟩]) ( .ret))) ( .skip))))))))))) ( .region [] [ ⟨some 34, .mv (.t 5), none⟩, ⟨some 35, .bin .add (.t 34) (.c (.int .i64 1)), none⟩, ⟨some 5, .mv (.t 35), none⟩])))))) :: k) fr L = some (.i (errS t)) := by
  intro t
  have hlen := hv.len
  rw [E4_len] at hlen
  induction t with
  | nil =>
    intro i fr L ht hi h0 h5
    have := drop_nil ht
    refine G_loop.trans ?_
    simp (config := { maxSteps := 10000000 }) (disch := omega) only [↓G_seq, ↓G_exit, ↓G_region, ↓G_cond, ↓Gx_code, ↓G_ops_nil, ↓G_op, Gv_some, Gc_false, dec_f, killAll, ↓get_setS, evalOp, ev, b_lss, one, Option.map_some, List.getElem?_cons_zero, List.getElem?_cons_succ, Nat.reduceEqDiff, reduceCtorEq, ↓reduceIte, Nat.succ_ne_self, h0, h5, hlen, hx, errS]
  | cons s t ih =>
    intro i fr L ht hi h0 h5
    obtain ⟨e1, e2, e3⟩ := drop_cons ht
    have hE := hv.el (E4_get l i s e1)
    have next : ∀ fr' L', Ab.get fr' 0 = v → Ab.get fr' 5 = .i ((i : Nat) + 1) → G tbl H [.tmp 4] (.code (.loop ( (.seq ( (.seq ( .region [] [ ⟨some 30, .mv (.t 5), none⟩, ⟨some 31, .mv (.t 0), none⟩, ⟨some 32, .len (.t 31), none⟩, ⟨some 33, .bin .lss (.t 30) (.t 32), none⟩]) ( (.cond (.t 33) ( .skip) ( .exit 1))))) ( (.seq ( (.block 2 ( (.seq ( .region [] [ ⟨some 36, .mv (.t 0), none⟩, ⟨some 37, .mv (.t 5), none⟩, ⟨some 38, .elemAddr 4 (.t 36) (.t 37), none⟩, ⟨some 39, .load true 4 (.t 38), none⟩, ⟨some 6, .alloc 2 [(.int .i64 0), (.int .i64 0), (.int .i64 0), (.int .i64 0)], none⟩, ⟨none, .store 4 (.t 6) (.t 39), none⟩]) ( (.seq ( (.seq ( .region [] [ ⟨some 40, .fieldAddr 0 (.t 6), none⟩, ⟨some 41, .load false 1 (.t 40), none⟩, ⟨some 42, .bin .lss (.t 41) (.c (.int .i64 1)), none⟩, ⟨some 43, .mv (.t 42), none⟩, ⟨some 44, .fieldAddr 0 (.t 6), some (43, false)⟩, ⟨some 45, .load false 1 (.t 44), some (43, false)⟩, ⟨some 46, .bin .gtr (.t 45) (.c (.int .i64 16777216)), some (43, false)⟩, ⟨some 47, .pick (.t 43) (.c (.bool true)) (.t 46), none⟩, ⟨some 48, .mv (.t 47), none⟩, ⟨some 49, .fieldAddr 1 (.t 6), some (48, false)⟩, ⟨some 50, .load false 1 (.t 49), some (48, false)⟩, ⟨some 51, .bin .lss (.t 50) (.c (.int .i64 0)), some (48, false)⟩, ⟨some 52, .pick (.t 48) (.c (.bool true)) (.t 51), none⟩, ⟨some 53, .mv (.t 52), none⟩, ⟨some 54, .fieldAddr 1 (.t 6), some (53, false)⟩, ⟨some 55, .load false 1 (.t 54), some (53, false)⟩, ⟨some 56, .bin .gtr (.t 55) (.c (.int .i64 16777216)), some (53, false)⟩, ⟨some 57, .pick (.t 53) (.c (.bool true)) (.t 56), none⟩, ⟨some 58, .mv (.t 57), none⟩, ⟨some 59, .fieldAddr 2 (.t 6), some (58, false)⟩, ⟨some 60, .load false 1 (.t 59), some (58, false)⟩, ⟨some 61, .bin .lss (.t 60) (.c (.int .i64 0)), some (58, false)⟩, ⟨some 62, .pick (.t 58) (.c (.bool true)) (.t 61), none⟩, ⟨some 63, .mv (.t 62), none⟩, ⟨some 64, .fieldAddr 2 (.t 6), some (63, false)⟩, ⟨some 65, .load false 1 (.t 64), some (63, false)⟩, ⟨some 66, .bin .gtr (.t 65) (.c (.int .i64 4398046511104)), some (63, false)⟩, ⟨some 67, .pick (.t 63) (.c (.bool true)) (.t 66), none⟩]) ( (.cond (.t 67) ( (.seq ( .region [] [ ⟨some 4, .mv (.c (.int .i64 2)), none⟩]) ( .ret))) ( .skip))))) ( (.seq ( .region [] [ ⟨some 68, .fieldAddr 3 (.t 6), none⟩, ⟨some 69, .load false 1 (.t 68), none⟩, ⟨some 70, .bin .lss (.t 69) (.c (.int .i64 0)), none⟩, ⟨some 71, .mv (.t 70), none⟩, ⟨some 72, .fieldAddr 3 (.t 6), some (71, false)⟩, ⟨some 73, .load false 1 (.t 72), some (71, false)⟩, ⟨some 74, .bin .gtr (.t 73) (.c (.int .i64 3)), some (71, false)⟩, ⟨some 75, .pick (.t 71) (.c (.bool true)) (.t 74), none⟩]) ( (.cond (.t 75) ( (.seq ( .region [] [ ⟨some 4, .mv (.c (.int .i64 11)), none⟩]) ( .ret))) ( .skip))))))))))) ( .region [] [ ⟨some 34, .mv (.t 5), none⟩, ⟨some 35, .bin .add (.t 34) (.c (.int .i64 1)), none⟩, ⟨some 5, .mv (.t 35), none⟩])))))) :: k) fr' L' = some (.i (errS t)) := by
      intro fr' L' g0 g5
      exact ih (i + 1) fr' L' e2 (by omega) g0 (by rw [g5]; congr 1)
    clear ih hx
    refine G_loop.trans ?_
    by_cases c1 : inS s
    case neg =>
      rw [errS_e (okS_p c1) (by decide)]
      have w := badS c1
      clear c1 next
      rcases w with (w | w) | ⟨w1, w | w⟩ | ⟨w1, w2, w | w⟩
      all_goals simp (config := { maxSteps := 10000000 }) (disch := omega) only [↓G_seq, ↓G_skip, ↓G_ret, ↓G_region, ↓G_block, ↓G_cond, ↓G_ops_nil, ↓G_op, Gv_some, ↓G_gop, Gw_ff, Gw_ft, Gc_true, dec_t, dec_f, killAll, ↓get_setS, ↓get_setN, evalOp, ev, rget_rset, b_lss, b_gtr, one, Option.map_some, Option.bind_some, asB, finish, resVs, resV, outVs, ownsLast, tupOf, V.shift, List.nil_append, List.cons_append, List.all_cons, List.all_nil, Bool.and_self, List.getElem?_cons_zero, List.getElem?_cons_succ, Nat.reduceEqDiff, reduceCtorEq, ↓reduceIte, Nat.succ_ne_self, Bool.false_eq_true, Int.reduceAdd, pick3, V.cells, splice, addOff, loadV, storeV, Ab.rowAt, V.scalar, Nat.reduceAdd, and_self, List.length_cons, List.length_nil, List.take_succ_cons, List.take_zero, List.drop_succ_cons, List.drop_zero, Nat.le_refl, List.set_cons_zero, List.getD_cons_zero, Nat.zero_add, Nat.add_zero, ov_int, fn_some, h0, h5, hlen, hE, rset_rset, Nat.zero_lt_succ]
    have c1' := c1
    obtain ⟨q1, q2, q3⟩ := c1
    by_cases c2 : 0 ≤ s.b ∧ s.b ≤ 3
    case neg =>
      rw [errS_e (okS_k c1' c2) (by decide)]
      have w : s.b < 0 ∨ 3 < s.b := by omega
      clear c2 next
      rcases w with w | w
      all_goals simp (config := { maxSteps := 10000000 }) (disch := omega) only [↓G_seq, ↓G_skip, ↓G_ret, ↓G_region, ↓G_block, ↓G_cond, ↓G_ops_nil, ↓G_op, Gv_some, ↓G_gop, Gw_ff, Gw_ft, Gc_true, Gc_false, dec_t, dec_f, killAll, ↓get_setS, ↓get_setN, evalOp, ev, rget_rset, b_lss, b_gtr, one, Option.map_some, Option.bind_some, asB, finish, resVs, resV, outVs, ownsLast, tupOf, V.shift, List.nil_append, List.cons_append, List.all_cons, List.all_nil, Bool.and_self, List.getElem?_cons_zero, List.getElem?_cons_succ, Nat.reduceEqDiff, reduceCtorEq, ↓reduceIte, Nat.succ_ne_self, Bool.false_eq_true, Int.reduceAdd, pick3, V.cells, splice, addOff, loadV, storeV, Ab.rowAt, V.scalar, Nat.reduceAdd, and_self, List.length_cons, List.length_nil, List.take_succ_cons, List.take_zero, List.drop_succ_cons, List.drop_zero, Nat.le_refl, List.set_cons_zero, List.getD_cons_zero, Nat.zero_add, Nat.add_zero, ov_int, fn_some, h0, h5, hlen, hE, rset_rset, Nat.zero_lt_succ]
    rw [errS_0 (okS_ok c1' c2)]
    simp (config := { maxSteps := 10000000 }) (disch := omega) only [↓G_seq, ↓G_skip, ↓G_blk, ↓G_region, ↓G_block, ↓G_cond, ↓G_ops_nil, ↓G_op, Gv_some, ↓G_gop, Gw_ff, Gc_true, Gc_false, dec_t, dec_f, killAll, ↓get_setS, ↓get_setN, evalOp, ev, rget_rset, b_add, b_lss, b_gtr, wrap_i64, one, Option.map_some, Option.bind_some, asB, V.shift, List.nil_append, List.cons_append, List.all_cons, List.all_nil, Bool.and_self, List.getElem?_cons_zero, List.getElem?_cons_succ, Nat.reduceEqDiff, reduceCtorEq, ↓reduceIte, Nat.succ_ne_self, Bool.false_eq_true, Int.reduceAdd, pick3, V.cells, splice, addOff, loadV, storeV, Ab.rowAt, V.scalar, Nat.reduceAdd, and_self, List.length_cons, List.length_nil, List.take_succ_cons, List.take_zero, List.drop_succ_cons, List.drop_zero, Nat.le_refl, List.set_cons_zero, List.getD_cons_zero, Nat.zero_add, Nat.add_zero, h0, h5, hlen, hE, rset_rset, Nat.zero_lt_succ]
    refine next _ _ ?_ ?_
    all_goals simp (config := { maxSteps := 10000000 }) (disch := omega) only [↓get_setS, ↓get_setN, List.getElem?_cons_zero, List.getElem?_cons_succ, reduceCtorEq, ↓reduceIte, h0]

theorem c13 {v : V} {l : List Sy} {ph pt : Int} (hm : l.length ≤ 9223372036854775807) (hv : SlV 4 v (E4 l)) : call tbl 13 [v, .agg [.i ph, .i pt]] H = some (.i (errC l ph pt)) := by
  refine (call_start (show tbl 13 = some a13 from rfl)).trans ?_
  have hlen := hv.len
  rw [E4_len] at hlen
  unfold errC
  by_cases h1 : 1024 < l.length
  · rw [if_pos h1]
    unfold a13
    simp (config := { maxSteps := 10000000 }) (disch := omega) only [↓G_seq, ↓G_ret, ↓G_region, ↓G_block, ↓G_cond, ↓G_ops_nil, ↓G_op, Gv_some, Gc_true, dec_t, killAll, ↓get_setS, evalOp, ev, Ab.get, b_gtr, one, Option.map_some, Option.bind_some, finish, resVs, resV, outVs, ownsLast, tupOf, List.all_cons, List.all_nil, Bool.and_self, List.getElem?_cons_zero, List.getElem?_cons_succ, reduceCtorEq, ↓reduceIte, Int.reduceAdd, V.cells, rget, rset, V.scalar, Nat.reduceAdd, and_self, List.length_cons, List.length_nil, Nat.zero_add, ov_int, fn_some, hlen]
    done
  rw [if_neg h1]
  by_cases h2 : inPg ph pt
  case neg =>
    rw [if_pos h2]
    have w := badPg h2
    clear h2
    rcases w with (w | w) | ⟨w1, w | w⟩
    all_goals
      unfold a13
      simp (config := { maxSteps := 10000000 }) (disch := omega) only [↓G_seq, ↓G_ret, ↓G_region, ↓G_block, ↓G_cond, ↓G_ops_nil, ↓G_op, Gv_some, ↓G_gop, Gw_ff, Gw_ft, Gc_true, Gc_false, dec_t, dec_f, killAll, ↓get_setS, evalOp, ev, Ab.get, b_lss, b_gtr, one, Option.map_some, Option.bind_some, asB, finish, resVs, resV, outVs, ownsLast, tupOf, V.shift, List.all_cons, List.all_nil, Bool.and_self, List.getElem?_cons_zero, List.getElem?_cons_succ, Nat.reduceEqDiff, reduceCtorEq, ↓reduceIte, Nat.succ_ne_self, Bool.false_eq_true, Int.reduceAdd, pick3, V.cells, addOff, loadV, Ab.rowAt, rget, rset, V.scalar, Nat.reduceAdd, and_self, List.length_cons, List.length_nil, List.getD_cons_zero, Nat.zero_add, Nat.add_zero, ov_int, fn_some, hlen, Nat.zero_lt_succ]
  rw [if_neg (fun z => z h2)]
  obtain ⟨q1, q2⟩ := h2
  unfold a13
  simp (config := { maxSteps := 10000000 }) (disch := omega) only [↓G_seq, ↓G_skip, ↓G_blk, ↓G_region, ↓G_block, ↓G_cond, ↓G_ops_nil, ↓G_op, Gv_some, ↓G_gop, Gw_ff, Gc_false, dec_f, killAll, ↓get_setS, evalOp, ev, Ab.get, b_lss, b_gtr, one, Option.map_some, Option.bind_some, asB, V.shift, List.all_cons, List.all_nil, Bool.and_self, List.getElem?_cons_zero, List.getElem?_cons_succ, Nat.reduceEqDiff, reduceCtorEq, ↓reduceIte, Nat.succ_ne_self, Bool.false_eq_true, Int.reduceAdd, pick3, V.cells, addOff, loadV, Ab.rowAt, rget, rset, V.scalar, Nat.reduceAdd, and_self, List.length_cons, List.length_nil, List.getD_cons_zero, Nat.zero_add, Nat.add_zero, hlen, Nat.zero_lt_succ]
  refine loop13 (l := l) (by omega) hv (fun fr' L' => ?_) l 0 _ _ rfl (by omega) ?_ ?_
  all_goals simp (config := { maxSteps := 10000000 }) (disch := omega) only [↓G_seq, ↓G_ret, ↓G_region, ↓Gx_blk, ↓G_ops_nil, ↓G_op, Gv_some, killAll, ↓get_setS, evalOp, ev, Ab.get, Option.map_some, Option.bind_some, finish, resVs, resV, outVs, ownsLast, tupOf, List.all_nil, List.getElem?_cons_zero, List.getElem?_cons_succ, reduceCtorEq, ↓reduceIte, Int.cast_ofNat_Int, ov_int, fn_some]

end Go.Proofs.Ytgghbckhdchcaaa

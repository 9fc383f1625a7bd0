/-
  Page breaks: heights, and the cost of a page.
-/
import Derived.Test.YtgghbckhdchcaaaS33A
namespace Go.Proofs.Ytgghbckhdchcaaa
open Go Go.Ab
set_option linter.unusedVariables false
set_option linter.unnecessarySimpa false
set_option linter.unusedSimpArgs false
set_option maxRecDepth 100000
variable {H : List (List Row)}

def hsum : List Sy → Int
  | [] => 0
  | s :: t => s.g + s.h + hsum t
/-- The least height of systems that lie on a page. -/
def hgt : List Sy → Int
  | [] => 0
  | s :: t => s.h + hsum t
theorem hsum_in : ∀ (l : List Sy), (∀ s ∈ l, inS s) → l.length ≤ hsum l ∧ hsum l ≤ l.length * 33554432
  | [], _ => by simp [hsum]
  | s :: t, h => by
    obtain ⟨h1, h2⟩ := hsum_in t (fun x hx => h x (by simp [hx]))
    have hs := h s (by simp)
    unfold inS at hs
    simp only [hsum, List.length_cons]
    omega
theorem hgt_in (l : List Sy) (h : ∀ s ∈ l, inS s) : l.length ≤ hgt l ∧ hgt l ≤ l.length * 33554432 := by
  cases l with
  | nil => simp [hgt]
  | cons s t =>
    obtain ⟨h1, h2⟩ := hsum_in t (fun x hx => h x (by simp [hx]))
    have hs := h s (by simp)
    unfold inS at hs
    simp only [hgt, List.length_cons]
    omega

theorem loop33 {k : List KI} {v : V} {l : List Sy} {r : Option V} (hl : l.length ≤ 1024) (hin : ∀ s ∈ l, inS s) (hv : SlV 4 v (E4 l)) (S : Int)
    (hx : ∀ fr' L', Ab.get fr' 3 = .i S → Gx tbl H [.tmp 2] 0 k fr' L' = r) :
    ∀ (t : List Sy) (i : Nat) (a : Int) (fr : List V) (L : List Row), l.drop i = t → i ≤ l.length → -16777216 ≤ a → a ≤ i * 33554432 → S = a + hsum t → Ab.get fr 3 = .i a → Ab.get fr 11 = v → Ab.get fr 12 = .i (l.length : Nat) → Ab.get fr 13 = .i (i : Nat) →
    G tbl H [.tmp 2] (.code (.loop ( (.seq ( .region [] [ ⟨some 14, .bin .lss (.t 13) (.t 12), none⟩]) ( (.seq ( (.cond (.t 14) ( .skip) ( .exit 0))) ( (.seq ( (.block 1 ( (.seq ( .region [] [ ⟨some 15, .elemAddr 4 (.t 11) (.t 13), none⟩, ⟨some 16, .load true 4 (.t 15), none⟩, ⟨some 5, .alloc 1 [(.int .i64 0), (.int .i64 0), (.int .i64 0), (.int .i64 0)], none⟩, ⟨none, .store 4 (.t 5) (.t 16), none⟩]) ( .region [] [ ⟨some 17, .mv (.t 3), none⟩, ⟨some 18, .fieldAddr 1 (.t 5), none⟩, ⟨some 19, .load false 1 (.t 18), none⟩, ⟨some 20, .fieldAddr 0 (.t 5), none⟩, ⟨some 21, .load false 1 (.t 20), none⟩, ⟨some 22, .bin .add (.t 19) (.t 21), none⟩, ⟨some 23, .bin .add (.t 17) (.t 22), none⟩, ⟨some 3, .mv (.t 23), none⟩]))))) ( .region [] [ ⟨some 24, .bin .add (.t 13) (.c (.int .i64 1)), none⟩, ⟨some 13, .mv (.t 24), none⟩])))))))) :: k) fr L = r := by
  intro t
  induction t with
  | nil =>
    intro i a fr L ht hi b1 b2 hS h3 h11 h12 h13
    have := drop_nil ht
    simp only [hsum, Int.add_zero] at hS
    subst hS
    refine G_loop.trans ?_
    simp (config := { maxSteps := 10000000 }) (disch := omega) only [↓G_seq, ↓G_exit, ↓G_region, ↓G_cond, ↓Gx_code, ↓G_ops_nil, ↓G_op, Gv_some, Gc_false, dec_f, killAll, ↓get_setS, evalOp, ev, b_lss, one, Option.map_some, List.getElem?_cons_zero, List.getElem?_cons_succ, ↓reduceIte, h12, h13]
    refine hx _ _ ?_
    simp (config := { maxSteps := 10000000 }) (disch := omega) only [↓get_setS, List.getElem?_cons_zero, List.getElem?_cons_succ, Nat.reduceEqDiff, ↓reduceIte, h3]
  | cons s t ih =>
    intro i a fr L ht hi b1 b2 hS h3 h11 h12 h13
    obtain ⟨e1, e2, e3⟩ := drop_cons ht
    have hE := hv.el (E4_get l i s e1)
    obtain ⟨q1, q2, q3⟩ := hin s (List.mem_of_getElem? e1)
    have next : ∀ fr' L', Ab.get fr' 3 = .i (a + (s.g + s.h)) → Ab.get fr' 11 = v → Ab.get fr' 12 = .i (l.length : Nat) → Ab.get fr' 13 = .i ((i : Nat) + 1) → G tbl H [.tmp 2] (.code (.loop ( (.seq ( .region [] [ ⟨some 14, .bin .lss (.t 13) (.t 12), none⟩]) ( (.seq ( (.cond (.t 14) ( .skip) ( .exit 0))) ( (.seq ( (.block 1 ( (.seq ( .region [] [ ⟨some 15, .elemAddr 4 (.t 11) (.t 13), none⟩, ⟨some 16, .load true 4 (.t 15), none⟩, ⟨some 5, .alloc 1 [(.int .i64 0), (.int .i64 0), (.int .i64 0), (.int .i64 0)], none⟩, ⟨none, .store 4 (.t 5) (.t 16), none⟩]) ( .region [] [ ⟨some 17, .mv (.t 3), none⟩, ⟨some 18, .fieldAddr 1 (.t 5), none⟩, ⟨some 19, .load false 1 (.t 18), none⟩, ⟨some 20, .fieldAddr 0 (.t 5), none⟩, ⟨some 21, .load false 1 (.t 20), none⟩, ⟨some 22, .bin .add (.t 19) (.t 21), none⟩, ⟨some 23, .bin .add (.t 17) (.t 22), none⟩, ⟨some 3, .mv (.t 23), none⟩]))))) ( .region [] [ ⟨some 24, .bin .add (.t 13) (.c (.int .i64 1)), none⟩, ⟨some 13, .mv (.t 24), none⟩])))))))) :: k) fr' L' = r := by
      intro fr' L' g3 g11 g12 g13
      exact ih (i + 1) (a + (s.g + s.h)) fr' L' e2 (by omega) (by omega) (by omega) (by rw [hS, hsum]; omega) g3 g11 g12 (by rw [g13]; congr 1)
    clear ih hx hS hin
    refine G_loop.trans ?_
    simp (config := { maxSteps := 10000000 }) (disch := omega) only [↓G_seq, ↓G_skip, ↓G_blk, ↓G_region, ↓G_block, ↓G_cond, ↓G_ops_nil, ↓G_op, Gv_some, Gc_true, dec_t, killAll, ↓get_setS, ↓get_setN, evalOp, ev, rget_rset, b_add, b_lss, wrap_i64, one, Option.map_some, Option.bind_some, V.shift, List.nil_append, List.cons_append, List.all_cons, List.all_nil, Bool.and_self, List.getElem?_cons_zero, List.getElem?_cons_succ, Nat.reduceEqDiff, ↓reduceIte, Nat.succ_ne_self, Bool.false_eq_true, Int.reduceAdd, pick3, V.cells, splice, addOff, loadV, storeV, Ab.rowAt, V.scalar, Nat.reduceAdd, and_self, List.length_cons, List.length_nil, List.take_succ_cons, List.take_zero, List.drop_succ_cons, List.drop_zero, Nat.le_refl, List.set_cons_zero, List.getD_cons_zero, Nat.zero_add, Nat.add_zero, h3, h11, h12, h13, hE, rset_rset, Nat.zero_lt_succ]
    refine next _ _ ?_ ?_ ?_ ?_
    all_goals simp (config := { maxSteps := 10000000 }) (disch := omega) only [↓get_setS, ↓get_setN, List.getElem?_cons_zero, List.getElem?_cons_succ, Nat.reduceEqDiff, ↓reduceIte, Nat.succ_ne_self, h11, h12]

theorem c33 {v : V} {s : Sy} {t : List Sy} (hl : (s :: t).length ≤ 1024) (hin : ∀ x ∈ s :: t, inS x) (hv : SlV 4 v (E4 (s :: t))) : call tbl 33 [v] H = some (.i (hgt (s :: t))) := by
  refine (call_start (show tbl 33 = some a33 from rfl)).trans ?_
  have hlen := hv.len
  rw [E4_len] at hlen
  have hE := hv.el (E4_get (s :: t) 0 s rfl)
  obtain ⟨q1, q2, q3⟩ := hin s (by simp)
  simp only [Int.ofNat_zero, Int.cast_ofNat_Int] at hE
  generalize hL : (s :: t).length = n at *
  unfold a33
  simp (config := { maxSteps := 10000000 }) (disch := omega) only [↓G_seq, ↓G_region, ↓G_block, ↓G_ops_nil, ↓G_op, Gv_some, killAll, ↓get_setS, evalOp, ev, Ab.get, wrap_i64, one, Option.map_some, List.getElem?_cons_zero, List.getElem?_cons_succ, reduceCtorEq, ↓reduceIte, Bool.false_eq_true, pick3, addOff, loadV, Nat.zero_add, hlen, hE]
  refine loop33 (l := s :: t) (by omega) hin hv (hgt (s :: t)) (fun fr' L' g3 => ?_) (s :: t) 0 (-s.g) _ _ rfl (by omega) (by omega) (by omega) (by simp only [hgt, hsum]; omega) ?_ ?_ ?_ ?_
  · simp (config := { maxSteps := 10000000 }) (disch := omega) only [↓G_seq, ↓G_ret, ↓G_region, ↓Gx_blk, ↓G_ops_nil, ↓G_op, Gv_some, killAll, ↓get_setS, evalOp, ev, Option.map_some, Option.bind_some, finish, resVs, resV, outVs, ownsLast, tupOf, List.all_nil, List.getElem?_cons_zero, List.getElem?_cons_succ, ↓reduceIte, ov_int, fn_some, g3]
  · simp (config := { maxSteps := 10000000 }) (disch := omega) only [↓get_setS, List.getElem?_cons_zero, List.getElem?_cons_succ, Nat.reduceEqDiff, ↓reduceIte]
    congr 1
    omega
  all_goals simp (config := { maxSteps := 10000000 }) (disch := omega) only [↓get_setS, List.getElem?_cons_zero, List.getElem?_cons_succ, Nat.reduceEqDiff, ↓reduceIte, Nat.succ_ne_self, Int.cast_ofNat_Int, hL]

/-- Systems from a on and before b. -/
def sl (l : List Sy) (a b : Nat) : List Sy := (l.take b).drop a
theorem sl_len {l : List Sy} {a b : Nat} (hb : b ≤ l.length) : (sl l a b).length = b - a := by simp [sl]; omega
theorem sl_cons {l : List Sy} {a b : Nat} (h : a < b) (hb : b ≤ l.length) : ∃ s, l[a]? = some s ∧ sl l a b = s :: sl l (a + 1) b := by
  refine ⟨l[a]'(by omega), List.getElem?_eq_getElem (by omega), ?_⟩
  unfold sl
  rw [List.drop_eq_getElem_cons (by simp; omega)]
  simp
theorem sl_nil {l : List Sy} {a b : Nat} (h : b ≤ a) : sl l a b = [] := by
  unfold sl
  rw [List.drop_of_length_le (by simp; omega)]
theorem sl_mem {l : List Sy} {a b : Nat} {s : Sy} (h : s ∈ sl l a b) : s ∈ l := List.mem_of_mem_take (List.mem_of_mem_drop h)

theorem loop24 {k : List KI} {v : V} {l : List Sy} {r : Option V} {a b : Nat} (hl : l.length ≤ 1024) (hb : b ≤ l.length) (hin : ∀ s ∈ l, inS s) (hv : SlV 4 v (E4 l)) (S : Int)
    (hx : ∀ fr' L', Ab.get fr' 7 = .i S → Gx tbl H [.tmp 6] 0 k fr' L' = r) :
    ∀ (n i : Nat) (c : Int) (fr : List V) (L : List Row), i + n = b → a < i → 0 ≤ c → c ≤ i * 33554432 → S = c + hsum (sl l i b) → Ab.get fr 0 = v → Ab.get fr 1 = .i (a : Nat) → Ab.get fr 2 = .i ((b : Nat) - 1 : Int) → Ab.get fr 7 = .i c → Ab.get fr 8 = .i (i : Nat) →
    G tbl H [.tmp 6] (.code (.loop ( (.seq ( (.seq ( .region [] [ ⟨some 10, .mv (.t 8), none⟩, ⟨some 11, .mv (.t 2), none⟩, ⟨some 12, .bin .leq (.t 10) (.t 11), none⟩]) ( (.cond (.t 12) ( .skip) ( .exit 0))))) ( (.seq ( (.block 1 ( (.seq ( .region [] [ ⟨some 15, .mv (.t 7), none⟩, ⟨some 16, .mv (.t 0), none⟩, ⟨some 17, .mv (.t 8), none⟩, ⟨some 18, .elemAddr 4 (.t 16) (.t 17), none⟩, ⟨some 19, .fieldAddr 0 (.t 18), none⟩, ⟨some 20, .load false 1 (.t 19), none⟩, ⟨some 21, .bin .add (.t 15) (.t 20), none⟩, ⟨some 7, .mv (.t 21), none⟩]) ( (.seq ( .region [] [ ⟨some 22, .mv (.t 8), none⟩, ⟨some 23, .mv (.t 1), none⟩, ⟨some 24, .bin .gtr (.t 22) (.t 23), none⟩]) ( (.cond (.t 24) ( .region [] [ ⟨some 25, .mv (.t 7), none⟩, ⟨some 26, .mv (.t 0), none⟩, ⟨some 27, .mv (.t 8), none⟩, ⟨some 28, .elemAddr 4 (.t 26) (.t 27), none⟩, ⟨some 29, .fieldAddr 1 (.t 28), none⟩, ⟨some 30, .load false 1 (.t 29), none⟩, ⟨some 31, .bin .add (.t 25) (.t 30), none⟩, ⟨some 7, .mv (.t 31), none⟩]) ( .skip))))))))) ( .region [] [ ⟨some 13, .mv (.t 8), none⟩, ⟨some 14, .bin .add (.t 13) (.c (.int .i64 1)), none⟩, ⟨some 8, .mv (.t 14), none⟩])))))) :: k) fr L = r := by
  intro n
  induction n with
  | zero =>
    intro i c fr L hi ha b1 b2 hS h0 h1 h2 h7 h8
    rw [sl_nil (by omega)] at hS
    simp only [hsum, Int.add_zero] at hS
    subst hS
    refine G_loop.trans ?_
    simp (config := { maxSteps := 10000000 }) (disch := omega) only [↓G_seq, ↓G_exit, ↓G_region, ↓G_cond, ↓Gx_code, ↓G_ops_nil, ↓G_op, Gv_some, Gc_false, dec_f, killAll, ↓get_setS, evalOp, ev, b_leq, one, Option.map_some, List.getElem?_cons_zero, List.getElem?_cons_succ, Nat.reduceEqDiff, ↓reduceIte, Nat.succ_ne_self, h2, h8]
    refine hx _ _ ?_
    simp (config := { maxSteps := 10000000 }) (disch := omega) only [↓get_setS, List.getElem?_cons_zero, List.getElem?_cons_succ, Nat.reduceEqDiff, ↓reduceIte, h7]
  | succ n ih =>
    intro i c fr L hi ha b1 b2 hS h0 h1 h2 h7 h8
    obtain ⟨s, hs, hc⟩ := sl_cons (l := l) (a := i) (b := b) (by omega) hb
    have hE := hv.el (E4_get l i s hs)
    obtain ⟨q1, q2, q3⟩ := hin s (List.mem_of_getElem? hs)
    have next : ∀ fr' L', Ab.get fr' 0 = v → Ab.get fr' 1 = .i (a : Nat) → Ab.get fr' 2 = .i ((b : Nat) - 1 : Int) → Ab.get fr' 7 = .i (c + s.h + s.g) → Ab.get fr' 8 = .i ((i : Nat) + 1) → G tbl H [.tmp 6] (.code (.loop ( (.seq ( (.seq ( .region [] [ ⟨some 10, .mv (.t 8), none⟩, ⟨some 11, .mv (.t 2), none⟩, ⟨some 12, .bin .leq (.t 10) (.t 11), none⟩]) ( (.cond (.t 12) ( .skip) ( .exit 0))))) ( (.seq ( (.block 1 ( (.seq ( .region [] [ ⟨some 15, .mv (.t 7), none⟩, ⟨some 16, .mv (.t 0), none⟩, ⟨some 17, .mv (.t 8), none⟩, ⟨some 18, .elemAddr 4 (.t 16) (.t 17), none⟩, ⟨some 19, .fieldAddr 0 (.t 18), none⟩, ⟨some 20, .load false 1 (.t 19), none⟩, ⟨some 21, .bin .add (.t 15) (.t 20), none⟩, ⟨some 7, .mv (.t 21), none⟩]) ( (.seq ( .region [] [ ⟨some 22, .mv (.t 8), none⟩, ⟨some 23, .mv (.t 1), none⟩, ⟨some 24, .bin .gtr (.t 22) (.t 23), none⟩]) ( (.cond (.t 24) ( .region [] [ ⟨some 25, .mv (.t 7), none⟩, ⟨some 26, .mv (.t 0), none⟩, ⟨some 27, .mv (.t 8), none⟩, ⟨some 28, .elemAddr 4 (.t 26) (.t 27), none⟩, ⟨some 29, .fieldAddr 1 (.t 28), none⟩, ⟨some 30, .load false 1 (.t 29), none⟩, ⟨some 31, .bin .add (.t 25) (.t 30), none⟩, ⟨some 7, .mv (.t 31), none⟩]) ( .skip))))))))) ( .region [] [ ⟨some 13, .mv (.t 8), none⟩, ⟨some 14, .bin .add (.t 13) (.c (.int .i64 1)), none⟩, ⟨some 8, .mv (.t 14), none⟩])))))) :: k) fr' L' = r := by
      intro fr' L' g0 g1 g2 g7 g8
      exact ih (i + 1) (c + s.h + s.g) fr' L' (by omega) (by omega) (by omega) (by omega) (by rw [hS, hc, hsum]; omega) g0 g1 g2 g7 (by rw [g8]; congr 1)
    clear ih hx hS hin hc
    refine G_loop.trans ?_
    simp (config := { maxSteps := 10000000 }) (disch := omega) only [↓G_seq, ↓G_skip, ↓G_blk, ↓G_region, ↓G_block, ↓G_cond, ↓G_ops_nil, ↓G_op, Gv_some, Gc_true, dec_t, killAll, ↓get_setS, evalOp, ev, b_add, b_leq, b_gtr, wrap_i64, one, Option.map_some, List.getElem?_cons_zero, List.getElem?_cons_succ, Nat.reduceEqDiff, reduceCtorEq, ↓reduceIte, Nat.succ_ne_self, Bool.false_eq_true, pick3, addOff, loadV, Nat.zero_add, Nat.add_zero, h0, h1, h2, h7, h8, hE]
    refine next _ _ ?_ ?_ ?_ ?_ ?_
    all_goals simp (config := { maxSteps := 10000000 }) (disch := omega) only [↓get_setS, List.getElem?_cons_zero, List.getElem?_cons_succ, Nat.reduceEqDiff, reduceCtorEq, ↓reduceIte, Nat.succ_ne_self, h0, h1, h2]

theorem c24 {v : V} {l : List Sy} {a b : Nat} (hl : l.length ≤ 1024) (hab : a < b) (hb : b ≤ l.length) (hin : ∀ s ∈ l, inS s) (hv : SlV 4 v (E4 l)) : call tbl 24 [v, .i (a : Nat), .i ((b : Nat) - 1 : Int)] H = some (.i (hgt (sl l a b))) := by
  refine (call_start (show tbl 24 = some a24 from rfl)).trans ?_
  obtain ⟨s, hs, hc⟩ := sl_cons (l := l) (a := a) (b := b) hab hb
  have hE := hv.el (E4_get l a s hs)
  obtain ⟨q1, q2, q3⟩ := hin s (List.mem_of_getElem? hs)
  unfold a24
  simp (config := { maxSteps := 10000000 }) (disch := omega) only [↓G_seq, ↓G_region, ↓G_block, ↓G_ops_nil, ↓G_op, Gv_some, killAll, ↓get_setS, evalOp, ev, Ab.get, List.getElem?_cons_zero, List.getElem?_cons_succ, Nat.reduceEqDiff, ↓reduceIte]
  refine G_loop.trans ?_
  simp (config := { maxSteps := 10000000 }) (disch := omega) only [↓G_seq, ↓G_skip, ↓G_blk, ↓G_region, ↓G_block, ↓G_cond, ↓G_ops_nil, ↓G_op, Gv_some, Gc_true, Gc_false, dec_t, dec_f, killAll, ↓get_setS, evalOp, ev, Ab.get, b_add, b_leq, b_gtr, wrap_i64, one, Option.map_some, List.getElem?_cons_zero, List.getElem?_cons_succ, Nat.reduceEqDiff, reduceCtorEq, ↓reduceIte, Nat.succ_ne_self, Bool.false_eq_true, pick3, addOff, loadV, Nat.add_zero, hE]
  refine loop24 (l := l) (a := a) (b := b) hl hb hin hv (hgt (sl l a b)) (fun fr' L' g7 => ?_) (b - (a + 1)) (a + 1) s.h _ _ (by omega) (by omega) (by omega) (by omega) (by rw [hc]; rfl) ?_ ?_ ?_ ?_ ?_
  · simp (config := { maxSteps := 10000000 }) (disch := omega) only [↓G_seq, ↓G_ret, ↓G_region, ↓Gx_blk, ↓G_ops_nil, ↓G_op, Gv_some, killAll, ↓get_setS, evalOp, ev, Option.map_some, Option.bind_some, finish, resVs, resV, outVs, ownsLast, tupOf, List.all_nil, List.getElem?_cons_zero, List.getElem?_cons_succ, ↓reduceIte, ov_int, fn_some, g7]
  all_goals simp (config := { maxSteps := 10000000 }) (disch := omega) only [↓get_setS, Ab.get, List.getElem?_cons_zero, List.getElem?_cons_succ, Nat.reduceEqDiff, reduceCtorEq, ↓reduceIte, Nat.succ_ne_self]
  all_goals congr 1
  all_goals omega

end Go.Proofs.Ytgghbckhdchcaaa

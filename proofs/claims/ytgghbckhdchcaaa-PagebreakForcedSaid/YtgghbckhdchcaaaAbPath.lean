/-
  Divisions of a row of things into parts, in plain Lean: what a table of best ways to go on comes to is the best of all divisions.
-/
import Derived.Test.YtgghbckhdchcaaaAbSl
namespace Go.Ab.Path
set_option linter.unusedVariables false
set_option linter.unnecessarySimpa false
set_option linter.unusedSimpArgs false

/-- Beginnings of parts: they grow, and are less than n. -/
def isD (n : Nat) : List Nat → Prop
  | [] => False
  | [a] => a < n
  | a :: b :: t => a < b ∧ isD n (b :: t)

def addI (top x y : Int) : Int := if top ≤ x ∨ top ≤ y then top else x + y

/-- The cost of a division; the first part's side is given. -/
def tot (C : Nat → Nat → Bool → Bool → Int) (n : Nat) (top : Int) : Bool → List Nat → Int
  | _, [] => 0
  | s, [a] => C a n s true
  | s, a :: b :: t => addI top (C a b s false) (tot C n top (!s) (b :: t))

structure Ch where
  c : Int
  p : Nat
  x : Nat

/-- The cost when the next part begins at j. -/
def cand (C : Nat → Nat → Bool → Bool → Int) (n : Nat) (F : Nat → Bool → Ch) (i : Nat) (s : Bool) (j : Nat) : Int := C i j s (decide (j = n)) + (F j (!s)).c

def lexlt : List Nat → List Nat → Bool
  | x :: a, y :: b => if x = y then lexlt a b else decide (x < y)
  | _, _ => false
/-- The first of two divisions is preferred. -/
def bet (a b : List Nat) : Bool := if a.length = b.length then lexlt a b else decide (a.length < b.length)

theorem lexlt_irr : ∀ a : List Nat, lexlt a a = false
  | [] => rfl
  | x :: a => by simp [lexlt, lexlt_irr a]
theorem lexlt_asym : ∀ a b : List Nat, lexlt a b = true → lexlt b a = false
  | [], _, h => by simp [lexlt] at h
  | _ :: _, [], h => by simp [lexlt] at h
  | x :: a, y :: b, h => by
    unfold lexlt at h ⊢
    by_cases e : x = y
    · rw [if_pos e] at h
      rw [if_pos e.symm]
      exact lexlt_asym a b h
    · rw [if_neg e] at h
      rw [if_neg (fun z => e z.symm)]
      have := of_decide_eq_true h
      exact decide_eq_false (by omega)
theorem bet_irr (a : List Nat) : bet a a = false := by simp [bet, lexlt_irr]
theorem bet_asym {a b : List Nat} (h : bet a b = true) : bet b a = false := by
  unfold bet at h ⊢
  by_cases e : a.length = b.length
  · rw [if_pos e] at h
    rw [if_pos e.symm]
    exact lexlt_asym a b h
  · rw [if_neg e] at h
    rw [if_neg (fun z => e z.symm)]
    have := of_decide_eq_true h
    exact decide_eq_false (by omega)
theorem bet_cons (i : Nat) (a b : List Nat) : bet (i :: a) (i :: b) = bet a b := by
  unfold bet
  simp [lexlt]
theorem bet_len {a b : List Nat} (h : bet a b = true) : a.length ≤ b.length := by
  unfold bet at h
  split at h
  · omega
  · have := of_decide_eq_true h
    omega
theorem bet_of_len {a b : List Nat} (h : a.length < b.length) : bet a b = true := by
  unfold bet
  rw [if_neg (by omega)]
  exact decide_eq_true h

/-- The way that a table tells. -/
def path (F : Nat → Bool → Ch) (n : Nat) : Nat → Nat → Bool → List Nat
  | 0, _, _ => []
  | k + 1, i, s => if i < n then i :: path F n k (F i s).x (!s) else []
theorem path_end {F : Nat → Bool → Ch} {n k i : Nat} {s : Bool} (h : n ≤ i) : path F n k i s = [] := by
  cases k with
  | zero => rfl
  | succ k => unfold path; rw [if_neg (by omega)]

/-- The table's entry is the best of its candidates. -/
def Spec (C : Nat → Nat → Bool → Bool → Int) (n : Nat) (top : Int) (F : Nat → Bool → Ch) (i : Nat) (s : Bool) : Prop :=
  ((F i s).c = top ∧ ∀ j, i < j → j ≤ n → top ≤ cand C n F i s j) ∨
  ((F i s).c < top ∧ i < (F i s).x ∧ (F i s).x ≤ n ∧ (F i s).c = cand C n F i s (F i s).x ∧ (F i s).p = (F (F i s).x (!s)).p + 1 ∧
    ∀ j, i < j → j ≤ n → (F i s).c < cand C n F i s j ∨ ((F i s).c = cand C n F i s j ∧ ((F i s).p < (F j (!s)).p + 1 ∨ ((F i s).p = (F j (!s)).p + 1 ∧ (F i s).x ≤ j))))

section
variable {C : Nat → Nat → Bool → Bool → Int} {n : Nat} {top : Int} {F : Nat → Bool → Ch}

theorem F_nonneg (hC : ∀ a b s f, 0 ≤ C a b s f) (ht : 0 ≤ top) (hn : ∀ s, F n s = ⟨0, 0, 0⟩) (hS : ∀ i, i < n → ∀ s, Spec C n top F i s) :
    ∀ (k i : Nat) (s : Bool), n - i ≤ k → i ≤ n → 0 ≤ (F i s).c := by
  intro k
  induction k with
  | zero =>
    intro i s h hi
    obtain rfl : i = n := by omega
    rw [hn s]
    exact Int.le_refl _
  | succ k ih =>
    intro i s h hi
    rcases Nat.lt_or_ge i n with h1 | h1
    · rcases hS i h1 s with ⟨h2, _⟩ | ⟨_, h3, h4, h5, _⟩
      · omega
      · rw [h5]
        unfold cand
        have := hC i (F i s).x s (decide ((F i s).x = n))
        have := ih (F i s).x (!s) (by omega) h4
        omega
    · obtain rfl : i = n := by omega
      rw [hn s]
      exact Int.le_refl _

theorem tot_top (hC : ∀ a b s f, C a b s f ≤ top) (ht : 0 ≤ top) : ∀ (d : List Nat) (s : Bool), top ≤ tot C n top s d → tot C n top s d = top ∨ True := fun _ _ _ => .inr trivial

theorem best_opt (hC : ∀ a b s f, 0 ≤ C a b s f) (ht : 0 ≤ top) (hn : ∀ s, F n s = ⟨0, 0, 0⟩) (hS : ∀ i, i < n → ∀ s, Spec C n top F i s) :
    ∀ (k i : Nat) (s : Bool), n - i ≤ k → i < n →
      (top ≤ (F i s).c → ∀ d, isD n (i :: d) → top ≤ tot C n top s (i :: d)) ∧
      ((F i s).c < top → (∃ q, path F n k i s = i :: q) ∧ isD n (path F n k i s) ∧ (path F n k i s).length = (F i s).p ∧ tot C n top s (path F n k i s) = (F i s).c ∧
        ∀ d, isD n (i :: d) → i :: d = path F n k i s ∨ (F i s).c < tot C n top s (i :: d) ∨ ((F i s).c = tot C n top s (i :: d) ∧ bet (path F n k i s) (i :: d) = true)) := by
  intro k
  induction k with
  | zero => intro i s h hi; omega
  | succ k ih =>
    intro i s h hi
    have hpos := F_nonneg hC ht hn hS n
    have h0 : ∀ s, (F n s).c = 0 := fun s => by rw [hn s]
    have hp0 : ∀ s, (F n s).p = 0 := fun s => by rw [hn s]
    rcases hS i hi s with ⟨h2, h3⟩ | ⟨h2, h3, h4, h5, h6, h7⟩
    · refine ⟨fun _ d hd => ?_, fun z => by omega⟩
      cases d with
      | nil =>
        have := h3 n hi (Nat.le_refl _)
        simp only [cand, h0, Int.add_zero, decide_true] at this
        simpa [tot] using this
      | cons b t =>
        obtain ⟨hd1, hd2⟩ := hd
        have hb : b < n := by
          cases t with
          | nil => exact hd2
          | cons c t =>
            have : ∀ (t : List Nat) (c : Nat), isD n (c :: t) → c < n := by
              intro t
              induction t with
              | nil => intro c h; exact h
              | cons e t iht => intro c h; have := iht e h.2; have := h.1; omega
            exact this _ _ hd2
        simp only [tot, addI]
        split
        · exact Int.le_refl _
        · rename_i hne
          have h8 := h3 b hd1 (by omega)
          simp only [cand, decide_eq_false (show ¬ b = n by omega)] at h8
          by_cases h9 : top ≤ (F b (!s)).c
          · have := (ih b (!s) (by omega) hb).1 h9 t hd2
            omega
          · obtain ⟨_, _, _, _, h10⟩ := (ih b (!s) (by omega) hb).2 (by omega)
            rcases h10 t hd2 with h11 | h11 | ⟨h11, _⟩
            · have := ((ih b (!s) (by omega) hb).2 (by omega)).2.2.2.1
              rw [← h11] at this
              omega
            · omega
            · omega
    · refine ⟨fun z => by omega, fun _ => ?_⟩
      have hpth : path F n (k + 1) i s = i :: path F n k (F i s).x (!s) := by
        conv => lhs; unfold path
        rw [if_pos hi]
      rw [hpth]
      generalize hx : (F i s).x = x at *
      have hcx : (F x (!s)).c < top := by
        have := hC i x s (decide (x = n))
        unfold cand at h5
        omega
      have hC0 : C i x s (decide (x = n)) < top := by
        have := hpos x (!s) (by omega) h4
        unfold cand at h5
        omega
      -- the rest of the way
      have hrest : (path F n k x (!s)).length = (F x (!s)).p ∧ isD n (i :: path F n k x (!s)) ∧ tot C n top s (i :: path F n k x (!s)) = (F i s).c ∧ (x < n → ∃ q, path F n k x (!s) = x :: q) := by
        rcases Nat.lt_or_ge x n with hxn | hxn
        · obtain ⟨⟨q, g1⟩, g2, g3, g4, _⟩ := (ih x (!s) (by omega) hxn).2 hcx
          refine ⟨g3, ?_, ?_, fun _ => ⟨q, g1⟩⟩
          · rw [g1] at g2 ⊢
            exact ⟨h3, g2⟩
          · rw [h5]
            rw [g1] at g4 ⊢
            unfold cand at *
            rw [decide_eq_false (show ¬ x = n by omega)] at *
            unfold tot addI
            rw [g4, if_neg (by omega)]
        · obtain rfl : x = n := by omega
          rw [path_end (Nat.le_refl _)]
          refine ⟨by rw [hp0]; rfl, hi, ?_, fun z => by omega⟩
          rw [h5]
          simp [tot, cand, h0]
      obtain ⟨r1, r2, r3, r4⟩ := hrest
      refine ⟨⟨_, rfl⟩, r2, by simp only [List.length_cons, r1, h6], r3, fun d hd => ?_⟩
      cases d with
      | nil =>
        have h8 := h7 n hi (Nat.le_refl _)
        simp only [cand, h0, hp0, Int.add_zero, decide_true] at h8
        simp only [tot]
        rcases h8 with h8 | ⟨h8, h9⟩
        · exact .inr (.inl h8)
        · refine .inl ?_
          have : (F x (!s)).p = 0 := by omega
          rw [this] at r1
          rw [List.length_eq_zero_iff.1 r1]
      | cons b t =>
        obtain ⟨hd1, hd2⟩ := hd
        have hb : b < n := by
          have : ∀ (t : List Nat) (c : Nat), isD n (c :: t) → c < n := by
            intro t
            induction t with
            | nil => intro c h; exact h
            | cons e t iht => intro c h; have := iht e h.2; have := h.1; omega
          exact this _ _ hd2
        have h8 := h7 b hd1 (by omega)
        simp only [cand, decide_eq_false (show ¬ b = n by omega)] at h8
        have hbp := hpos b (!s) (by omega) (by omega)
        simp only [tot, addI]
        split
        · exact .inr (.inl h2)
        · rename_i hne
          by_cases h9 : top ≤ (F b (!s)).c
          · have := (ih b (!s) (by omega) hb).1 h9 t hd2
            omega
          · obtain ⟨⟨q, g1⟩, g2, g3, g4, g5⟩ := (ih b (!s) (by omega) hb).2 (by omega)
            have g6 := g5 t hd2
            rw [bet_cons]
            have key : (b :: t = path F n k b (!s) ∨ bet (path F n k b (!s)) (b :: t) = true) → (F b (!s)).c = tot C n top (!s) (b :: t) →
                i :: b :: t = i :: path F n k x (!s) ∨ (F i s).c < C i b s false + tot C n top (!s) (b :: t) ∨ (F i s).c = C i b s false + tot C n top (!s) (b :: t) ∧ bet (path F n k x (!s)) (b :: t) = true := by
              intro hk hc
              rw [← hc]
              rcases h8 with h8 | ⟨h8, h10⟩
              · exact .inr (.inl h8)
              · have hlen : (path F n k b (!s)).length ≤ (b :: t).length := by
                  rcases hk with e | e
                  · rw [← e]; exact Nat.le_refl _
                  · exact bet_len e
                rcases h10 with h10 | ⟨h10, h11⟩
                · exact .inr (.inr ⟨h8, bet_of_len (by omega)⟩)
                · rcases Nat.lt_or_ge x b with h12 | h12
                  · obtain ⟨q', hq'⟩ := r4 (by omega)
                    refine .inr (.inr ⟨h8, ?_⟩)
                    by_cases h13 : (path F n k x (!s)).length = (b :: t).length
                    · unfold bet
                      rw [if_pos h13, hq']
                      unfold lexlt
                      rw [if_neg (by omega)]
                      exact decide_eq_true h12
                    · exact bet_of_len (by omega)
                  · obtain rfl : x = b := by omega
                    rcases hk with e | e
                    · exact .inl (by rw [e])
                    · exact .inr (.inr ⟨h8, e⟩)
            rcases g6 with g6 | g6 | ⟨g6, g7⟩
            · exact key (.inl g6) (by rw [g6]; exact g4.symm)
            · refine .inr (.inl ?_)
              omega
            · exact key (.inr g7) g6

end

end Go.Ab.Path

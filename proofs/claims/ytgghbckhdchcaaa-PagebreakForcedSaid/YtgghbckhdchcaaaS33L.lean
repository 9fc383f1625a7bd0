/-
  Page breaks, in plain Lean: the table of best ways to go on, and what it tells.
-/
import Derived.Test.YtgghbckhdchcaaaS33K
namespace Go.Proofs.Ytgghbckhdchcaaa
open Go Go.Ab
set_option linter.unusedVariables false
set_option linter.unnecessarySimpa false
set_option linter.unusedSimpArgs false
set_option maxRecDepth 100000
open Path (Ch)

section
variable {l : List Sy} {ph pt : Int}

theorem hgt_mono {i j : Nat} (hi : i < j) (he : errC l ph pt = 0) : ∀ (d : Nat), j + d ≤ l.length → hgt (sl l i j) ≤ hgt (sl l i (j + d))
  | 0, _ => Int.le_refl _
  | d + 1, h => by
    have h1 := hgt_mono hi he d (by omega)
    obtain ⟨y, hy⟩ : ∃ y, l[j + d]? = some y := ⟨_, List.getElem?_eq_getElem (by omega)⟩
    have h2 := hgt_snoc (show i < j + d by omega) hy
    obtain ⟨b1, b2, _⟩ := errC_in he y (List.mem_of_getElem? hy)
    rw [show j + (d + 1) = j + d + 1 by omega]
    omega

theorem sl_has {a b j : Nat} {s : Sy} (h : a ≤ j) (hb : j < b) (hbl : b ≤ l.length) (hs : l[j]? = some s) : s ∈ sl l a b := by
  refine List.mem_of_getElem? (i := j - a) ?_
  unfold sl
  rw [List.getElem?_drop, List.getElem?_take_of_lt (by omega), show a + (j - a) = j by omega, hs]

theorem stop_inf (he : errC l ph pt = 0) {i j : Nat} (hij : i < j) (hst : stopB l ph i j = true) (j' : Nat) (h1 : j ≤ j') (h2 : j' ≤ l.length) (s f : Bool) : cst l ph pt i j' s f = inf := by
  unfold stopB at hst
  simp only [Bool.and_eq_true, Bool.or_eq_true, decide_eq_true_eq] at hst
  obtain ⟨h3, h4⟩ := hst
  unfold cst costN
  rw [if_pos]
  simp only [Bool.or_eq_true, Bool.and_eq_true, decide_eq_true_eq]
  rcases h4 with h4 | h4
  · have := hgt_mono hij he (j' - j) (by omega)
    rw [show j + (j' - j) = j' by omega] at this
    exact .inl (.inr ⟨by omega, by omega⟩)
  · obtain ⟨z, hz⟩ : ∃ z, l[j - 1]? = some z := ⟨_, List.getElem?_eq_getElem (by omega)⟩
    rw [hz, Option.getD_some] at h4
    refine .inr (List.any_eq_true.2 ⟨z, sl_has (by omega) (by omega) h2 hz, ?_⟩)
    simp [isBrk, h4]

abbrev cnd (l : List Sy) (ph pt : Int) (F : Nat → Bool → Ch) (i : Nat) (s : Bool) (j : Nat) : Int := Path.cand (cstF l ph pt) l.length F i s j

/-- The best of the candidates before j. -/
def Sofar (l : List Sy) (ph pt : Int) (F : Nat → Bool → Ch) (i : Nat) (s : Bool) (j : Nat) (o : Ch) : Prop :=
  (o.c = inf ∧ ∀ j', i < j' → j' < j → inf ≤ cnd l ph pt F i s j') ∨
  (o.c < inf ∧ i < o.x ∧ o.x < j ∧ o.c = cnd l ph pt F i s o.x ∧ o.p = (F o.x (!s)).p + 1 ∧
    ∀ j', i < j' → j' < j → o.c < cnd l ph pt F i s j' ∨ (o.c = cnd l ph pt F i s j' ∧ (o.p < (F j' (!s)).p + 1 ∨ (o.p = (F j' (!s)).p + 1 ∧ o.x ≤ j'))))

theorem sofar_step {F : Nat → Bool → Ch} {i j : Nat} {s : Bool} {o : Ch} (hij : i < j) (h : Sofar l ph pt F i s j o) : Sofar l ph pt F i s (j + 1) (stepC (cnd l ph pt F i s j) (F j (!s)).p j o) := by
  unfold stepC
  rcases h with ⟨h1, h2⟩ | ⟨h1, h2, h3, h4, h5, h6⟩
  · split
    · rename_i hc
      refine .inr ⟨?_, hij, Nat.lt_succ_self _, rfl, rfl, fun j' a b => ?_⟩
      · show cnd l ph pt F i s j < inf
        omega
      · rcases Nat.lt_or_ge j' j with q | q
        · have := h2 j' a q
          refine .inl ?_
          show cnd l ph pt F i s j < _
          omega
        · obtain rfl : j' = j := by omega
          exact .inr ⟨rfl, .inr ⟨rfl, Nat.le_refl _⟩⟩
    · rename_i hc
      refine .inl ⟨h1, fun j' a b => ?_⟩
      rcases Nat.lt_or_ge j' j with q | q
      · exact h2 j' a q
      · obtain rfl : j' = j := by omega
        omega
  · split
    · rename_i hc
      refine .inr ⟨?_, hij, Nat.lt_succ_self _, rfl, rfl, fun j' a b => ?_⟩
      · show cnd l ph pt F i s j < inf
        omega
      · show cnd l ph pt F i s j < _ ∨ cnd l ph pt F i s j = _ ∧ ((F j (!s)).p + 1 < _ ∨ (F j (!s)).p + 1 = _ ∧ j ≤ j')
        rcases Nat.lt_or_ge j' j with q | q
        · have := h6 j' a q
          omega
        · obtain rfl : j' = j := by omega
          exact .inr ⟨rfl, .inr ⟨rfl, Nat.le_refl _⟩⟩
    · rename_i hc
      refine .inr ⟨h1, h2, by omega, h4, h5, fun j' a b => ?_⟩
      rcases Nat.lt_or_ge j' j with q | q
      · exact h6 j' a q
      · obtain rfl : j' = j := by omega
        omega

theorem scan_spec (he : errC l ph pt = 0) {F : Nat → Bool → Ch} (hF : ∀ j s, j ≤ l.length → 0 ≤ (F j s).c) {i : Nat} {s : Bool} : ∀ (m j : Nat) (o : Ch), i < j → j + m = l.length + 1 → Sofar l ph pt F i s j o → Sofar l ph pt F i s (l.length + 1) (scan l ph pt F i s m j o)
  | 0, j, o, hij, hj, h => by
    obtain rfl : j = l.length + 1 := by omega
    exact h
  | m + 1, j, o, hij, hj, h => by
    unfold scan
    split
    · rename_i hst
      have big : ∀ j', j ≤ j' → j' < l.length + 1 → inf ≤ cnd l ph pt F i s j' := by
        intro j' a b
        have h1 := stop_inf he hij hst j' a (by omega) s (decide (j' = l.length))
        have h2 := hF j' (!s) (by omega)
        simp only [cnd, Path.cand, cstF, h1]
        omega
      rcases h with ⟨h1, h2⟩ | ⟨h1, h2, h3, h4, h5, h6⟩
      · refine .inl ⟨h1, fun j' a b => ?_⟩
        rcases Nat.lt_or_ge j' j with q | q
        · exact h2 j' a q
        · exact big j' q b
      · refine .inr ⟨h1, h2, by omega, h4, h5, fun j' a b => ?_⟩
        rcases Nat.lt_or_ge j' j with q | q
        · exact h6 j' a q
        · have := big j' q b
          exact .inl (by omega)
    · exact scan_spec he hF m (j + 1) _ (by omega) (by omega) (sofar_step hij h)

theorem scan_congr {F F' : Nat → Bool → Ch} {i : Nat} {s : Bool} : ∀ (m j : Nat) (o : Ch), (∀ j', j ≤ j' → F j' (!s) = F' j' (!s)) → scan l ph pt F i s m j o = scan l ph pt F' i s m j o
  | 0, j, o, h => rfl
  | m + 1, j, o, h => by
    unfold scan
    split
    · rfl
    · have e : Path.cand (cstF l ph pt) l.length F i s j = Path.cand (cstF l ph pt) l.length F' i s j := by simp only [Path.cand, h j (Nat.le_refl _)]
      rw [e, h j (Nat.le_refl _)]
      exact scan_congr m (j + 1) _ (fun j' a => h j' (by omega))

theorem scan_in (he : errC l ph pt = 0) {F : Nat → Bool → Ch} (hF : inT F l.length) {i : Nat} {s : Bool} : ∀ (m j : Nat) (o : Ch), i < j → j + m = l.length + 1 → (0 ≤ o.c ∧ o.c ≤ inf ∧ o.p + i ≤ 2 * l.length + 1 ∧ o.x ≤ l.length) →
    0 ≤ (scan l ph pt F i s m j o).c ∧ (scan l ph pt F i s m j o).c ≤ inf ∧ (scan l ph pt F i s m j o).p + i ≤ 2 * l.length + 1 ∧ (scan l ph pt F i s m j o).x ≤ l.length
  | 0, j, o, _, _, h => h
  | m + 1, j, o, hij, hj, h => by
    unfold scan
    split
    · exact h
    · refine scan_in he hF m (j + 1) _ (by omega) (by omega) ?_
      unfold stepC
      split
      · rename_i hc
        have h1 := hF j (!s) (by omega)
        have h2 := cst_Bd he i j s (decide (j = l.length))
        have h3 : 0 ≤ cst l ph pt i j s (decide (j = l.length)) := by
          have := hinf
          unfold Bd at h2
          omega
        have h4 : Path.cand (cstF l ph pt) l.length F i s j = cst l ph pt i j s (decide (j = l.length)) + (F j (!s)).c := rfl
        refine ⟨?_, ?_, ?_, ?_⟩
        · show 0 ≤ Path.cand (cstF l ph pt) l.length F i s j
          omega
        · show Path.cand (cstF l ph pt) l.length F i s j ≤ inf
          omega
        · show (F j (!s)).p + 1 + i ≤ _
          omega
        · show j ≤ _
          omega
      · exact h

def upd (F : Nat → Bool → Ch) (i : Nat) (s : Bool) (o : Ch) : Nat → Bool → Ch := fun j t => if j = i ∧ t = s then o else F j t
def init (l : List Sy) : Ch := ⟨inf, l.length + 1, 0⟩
/-- The table, when k entries are there beside the last one. -/
def tab (l : List Sy) (ph pt : Int) : Nat → Nat → Bool → Ch
  | 0 => fun _ _ => ⟨0, 0, 0⟩
  | k + 1 => upd (upd (tab l ph pt k) (l.length - k - 1) true (scan l ph pt (tab l ph pt k) (l.length - k - 1) true (k + 1) (l.length - k) (init l))) (l.length - k - 1) false (scan l ph pt (tab l ph pt k) (l.length - k - 1) false (k + 1) (l.length - k) (init l))

theorem tab_at {k : Nat} {s : Bool} : tab l ph pt (k + 1) (l.length - k - 1) s = scan l ph pt (tab l ph pt k) (l.length - k - 1) s (k + 1) (l.length - k) (init l) := by
  conv => lhs; unfold tab upd
  cases s <;> simp
theorem tab_ne {k j : Nat} {s : Bool} (h : j ≠ l.length - k - 1) : tab l ph pt (k + 1) j s = tab l ph pt k j s := by
  conv => lhs; unfold tab upd
  simp [h]

theorem tab_in (he : errC l ph pt = 0) : ∀ k, k ≤ l.length → inT (tab l ph pt k) l.length
  | 0, _ => fun j s hj => ⟨Int.le_refl _, show (0 : Int) ≤ inf by decide, by simp [tab]; omega, by simp [tab]⟩
  | k + 1, hk => fun j s hj => by
    have ih := tab_in he k (by omega)
    by_cases h : j = l.length - k - 1
    · subst h
      rw [tab_at]
      exact scan_in he ih (k + 1) (l.length - k) (init l) (by omega) (by omega) ⟨show (0 : Int) ≤ inf by decide, Int.le_refl _, by simp [init]; omega, by simp [init]⟩
    · rw [tab_ne h]
      exact ih j s hj

theorem tab_n : ∀ k, k ≤ l.length → ∀ j s, l.length ≤ j → tab l ph pt k j s = ⟨0, 0, 0⟩
  | 0, _, j, s, _ => rfl
  | k + 1, hk, j, s, hj => by
    rw [tab_ne (by omega)]
    exact tab_n k (by omega) j s hj

theorem tab_eq : ∀ k, k ≤ l.length → ∀ j, l.length - k ≤ j → j < l.length → ∀ s, tab l ph pt k j s = scan l ph pt (tab l ph pt k) j s (l.length - j) (j + 1) (init l)
  | 0, _, j, h1, h2, s => by omega
  | k + 1, hk, j, h1, h2, s => by
    by_cases h : j = l.length - k - 1
    · subst h
      rw [tab_at]
      have e1 : l.length - (l.length - k - 1) = k + 1 := by omega
      have e2 : l.length - k - 1 + 1 = l.length - k := by omega
      rw [e1, e2]
      exact scan_congr _ _ _ (fun j' a => (tab_ne (by omega)).symm)
    · rw [tab_ne h, tab_eq k (by omega) j (by omega) h2 s]
      exact scan_congr _ _ _ (fun j' a => (tab_ne (by omega)).symm)

/-- The whole table. -/
def tabN (l : List Sy) (ph pt : Int) : Nat → Bool → Ch := tab l ph pt l.length
theorem tabN_spec (he : errC l ph pt = 0) (i : Nat) (hi : i < l.length) (s : Bool) : Path.Spec (cstF l ph pt) l.length inf (tabN l ph pt) i s := by
  have hin := tab_in (ph := ph) (pt := pt) he l.length (Nat.le_refl _)
  have h := scan_spec he (F := tabN l ph pt) (i := i) (s := s) (fun j s hj => (hin j s hj).1) (l.length - i) (i + 1) (init l) (by omega) (by omega) (.inl ⟨rfl, fun j' a b => by omega⟩)
  rw [show scan l ph pt (tabN l ph pt) i s (l.length - i) (i + 1) (init l) = tabN l ph pt i s from (tab_eq l.length (Nat.le_refl _) i (by omega) hi s).symm] at h
  rcases h with ⟨h1, h2⟩ | ⟨h1, h2, h3, h4, h5, h6⟩
  · exact .inl ⟨h1, fun j a b => h2 j a (by omega)⟩
  · exact .inr ⟨h1, h2, by omega, h4, h5, fun j a b => h6 j a (by omega)⟩
theorem cst_pos (he : errC l ph pt = 0) (a b : Nat) (s f : Bool) : 0 ≤ cst l ph pt a b s f := by
  have := cst_Bd he a b s f
  have := hinf
  unfold Bd at *
  omega
theorem cst_le (he : errC l ph pt = 0) (a b : Nat) (s f : Bool) : cst l ph pt a b s f ≤ inf := by
  have := cst_Bd he a b s f
  have := hinf
  unfold Bd at *
  omega
/-- What the table tells: the best division. -/
def bestD (l : List Sy) (ph pt : Int) : List Nat := Path.path (tabN l ph pt) l.length l.length 0 true
theorem bestD_ok (he : errC l ph pt = 0) (h0 : 0 < l.length) :
    (inf ≤ (tabN l ph pt 0 true).c → ∀ d, Path.isD l.length (0 :: d) → inf ≤ tt l ph pt true (0 :: d)) ∧
    ((tabN l ph pt 0 true).c < inf → (∃ q, bestD l ph pt = 0 :: q) ∧ Path.isD l.length (bestD l ph pt) ∧ tt l ph pt true (bestD l ph pt) = (tabN l ph pt 0 true).c ∧
      ∀ d, Path.isD l.length (0 :: d) → 0 :: d = bestD l ph pt ∨ (tabN l ph pt 0 true).c < tt l ph pt true (0 :: d) ∨ ((tabN l ph pt 0 true).c = tt l ph pt true (0 :: d) ∧ Path.bet (bestD l ph pt) (0 :: d) = true)) := by
  have h := Path.best_opt (C := cstF l ph pt) (n := l.length) (top := inf) (F := tabN l ph pt) (fun a b s f => cst_pos he a b s f) (by decide) (fun s => tab_n l.length (Nat.le_refl _) l.length s (Nat.le_refl _)) (fun i hi s => tabN_spec he i hi s) l.length 0 true (by omega) h0
  refine ⟨h.1, fun hc => ?_⟩
  obtain ⟨a1, a2, a3, a4, a5⟩ := h.2 hc
  exact ⟨a1, a2, a4, a5⟩
end

end Go.Proofs.Ytgghbckhdchcaaa

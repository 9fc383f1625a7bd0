/-
  Line breaks, in plain Lean: the table of best ways to go on, and what it tells.
-/
import Derived.Test.YtdgifbmimfnmlaaS32D
namespace Go.Proofs.Ytdgifbmimfnmlaa
open Go Go.Ab
set_option linter.unusedVariables false
set_option linter.unnecessarySimpa false
set_option linter.unusedSimpArgs false
set_option maxRecDepth 100000
open Path (Ch)

/-- The cost when the next line begins at j. -/
def cnd (l : List Me) (w d : Int) (F : Nat → Ch) (i j : Nat) : Int := cst l (room w d i) i j + (F j).c
def stepC (c : Int) (p j : Nat) (o : Ch) : Ch := if c < o.c ∨ (c = o.c ∧ c < inf ∧ p + 1 < o.p) then ⟨c, p + 1, j⟩ else o
def scan (l : List Me) (w d : Int) (F : Nat → Ch) (i : Nat) : Nat → Nat → Ch → Ch
  | 0, _, o => o
  | m + 1, j, o => if room w d i < mn l i j then o else scan l w d F i m (j + 1) (stepC (cnd l w d F i j) (F j).p j o)

section
variable {l : List Me} {w d : Int}

theorem mn_mono {i j : Nat} (hi : i ≤ j) (he : errL l = 0) : ∀ (e : Nat), j + e ≤ l.length → mn l i j ≤ mn l i (j + e)
  | 0, _ => Int.le_refl _
  | e + 1, h => by
    have h1 := mn_mono hi he e (by omega)
    obtain ⟨y, hy⟩ : ∃ y, l[j + e]? = some y := ⟨_, List.getElem?_eq_getElem (by omega)⟩
    have h2 : mn l i (j + e + 1) = mn l i (j + e) + y.m := by
      unfold mn
      rw [sl_snoc (by omega) hy, msum_app]
      simp only [msum]
      omega
    obtain ⟨b1, b2, b3, b4⟩ := errL_in he y (List.mem_of_getElem? hy)
    rw [show j + (e + 1) = j + e + 1 by omega]
    omega

theorem stop_inf (he : errL l = 0) {i j : Nat} (hij : i < j) {r : Int} (hst : r < mn l i j) (j' : Nat) (h1 : j ≤ j') (h2 : j' ≤ l.length) : cst l r i j' = inf := by
  have h3 := mn_mono (Nat.le_of_lt hij) he (j' - j) (by omega)
  rw [show j + (j' - j) = j' by omega] at h3
  have h4 := wid_in he (show i < j' by omega) h2
  unfold cst
  split
  · rfl
  rw [if_neg (by omega), if_neg (by unfold inB; omega)]

/-- The best of the candidates before j. -/
def Sofar (l : List Me) (w d : Int) (F : Nat → Ch) (i j : Nat) (o : Ch) : Prop :=
  (o.c = inf ∧ ∀ j', i < j' → j' < j → inf ≤ cnd l w d F i j') ∨
  (o.c < inf ∧ i < o.x ∧ o.x < j ∧ o.c = cnd l w d F i o.x ∧ o.p = (F o.x).p + 1 ∧
    ∀ j', i < j' → j' < j → o.c < cnd l w d F i j' ∨ (o.c = cnd l w d F i j' ∧ (o.p < (F j').p + 1 ∨ (o.p = (F j').p + 1 ∧ o.x ≤ j'))))

theorem sofar_step {F : Nat → Ch} {i j : Nat} {o : Ch} (hij : i < j) (h : Sofar l w d F i j o) : Sofar l w d F i (j + 1) (stepC (cnd l w d F i j) (F j).p j o) := by
  unfold stepC
  rcases h with ⟨h1, h2⟩ | ⟨h1, h2, h3, h4, h5, h6⟩
  · split
    · rename_i hc
      refine .inr ⟨?_, hij, Nat.lt_succ_self _, rfl, rfl, fun j' a b => ?_⟩
      · show cnd l w d F i j < inf
        omega
      · rcases Nat.lt_or_ge j' j with q | q
        · have := h2 j' a q
          refine .inl ?_
          show cnd l w d F i j < _
          omega
        · obtain rfl : j' = j := by omega
          exact .inr ⟨rfl, .inr ⟨rfl, Nat.le_refl _⟩⟩
    · rename_i hc
      refine .inl ⟨h1, fun j' a b => ?_⟩
      rcases Nat.lt_or_ge j' j with q | q
      · exact h2 j' a q
      · obtain rfl : j' = j := by omega
        omega
  · split
    · rename_i hc
      refine .inr ⟨?_, hij, Nat.lt_succ_self _, rfl, rfl, fun j' a b => ?_⟩
      · show cnd l w d F i j < inf
        omega
      · show cnd l w d F i j < _ ∨ cnd l w d F i j = _ ∧ ((F j).p + 1 < _ ∨ (F j).p + 1 = _ ∧ j ≤ j')
        rcases Nat.lt_or_ge j' j with q | q
        · have := h6 j' a q
          omega
        · obtain rfl : j' = j := by omega
          exact .inr ⟨rfl, .inr ⟨rfl, Nat.le_refl _⟩⟩
    · rename_i hc
      refine .inr ⟨h1, h2, by omega, h4, h5, fun j' a b => ?_⟩
      rcases Nat.lt_or_ge j' j with q | q
      · exact h6 j' a q
      · obtain rfl : j' = j := by omega
        omega

theorem scan_spec (he : errL l = 0) {F : Nat → Ch} (hF : ∀ j, j ≤ l.length → 0 ≤ (F j).c) {i : Nat} : ∀ (m j : Nat) (o : Ch), i < j → j + m = l.length + 1 → Sofar l w d F i j o → Sofar l w d F i (l.length + 1) (scan l w d F i m j o)
  | 0, j, o, hij, hj, h => by
    obtain rfl : j = l.length + 1 := by omega
    exact h
  | m + 1, j, o, hij, hj, h => by
    unfold scan
    split
    · rename_i hst
      have big : ∀ j', j ≤ j' → j' < l.length + 1 → inf ≤ cnd l w d F i j' := by
        intro j' a b
        have h1 := stop_inf he hij hst j' a (by omega)
        have h2 := hF j' (by omega)
        simp only [cnd, h1]
        omega
      rcases h with ⟨h1, h2⟩ | ⟨h1, h2, h3, h4, h5, h6⟩
      · refine .inl ⟨h1, fun j' a b => ?_⟩
        rcases Nat.lt_or_ge j' j with q | q
        · exact h2 j' a q
        · exact big j' q b
      · refine .inr ⟨h1, h2, by omega, h4, h5, fun j' a b => ?_⟩
        rcases Nat.lt_or_ge j' j with q | q
        · exact h6 j' a q
        · have := big j' q b
          exact .inl (by omega)
    · exact scan_spec he hF m (j + 1) _ (by omega) (by omega) (sofar_step hij h)

theorem scan_congr {F F' : Nat → Ch} {i : Nat} : ∀ (m j : Nat) (o : Ch), (∀ j', j ≤ j' → F j' = F' j') → scan l w d F i m j o = scan l w d F' i m j o
  | 0, j, o, h => rfl
  | m + 1, j, o, h => by
    unfold scan
    split
    · rfl
    · have e : cnd l w d F i j = cnd l w d F' i j := by simp only [cnd, h j (Nat.le_refl _)]
      rw [e, h j (Nat.le_refl _)]
      exact scan_congr m (j + 1) _ (fun j' a => h j' (by omega))

/-- What is known of an entry. -/
def inE (n i : Nat) (o : Ch) : Prop := 0 ≤ o.c ∧ (o.c = inf ∨ o.c ≤ ((n - i : Nat) : Int) * 100000100) ∧ o.p + i ≤ n ∧ o.x ≤ n
def inT (F : Nat → Ch) (n : Nat) : Prop := ∀ j, j ≤ n → inE n j (F j)

theorem step_in {F : Nat → Ch} (hn : l.length ≤ 1024) (hF : inT F l.length) {i j : Nat} {o : Ch} (hij : i < j) (hj : j ≤ l.length) (h : inE l.length i o) : inE l.length i (stepC (cnd l w d F i j) (F j).p j o) := by
  have h1 := hF j hj
  have h2 := cst_in l (room w d i) i j
  have h3 := hinf
  unfold inE at *
  unfold stepC
  split
  · rename_i hc
    unfold cnd at hc ⊢
    refine ⟨?_, .inr ?_, ?_, hj⟩
    · show 0 ≤ cst l (room w d i) i j + (F j).c
      omega
    · show cst l (room w d i) i j + (F j).c ≤ _
      omega
    · show (F j).p + 1 + i ≤ _
      omega
  · exact h

theorem scan_in {F : Nat → Ch} (hn : l.length ≤ 1024) (hF : inT F l.length) {i : Nat} : ∀ (m j : Nat) (o : Ch), i < j → j + m = l.length + 1 → inE l.length i o → inE l.length i (scan l w d F i m j o)
  | 0, j, o, _, _, h => h
  | m + 1, j, o, hij, hj, h => by
    unfold scan
    split
    · exact h
    · exact scan_in hn hF m (j + 1) _ (by omega) (by omega) (step_in hn hF hij (by omega) h)

def upd (F : Nat → Ch) (i : Nat) (o : Ch) : Nat → Ch := fun j => if j = i then o else F j
def init : Ch := ⟨inf, 0, 0⟩
theorem init_in {n i : Nat} (h : i ≤ n) : inE n i init := ⟨by decide, .inl rfl, by simp [init]; exact h, by simp [init]⟩
/-- The table, when k entries are there beside the last one. -/
def tab (l : List Me) (w d : Int) : Nat → Nat → Ch
  | 0 => fun _ => ⟨0, 0, 0⟩
  | k + 1 => upd (tab l w d k) (l.length - k - 1) (scan l w d (tab l w d k) (l.length - k - 1) (k + 1) (l.length - k) init)

theorem tab_at {k : Nat} : tab l w d (k + 1) (l.length - k - 1) = scan l w d (tab l w d k) (l.length - k - 1) (k + 1) (l.length - k) init := by
  conv => lhs; unfold tab upd
  simp
theorem tab_ne {k j : Nat} (h : j ≠ l.length - k - 1) : tab l w d (k + 1) j = tab l w d k j := by
  conv => lhs; unfold tab upd
  simp [h]

theorem tab_in (hn : l.length ≤ 1024) : ∀ k, k ≤ l.length → inT (tab l w d k) l.length
  | 0, _ => fun j hj => ⟨Int.le_refl _, .inr (by simp [tab]; omega), by simp [tab]; omega, by simp [tab]⟩
  | k + 1, hk => fun j hj => by
    have ih := tab_in hn k (by omega)
    by_cases h : j = l.length - k - 1
    · subst h
      rw [tab_at]
      exact scan_in hn ih (k + 1) (l.length - k) init (by omega) (by omega) (init_in (by omega))
    · rw [tab_ne h]
      exact ih j hj

theorem tab_n : ∀ k, k ≤ l.length → ∀ j, l.length ≤ j → tab l w d k j = ⟨0, 0, 0⟩
  | 0, _, j, _ => rfl
  | k + 1, hk, j, hj => by
    rw [tab_ne (by omega)]
    exact tab_n k (by omega) j hj

theorem tab_eq : ∀ k, k ≤ l.length → ∀ j, l.length - k ≤ j → j < l.length → tab l w d k j = scan l w d (tab l w d k) j (l.length - j) (j + 1) init
  | 0, _, j, h1, h2 => by omega
  | k + 1, hk, j, h1, h2 => by
    by_cases h : j = l.length - k - 1
    · subst h
      rw [tab_at]
      have e1 : l.length - (l.length - k - 1) = k + 1 := by omega
      have e2 : l.length - k - 1 + 1 = l.length - k := by omega
      rw [e1, e2]
      exact scan_congr _ _ _ (fun j' a => (tab_ne (by omega)).symm)
    · rw [tab_ne h, tab_eq k (by omega) j (by omega) h2]
      exact scan_congr _ _ _ (fun j' a => (tab_ne (by omega)).symm)

/-- The whole table. -/
def tabN (l : List Me) (w d : Int) : Nat → Ch := tab l w d l.length
abbrev tabB (l : List Me) (w d : Int) : Nat → Bool → Ch := fun j _ => tabN l w d j
theorem tabN_spec (he : errL l = 0) (i : Nat) (hi : i < l.length) (s : Bool) : Path.Spec (cF l w d) l.length inf (tabB l w d) i s := by
  have hin := tab_in (w := w) (d := d) (errL_ok he).2.1 l.length (Nat.le_refl _)
  have h := scan_spec he (w := w) (d := d) (F := tabN l w d) (i := i) (fun j hj => (hin j hj).1) (l.length - i) (i + 1) init (by omega) (by omega) (.inl ⟨rfl, fun j' a b => by omega⟩)
  rw [show scan l w d (tabN l w d) i (l.length - i) (i + 1) init = tabN l w d i from (tab_eq l.length (Nat.le_refl _) i (by omega) hi).symm] at h
  rcases h with ⟨h1, h2⟩ | ⟨h1, h2, h3, h4, h5, h6⟩
  · exact .inl ⟨h1, fun j a b => h2 j a (by omega)⟩
  · exact .inr ⟨h1, h2, show (tabN l w d i).x ≤ l.length by omega, h4, h5, fun j a b => h6 j a (by omega)⟩
theorem cst_pos (l : List Me) (w : Int) (a b : Nat) : 0 ≤ cst l w a b ∧ cst l w a b ≤ inf := by
  have := cst_in l w a b
  have := hinf
  omega
/-- What the table tells: the best division. -/
def bestD (l : List Me) (w d : Int) : List Nat := Path.path (tabB l w d) l.length l.length 0 true
theorem bestD_ok (he : errL l = 0) :
    (inf ≤ (tabN l w d 0).c → ∀ D, Path.isD l.length (0 :: D) → inf ≤ tt l w d true (0 :: D)) ∧
    ((tabN l w d 0).c < inf → (∃ q, bestD l w d = 0 :: q) ∧ Path.isD l.length (bestD l w d) ∧ tt l w d true (bestD l w d) = (tabN l w d 0).c ∧
      ∀ D, Path.isD l.length (0 :: D) → 0 :: D = bestD l w d ∨ (tabN l w d 0).c < tt l w d true (0 :: D) ∨ ((tabN l w d 0).c = tt l w d true (0 :: D) ∧ Path.bet (bestD l w d) (0 :: D) = true)) := by
  have h := Path.best_opt (C := cF l w d) (n := l.length) (top := inf) (F := tabB l w d) (fun a b s f => (cst_pos l _ a b).1) (by decide) (fun s => tab_n l.length (Nat.le_refl _) l.length (Nat.le_refl _)) (fun i hi s => tabN_spec he i hi s) l.length 0 true (by omega) (errL_ok he).1
  refine ⟨h.1, fun hc => ?_⟩
  obtain ⟨a1, a2, a3, a4, a5⟩ := h.2 hc
  exact ⟨a1, a2, a4, a5⟩
end

end Go.Proofs.Ytdgifbmimfnmlaa

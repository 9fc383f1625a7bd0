/-
  The pieces of a span, in plain Lean: what the program's iterator hands on is what the reference builds measure by measure.
-/
import Derived.Test.YtfngllcjikmbkaaS14N
namespace Go.Proofs.Ytfngllcjikmbkaa
open Go Go.RowKit Go.Shelf

def Z (zs : List Int) (k : Nat) : Int := zs[k]?.getD 0
/-- From place i on, q places, each is greater than the one before. -/
def upB (zs : List Int) : Nat → Nat → Bool
  | 0, _ => true
  | q + 1, i => decide (Z zs (i - 1) < Z zs i) && upB zs q (i + 1)

theorem up_spec {zs : List Int} : ∀ (q i : Nat), upB zs q i = true → ∀ j, i ≤ j → j < i + q → Z zs (j - 1) < Z zs j
  | 0, i, _, j, h1, h2 => by omega
  | q + 1, i, h, j, h1, h2 => by
    unfold upB at h
    simp only [Bool.and_eq_true, decide_eq_true_eq] at h
    by_cases e : j = i
    · subst e; exact h.1
    · exact up_spec q (i + 1) h.2 j (by omega) (by omega)

def Asc (zs : List Int) : Prop := ∀ i j, i < j → j < zs.length → Z zs i < Z zs j
theorem asc_of {zs : List Int} (h : upB zs (zs.length - 1) 1 = true) : Asc zs := by
  intro i j hij hj
  have hs := up_spec _ _ h
  have : ∀ d, i + d + 1 < zs.length → Z zs i < Z zs (i + d + 1) := by
    intro d
    induction d with
    | zero => intro h; have := hs (i + 1) (by omega) (by omega); simpa using this
    | succ d ih =>
      intro h
      have h1 := ih (by omega)
      have h2 := hs (i + d + 2) (by omega) (by omega)
      have e : i + d + 2 - 1 = i + d + 1 := by omega
      rw [e] at h2
      show Z zs i < Z zs (i + d + 2)
      omega
  have h1 := this (j - i - 1) (by omega)
  rwa [show i + (j - i - 1) + 1 = j by omega] at h1

/-- System k is the one in which measure m lies. -/
def At (zs : List Int) (m : Int) (k : Nat) : Prop := k < zs.length ∧ Z zs k ≤ m ∧ ∀ j, k < j → j < zs.length → m < Z zs j

def opP (zs : List Int) (m1 : Int) (K d : Nat) (m : Int) (e : Bool) : Pc := ⟨((K + d : Nat) : Int), if d = 0 then m1 else Z zs (K + d), m, decide (d = 0), e⟩
def clP (zs : List Int) (m1 : Int) (K : Nat) : Nat → List Pc
  | 0 => []
  | d + 1 => clP zs m1 K d ++ [opP zs m1 K d (Z zs (K + d + 1) - 1) false]
theorem clP_len (zs : List Int) (m1 : Int) (K : Nat) : ∀ d, (clP zs m1 K d).length = d
  | 0 => rfl
  | d + 1 => by simp [clP, clP_len zs m1 K d]

section
variable {zs : List Int} {m1 m2 : Int}

theorem last_in {k : Nat} (hr : ∀ j, j < zs.length → -9223372036854775808 ≤ Z zs j ∧ Z zs j ≤ 9223372036854775807) (ha : Asc zs) (hk : k + 1 < zs.length) : lastM zs k = Z zs (k + 1) - 1 := by
  have h1 := hr (k + 1) hk
  have h2 := hr k (by omega)
  have h3 := ha k (k + 1) (by omega) hk
  unfold lastM
  rw [if_pos hk]
  show wrap64 (Z zs (k + 1) - 1) = _
  unfold wrap64
  omega
theorem last_out {k : Nat} (hk : ¬ k + 1 < zs.length) : lastM zs k = 9223372036854775807 := by
  unfold lastM
  rw [if_neg hk]

theorem pcs_lo (hr : ∀ j, j < zs.length → -9223372036854775808 ≤ Z zs j ∧ Z zs j ≤ 9223372036854775807) (ha : Asc zs) {K : Nat} (h1 : At zs m1 K) : ∀ k, k ≤ K → pcs zs m1 m2 k = []
  | 0, _ => rfl
  | k + 1, h => by
    rw [pcs_same ?_, pcs_lo hr ha h1 k (by omega)]
    have hk : k + 1 < zs.length := by have := h1.1; omega
    have h2 : Z zs (k + 1) ≤ m1 := by
      rcases Nat.lt_or_ge (k + 1) K with c | c
      · have := ha (k + 1) K c h1.1
        have := h1.2.1
        omega
      · have e : k + 1 = K := by omega
        rw [e]; exact h1.2.1
    have h3 := ha k (k + 1) (by omega) hk
    have h4 := last_in hr ha hk
    unfold pcF pcL mxI mnI
    rw [h4]
    show ¬ (if m1 > Z zs k then m1 else Z zs k) ≤ (if m2 < Z zs (k + 1) - 1 then m2 else Z zs (k + 1) - 1)
    rw [if_pos (by omega)]
    split <;> omega

theorem pcF_at {K j : Nat} (h1 : At zs m1 K) (hj : K + j < zs.length) : pcF zs m1 (K + j) = (if j = 0 then m1 else Z zs (K + j)) ∧ ((pcF zs m1 (K + j) == m1) = decide (j = 0)) := by
  have e : pcF zs m1 (K + j) = (if j = 0 then m1 else Z zs (K + j)) := by
    unfold pcF mxI
    show (if m1 > Z zs (K + j) then m1 else Z zs (K + j)) = _
    by_cases c : j = 0
    · subst c
      rw [if_pos rfl]
      have := h1.2.1
      split
      · rfl
      · show Z zs (K + 0) = m1
        simp only [Nat.add_zero] at *
        omega
    · rw [if_neg c]
      have := h1.2.2 (K + j) (by omega) hj
      rw [if_neg (by omega)]
  refine ⟨e, ?_⟩
  rw [e]
  by_cases c : j = 0
  · subst c; simp
  · rw [if_neg c]
    have := h1.2.2 (K + j) (by omega) hj
    have h2 : Z zs (K + j) ≠ m1 := by omega
    simp [h2, c]

theorem pcs_mid (hr : ∀ j, j < zs.length → -9223372036854775808 ≤ Z zs j ∧ Z zs j ≤ 9223372036854775807) (ha : Asc zs) {K d : Nat} (h1 : At zs m1 K) (h2 : At zs m2 (K + d)) : ∀ j, j ≤ d → pcs zs m1 m2 (K + j) = clP zs m1 K j
  | 0, _ => pcs_lo hr ha h1 K (Nat.le_refl _)
  | j + 1, h => by
    have hk : K + j + 1 < zs.length := by have := h2.1; omega
    have h3 : Z zs (K + j + 1) ≤ m2 := by
      rcases Nat.lt_or_ge (K + j + 1) (K + d) with c | c
      · have := ha (K + j + 1) (K + d) c h2.1
        have := h2.2.1
        omega
      · have e : K + j + 1 = K + d := by omega
        rw [e]; exact h2.2.1
    have h4 := last_in hr ha hk
    obtain ⟨f1, f2⟩ := pcF_at (j := j) h1 (by omega)
    have hL : pcL zs m2 (K + j) = Z zs (K + j + 1) - 1 := by
      unfold pcL mnI
      rw [h4, if_neg (by omega)]
    have hle : pcF zs m1 (K + j) ≤ pcL zs m2 (K + j) := by
      rw [f1, hL]
      by_cases c : j = 0
      · subst c
        rw [if_pos rfl]
        have := h1.2.2 (K + 1) (by omega) (by omega)
        simp only [Nat.add_zero]
        omega
      · rw [if_neg c]
        have := ha (K + j) (K + j + 1) (by omega) hk
        omega
    show pcs zs m1 m2 (K + j + 1) = _
    rw [pcs_one hle, pcs_mid hr ha h1 h2 j (by omega)]
    show _ = clP zs m1 K j ++ [opP zs m1 K j (Z zs (K + j + 1) - 1) false]
    congr 2
    have hne : (pcL zs m2 (K + j) == m2) = false := by
      rw [hL]
      have : Z zs (K + j + 1) - 1 ≠ m2 := by omega
      simpa using this
    unfold pcAt opP
    rw [f2, hne, f1, hL]

theorem pcs_eq (hr : ∀ j, j < zs.length → -9223372036854775808 ≤ Z zs j ∧ Z zs j ≤ 9223372036854775807) (ha : Asc zs) {K d : Nat} (h1 : At zs m1 K) (h2 : At zs m2 (K + d)) (hm : m1 ≤ m2) (hm2 : m2 ≤ 9223372036854775807) :
    pcs zs m1 m2 zs.length = clP zs m1 K d ++ [opP zs m1 K d m2 true] := by
  have hone : pcs zs m1 m2 (K + d + 1) = clP zs m1 K d ++ [opP zs m1 K d m2 true] := by
    obtain ⟨f1, f2⟩ := pcF_at (j := d) h1 h2.1
    have hL : pcL zs m2 (K + d) = m2 := by
      unfold pcL mnI
      by_cases c : K + d + 1 < zs.length
      · have := h2.2.2 (K + d + 1) (by omega) c
        rw [last_in hr ha c]
        split <;> omega
      · rw [last_out c]
        split <;> omega
    have hle : pcF zs m1 (K + d) ≤ pcL zs m2 (K + d) := by
      rw [f1, hL]
      have := h2.2.1
      split <;> omega
    rw [pcs_one hle, pcs_mid hr ha h1 h2 d (Nat.le_refl _)]
    congr 2
    unfold pcAt opP
    rw [f2, f1, hL, beq_self_eq_true]
  have hhi : ∀ n, K + d + 1 + n ≤ zs.length → pcs zs m1 m2 (K + d + 1 + n) = clP zs m1 K d ++ [opP zs m1 K d m2 true] := by
    intro n
    induction n with
    | zero => intro _; exact hone
    | succ n ih =>
      intro h
      show pcs zs m1 m2 (K + d + 1 + n + 1) = _
      rw [pcs_same ?_, ih (by omega)]
      have h3 := h2.2.2 (K + d + 1 + n) (by omega) (by omega)
      unfold pcF pcL mxI mnI
      show ¬ (if m1 > Z zs (K + d + 1 + n) then m1 else Z zs (K + d + 1 + n)) ≤ (if m2 < lastM zs (K + d + 1 + n) then m2 else lastM zs (K + d + 1 + n))
      rw [if_neg (by omega)]
      split <;> omega
  have h3 := h2.1
  have := hhi (zs.length - (K + d + 1)) (by omega)
  rwa [show K + d + 1 + (zs.length - (K + d + 1)) = zs.length by omega] at this

end

end Go.Proofs.Ytfngllcjikmbkaa

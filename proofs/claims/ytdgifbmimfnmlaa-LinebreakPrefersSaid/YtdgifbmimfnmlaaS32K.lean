/-
  Line breaks: the arguments of the laws.
-/
import Derived.Test.YtdgifbmimfnmlaaS32D
namespace Go.Proofs.Ytdgifbmimfnmlaa
open Go Go.Ab
set_option linter.unusedVariables false
set_option linter.unnecessarySimpa false
set_option linter.unusedSimpArgs false

theorem E5_of (els : List (List V)) (h : ∀ e ∈ els, fitCs [.int .i64, .int .i64, .int .i64, .int .i64, .int .i64] e) : ∃ l, els = E5 l := by
  induction els with
  | nil => exact ⟨[], rfl⟩
  | cons e es ih =>
    obtain ⟨l, rfl⟩ := ih (fun e he => h e (by simp [he]))
    have h0 := h e (by simp)
    obtain ⟨_, _, rfl, ⟨b0, rfl, _⟩, ⟨_, _, rfl, ⟨b1, rfl, _⟩, ⟨_, _, rfl, ⟨b2, rfl, _⟩, ⟨_, _, rfl, ⟨b3, rfl, _⟩, ⟨_, _, rfl, ⟨b4, rfl, _⟩, rfl⟩⟩⟩⟩⟩ := h0
    exact ⟨⟨b0, b1, b2, b3, b4⟩ :: l, rfl⟩
theorem arg5 {v : V} (h : fitSl [.int .i64, .int .i64, .int .i64, .int .i64, .int .i64] v) : ∃ l, SlV 5 v (E5 l) ∧ l.length ≤ 9223372036854775807 := by
  rcases h with rfl | ⟨els, rfl, hlen, hels⟩
  · exact ⟨[], .nil, by simp⟩
  · obtain ⟨l, rfl⟩ := E5_of els hels
    exact ⟨l, .any, by rw [E5_len] at hlen; exact Nat.le_trans hlen (by decide)⟩
theorem I1_of (els : List (List V)) (h : ∀ e ∈ els, fitCs [.int .i64] e) : ∃ l, els = I1 l := by
  induction els with
  | nil => exact ⟨[], rfl⟩
  | cons e es ih =>
    obtain ⟨l, rfl⟩ := ih (fun e he => h e (by simp [he]))
    have h0 := h e (by simp)
    obtain ⟨_, _, rfl, ⟨b0, rfl, _⟩, rfl⟩ := h0
    exact ⟨b0 :: l, rfl⟩
theorem arg1 {v : V} (h : fitSl [.int .i64] v) : ∃ l, SlV 1 v (I1 l) ∧ l.length ≤ 9223372036854775807 := by
  rcases h with rfl | ⟨els, rfl, hlen, hels⟩
  · exact ⟨[], .nil, by simp⟩
  · obtain ⟨l, rfl⟩ := I1_of els hels
    exact ⟨l, .any, by rw [I1_len] at hlen; exact Nat.le_trans hlen (by decide)⟩

end Go.Proofs.Ytdgifbmimfnmlaa

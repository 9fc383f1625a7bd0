/-
  A slice that a call builds up by appending to it.
-/
import Derived.Test.YtfngllcjikmbkaaAbGo
namespace Go.Ab
open Go Go.RowKit
set_option linter.unusedVariables false
set_option linter.unnecessarySimpa false
set_option linter.unusedSimpArgs false

/-- The value v stands for the elements acc, that lie in the row of a site. -/
def Acc (site sz : Nat) (L : List Row) (v : V) (acc : List (List V)) : Prop :=
  (acc = [] ∧ v = .nilsl) ∨ (acc ≠ [] ∧ ∃ ver, 0 < ver ∧ v = .ref 0 site ver sz 0 acc.length ∧ rget L site = ⟨ver, sz, acc⟩)

theorem Acc.nil {site sz : Nat} {L : List Row} : Acc site sz L .nilsl [] := .inl ⟨rfl, rfl⟩

theorem Acc.app {site sz bytes : Nat} {L : List Row} {H : List (List Row)} {v y : V} {acc new : List (List V)} (h : Acc site sz L v acc) (hy : elsOf (L :: H) y = some new) (hn : new ≠ [])
    (hb : bytes ≤ 16384) (hl : acc.length + new.length ≤ 4294967296) (hnew : new.all (fun e => e.length = sz ∧ e.all V.scalar) = true) :
    ∃ v' L', appV (L :: H) site sz bytes v y = some (v', L') ∧ Acc site sz L' v' (acc ++ new) ∧ ∀ s, s ≠ site → rget L' s = rget L s := by
  have he : new.isEmpty = false := by cases new <;> simp_all
  rcases h with ⟨rfl, rfl⟩ | ⟨ha, ver, hv, rfl, hr⟩
  · refine ⟨.ref 0 site ((rget L site).ver + 1) sz 0 new.length, rset L site ⟨(rget L site).ver + 1, sz, new⟩, ?_, ?_, ?_⟩
    · simp only [List.length_nil, Nat.zero_add] at hl
      simp only [appV, hy, Option.bind_some, he, Bool.false_eq_true, if_false, List.getD_cons_zero]
      rw [if_pos ⟨by simp [roomy, hb, hl], hnew⟩]
    · right
      refine ⟨by simpa using hn, (rget L site).ver + 1, by omega, by simp, ?_⟩
      rw [rget_rset, if_pos rfl]
      simp
    · intro s hs
      rw [rget_rset, if_neg (fun e => hs e.symm)]
  · refine ⟨.ref 0 site (ver + 1) sz 0 (acc.length + new.length), rset L site ⟨ver + 1, sz, acc ++ new⟩, ?_, ?_, ?_⟩
    · simp only [appV, hy, Option.bind_some, List.getD_cons_zero, hr]
      rw [if_pos ⟨trivial, hv, trivial, trivial, trivial, by simp [roomy, hb, hl], hnew⟩]
    · right
      refine ⟨by simp [ha], ver + 1, by omega, by simp, ?_⟩
      rw [rget_rset, if_pos rfl]
    · intro s hs
      rw [rget_rset, if_neg (fun e => hs e.symm)]

theorem Acc.mono {site sz : Nat} {L L' : List Row} {v : V} {acc : List (List V)} (h : Acc site sz L v acc) (k : rget L' site = rget L site) : Acc site sz L' v acc := by
  rcases h with h | ⟨ha, ver, hv, h1, h2⟩
  · exact .inl h
  · exact .inr ⟨ha, ver, hv, h1, k.trans h2⟩

theorem Acc.len {site sz : Nat} {L : List Row} {v : V} {acc : List (List V)} (h : Acc site sz L v acc) : lenV v = some (.i (acc.length : Nat)) := by
  rcases h with ⟨rfl, rfl⟩ | ⟨ha, ver, hv, rfl, h2⟩ <;> rfl

/-- What the caller gets. -/
def outAcc (sz : Nat) (acc : List (List V)) : V := if acc = [] then .nilsl else .sl .own sz acc

theorem Acc.out {site sz : Nat} {L : List Row} {v : V} {acc : List (List V)} (h : Acc site sz L v acc) (hz : 0 < sz) (hp : acc.all (fun e => e.all V.pure) = true) : outV L v = some (outAcc sz acc) := by
  rcases h with ⟨rfl, rfl⟩ | ⟨ha, ver, hv, rfl, h2⟩
  · simp [outV, outAcc]
  · simp only [outV, outAcc, h2]
    rw [if_pos ⟨trivial, hv, trivial, trivial, hz, hp⟩, if_neg ha]

theorem nn (n : Nat) : (0 ≤ (n : Int)) = True := by simp
theorem ite_ov {α : Type} {c : Prop} [Decidable c] {x : α} (h : c) : (if c then some x else none) = some x := if_pos h

end Go.Ab

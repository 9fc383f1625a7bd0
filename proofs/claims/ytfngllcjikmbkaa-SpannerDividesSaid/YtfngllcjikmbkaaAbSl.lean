/-
  Slices that are values: nil, or with known contents.
-/
import Derived.Test.YtfngllcjikmbkaaAbEqs
namespace Go.Ab
open Go Go.RowKit
set_option linter.unusedVariables false
set_option linter.unnecessarySimpa false
set_option linter.unusedSimpArgs false

/-- The value stands for these elements. -/
def SlV (sz : Nat) (v : V) (els : List (List V)) : Prop := (v = .nilsl ∧ els = []) ∨ ∃ k, k ≠ .own ∧ v = .sl k sz els

theorem SlV.nil {sz : Nat} : SlV sz .nilsl [] := .inl ⟨rfl, rfl⟩
theorem SlV.any {sz : Nat} {els : List (List V)} : SlV sz (.sl .any sz els) els := .inr ⟨.any, by simp, rfl⟩
theorem SlV.full {sz : Nat} {els : List (List V)} : SlV sz (.sl .full sz els) els := .inr ⟨.full, by simp, rfl⟩

section
variable {sz : Nat} {v : V} {es : List (List V)} (h : SlV sz v es)
include h
theorem SlV.len : lenV v = some (.i (es.length : Nat)) := by
  rcases h with ⟨rfl, rfl⟩ | ⟨k, hk, rfl⟩
  · rfl
  · simp [lenV, hk]
theorem SlV.el {i : Nat} {e : List V} (hi : es[i]? = some e) : elemV sz v (.i (i : Nat)) = some (.eptr e 0) := by
  rcases h with ⟨rfl, rfl⟩ | ⟨k, hk, rfl⟩
  · simp at hi
  · simp [elemV, hk, hi]
theorem SlV.el' {n : Int} {e : List V} (h0 : 0 ≤ n) (hi : es[n.toNat]? = some e) : elemV sz v (.i n) = some (.eptr e 0) := by
  rcases h with ⟨rfl, rfl⟩ | ⟨k, hk, rfl⟩
  · simp at hi
  · simp [elemV, hk, hi, h0]
theorem SlV.els (M : List (List Row)) : elsOf M v = some es := by
  rcases h with ⟨rfl, rfl⟩ | ⟨k, hk, rfl⟩
  · rfl
  · simp [elsOf, hk]
theorem SlV.sh (d : Nat) : V.shift d v = v := by
  rcases h with ⟨rfl, rfl⟩ | ⟨k, hk, rfl⟩ <;> rfl
theorem SlV.out (L : List Row) : outV L v = some v := by
  rcases h with ⟨rfl, rfl⟩ | ⟨k, hk, rfl⟩
  · rfl
  · simp [outV, hk]
theorem SlV.fz (L : List Row) : frzD L v = some (v, L) := by
  rcases h with ⟨rfl, rfl⟩ | ⟨k, hk, rfl⟩ <;> rfl
theorem SlV.st : Ab.settle v = v := by
  rcases h with ⟨rfl, rfl⟩ | ⟨k, hk, rfl⟩
  · rfl
  · cases k
    · rfl
    · rfl
    · exact absurd rfl hk
theorem SlV.ti (keep : Bool) (L : List Row) (s : Nat) : takeIn keep L s v = (v, L) := by
  rcases h with ⟨rfl, rfl⟩ | ⟨k, hk, rfl⟩
  · rfl
  · cases k
    · rfl
    · rfl
    · exact absurd rfl hk
theorem SlV.ti_tup (keep : Bool) (L : List Row) (s : Nat) (vs : List V) : takeIn keep L s (.tup (v :: vs)) = (.tup (v :: vs.map Ab.settle), L) := by
  rcases h with ⟨rfl, rfl⟩ | ⟨k, hk, rfl⟩
  · rfl
  · cases k
    · rfl
    · rfl
    · exact absurd rfl hk
theorem SlV.pure : V.pure v = true := by
  rcases h with ⟨rfl, rfl⟩ | ⟨k, hk, rfl⟩
  · rfl
  · simp [V.pure, hk]
theorem SlV.scalar : V.scalar v = true := by
  rcases h with ⟨rfl, rfl⟩ | ⟨k, hk, rfl⟩ <;> rfl
theorem SlV.cells : V.cells v = [v] := by
  rcases h with ⟨rfl, rfl⟩ | ⟨k, hk, rfl⟩ <;> rfl
theorem SlV.notown : (match v with | .sl .own _ _ => false | _ => true) = true := by
  rcases h with ⟨rfl, rfl⟩ | ⟨k, hk, rfl⟩
  · rfl
  · cases k
    · rfl
    · rfl
    · exact absurd rfl hk
/-- A part of it. -/
theorem SlV.sub {lo hi : Option V} {a b : Nat} (hlo : lo = none ∧ a = 0 ∨ lo = some (.i (a : Nat))) (hhi : hi = none ∧ b = es.length ∨ hi = some (.i (b : Nat))) (hab : a ≤ b) (hb : b ≤ es.length) :
    ∃ v', subV sz v lo hi none = some v' ∧ SlV sz v' ((es.take b).drop a) := by
  rcases h with ⟨rfl, rfl⟩ | ⟨k, hk, rfl⟩
  · simp only [List.length_nil, Nat.le_zero] at hb
    subst hb
    obtain rfl : a = 0 := by omega
    refine ⟨.nilsl, ?_, .inl ⟨rfl, by simp⟩⟩
    rcases hlo with ⟨rfl, _⟩ | rfl <;> rcases hhi with ⟨rfl, _⟩ | rfl <;> simp [subV, bounds]
  · refine ⟨.sl (if k = .full ∧ b = es.length then .full else .any) sz ((es.take b).drop a), ?_, .inr ⟨_, ?_, rfl⟩⟩
    · have h1 : (a : Int) ≤ (b : Nat) := by omega
      have h2 : (b : Int) ≤ (es.length : Nat) := by omega
      rcases hlo with ⟨rfl, rfl⟩ | rfl <;> rcases hhi with ⟨rfl, rfl⟩ | rfl <;> simp [subV, bounds, hk, h1, h2, hab, hb]
    · split <;> simp
end

/-- A list that a call returns, as its caller has it. -/
def svE (sz : Nat) (els : List (List V)) : V := if els = [] then .nilsl else .sl .any sz els
theorem svE_ok (sz : Nat) (els : List (List V)) : SlV sz (svE sz els) els := by
  unfold svE
  split
  · rename_i h; subst h; exact .nil
  · exact .any
theorem out_take {L : List Row} {s sz : Nat} (els : List (List V)) : takeIn false L s (outAcc sz els) = (svE sz els, L) := by
  unfold outAcc svE
  split <;> rfl
theorem out_take_tup {L : List Row} {s sz : Nat} (els : List (List V)) (vs : List V) : takeIn false L s (.tup (outAcc sz els :: vs)) = (.tup (svE sz els :: vs.map Ab.settle), L) := by
  unfold outAcc svE
  split <;> rfl

/-- What appending to a slice that is built up gives, as equations. -/
theorem acc_app {site sz bytes : Nat} {L : List Row} {H : List (List Row)} {v y : V} {acc new : List (List V)} (h : Acc site sz L v acc) (hy : elsOf (L :: H) y = some new) (hn : new ≠ [])
    (hb : bytes ≤ 16384) (hl : acc.length + new.length ≤ 4294967296) (hnew : new.all (fun e => e.length = sz ∧ e.all V.scalar) = true) :
    appV (L :: H) site sz bytes v y = some (.ref 0 site ((rget L site).ver + 1) sz 0 (acc.length + new.length), rset L site ⟨(rget L site).ver + 1, sz, acc ++ new⟩) ∧
    Acc site sz (rset L site ⟨(rget L site).ver + 1, sz, acc ++ new⟩) (.ref 0 site ((rget L site).ver + 1) sz 0 (acc.length + new.length)) (acc ++ new) := by
  have he : new.isEmpty = false := by cases new <;> simp_all
  refine ⟨?_, .inr ⟨by simp [hn], (rget L site).ver + 1, by omega, by simp, by rw [rget_rset, if_pos rfl]⟩⟩
  rcases h with ⟨rfl, rfl⟩ | ⟨ha, ver, hv, rfl, hr⟩
  · simp only [List.length_nil, Nat.zero_add] at hl
    simp only [appV, hy, Option.bind_some, he, Bool.false_eq_true, if_false, List.getD_cons_zero]
    rw [if_pos ⟨by simp [roomy, hb, hl], hnew⟩]
    simp
  · simp only [appV, hy, Option.bind_some, List.getD_cons_zero, hr]
    rw [if_pos ⟨trivial, hv, trivial, trivial, trivial, by simp [roomy, hb, hl], hnew⟩]

/-- The slots are the same. -/
def Same : List Nat → List V → List V → Prop
  | [], _, _ => True
  | j :: js, fr, fr' => Ab.get fr' j = Ab.get fr j ∧ Same js fr fr'
/-- The slots hold these values. -/
def Has : List (Nat × V) → List V → Prop
  | [], _ => True
  | (j, v) :: js, fr => Ab.get fr j = v ∧ Has js fr

theorem drop_cons {α : Type} {l t : List α} {i : Nat} {a : α} (h : l.drop i = a :: t) : l[i]? = some a ∧ l.drop (i + 1) = t ∧ i < l.length := by
  have h1 : i < l.length := by
    rcases Nat.lt_or_ge i l.length with h2 | h2
    · exact h2
    · rw [List.drop_of_length_le h2] at h
      cases h
  have h2 := List.drop_eq_getElem_cons h1
  rw [h] at h2
  injection h2 with h3 h4
  exact ⟨by rw [List.getElem?_eq_getElem h1, h3], h4.symm, h1⟩
theorem drop_nil {α : Type} {l : List α} {i : Nat} (h : l.drop i = []) : l.length ≤ i := by
  rcases Nat.lt_or_ge i l.length with h2 | h2
  · rw [List.drop_eq_getElem_cons h2] at h
    cases h
  · exact h2

end Go.Ab

/-
  The abstract machine without fuel: what any number of rounds comes to; its equations.
-/
import Derived.Test.YtfngllcjikmbkaaAbSound
namespace Go.Ab
open Go Go.RowKit
set_option linter.unusedVariables false
set_option linter.unusedSimpArgs false
set_option linter.unnecessarySimpa false

def LeC (cf cf' : CallF) : Prop := ∀ f a H v, cf f a H = some v → cf' f a H = some v
def LeL (lf lf' : LoopF) : Prop := ∀ c H st r, lf c H st = some r → lf' c H st = some r

theorem evalOp_mono {cf cf' : CallF} (h : LeC cf cf') {H : List (List Row)} {fr : List V} {L : List Row} {o : AOp} {r : V × List Row} (he : evalOp cf H fr L o = some r) : evalOp cf' H fr L o = some r := by
  have key : ∀ {L s fv argv} {r : V × List Row}, callV cf H L s fv argv = some r → callV cf' H L s fv argv = some r := by
    intro L s fv argv r he
    unfold callV at he ⊢
    split at he
    · obtain ⟨u, hu, hr⟩ := Option.map_eq_some_iff.1 he
      rw [h _ _ _ _ hu, Option.map_some, hr]
    · cases he
  cases o <;> try exact he
  · simp only [evalOp] at he ⊢
    exact key he
  · simp only [evalOp, Option.bind_eq_some_iff] at he ⊢
    obtain ⟨q, h1, h2⟩ := he
    exact ⟨q, h1, key h2⟩

theorem evalOper_mono {cf cf' : CallF} (h : LeC cf cf') {H : List (List Row)} {o : AOper} {st st' : St} (he : evalOper cf H o st = some st') : evalOper cf' H o st = some st' := by
  unfold evalOper at he ⊢
  obtain ⟨b, hb, he⟩ := Option.bind_eq_some_iff.1 he
  rw [hb, Option.bind_some]
  split
  · rename_i e
    rw [if_pos e] at he
    obtain ⟨u, hu, hr⟩ := Option.map_eq_some_iff.1 he
    rw [evalOp_mono h hu, Option.map_some, hr]
  · rename_i e
    rw [if_neg e] at he
    exact he

theorem evalOps_mono {cf cf' : CallF} (h : LeC cf cf') {H : List (List Row)} : ∀ {os : List AOper} {st st' : St}, evalOps cf H os st = some st' → evalOps cf' H os st = some st'
  | [], _, _, he => he
  | o :: os, st, st', he => by
    simp only [evalOps, Option.bind_eq_some_iff] at he ⊢
    obtain ⟨s1, h1, h2⟩ := he
    exact ⟨s1, evalOper_mono h h1, evalOps_mono h h2⟩

theorem exec_mono {cf cf' : CallF} {lf lf' : LoopF} (h : LeC cf cf') (k : LeL lf lf') {H : List (List Row)} : ∀ {c : ACode} {st : St} {r : AExit × St}, exec cf lf H c st = some r → exec cf' lf' H c st = some r
  | .skip, _, _, he | .exit _, _, _, he | .ret, _, _, he => he
  | .region ks ops, st, r, he => by
    simp only [exec, Option.map_eq_some_iff] at he ⊢
    obtain ⟨s1, h1, h2⟩ := he
    exact ⟨s1, evalOps_mono h h1, h2⟩
  | .seq a b, st, r, he => by
    simp only [exec, Option.bind_eq_some_iff] at he ⊢
    obtain ⟨⟨e, s1⟩, h1, h2⟩ := he
    refine ⟨⟨e, s1⟩, exec_mono h k h1, ?_⟩
    cases e with
    | normal => exact exec_mono h k h2
    | exit _ => exact h2
    | ret => exact h2
  | .cond c a b, st, r, he => by
    simp only [exec, Option.bind_eq_some_iff] at he ⊢
    obtain ⟨t, h1, h2⟩ := he
    refine ⟨t, h1, ?_⟩
    split
    · rename_i e; rw [if_pos e] at h2; exact exec_mono h k h2
    · rename_i e; rw [if_neg e] at h2; exact exec_mono h k h2
  | .block id c, st, r, he => by
    simp only [exec, Option.map_eq_some_iff] at he ⊢
    obtain ⟨s1, h1, h2⟩ := he
    exact ⟨s1, exec_mono h k h1, h2⟩
  | .loop c, st, r, he => k _ _ _ _ he
  | .scope c, st, r, he => by
    simp only [exec] at he ⊢
    exact exec_mono h k he

theorem callS_mono {tbl : Tbl} {cf cf' : CallF} {lf lf' : LoopF} (h : LeC cf cf') (k : LeL lf lf') : LeC (callS tbl cf lf) (callS tbl cf' lf') := by
  intro f a H v he
  unfold callS at he ⊢
  cases hf : tbl.fn f with
  | none => rw [hf] at he; exact he
  | some af =>
    rw [hf] at he
    simp only [Option.bind_eq_some_iff] at he ⊢
    obtain ⟨r, h2, h3⟩ := he
    exact ⟨r, exec_mono h k h2, h3⟩

theorem loopS_mono {cf cf' : CallF} {lf lf' : LoopF} (h : LeC cf cf') (k : LeL lf lf') : LeL (loopS cf lf) (loopS cf' lf') := by
  intro c H st v he
  simp only [loopS, Option.bind_eq_some_iff] at he ⊢
  obtain ⟨⟨e, s1⟩, h2, h3⟩ := he
  refine ⟨⟨e, s1⟩, exec_mono h k h2, ?_⟩
  cases e with
  | normal => exact k _ _ _ _ h3
  | exit _ => exact h3
  | ret => exact h3

theorem stepN_succ (tbl : Tbl) : ∀ n, LeC (stepN tbl n).1 (stepN tbl (n + 1)).1 ∧ LeL (stepN tbl n).2 (stepN tbl (n + 1)).2
  | 0 => ⟨fun _ _ _ _ h => by simp [stepN] at h, fun _ _ _ _ h => by simp [stepN] at h⟩
  | n + 1 => by
    obtain ⟨h1, h2⟩ := stepN_succ tbl n
    exact ⟨callS_mono h1 h2, loopS_mono h1 h2⟩

theorem stepN_le (tbl : Tbl) {m n : Nat} (h : m ≤ n) : LeC (stepN tbl m).1 (stepN tbl n).1 ∧ LeL (stepN tbl m).2 (stepN tbl n).2 := by
  induction h with
  | refl => exact ⟨fun _ _ _ _ h => h, fun _ _ _ _ h => h⟩
  | step _ ih =>
    obtain ⟨h1, h2⟩ := stepN_succ tbl _
    exact ⟨fun f a H v h => h1 _ _ _ _ (ih.1 _ _ _ _ h), fun c H st r h => h2 _ _ _ _ (ih.2 _ _ _ _ h)⟩

open Classical in
noncomputable def call (tbl : Tbl) : CallF := fun f a H => if h : ∃ v n, (stepN tbl n).1 f a H = some v then some (Classical.choose h) else none
open Classical in
noncomputable def loop (tbl : Tbl) : LoopF := fun c H st => if h : ∃ v n, (stepN tbl n).2 c H st = some v then some (Classical.choose h) else none

theorem call_iff {tbl : Tbl} {f : FuncId} {a : List V} {H : List (List Row)} {v : V} : call tbl f a H = some v ↔ ∃ n, (stepN tbl n).1 f a H = some v := by
  unfold call
  split
  · rename_i h
    have hs := Classical.choose_spec h
    constructor
    · intro e; cases e; exact hs
    · rintro ⟨n, hn⟩
      obtain ⟨m, hm⟩ := hs
      have h1 := (stepN_le tbl (Nat.le_max_left m n)).1 _ _ _ _ hm
      have h2 := (stepN_le tbl (Nat.le_max_right m n)).1 _ _ _ _ hn
      rw [h1] at h2
      exact h2
  · rename_i h
    constructor
    · intro e; cases e
    · rintro ⟨n, hn⟩; exact absurd ⟨v, n, hn⟩ h

theorem loop_iff {tbl : Tbl} {c : ACode} {H : List (List Row)} {st : St} {v : AExit × St} : loop tbl c H st = some v ↔ ∃ n, (stepN tbl n).2 c H st = some v := by
  unfold loop
  split
  · rename_i h
    have hs := Classical.choose_spec h
    constructor
    · intro e; cases e; exact hs
    · rintro ⟨n, hn⟩
      obtain ⟨m, hm⟩ := hs
      have h1 := (stepN_le tbl (Nat.le_max_left m n)).2 _ _ _ _ hm
      have h2 := (stepN_le tbl (Nat.le_max_right m n)).2 _ _ _ _ hn
      rw [h1] at h2
      exact h2
  · rename_i h
    constructor
    · intro e; cases e
    · rintro ⟨n, hn⟩; exact absurd ⟨v, n, hn⟩ h

theorem lim_le (tbl : Tbl) (n : Nat) : LeC (stepN tbl n).1 (call tbl) ∧ LeL (stepN tbl n).2 (loop tbl) :=
  ⟨fun f a H v h => call_iff.2 ⟨n, h⟩, fun c H st r h => loop_iff.2 ⟨n, h⟩⟩

/-! ### What the limit does is done after some rounds -/

theorem evalOper_lim {tbl : Tbl} {H : List (List Row)} {o : AOper} {st st' : St} (he : evalOper (call tbl) H o st = some st') : ∃ n, evalOper (stepN tbl n).1 H o st = some st' := by
  obtain ⟨d, op, g⟩ := o
  have key : ∀ {L : List Row} {s : Nat} {fv : V} {argv : List V} {r : V × List Row}, callV (call tbl) H L s fv argv = some r → ∃ n, callV (stepN tbl n).1 H L s fv argv = some r := by
    intro L s fv argv r hr
    unfold callV at hr ⊢
    split at hr
    · obtain ⟨u, hu, h3⟩ := Option.map_eq_some_iff.1 hr
      obtain ⟨n, hn⟩ := call_iff.1 hu
      exact ⟨n, by rw [hn, Option.map_some, h3]⟩
    · cases hr
  have key2 : ∀ {fr : List V} {L : List Row} {r : V × List Row}, evalOp (call tbl) H fr L op = some r → ∃ n, evalOp (stepN tbl n).1 H fr L op = some r := by
    intro fr L r hr
    by_cases hc : ∃ s f as, op = .call s f as
    · obtain ⟨s, f, as, rfl⟩ := hc
      simp only [evalOp] at hr ⊢
      exact key hr
    by_cases hc2 : ∃ s f as, op = .callf s f as
    · obtain ⟨s, f, as, rfl⟩ := hc2
      simp only [evalOp, Option.bind_eq_some_iff] at hr ⊢
      obtain ⟨q, h1, h2⟩ := hr
      obtain ⟨n, hn⟩ := key h2
      exact ⟨n, q, h1, hn⟩
    refine ⟨0, ?_⟩
    rw [← hr]
    cases op <;> try rfl
    · exact absurd ⟨_, _, _, rfl⟩ hc
    · exact absurd ⟨_, _, _, rfl⟩ hc2
  unfold evalOper at he ⊢
  obtain ⟨b, hb, he⟩ := Option.bind_eq_some_iff.1 he
  cases b with
  | false => exact ⟨0, by rw [hb]; exact he⟩
  | true =>
    simp only [if_true] at he
    obtain ⟨r, hr, h2⟩ := Option.map_eq_some_iff.1 he
    obtain ⟨n, hn⟩ := key2 hr
    exact ⟨n, by rw [hb, Option.bind_some]; simp only [if_true, hn, Option.map_some, h2]⟩

theorem evalOps_lim {tbl : Tbl} {H : List (List Row)} : ∀ {os : List AOper} {st st' : St}, evalOps (call tbl) H os st = some st' → ∃ n, evalOps (stepN tbl n).1 H os st = some st'
  | [], _, _, he => ⟨0, he⟩
  | o :: os, st, st', he => by
    simp only [evalOps, Option.bind_eq_some_iff] at he ⊢
    obtain ⟨s1, h1, h2⟩ := he
    obtain ⟨n, hn⟩ := evalOper_lim h1
    obtain ⟨m, hm⟩ := evalOps_lim h2
    exact ⟨max n m, s1, evalOper_mono (stepN_le tbl (Nat.le_max_left n m)).1 hn, evalOps_mono (stepN_le tbl (Nat.le_max_right n m)).1 hm⟩

theorem exec_lim {tbl : Tbl} {H : List (List Row)} : ∀ {c : ACode} {st : St} {r : AExit × St}, exec (call tbl) (loop tbl) H c st = some r → ∃ n, exec (stepN tbl n).1 (stepN tbl n).2 H c st = some r
  | .skip, _, _, he | .exit _, _, _, he | .ret, _, _, he => ⟨0, he⟩
  | .region ks ops, st, r, he => by
    simp only [exec, Option.map_eq_some_iff] at he ⊢
    obtain ⟨s1, h1, h2⟩ := he
    obtain ⟨n, hn⟩ := evalOps_lim h1
    exact ⟨n, s1, hn, h2⟩
  | .seq a b, st, r, he => by
    simp only [exec, Option.bind_eq_some_iff] at he ⊢
    obtain ⟨⟨e, s1⟩, h1, h2⟩ := he
    obtain ⟨n, hn⟩ := exec_lim h1
    cases e with
    | normal =>
      obtain ⟨m, hm⟩ := exec_lim h2
      obtain ⟨a1, a2⟩ := stepN_le tbl (Nat.le_max_left n m)
      obtain ⟨b1, b2⟩ := stepN_le tbl (Nat.le_max_right n m)
      exact ⟨max n m, ⟨.normal, s1⟩, exec_mono a1 a2 hn, exec_mono b1 b2 hm⟩
    | exit _ => exact ⟨n, ⟨_, s1⟩, hn, h2⟩
    | ret => exact ⟨n, ⟨_, s1⟩, hn, h2⟩
  | .cond c a b, st, r, he => by
    simp only [exec, Option.bind_eq_some_iff] at he ⊢
    obtain ⟨t, h1, h2⟩ := he
    cases t with
    | true =>
      simp only [if_true] at h2
      obtain ⟨n, hn⟩ := exec_lim h2
      exact ⟨n, true, h1, by simpa using hn⟩
    | false =>
      simp only [Bool.false_eq_true, if_false] at h2
      obtain ⟨n, hn⟩ := exec_lim h2
      exact ⟨n, false, h1, by simpa using hn⟩
  | .block id c, st, r, he => by
    simp only [exec, Option.map_eq_some_iff] at he ⊢
    obtain ⟨s1, h1, h2⟩ := he
    obtain ⟨n, hn⟩ := exec_lim h1
    exact ⟨n, s1, hn, h2⟩
  | .loop c, st, r, he => by
    simp only [exec] at he ⊢
    exact loop_iff.1 he
  | .scope c, st, r, he => by
    simp only [exec] at he ⊢
    exact exec_lim he

theorem call_eq (tbl : Tbl) (f : FuncId) (a : List V) (H : List (List Row)) : call tbl f a H = callS tbl (call tbl) (loop tbl) f a H := by
  apply Option.ext
  intro v
  rw [call_iff]
  constructor
  · rintro ⟨n, hn⟩
    cases n with
    | zero => simp [stepN] at hn
    | succ n => exact callS_mono (lim_le tbl n).1 (lim_le tbl n).2 _ _ _ _ hn
  · intro h
    unfold callS at h
    cases hf : tbl.fn f with
    | none =>
      rw [hf] at h
      refine ⟨1, ?_⟩
      simp only [stepN, callS, hf]
      exact h
    | some af =>
      rw [hf] at h
      simp only [Option.bind_eq_some_iff] at h
      obtain ⟨r, h2, h3⟩ := h
      obtain ⟨n, hn⟩ := exec_lim h2
      refine ⟨n + 1, ?_⟩
      simp only [stepN, callS, hf, hn, Option.bind_some]
      exact h3

theorem loop_eq (tbl : Tbl) (c : ACode) (H : List (List Row)) (st : St) : loop tbl c H st = loopS (call tbl) (loop tbl) c H st := by
  apply Option.ext
  intro v
  rw [loop_iff]
  constructor
  · rintro ⟨n, hn⟩
    cases n with
    | zero => simp [stepN] at hn
    | succ n => exact loopS_mono (lim_le tbl n).1 (lim_le tbl n).2 _ _ _ _ hn
  · intro h
    simp only [loopS, Option.bind_eq_some_iff] at h
    obtain ⟨⟨e, s1⟩, h2, h3⟩ := h
    obtain ⟨n, hn⟩ := exec_lim h2
    cases e with
    | normal =>
      obtain ⟨m, hm⟩ := loop_iff.1 h3
      obtain ⟨a1, a2⟩ := stepN_le tbl (Nat.le_max_left n m)
      obtain ⟨b1, b2⟩ := stepN_le tbl (Nat.le_max_right n m)
      refine ⟨max n m + 1, ?_⟩
      simp only [stepN, loopS, exec_mono a1 a2 hn, Option.bind_some]
      exact b2 _ _ _ _ hm
    | exit _ => exact ⟨n + 1, by simp only [stepN, loopS, hn, Option.bind_some]; exact h3⟩
    | ret => exact ⟨n + 1, by simp only [stepN, loopS, hn, Option.bind_some]; exact h3⟩

theorem call_sound {P : Program} (hm : P.follows .mixedOrders = true) {tbl : Tbl} (htbl : TblOk P tbl) (hpr : PrOk P tbl) : SoundCall P (call tbl) := by
  intro f args H v h
  obtain ⟨n, hn⟩ := call_iff.1 h
  exact (stepN_sound hm htbl hpr n).1 f args H v hn

/-- More is known: the answers stay. -/
theorem stepN_up {fn : FuncId → Option AFunc} {pr : FuncId → List V → Option V} : ∀ n, LeC (stepN ⟨fn, fun _ _ => none⟩ n).1 (stepN ⟨fn, pr⟩ n).1 ∧ LeL (stepN ⟨fn, fun _ _ => none⟩ n).2 (stepN ⟨fn, pr⟩ n).2
  | 0 => ⟨fun _ _ _ _ h => h, fun _ _ _ _ h => h⟩
  | n + 1 => by
    obtain ⟨h1, h2⟩ := stepN_up (fn := fn) (pr := pr) n
    refine ⟨fun f a H v h => ?_, loopS_mono h1 h2⟩
    have h := callS_mono h1 h2 f a H v h
    unfold callS at h
    show callS ⟨fn, pr⟩ _ _ f a H = some v
    unfold callS
    simp only at h ⊢
    cases hf : fn f with
    | none => simp [hf] at h
    | some af => simpa [hf] using h
theorem call_up {fn : FuncId → Option AFunc} {pr : FuncId → List V → Option V} {f : FuncId} {a : List V} {H : List (List Row)} {v : V} (h : call ⟨fn, fun _ _ => none⟩ f a H = some v) : call ⟨fn, pr⟩ f a H = some v := by
  obtain ⟨n, hn⟩ := call_iff.1 h
  exact call_iff.2 ⟨n, (stepN_up n).1 _ _ _ _ hn⟩
theorem call_pr {tbl : Tbl} {f : FuncId} {a : List V} {H : List (List Row)} (h : tbl.fn f = none) : call tbl f a H = tbl.pr f a := by
  rw [call_eq, callS, h]

/-- The machine's answer, after so many rounds, by reckoning. -/
theorem call_of {tbl : Tbl} {f : FuncId} {a : List V} {H : List (List Row)} {v : V} (n : Nat) (h : (stepN tbl n).1 f a H = some v) : call tbl f a H = some v := call_iff.2 ⟨n, h⟩

end Go.Ab

/-
  From the abstract machine to a law's row: a call that writes nothing of what was there leaves the arguments as they read; and the abstract values of a call's arguments.
-/
import Derived.Test.YtfngllcjikmbkaaAbLim
import Derived.ProofKit
import Derived.OpenShut
import Derived.Below
namespace Go.Ab
open Go Go.RowKit Go.ChangeShapes Go.WideShapes
set_option linter.unusedVariables false
set_option linter.unnecessarySimpa false

theorem post_of_below {H : Type} {enc : TypeId × Value → H} {P : Program} {f : Func} {s : ChangeSpec} {apart fresh handsOn again : Bool} {W W' : World} {args : Array Value} {v : Value} {ds gs : List (DataW H)} {before pa pv : List MemPlace}
    (hW : DataW.Whole enc P f.params.toList s.vars apart W args.toList ds gs before)
    (hres : ∀ (b : Nat) (sp : Nat → Bool) (hd : Bool), DataW.TrodAll enc P W' b sp hd f.resultTypes.toList (v.resultList f.resultTypes.size) (s.fn H (ds ++ gs)).results [])
    (hargs : ∀ sp : Nat → Bool, (∀ p ∈ before, sp p.block = true) → DataW.TrodAll enc P W' 0 sp true f.params.toList args.toList (s.fn H (ds ++ gs)).args pa)
    (hvars : ∀ sp : Nat → Bool, (∀ p ∈ before, sp p.block = true) → DataW.TrodVars enc P W' sp s.vars (s.fn H (ds ++ gs)).vars pv)
    (hps : before = pa ++ pv) (hb : Below W.heap.size W W')
    (hok : ∀ (j : Nat) (t : TypeId) (r : Value), f.resultTypes[j]? = some t → (v.resultList f.resultTypes.size)[j]? = some r → Value.okWide P W' .any 0 t r) :
    s.post enc P f apart fresh handsOn again W args v W' := by
  have hlt : ∀ p ∈ before, p.block < W.heap.size := fun p hp => hW.lt p hp
  have hold : ∀ p ∈ before, (fun b => decide (b < W.heap.size)) p.block = true := fun p hp => by simpa using hW.lt p hp
  refine ⟨ds, gs, before, [], pa, pv, hW, hres _ _ _, hargs _ hold, hvars _ hold, World.keptBut_mono (fun p hp => ⟨hp, ?_⟩) (hb.frame (· ∈ before)), fun _ => ?_⟩
  · rw [hps, List.mem_append] at hp
    exact Or.inr hp
  · obtain ⟨_, _, _, _, _, hz, hn⟩ := hW
    refine ⟨hok, _, _, ([] ++ pa) ++ pv, ⟨[] ++ pa, pv, trodAll_append (hargs _ (fun _ _ => rfl)) (hres _ _ _), hvars _ (fun _ _ => rfl), rfl, ?_, ?_⟩, ?_⟩
    · intro b off hp
      have hp' : MemPlace.cell b off ∈ before := by rw [hps]; simpa using hp
      rw [hb.frozen (p := ⟨b, off, none⟩) (hlt _ hp')]
      exact hz b off hp'
    · intro ha
      have := hn ha
      rw [hps] at this
      simpa using this
    · intro p hp _
      rw [hps]
      simpa using hp

def Env.none : Env := ⟨fun _ _ _ => Option.none, fun _ => Option.none⟩

theorem relM_none {w : World} : RelM Env.none [[]] w := by
  refine ⟨fun b cs h => ?_, fun d s v o h => ?_, fun d s o h hp => ?_, fun d s o h hp => ?_, fun d s v o d' s' v' o' h => ?_, fun d s o h => ?_⟩ <;> cases h

/-- A law of truth values, numbers and texts alone. -/
theorem law_plain {P : Program} {tbl : Tbl} (hs : SoundCall P (call tbl)) {f : FuncId} {args : List V} {xs : List Value} (h : call tbl f args [] = some (.bool true)) (hx : VRs args Env.none xs) (w : World) :
    Calls P f xs.toArray w fun e w' => e = .returned (.bool true) ∧ Below w.heap.size w w' := by
  refine ((hs f args [] (.bool true) h).2 Env.none w xs hx relM_none (fun _ _ => rfl)).mono fun e w' ⟨x, imm', he, hb, _, _, hr⟩ => ?_
  have hv : x = .bool true := by simpa [RetR, VR] using hr
  exact ⟨by rw [he, hv], hb⟩

end Go.Ab

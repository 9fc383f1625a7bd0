/-
  A law's contract from its equation alone: the arguments read as before, the result is true.
-/
import Derived.Test.YtfngllcjikmbkaaAbOpen
import Derived.ChangeCalls
namespace Go.Ab
open Go Go.RowKit Go.ChangeShapes Go.WideShapes
set_option linter.unusedVariables false
set_option linter.unnecessarySimpa false
set_option linter.unusedSimpArgs false

section
variable {H : Type} {enc : TypeId × Value → H} {P : Program} {w w' : World} {base : Nat} {sp : Nat → Bool} {held : Bool}

def Kind (P : Program) (Q : TypeId → Prop) (t : TypeId) : Prop :=
  match P.underlying t with
  | some (.slice e) => 0 < P.cellsOf e ∧ Q e
  | some (.struct fs) => ∀ f ∈ fs.toList, Q f.type
  | some (.array _ e) => Q e
  | some .bool | some (.int _) | some .string => True
  | _ => False

/-- Numbers, truth values, texts, records and arrays of such, slices whose elements have cells. -/
def plainT (P : Program) : Nat → TypeId → Bool
  | 0, _ => false
  | n + 1, t =>
    match P.underlying t with
    | some (.slice e) => decide (0 < P.cellsOf e) && plainT P n e
    | some (.struct fs) => fs.toList.all fun f => plainT P n f.type
    | some (.array _ e) => plainT P n e
    | some .bool | some (.int _) | some .string => true
    | _ => false

theorem plainT_kind {m : Nat} {t : TypeId} (h : plainT P (m + 1) t = true) : Kind P (fun e => plainT P m e = true) t := by
  unfold plainT at h
  unfold Kind
  split at h <;> simp_all
  intro f hf
  obtain ⟨i, hi, rfl⟩ := Array.mem_iff_getElem.1 hf
  exact h i hi

/-- Where every place that is read lies in a block whose spare is read, a reading that reads all spares is the same. -/
theorem trodStep_spare {Q : TypeId → Prop} {r r' : TypeId → List Value → Option (DataW H × List MemPlace)}
    (hr : ∀ t, Q t → ∀ cs x, r t cs = some x → (∀ p ∈ x.2, sp p.block = true) → r' t cs = some x) {t : TypeId} {cs : List Value} {x : DataW H × List MemPlace} (hT : Kind P Q t)
    (h : DataW.trodStep enc P w base (fun _ => true) held r t cs = some x) (hs : ∀ p ∈ x.2, sp p.block = true) : DataW.trodStep enc P w base sp held r' t cs = some x := by
  unfold DataW.trodStep at h ⊢
  unfold Kind at hT
  split at h
  case h_1 => exact h
  case h_2 => exact h
  case h_4 => exact h
  case h_7 => exact h
  case h_8 e a len cap hu =>
    rw [hu] at hT
    simp only at h ⊢
    split at h
    · rename_i hc
      rw [if_pos hc]
      simp only [if_true, Option.map_eq_some_iff, Option.bind_eq_some_iff] at h ⊢
      obtain ⟨elems, he, rest, hrest, rfl⟩ := h
      have hlen : elems.length = len := by simpa using mapM_some_length he
      have hrl : rest.length = cap - len := by simpa using mapM_some_length hrest
      have one : ∀ (i : Nat) (y : DataW H × List MemPlace), y ∈ elems ++ rest →
          (w.cells? base (a.add (i * P.cellsOf e)) (P.cellsOf e)).bind (r e) = some y → (w.cells? base (a.add (i * P.cellsOf e)) (P.cellsOf e)).bind (r' e) = some y := by
        intro i y hy hv
        simp only [Option.bind_eq_some_iff] at hv ⊢
        obtain ⟨cs', hc', hy'⟩ := hv
        refine ⟨cs', hc', hr _ hT.2 _ _ hy' (fun p hp => hs p ?_)⟩
        simp only [List.mem_append, List.mem_flatMap]
        right
        exact ⟨y, by simpa using hy, hp⟩
      refine ⟨elems, mapM_carry he (fun i y hi hy => one i y (by simp [hy])), rest, ?_, rfl⟩
      split
      · exact mapM_carry hrest (fun j y hj hy => one (len + j) y (by simp [hy]))
      · rename_i hsp
        have hce := hT.1
        rcases Nat.eq_zero_or_pos (cap - len) with h0 | h0
        · have : rest = [] := by
            apply List.eq_nil_of_length_eq_zero
            omega
          rw [this]
        · exfalso
          apply hsp
          have hm : MemPlace.cell a.block (a.off + 0) ∈ MemPlace.row a ((elems.length + rest.length) * P.cellsOf e) := by
            refine MemPlace.mem_row.2 ⟨0, ?_, rfl⟩
            exact Nat.mul_pos (by omega) hce
          exact hs (.cell a.block (a.off + 0)) (by simp only [List.mem_append]; left; exact hm)
    · cases h
  case h_9 fs hu =>
    rw [hu] at hT
    split at h
    · rename_i hc
      rw [if_pos hc]
      simp only [Option.map_eq_some_iff] at h ⊢
      obtain ⟨xs, hx, rfl⟩ := h
      exact ⟨xs, mapM_carry hx (fun f y hf hy hv => hr _ (hT f hf) _ _ hv (fun p hp => hs p (List.mem_flatMap.2 ⟨y, hy, hp⟩))), rfl⟩
    · cases h
  case h_10 m e hu =>
    rw [hu] at hT
    split at h
    · rename_i hc
      rw [if_pos hc]
      simp only [Option.map_eq_some_iff] at h ⊢
      obtain ⟨xs, hx, rfl⟩ := h
      exact ⟨xs, mapM_carry hx (fun f y _ hy hv => hr _ hT _ _ hv (fun p hp => hs p (List.mem_flatMap.2 ⟨y, hy, hp⟩))), rfl⟩
    · cases h
  case h_21 => cases h
  all_goals
    rename_i hu
    first
      | (rw [hu] at hT; exact hT.elim)
      | (rename_i hu; rw [hu] at hT; exact hT.elim)
      | simp_all

theorem trod_spare : ∀ (n m : Nat) (t : TypeId) (cs : List Value) (x : DataW H × List MemPlace), plainT P m t = true →
    DataW.trod enc P w base (fun _ => true) held n t cs = some x → (∀ p ∈ x.2, sp p.block = true) → DataW.trod enc P w base sp held n t cs = some x
  | 0, _, t, cs, x, _, h, _ => by simp [DataW.trod] at h
  | n + 1, 0, t, cs, x, hm, h, hs => by simp [plainT] at hm
  | n + 1, m + 1, t, cs, x, hm, h, hs => by
    rw [DataW.trod_step] at h ⊢
    exact trodStep_spare (fun t ht cs x a b => trod_spare n m t cs x ht a b) (plainT_kind hm) h hs

theorem trodAll_again (hsame : ∀ p : MemPlace, p.block < w.heap.size → w.sameAt w' p) :
    ∀ {ts : List TypeId} {vs : List Value} {ds : List (DataW H)} {ps : List MemPlace}, ts.all (plainT P 9) = true → DataW.TrodAll enc P w base (fun _ => true) held ts vs ds ps → (∀ p ∈ ps, sp p.block = true) → DataW.TrodAll enc P w' base sp held ts vs ds ps
  | [], [], [], _, _, h, _ => h
  | _ :: _, _ :: _, _ :: _, _, hp, ⟨p, q, ⟨n, h1⟩, h2, e⟩, hs => by
    subst e
    simp only [List.all_cons, Bool.and_eq_true] at hp
    refine ⟨p, q, ⟨n, ?_⟩, trodAll_again hsame hp.2 h2 (fun x hx => hs x (by simp [hx])), rfl⟩
    refine trod_spare n 9 _ _ _ hp.1 (DataW.trod_carry n _ _ _ h1 fun x hx => hsame x (DataW.trod_lt n _ _ _ h1 x hx)) (fun x hx => hs x ?_)
    simp only [List.mem_append]
    left
    exact hx
  | [], _ :: _, _, _, _, h, _ | [], [], _ :: _, _, _, h, _ | _ :: _, [], _, _, _, h, _ | _ :: _, _ :: _, [], _, _, h, _ => by
    first
      | exact h.elim
      | (simp [DataW.TrodAll] at h)

def fitsAll : List Sh → List V → Prop
  | [], l => l = []
  | s :: ss, l => ∃ v vs, l = v :: vs ∧ fits s v ∧ fitsAll ss vs

def shapes (P : Program) : List TypeId → Option (List Sh)
  | [] => some []
  | t :: ts => (shOf P t).bind fun s => (shapes P ts).map (s :: ·)

theorem open_all {b0 : Nat} {r : Reach} {spare : Nat → Bool} : ∀ {ts : List TypeId} {shs : List Sh} {vs : List Value} {ds : List (DataW H)} {ps : List MemPlace}, shapes P ts = some shs →
    (∀ (j : Nat) t v, ts[j]? = some t → vs[j]? = some v → Value.okWide P w r b0 t v) → DataW.TrodAll enc P w 0 spare held ts vs ds ps → ∃ args, fitsAll shs args ∧ VRs args (Env.of w) vs
  | [], shs, [], [], ps, h, _, _ => by
    simp only [shapes] at h
    cases h
    exact ⟨[], rfl, rfl⟩
  | t :: ts, shs, v :: vs, d :: ds, ps, h, hv, ⟨p, q, h1, h2, _⟩ => by
    simp only [shapes, Option.bind_eq_some_iff, Option.map_eq_some_iff] at h
    obtain ⟨s, hs, ss, hss, rfl⟩ := h
    obtain ⟨a, ha, hx⟩ := open_sh hs (hv 0 t v rfl rfl) h1
    obtain ⟨as, has, hxs⟩ := open_all hss (fun j t' v' a b => hv (j + 1) t' v' (by simpa using a) (by simpa using b)) h2
    exact ⟨a :: as, ⟨a, as, rfl, ha, has⟩, ⟨v, vs, rfl, hx, hxs⟩⟩
  | [], _, _ :: _, _, _, _, _, h | [], _, [], _ :: _, _, _, _, h | _ :: _, _, [], _, _, _, _, h | _ :: _, _, _ :: _, [], _, _, _, h => by
    first
      | exact h.elim
      | (simp [DataW.TrodAll] at h)

/-- A law of any arguments of numbers, truth values, texts, records of these and slices of such. -/
theorem law_contract {tbl : Tbl} (hsnd : SoundCall P (call tbl)) {f : FuncId} {fn : Func} {s : ChangeSpec} {apart fresh handsOn again : Bool} {shs : List Sh} {tb : TypeId}
    (hz : fn.params.toList.all (plainT P 9) = true) (hsh : shapes P fn.params.toList = some shs) (hvars : s.vars = [])
    (hspec : ∀ (ds : List (DataW H)), ds.length = fn.params.size → s.fn H ds = { results := [.lit (.bool true)], args := ds })
    (hrt : fn.resultTypes = #[tb]) (htb : P.underlying tb = some .bool)
    (hlaw : ∀ args, fitsAll shs args → call tbl f args [] = some (.bool true))
    {W : World} {b0 : Nat} {args : Array Value} {ds gs : List (DataW H)} {before : List MemPlace}
    (hval : ∀ (j : Nat) t v, fn.params[j]? = some t → args[j]? = some v → Value.okWide P W .any b0 t v)
    (hW : DataW.Whole enc P fn.params.toList s.vars apart W args.toList ds gs before) :
    Calls P f args W fun e W' => ∃ v, e = .returned v ∧ s.post enc P fn apart fresh handsOn again W args v W' := by
  have hW' := hW
  obtain ⟨p, q, hA, hV, hps, hfz, hnd⟩ := hW
  rw [hvars] at hV
  obtain ⟨hg, hq⟩ := trodVars_none hV
  subst hg hq
  obtain ⟨as, hfit, hx⟩ := open_all (b0 := b0) (r := .any) hsh (fun j t v a b => hval j t v (by simpa using a) (by simpa using b)) hA
  have hc := (hsnd f as [] (.bool true) (hlaw as hfit)).2 (Env.of W) W args.toList hx relM_of (fun _ _ => rfl)
  rw [Array.toArray_toList] at hc
  refine hc.mono fun e W' ⟨x, imm', he, hb, _, _, hr⟩ => ?_
  have hv : x = .bool true := by simpa [RetR, VR] using hr
  subst hv he
  have hlen : ds.length = fn.params.size := by
    have := (trodAll_length hA).2
    simpa using this
  have hs1 := hspec ds hlen
  have hs2 : s.fn H (ds ++ []) = { results := [.lit (.bool true)], args := ds } := by rw [List.append_nil]; exact hs1
  refine ⟨_, rfl, post_of_below (pa := p) (pv := []) hW' ?_ ?_ ?_ hps hb ?_⟩
  · intro b sp' hd'
    rw [hs2, hrt]
    exact trodAll_cons_mk (shut_bool htb _) trodAll_mk0
  · intro sp' hsp
    rw [hs2]
    exact trodAll_again (fun p hp => hb.same hp) hz hA (fun p hp => hsp p (by rw [hps]; simp [hp]))
  · intro sp' hsp
    rw [hs2, hvars]
    exact rfl
  · exact ok_one hrt rfl (okWide_bool_mk htb _)

end
end Go.Ab

/-
  Regions that draw, where all that changes rows is in the order of the text.
-/
import Derived.Test.YtfngllcjikmbkaaAbDraw
namespace Go.Ab
open Go Go.RowKit
set_option linter.unusedVariables false
set_option linter.unusedSimpArgs false
set_option linter.unnecessarySimpa false

theorem evs_agree {fr fr' : List V} : ∀ {l : List Arg}, (∀ t ∈ argTmps l, get fr t = get fr' t) → evs fr l = evs fr' l
  | [], _ => rfl
  | .t i :: l, h => by
    simp only [evs, ev]
    rw [h i (by simp [argTmps]), evs_agree (l := l) (fun t ht => h t (by simp [argTmps, ht]))]
  | .c v :: l, h => by
    simp only [evs, ev]
    rw [evs_agree (l := l) (fun t ht => h t (by simpa [argTmps] using ht))]

theorem ev_agree {fr fr' : List V} {x : Arg} {l : List Arg} (h : ∀ t ∈ argTmps l, get fr t = get fr' t) (hx : x ∈ l) : ev fr x = ev fr' x := by
  cases x with
  | c v => rfl
  | t i =>
    refine h i ?_
    clear h
    induction l with
    | nil => cases hx
    | cons y l ih =>
      rcases List.mem_cons.1 hx with rfl | hx
      · simp [argTmps]
      · have := ih hx
        cases y <;> simp [argTmps, this]

theorem fillV_agree {fr fr' : List V} : ∀ {ps : List (Nat × Nat × Arg)} {cs : List V}, (∀ x ∈ ps.map (·.2.2), ev fr x = ev fr' x) → fillV fr cs ps = fillV fr' cs ps
  | [], _, _ => rfl
  | (off, n, x) :: ps, cs, h => by
    simp only [fillV]
    rw [h x (by simp)]
    split
    · exact fillV_agree (fun y hy => h y (by simp at hy ⊢; exact .inr hy))
    · rfl

theorem frzP_agree {fr fr' : List V} : ∀ {ps : List (Nat × Nat × Arg)} {L : List Row}, (∀ x ∈ ps.map (·.2.2), ev fr x = ev fr' x) → frzP L fr ps = frzP L fr' ps
  | [], _, _ => rfl
  | (off, n, x) :: ps, L, h => by
    simp only [frzP]
    rw [h x (by simp)]
    congr 1
    funext r
    rw [frzP_agree (fun y hy => h y (by simp at hy ⊢; exact .inr hy))]

/-- An operation sees no more than what it reads. -/
theorem evalOp_agree {cf : CallF} {H : List (List Row)} {fr fr' : List V} {L : List Row} {o : AOp} (h : ∀ t ∈ argTmps o.argList, get fr t = get fr' t) : evalOp cf H fr L o = evalOp cf H fr' L o := by
  have e := @ev_agree fr fr'
  cases o <;> simp only [evalOp, AOp.argList] at h ⊢
  case build z ps => rw [fillV_agree (fun x hx => ev_agree h hx)]
  case lit sz z len ps => rw [fillV_agree (fun x hx => ev_agree h hx)]
  case litf sz z len ps => rw [frzP_agree (fun x hx => ev_agree h hx)]
  case call s f as =>
    rw [ev_agree h (x := f) (by simp), evs_agree (fun t ht => h t (by cases f <;> simp [argTmps, ht]))]
  case callf s f as =>
    rw [ev_agree h (x := f) (by simp), evs_agree (fun t ht => h t (by cases f <;> simp [argTmps, ht]))]
  case mkfn f cs => rw [evs_agree h]
  case mm b xs => rw [evs_agree h]
  case sub sz x lo hi mx =>
    rw [ev_agree h (x := x) (by simp)]
    have go : ∀ (o : Option Arg), (∀ y ∈ o.toList, y ∈ x :: (lo.toList ++ hi.toList ++ mx.toList)) → o.map (ev fr) = o.map (ev fr') := by
      intro o ho
      cases o with
      | none => rfl
      | some y => simp only [Option.map_some]; rw [ev_agree h (ho y (by simp))]
    rw [go lo (fun y hy => by simp at hy ⊢; simp [hy]), go hi (fun y hy => by simp at hy ⊢; simp [hy]), go mx (fun y hy => by simp at hy ⊢; simp [hy])]
  case strSub x lo hi =>
    rw [ev_agree h (x := x) (by simp)]
    have go : ∀ (o : Option Arg), (∀ y ∈ o.toList, y ∈ x :: (lo.toList ++ hi.toList)) → o.map (ev fr) = o.map (ev fr') := by
      intro o ho
      cases o with
      | none => rfl
      | some y => simp only [Option.map_some]; rw [ev_agree h (ho y (by simp))]
    rw [go lo (fun y hy => by simp at hy ⊢; simp [hy]), go hi (fun y hy => by simp at hy ⊢; simp [hy])]
  case pick a b c => rw [ev_agree h (x := a) (by simp), ev_agree h (x := b) (by simp), ev_agree h (x := c) (by simp)]
  case mins m a b c => rw [ev_agree h (x := a) (by simp), ev_agree h (x := b) (by simp), ev_agree h (x := c) (by simp)]
  case mput m a b c => rw [ev_agree h (x := a) (by simp), ev_agree h (x := b) (by simp), ev_agree h (x := c) (by simp)]
  all_goals
    first
      | (rename_i x y; rw [ev_agree h (x := x) (by simp), ev_agree h (x := y) (by simp)]; done)
      | (rename_i x; rw [ev_agree h (x := x) (by simp)]; done)
      | (rename_i x y; rw [ev_agree h (x := x) (by simp)]; done)

theorem evalOper_agree {cf : CallF} {H : List (List Row)} {fr fr2 fr' : List V} {L L' : List Row} {o : AOper} (h : ∀ t ∈ o.reads, get fr t = get fr2 t) (he : evalOper cf H o (fr, L) = some (fr', L')) :
    ∃ v, fr' = setDst fr o.dst v ∧ evalOper cf H o (fr2, L) = some (setDst fr2 o.dst v, L') := by
  have hw : wanted fr o.guard = wanted fr2 o.guard := by
    unfold wanted
    cases hg : o.guard with
    | none => rfl
    | some dw =>
      obtain ⟨d, w⟩ := dw
      simp only
      rw [h d (by simp [AOper.reads, hg])]
  have ho : evalOp cf H fr L o.op = evalOp cf H fr2 L o.op := evalOp_agree (fun t ht => h t (by simp [AOper.reads, ht]))
  unfold evalOper at he ⊢
  obtain ⟨b, hb, he⟩ := Option.bind_eq_some_iff.1 he
  simp only at hb he ⊢
  rw [← hw, hb, Option.bind_some]
  cases b with
  | false =>
    simp only [Bool.false_eq_true, if_false, Option.some.injEq, Prod.mk.injEq] at he ⊢
    obtain ⟨rfl, rfl⟩ := he
    exact ⟨_, rfl, rfl, rfl⟩
  | true =>
    simp only [if_true] at he ⊢
    obtain ⟨r, hr, h2⟩ := Option.map_eq_some_iff.1 he
    rw [← ho, hr, Option.map_some]
    simp only [Prod.mk.injEq] at h2
    obtain ⟨rfl, rfl⟩ := h2
    exact ⟨_, rfl, rfl⟩

/-- What changes no rows leaves them. -/
theorem evalOp_same {cf : CallF} {H : List (List Row)} {fr : List V} {L L' : List Row} {ao : AOp} {v : V} (hm : ao.changes = false) (he : evalOp cf H fr L ao = some (v, L')) : L' = L := by
  have h1 : ao.mutates = false := by cases ao <;> simp_all [AOp.changes, AOp.mutates]
  have h2 : ao.siteOk = true := by cases ao <;> simp_all [AOp.changes, AOp.siteOk]
  have h3 : ao.site = 0 := by cases ao <;> simp_all [AOp.changes, AOp.site]
  exact evalOp_zero h1 h2 he h3

/-- What neither changes nor reads rows does not care for them. -/
theorem evalOp_free {cf : CallF} {H : List (List Row)} {fr : List V} {L L' : List Row} {ao : AOp} {v : V} (hm : ao.changes = false) (hl : ao.isLoad = false) (he : evalOp cf H fr L ao = some (v, L')) (L2 : List Row) : evalOp cf H fr L2 ao = some (v, L2) := by
  have hs := evalOp_same hm he
  subst hs
  cases ao <;> simp only [AOp.changes, Bool.true_eq_false] at hm <;> simp only [AOp.isLoad, Bool.true_eq_false] at hl <;> simp only [evalOp, one] at he ⊢
  case mv => cases he; rfl
  case pick => obtain ⟨t, ht, h⟩ := Option.map_eq_some_iff.1 he; cases h; rw [ht]; rfl
  case eqb => split at he <;> cases he; rfl
  case eqagg =>
    split at he
    · obtain ⟨t, ht, h⟩ := Option.map_eq_some_iff.1 he; cases h; rw [ht]; rfl
    · cases he
  case neg => split at he <;> cases he; rfl
  case conv => split at he <;> cases he; rfl
  case lit =>
    obtain ⟨t, ht, h⟩ := Option.bind_eq_some_iff.1 he
    rw [ht, Option.bind_some]
    split at h
    · rename_i hc; cases h; rw [if_pos hc]
    · cases h
  case ext =>
    split at he
    · obtain ⟨t, ht, h⟩ := Option.map_eq_some_iff.1 he; cases h; rw [ht]; rfl
    · cases he
  case mkfn => cases he; rfl
  case mm =>
    split at he
    · obtain ⟨t, ht, h⟩ := Option.map_eq_some_iff.1 he; cases h; rw [ht]; rfl
    · cases he
  case nilck => split at he <;> cases he <;> rfl
  all_goals (obtain ⟨t, ht, h⟩ := Option.map_eq_some_iff.1 he; cases h; rw [ht]; rfl)

theorem loadi_load {M : List (List Row)} {g : Bool} {n : Nat} {v u : V} (h : loadiV g n v = some u) : loadV M g n v = some u := by
  unfold loadiV at h
  split at h
  · exact h
  · cases h

/-- The weaker operation's answer is the operation's own, whatever the rows are. -/
theorem evalOp_weak {cf : CallF} {H : List (List Row)} {fr : List V} {L : List Row} {ao : AOp} {r : V × List Row} (hl : ao.isLoad = true) (he : evalOp cf H fr L ao.weak = some r) : r.2 = L ∧ ∀ L2, evalOp cf H fr L2 ao = some (r.1, L2) := by
  cases ao <;> simp only [AOp.isLoad, Bool.false_eq_true] at hl
  rename_i g n x
  simp only [AOp.weak, evalOp, one] at he ⊢
  obtain ⟨t, ht, h⟩ := Option.map_eq_some_iff.1 he
  subst h
  exact ⟨rfl, fun L2 => by rw [loadi_load ht]; rfl⟩

section float
variable {P : Program} {keep : Nat} {n : Nat} {ops : Array Oper} {as : List AOper} {w0 : Base} {cf : CallF} {H : List (List Row)} {S : Nat → St} {ms : List Nat}

structure Float (P : Program) (keep : Nat) (n : Nat) (ops : Array Oper) (as : List AOper) (cf : CallF) (H : List (List Row)) (S : Nat → St) (ms : List Nat) : Prop where
  len : as.length = ops.size
  comp : ∀ (i : Nat) (ao : AOper), as[i]? = some ao → ∃ o s, ops[i]? = some o ∧ 0 < s ∧ cOper P keep s ops n o = some ao
  ev : ∀ (i : Nat) (ao : AOper), as[i]? = some ao → evalOper cf H ao (S i) = some (S (i + 1))
  back : ∀ (i : Nat) (o : Oper), ops[i]? = some o → ∀ e ∈ o.after, Region.binds .any e = true → e.on < i
  mask : ∀ T : Nat → Prop, Closed ops.toList T → ∀ i j : Nat, i < ops.size → (ms.getD i 0).testBit j = true → Pre ops.toList T i → T j
  /-- an operation that changes no rows: either it cares for none, or it stands in the text's order to all that do -/
  calm : ∀ (i : Nat) (ao : AOper), as[i]? = some ao → ao.op.changes = false → (∀ L2, evalOper cf H ao ((S i).1, L2) = some ((S (i + 1)).1, L2)) ∨ (∀ (j : Nat) (y : AOper), i ≠ j → as[j]? = some y → y.op.changes = true → inOrder ms i j = true)
  pair : ∀ (i j : Nat) (x y : AOper), as[i]? = some x → as[j]? = some y → pairF ms i j x y = true

variable (D : Float P keep n ops as cf H S ms)
include D

theorem Float.same {i : Nat} {ao : AOper} (hi : as[i]? = some ao) (hc : ao.op.changes = false) : (S (i + 1)).2 = (S i).2 := by
  have he := D.ev i ao hi
  unfold evalOper at he
  obtain ⟨b, _, he⟩ := Option.bind_eq_some_iff.1 he
  split at he
  · obtain ⟨⟨v, L'⟩, hv, hr⟩ := Option.map_eq_some_iff.1 he
    rw [← hr]
    exact evalOp_same hc hv
  · simp only [Option.some.injEq] at he; rw [← he]

theorem Float.rows {i : Nat} : ∀ {j : Nat}, i ≤ j → j ≤ as.length → (∀ m ao, i ≤ m → m < j → as[m]? = some ao → ao.op.changes = false) → (S j).2 = (S i).2
  | 0, h, _, _ => by have : i = 0 := by omega
                     subst this; rfl
  | j + 1, h, hl, hno => by
    by_cases e : i = j + 1
    · subst e; rfl
    · obtain ⟨ao, hao⟩ : ∃ ao, as[j]? = some ao := ⟨_, List.getElem?_eq_getElem (by omega)⟩
      rw [D.same hao (hno j ao (by omega) (by omega) hao)]
      exact Float.rows (by omega) (by omega) (fun m ao' h1 h2 => hno m ao' h1 (by omega))

theorem Float.slot {i : Nat} {ao : AOper} (hi : as[i]? = some ao) {t : Nat} (h : ao.dst ≠ some t) : get (S (i + 1)).1 t = get (S i).1 t := by
  have he := D.ev i ao hi
  obtain ⟨v, hv, _⟩ := evalOper_agree (fr := (S i).1) (fr2 := (S i).1) (fr' := (S (i + 1)).1) (L := (S i).2) (L' := (S (i + 1)).2) (fun _ _ => rfl) he
  rw [hv]
  cases hd : ao.dst with
  | none => rfl
  | some d =>
    simp only [setDst, get_set]
    rw [if_neg (fun e => h (by rw [hd, e]))]

theorem Float.slots {t : Nat} {i : Nat} : ∀ {j : Nat}, i ≤ j → j ≤ as.length → (∀ m ao, i ≤ m → m < j → as[m]? = some ao → ao.dst ≠ some t) → get (S j).1 t = get (S i).1 t
  | 0, h, _, _ => by have : i = 0 := by omega
                     subst this; rfl
  | j + 1, h, hl, hno => by
    by_cases e : i = j + 1
    · subst e; rfl
    · obtain ⟨ao, hao⟩ : ∃ ao, as[j]? = some ao := ⟨_, List.getElem?_eq_getElem (by omega)⟩
      rw [D.slot hao (hno j ao (by omega) (by omega) hao)]
      exact Float.slots (by omega) (by omega) (fun m ao' h1 h2 => hno m ao' h1 (by omega))

theorem Float.apart {i j : Nat} {x y : AOper} (hx : as[i]? = some x) (hy : as[j]? = some y) (hne : i ≠ j) : ∀ d, y.dst = some d → x.dst ≠ some d := by
  have := D.pair i j x y hx hy
  unfold pairF at this
  rw [if_neg hne, Bool.and_eq_true] at this
  intro d hd
  rw [hd] at this
  simp only [Bool.and_eq_true, bne_iff_ne, ne_eq] at this
  exact this.1.2

theorem Float.reads {i j : Nat} {x y : AOper} (hx : as[i]? = some x) (hy : as[j]? = some y) (hne : i ≠ j) {t : Nat} (hd : y.dst = some t) (hr : t ∈ x.reads) :
    (j < i ∧ (ms.getD i 0).testBit j = true) ∨ (i < j ∧ (ms.getD j 0).testBit i = true) := by
  have := D.pair i j x y hx hy
  unfold pairF at this
  rw [if_neg hne, Bool.and_eq_true, hd] at this
  simp only [Bool.and_eq_true, Bool.or_eq_true, Bool.not_eq_true'] at this
  have h1 := this.1.1
  rcases h1 with h1 | h1
  · have : x.reads.contains t = true := by simpa using hr
    rw [this] at h1; cases h1
  · split at h1
    · exact .inl ⟨‹_›, h1⟩
    · exact .inr ⟨by omega, h1⟩

omit D in
theorem commute_spec {x y : AOper} (h : commute x y = true) : ∃ m a k1 v1 k2 v2, x = ⟨none, .mins m (.t a) (.c k1) (.c v1), none⟩ ∧ y = ⟨none, .mins m (.t a) (.c k2) (.c v2), none⟩ ∧ keyEq m k1 k2 = some false ∧ keyEq m k2 k1 = some false := by
  obtain ⟨xd, xo, xg⟩ := x
  obtain ⟨yd, yo, yg⟩ := y
  unfold commute at h
  split at h
  · rename_i m a k1 v1 m' b k2 v2 e1 e2 e3 e4 e5 e6
    simp only [Bool.and_eq_true, beq_iff_eq] at h
    obtain ⟨⟨⟨h1, h2⟩, h3⟩, h4⟩ := h
    simp only at e1 e2 e3 e4 e5 e6
    subst e1 e2 e3 e4 e5 e6
    have h1 : m = m' := by simpa using h1
    have h2 : a = b := by simpa using h2
    subst h1 h2
    exact ⟨m, a, k1, v1, k2, v2, rfl, rfl, h3, h4⟩
  · cases h

theorem Float.order {i j : Nat} {x y : AOper} (hx : as[i]? = some x) (hy : as[j]? = some y) (hlt : i < j) (h1 : x.op.changes = true) (h2 : y.op.changes = true) : (ms.getD j 0).testBit i = true ∨ (j = i + 1 ∧ commute x y = true) := by
  have := D.pair i j x y hx hy
  unfold pairF at this
  rw [if_neg (by omega), Bool.and_eq_true, h1, h2] at this
  have h3 := this.2
  simp only [Bool.and_self, Bool.not_true, Bool.false_or, inOrder, Bool.or_eq_true, Bool.and_eq_true, beq_iff_eq] at h3
  rcases h3 with (h3 | h3) | h3
  · rw [if_pos hlt] at h3
    exact .inl h3
  · exact .inr h3
  · omega

omit D in
theorem findV_snoc {m : MK} {k k' : V} (v : V) : ∀ {es : List (List V)} {i : Nat}, findV m k (es ++ [[k', v]]) i = some none ↔ (findV m k es i = some none ∧ keyEq m k k' = some false)
  | [], i => by
    simp only [List.nil_append, findV, true_and]
    cases keyEq m k k' with
    | none => simp
    | some b => cases b <;> simp
  | [a, b] :: es, i => by
    have ih := findV_snoc (m := m) (k := k) (k' := k') v (es := es) (i := i + 1)
    simp only [List.cons_append, findV]
    cases keyEq m k a with
    | none => simp
    | some c =>
      cases c
      · simpa using ih
      · constructor
        · intro h
          exfalso
          revert h
          cases findV m k (es ++ [[k', v]]) (i + 1) with
          | none => simp
          | some r => cases r <;> simp
        · rintro ⟨h, _⟩
          exfalso
          revert h
          cases findV m k es (i + 1) with
          | none => simp
          | some r => cases r <;> simp
  | [] :: es, i => by simp [findV]
  | [a] :: es, i => by simp [findV]
  | (a :: b :: c :: t) :: es, i => by simp [findV]

/-- Two entries side by side, the later one first. -/
theorem Float.swap {g : Nat} {x y : AOper} (hx : as[g]? = some x) (hy : as[g + 1]? = some y) (hc : commute x y = true) :
    ∃ (a : Nat) (R' R'' : List Row), x.dst = none ∧ y.dst = none ∧ a ∈ x.reads ∧ x.op.changes = true ∧ y.op.changes = true ∧ (S (g + 1)).1 = (S g).1 ∧ (S (g + 2)).1 = (S g).1 ∧ evalOper cf H y ((S g).1, (S g).2) = some ((S g).1, R') ∧ evalOper cf H x ((S g).1, R') = some ((S g).1, R'') ∧
      ∀ (w0 : Base) (E : Env) (w : World) (u : Value), VR (get (S g).1 a) E u → RelF w0 E R'' H w → RelF w0 E (S (g + 2)).2 H w := by
  obtain ⟨m, a, k1, v1, k2, v2, rfl, rfl, h12, h21⟩ := commute_spec hc
  have e1 := D.ev g _ hx
  have e2 := D.ev (g + 1) _ hy
  have ev' : ∀ (st : St) (k v : V), evalOper cf H ⟨none, .mins m (.t a) (.c k) (.c v), none⟩ st = (minsV st.2 m (get st.1 a) k v).map fun L' => (st.1, L') := by
    intro st k v
    simp only [evalOper, wanted, Option.bind_some, if_true, evalOp, ev, Option.map_map]
    rfl
  rw [ev'] at e1 e2
  obtain ⟨L1, m1, q1⟩ := Option.map_eq_some_iff.1 e1
  obtain ⟨L2, m2, q2⟩ := Option.map_eq_some_iff.1 e2
  have f1 : (S (g + 1)).1 = (S g).1 := by rw [← q1]
  have r1 : (S (g + 1)).2 = L1 := by rw [← q1]
  have f2 : (S (g + 2)).1 = (S g).1 := by rw [← f1, ← q2]
  have r2 : (S (g + 2)).2 = L2 := by rw [← q2]
  rw [f1, r1] at m2
  generalize (S g).1 = fr0 at *
  generalize (S g).2 = L0 at *
  cases hq : get fr0 a with
  | mp d s ver =>
    rw [hq] at m1 m2
    cases d with
    | succ d => simp [minsV] at m1
    | zero =>
      simp only [minsV] at m1
      split at m1
      · rename_i hv
        split at m1
        · rename_i hf1
          simp only [Option.some.injEq] at m1
          subst m1
          simp only [minsV, rget_rset, if_true] at m2
          rw [if_pos hv] at m2
          split at m2
          · rename_i hf2
            simp only [Option.some.injEq] at m2
            obtain ⟨hf2, _⟩ := (findV_snoc _).1 hf2
            have hf3 := (findV_snoc v2).2 ⟨hf1, h12⟩
            refine ⟨a, rset L0 s { rget L0 s with els := (rget L0 s).els ++ [[k2, v2]] }, rset L0 s { rget L0 s with els := (rget L0 s).els ++ [[k2, v2]] ++ [[k1, v1]] }, rfl, rfl, by simp [AOper.reads, AOp.argList, argTmps], rfl, rfl, f1, f2, ?_, ?_, ?_⟩
            · rw [ev', hq]
              simp only [minsV, if_pos hv, hf2, Option.map_some]
            · rw [ev', hq]
              simp only [minsV, rget_rset, if_true, if_pos hv, hf3, Option.map_some, rset_rset]
            · intro w0 E w u hu hR
              rw [hq] at hu
              simp only [VR] at hu
              obtain ⟨o, ho, hmp, _⟩ := hu
              have := hR.perm (s := s) (o := o) (row := { rget L0 s with els := (rget L0 s).els ++ [[k1, v1]] ++ [[k2, v2]] }) (by simp only [rget_rset, if_true]; rw [hv.1]; exact ho) hmp (by simp only [rget_rset, if_true])
                (by simp only [rget_rset, if_true, List.append_assoc]; exact (List.Perm.swap _ _ _).append_left _)
              rw [r2, ← m2]
              rw [rset_rset] at this ⊢
              exact this
          · cases m2
        · cases m1
      · cases m1
  | _ => rw [hq] at m1; simp [minsV] at m1

/-- Behind the later one of two entries side by side. -/
def AltR (as : List AOper) (cf : CallF) (H : List (List Row)) (S : Nat → St) (g : Nat) (R : List Row) : Prop :=
  ∃ x y, as[g]? = some x ∧ as[g + 1]? = some y ∧ commute x y = true ∧ evalOper cf H y ((S g).1, (S g).2) = some ((S g).1, R)

/-- The rows of now. -/
def Now (as : List AOper) (cf : CallF) (H : List (List Row)) (S : Nat → St) (T : Nat → Prop) (R : List Row) : Prop :=
  (∃ pt, pt ≤ as.length ∧ R = (S pt).2 ∧ ∀ (i : Nat) (ao : AOper), as[i]? = some ao → ao.op.changes = true → (T i ↔ i < pt)) ∨
  (∃ g, AltR as cf H S g R ∧ ¬ T g ∧ T (g + 1) ∧ ∀ (i : Nat) (ao : AOper), as[i]? = some ao → ao.op.changes = true → i ≠ g → i ≠ g + 1 → (T i ↔ i < g))

/-- What holds while the operations are carried out in some order. -/
structure Inv (n : Nat) (ops : Array Oper) (as : List AOper) (w0 : Base) (cf : CallF) (H : List (List Row)) (S : Nat → St) (E : Env) (w : World) (a : Act) (T : Nat → Prop) (fr : List V) (R : List Row) : Prop where
  closed : Closed ops.toList T
  rel : RelF w0 E R H w
  frame : FrameRel E fr a n
  now : Now as cf H S T R
  done : ∀ j ao t, T j → as[j]? = some ao → ao.dst = some t → get fr t = get (S (j + 1)).1 t
  open_ : ∀ t, (∀ j ao, T j → as[j]? = some ao → ao.dst ≠ some t) → get fr t = get (S 0).1 t

theorem Inv.sees {E : Env} {w : World} {a : Act} {T : Nat → Prop} {fr : List V} {R : List Row} (h : Inv n ops as w0 cf H S E w a T fr R) {i : Nat} {x : AOper} (hx : as[i]? = some x) (hTi : ¬ T i)
    (hready : ∀ j, (ms.getD i 0).testBit j = true → T j) : ∀ t ∈ x.reads, get (S i).1 t = get fr t := by
  intro t ht
  have hlen := D.len
  have hi : i < as.length := (List.getElem?_eq_some_iff.1 hx).1
  by_cases hw : ∃ (j : Nat) (y : AOper), j ≠ i ∧ as[j]? = some y ∧ y.dst = some t
  · obtain ⟨j, y, hji, hy, hd⟩ := hw
    have hj : j < as.length := (List.getElem?_eq_some_iff.1 hy).1
    have uniq : ∀ m ao, m ≠ j → as[m]? = some ao → ao.dst ≠ some t := fun m ao hmj hao => D.apart hao hy hmj t hd
    rcases D.reads hx hy (Ne.symm hji) hd ht with ⟨hlt, hb⟩ | ⟨hlt, hb⟩
    · have hT := hready j hb
      rw [D.slots (i := j + 1) (j := i) (by omega) (by omega) (fun m ao h1 h2 hao => uniq m ao (by omega) hao)]
      exact (h.done j y t hT hy hd).symm
    · have hTj : ¬ T j := fun hT => hTi (D.mask T h.closed j i (by omega) hb (h.closed.pre hT))
      rw [D.slots (i := 0) (j := i) (by omega) (by omega) (fun m ao h1 h2 hao => uniq m ao (by omega) hao)]
      refine (h.open_ t fun m ao hTm hao => ?_).symm
      by_cases e : m = j
      · subst e; exact absurd hTm hTj
      · exact uniq m ao e hao
  · rw [D.slots (i := 0) (j := i) (by omega) (by omega) (fun m ao h1 h2 hao hdm => hw ⟨m, ao, by omega, hao, hdm⟩)]
    refine (h.open_ t fun m ao hTm hao hdm => ?_).symm
    by_cases e : m = i
    · subst e; exact hTi hTm
    · exact hw ⟨m, ao, e, hao, hdm⟩

theorem Inv.step {E : Env} {w : World} {a : Act} {T : Nat → Prop} {fr : List V} {R : List Row} (hcf : SoundCall P cf) (h : Inv n ops as w0 cf H S E w a T fr R) {i : Nat} (hi : i < ops.size) (hTi : ¬ T i)
    (hready : ∀ o, ops[i]? = some o → ∀ e ∈ o.after, Region.binds .any e = true → T e.on) {K : Act → World → Prop} {Q : Exit → Act → World → Prop}
    (hK : ∀ a' w' E' fr' R', E.Le E' → Inv n ops as w0 cf H S E' w' a' (fun j => T j ∨ j = i) fr' R' → K a' w') : wpOp P ops Q i K a w := by
  have hlen := D.len
  obtain ⟨ao, hx⟩ : ∃ ao, as[i]? = some ao := ⟨_, List.getElem?_eq_getElem (by omega)⟩
  obtain ⟨o, site, ho, hs, hco⟩ := D.comp i ao hx
  have hpre : Pre ops.toList T i := fun o' ho' => hready o' (by simpa using ho')
  have hclosed' : Closed ops.toList (fun j => T j ∨ j = i) := by
    intro j o' hj hT e he hb
    rcases hT with hT | rfl
    · exact .inl (h.closed j o' hj hT e he hb)
    · exact .inl (hpre o' hj e he hb)
  have hmask : ∀ j, (ms.getD i 0).testBit j = true → T j := fun j hb => D.mask T h.closed i j (by omega) hb hpre
  have hsees := h.sees D hx hTi hmask
  have he := D.ev i ao hx
  have notT : ∀ j, i < j → (ms.getD j 0).testBit i = true → j < ops.size → ¬ T j := fun j _ hb hj hT => hTi (D.mask T h.closed j i hj hb (h.closed.pre hT))
  -- the operation with the rows of now
  have key : ∃ v R' R2, get (S (i + 1)).1 = get (setDst (S i).1 ao.dst v) ∧ evalOper cf H ao (fr, R) = some (setDst fr ao.dst v, R') ∧ Now as cf H S (fun j => T j ∨ j = i) R2 ∧
      (∀ (E' : Env) (w' : World) (a' : Act), RelF w0 E' R' H w' → FrameRel E' (setDst fr ao.dst v) a' n → RelF w0 E' R2 H w') := by
    rcases h.now with ⟨pt, hle, rfl, hupto⟩ | ⟨g, ⟨gx, gy, hgx, hgy, hcm, hgR⟩, hTg, hTg1, hupto⟩
    · cases hc : ao.op.changes with
      | true =>
        -- all earlier changes are done, none of the later ones
        have hpt : pt ≤ i := by
          rcases Nat.lt_or_ge i pt with hlt | hge
          · exact absurd ((hupto i ao hx hc).2 hlt) hTi
          · exact hge
        have honly : ∀ m y, pt ≤ m → m < i → as[m]? = some y → y.op.changes = true → i = m + 1 ∧ commute y ao = true := by
          intro m y h1 h2 hy hcy
          rcases D.order hy hx h2 hcy hc with h3 | h3
          · have := hmask m h3
            have := (hupto m y hy hcy).1 this
            omega
          · exact h3
        by_cases hex : ∃ m y, pt ≤ m ∧ m < i ∧ as[m]? = some y ∧ y.op.changes = true
        · obtain ⟨g, gx, hg1, hg2, hgx, hgc⟩ := hex
          obtain ⟨rfl, hcm⟩ := honly g gx hg1 hg2 hgx hgc
          have hTg : ¬ T g := fun hT => by have := (hupto g gx hgx hgc).1 hT; omega
          have hr : (S g).2 = (S pt).2 := D.rows (i := pt) (j := g) hg1 (by omega) (fun m y h1 h2 hy => by
            cases hcy : y.op.changes with
            | false => rfl
            | true => have := (honly m y h1 (by omega) hy hcy).1; omega)
          obtain ⟨c, R', R'', d1, d2, _, _, _, f1, f2, ev1, _, _⟩ := D.swap hgx hx hcm
          have hsees' : ∀ t ∈ ao.reads, get (S g).1 t = get fr t := fun t ht => by rw [← f1]; exact hsees t ht
          obtain ⟨v, hv, hev⟩ := evalOper_agree (fr := (S g).1) (fr2 := fr) (fr' := (S g).1) (L := (S g).2) (L' := R') hsees' ev1
          rw [hr] at hev
          refine ⟨v, R', R', ?_, hev, .inr ⟨g, ⟨gx, ao, hgx, hx, hcm, ev1⟩, fun hT => ?_, .inr rfl, fun j y hy hcy n1 n2 => ?_⟩, fun _ _ _ hR _ => hR⟩
          · rw [d2, f1, f2]; rfl
          · rcases hT with hT | hT
            · exact hTg hT
            · omega
          · constructor
            · rintro (hT | rfl)
              · have := (hupto j y hy hcy).1 hT; omega
              · exact absurd rfl n2
            · intro hlt
              refine .inl ((hupto j y hy hcy).2 ?_)
              rcases Nat.lt_or_ge j pt with h1 | h1
              · exact h1
              · have := (honly j y h1 (by omega) hy hcy).1; omega
        · have hno : ∀ m y, pt ≤ m → m < i → as[m]? = some y → y.op.changes = false := by
            intro m y h1 h2 hy
            cases hcy : y.op.changes with
            | false => rfl
            | true => exact absurd ⟨m, y, h1, h2, hy, hcy⟩ hex
          have hr := D.rows (i := pt) (j := i) hpt (by omega) hno
          obtain ⟨v, hv, hev⟩ := evalOper_agree (fr := (S i).1) (fr2 := fr) (fr' := (S (i + 1)).1) (L := (S i).2) (L' := (S (i + 1)).2) hsees he
          rw [hr] at hev
          refine ⟨v, _, _, by rw [hv], hev, .inl ⟨i + 1, by omega, rfl, fun j y hy hcy => ?_⟩, fun _ _ _ hR _ => hR⟩
          constructor
          · rintro (hT | rfl)
            · have := (hupto j y hy hcy).1 hT; omega
            · omega
          · intro hlt
            by_cases e : j = i
            · exact .inr e
            · refine .inl ((hupto j y hy hcy).2 ?_)
              rcases Nat.lt_or_ge j pt with h1 | h1
              · exact h1
              · have := hno j y h1 (by omega) hy
                rw [hcy] at this; cases this
      | false =>
        have hcalm := D.calm i ao hx hc
        have hsame := D.same hx hc
        have hup : ∀ (j : Nat) (y : AOper), as[j]? = some y → y.op.changes = true → ((T j ∨ j = i) ↔ j < pt) := by
          intro j y hy hcy
          rw [← hupto j y hy hcy]
          constructor
          · rintro (hT | rfl)
            · exact hT
            · rw [hx] at hy; cases hy; rw [hc] at hcy; cases hcy
          · exact .inl
        rcases hcalm with hfree | htight
        · have he2 := hfree (S pt).2
          obtain ⟨v, hv, hev⟩ := evalOper_agree (fr := (S i).1) (fr2 := fr) (fr' := (S (i + 1)).1) (L := (S pt).2) (L' := (S pt).2) hsees he2
          exact ⟨v, _, _, by rw [hv], hev, .inl ⟨pt, hle, rfl, hup⟩, fun _ _ _ hR _ => hR⟩
        · have hcs : ∀ (j : Nat) (y : AOper), as[j]? = some y → y.op.changes = true → (j < i ↔ j < pt) := by
            intro j y hy hcy
            have hji : i ≠ j := by rintro rfl; rw [hx] at hy; cases hy; rw [hc] at hcy; cases hcy
            have hin := htight j y hji hy hcy
            unfold inOrder at hin
            rw [← hupto j y hy hcy]
            have hj : j < ops.size := by have := (List.getElem?_eq_some_iff.1 hy).1; omega
            split at hin
            · rename_i hlt
              constructor
              · intro; omega
              · intro hT; exact absurd hT (notT j hlt hin hj)
            · exact ⟨fun _ => hmask j hin, fun _ => by omega⟩
          have hr : (S i).2 = (S pt).2 := by
            rcases Nat.le_total pt i with hle2 | hle2
            · exact D.rows (i := pt) (j := i) hle2 (by omega) (fun m y h1 h2 hy => by
                cases hcy : y.op.changes with
                | false => rfl
                | true => have := (hcs m y hy hcy).1 h2; omega)
            · exact (D.rows (i := i) (j := pt) hle2 hle (fun m y h1 h2 hy => by
                cases hcy : y.op.changes with
                | false => rfl
                | true => have := (hcs m y hy hcy).2 h2; omega)).symm
          obtain ⟨v, hv, hev⟩ := evalOper_agree (fr := (S i).1) (fr2 := fr) (fr' := (S (i + 1)).1) (L := (S i).2) (L' := (S (i + 1)).2) hsees he
          rw [hsame, hr] at hev
          exact ⟨v, _, _, by rw [hv], hev, .inl ⟨pt, hle, rfl, hup⟩, fun _ _ _ hR _ => hR⟩
    · -- the later one of two entries is there
      obtain ⟨c, R', R'', d1, d2, hcr, gc1, gc2, f1, f2, ev1, ev2, hperm⟩ := D.swap hgx hgy hcm
      have hRR : R = R' := by
        rw [hgR] at ev1
        simpa using ev1
      subst hRR
      cases hc : ao.op.changes with
      | true =>
        have hig : i = g := by
          by_cases e : i = g
          · exact e
          · exfalso
            have e2 : i ≠ g + 1 := by rintro rfl; exact hTi hTg1
            have h1 := hupto i ao hx hc e e2
            have h2 : g < i := by
              rcases Nat.lt_or_ge i g with h3 | h3
              · exact absurd (h1.2 h3) hTi
              · omega
            rcases D.order hgx hx h2 gc1 hc with h3 | h3
            · exact hTg (hmask g h3)
            · exact e2 h3.1
        subst hig
        rw [hgx] at hx
        cases hx
        obtain ⟨v, hv, hev⟩ := evalOper_agree (fr := (S i).1) (fr2 := fr) (fr' := (S i).1) (L := R) (L' := R'') hsees ev2
        refine ⟨v, R'', (S (i + 2)).2, ?_, hev, .inl ⟨i + 2, by have := (List.getElem?_eq_some_iff.1 hgy).1; omega, rfl, fun j y hy hcy => ?_⟩, fun E' w' a' hR hF => hperm w0 E' w' (a'.tmps.getD c undef) ?_ hR⟩
        · rw [d1, f1]; rfl
        · by_cases e1 : j = i
          · subst e1; exact ⟨fun _ => by omega, fun _ => .inr rfl⟩
          · by_cases e2 : j = i + 1
            · subst e2; exact ⟨fun _ => by omega, fun _ => .inl hTg1⟩
            · have := hupto j y hy hcy e1 e2
              constructor
              · rintro (hT | hT)
                · have := this.1 hT; omega
                · exact absurd hT e1
              · intro hlt
                exact .inl (this.2 (by omega))
        · have := hF.slot c
          rw [d1] at this
          rw [hsees c hcr]
          exact this
      | false =>
        have hig : i ≠ g := by rintro rfl; rw [hx] at hgx; cases hgx; rw [hc] at gc1; cases gc1
        have hig1 : i ≠ g + 1 := by rintro rfl; exact hTi hTg1
        rcases D.calm i ao hx hc with hfree | htight
        · have he2 := hfree R
          obtain ⟨v, hv, hev⟩ := evalOper_agree (fr := (S i).1) (fr2 := fr) (fr' := (S (i + 1)).1) (L := R) (L' := R) hsees he2
          refine ⟨v, R, R, by rw [hv], hev, .inr ⟨g, ⟨gx, gy, hgx, hgy, hcm, hgR⟩, fun hT => ?_, .inl hTg1, fun j y hy hcy n1 n2 => ?_⟩, fun _ _ _ hR _ => hR⟩
          · rcases hT with hT | hT
            · exact hTg hT
            · exact hig hT.symm
          · rw [← hupto j y hy hcy n1 n2]
            constructor
            · rintro (hT | rfl)
              · exact hT
              · rw [hx] at hy; cases hy; rw [hc] at hcy; cases hcy
            · exact .inl
        · exfalso
          have hg1 : g + 1 < ops.size := by have := (List.getElem?_eq_some_iff.1 hgy).1; omega
          rcases Nat.lt_or_ge i g with h1 | h1
          · have hin := htight (g + 1) gy hig1 hgy gc2
            unfold inOrder at hin
            rw [if_pos (by omega)] at hin
            exact notT (g + 1) (by omega) hin hg1 hTg1
          · have hin := htight g gx hig hgx gc1
            unfold inOrder at hin
            rw [if_neg (by omega)] at hin
            exact hTg (hmask g hin)
  obtain ⟨v, R', R2, hv, hev, hnow, hconv⟩ := key
  unfold wpOp
  rw [ho]
  simp only
  refine oper_seq hcf hco hs hev h.rel h.frame ?_
  intro a' w' E' hleE hR' hF'
  refine hK a' w' E' _ R2 hleE ⟨hclosed', hconv E' w' a' hR' hF', hF', hnow, fun j y t hT hy hd => ?_, fun t hno => ?_⟩
  · by_cases e : j = i
    · subst e
      rw [hx] at hy; cases hy
      rw [hv, hd]
      simp only [setDst, get_set, if_true]
    · have hne := D.apart hx hy (Ne.symm e) t hd
      have : get (setDst fr ao.dst v) t = get fr t := by
        cases hda : ao.dst with
        | none => rfl
        | some d =>
          simp only [setDst, get_set]
          rw [if_neg (fun z => hne (by rw [hda, z]))]
      rw [this]
      exact h.done j y t (hT.resolve_right e) hy hd
  · have hne := hno i ao (.inr rfl) hx
    have : get (setDst fr ao.dst v) t = get fr t := by
      cases hda : ao.dst with
      | none => rfl
      | some d =>
        simp only [setDst, get_set]
        rw [if_neg (fun z => hne (by rw [hda, z]))]
    rw [this]
    exact h.open_ t fun j y hT hy => hno j y (.inl hT) hy

theorem Inv.fin {E : Env} {w : World} {a : Act} {T : Nat → Prop} {fr : List V} {R : List Row} (h : Inv n ops as w0 cf H S E w a T fr R) (hall : ∀ j, j < ops.size → T j) : RelF w0 E (S ops.size).2 H w ∧ FrameRel E (S ops.size).1 a n := by
  have hlen := D.len
  have hr : (S ops.size).2 = R := by
    rcases h.now with ⟨pt, hle, rfl, hupto⟩ | ⟨g, ⟨gx, gy, hgx, hgy, _, _⟩, hTg, _⟩
    · exact D.rows (i := pt) (j := ops.size) (by omega) (by omega) (fun m y h1 h2 hy => by
        cases hcy : y.op.changes with
        | false => rfl
        | true => have := (hupto m y hy hcy).1 (hall m (by omega)); omega)
    · exact absurd (hall g (by have := (List.getElem?_eq_some_iff.1 hgx).1; omega)) hTg
  refine ⟨hr ▸ h.rel, h.frame.size, h.frame.defers, fun t => ?_⟩
  have : get (S ops.size).1 t = get fr t := by
    by_cases hw : ∃ (j : Nat) (y : AOper), as[j]? = some y ∧ y.dst = some t
    · obtain ⟨j, y, hy, hd⟩ := hw
      have hj := (List.getElem?_eq_some_iff.1 hy).1
      rw [D.slots (i := j + 1) (j := ops.size) (by omega) (by omega) (fun m ao h1 h2 hao => D.apart hao hy (by omega) t hd)]
      exact (h.done j y t (hall j (by omega)) hy hd).symm
    · rw [D.slots (i := 0) (j := ops.size) (by omega) (by omega) (fun m ao h1 h2 hao hdm => hw ⟨m, ao, hao, hdm⟩)]
      exact (h.open_ t fun m ao _ hao hdm => hw ⟨m, ao, hao, hdm⟩).symm
  rw [this]
  exact h.frame.slot t

theorem Float.progress {listed : Array Bool} (hsz : listed.size = ops.size) (hr : Region.ready .any ops listed = []) : ∀ i, i < ops.size → listed.getD i false = true := by
  intro i
  induction i using Nat.strongRecOn with
  | _ i ih =>
    intro hi
    cases hl : listed.getD i false with
    | true => rfl
    | false =>
      exfalso
      have hmem : i ∈ Region.ready .any ops listed := by
        rw [mem_ready]
        refine ⟨?_, ops[i], Array.getElem?_eq_getElem hi, fun e he hb => ?_⟩
        · have : i < listed.size := by omega
          simp only [Array.getD_eq_getD_getElem?, Array.getElem?_eq_getElem this, Option.getD_some] at hl ⊢
          exact hl
        · have := D.back i ops[i] (Array.getElem?_eq_getElem hi) e he hb
          exact ih e.on this (by omega)
      rw [hr] at hmem
      cases hmem

theorem Float.any (hcf : SoundCall P cf) {Q : Exit → Act → World → Prop} {E0 : Env} (hQ : ∀ a w E, E0.Le E → RelF w0 E (S ops.size).2 H w → FrameRel E (S ops.size).1 a n → Q .normal a w) :
    ∀ (fuel : Nat) (listed : Array Bool) (a : Act) (w : World) (E : Env) (fr : List V) (R : List Row), listed.size = ops.size → ops.size ≤ fuel + cnt listed ops.size → E0.Le E →
      Inv n ops as w0 cf H S E w a (fun j => listed.getD j false = true) fr R → wpAny P .any ops Q fuel listed a w := by
  have final : ∀ (listed : Array Bool) (a : Act) (w : World) (E : Env) (fr : List V) (R : List Row), E0.Le E → (∀ i, i < ops.size → listed.getD i false = true) → Inv n ops as w0 cf H S E w a (fun j => listed.getD j false = true) fr R → Q .normal a w := by
    intro listed a w E fr R hle hall hph
    obtain ⟨r1, r2⟩ := hph.fin D hall
    exact hQ a w E hle r1 r2
  intro fuel
  induction fuel with
  | zero =>
    intro listed a w E fr R hsz hcnt hle hph
    have hall := cnt_full (listed := listed) (m := ops.size) (by omega)
    refine ⟨?_, final listed a w E fr R hle hall hph⟩
    cases hr : Region.ready .any ops listed with
    | nil => rfl
    | cons j rest =>
      exfalso
      have hmem : j ∈ Region.ready .any ops listed := by rw [hr]; simp
      rw [mem_ready] at hmem
      obtain ⟨h0, o, ho, _⟩ := hmem
      have hj : j < ops.size := (Array.getElem?_eq_some_iff.1 ho).1
      rw [getD_both' (by omega), hall j hj] at h0
      cases h0
  | succ fuel ih =>
    intro listed a w E fr R hsz hcnt hle hph
    refine ⟨fun hr => final listed a w E fr R hle (D.progress hsz hr) hph, fun i hi => ?_⟩
    rw [mem_ready] at hi
    obtain ⟨h0, oi, hoi, hpre⟩ := hi
    have hi : i < ops.size := (Array.getElem?_eq_some_iff.1 hoi).1
    rw [getD_both' (by omega)] at h0
    have hcnt' : ops.size ≤ fuel + cnt (listed.setIfInBounds i true) ops.size := by
      rw [cnt_set h0 (by omega), if_pos hi]; omega
    have hset : ∀ j, (listed.setIfInBounds i true).getD j false = true ↔ (listed.getD j false = true ∨ j = i) := by
      intro j
      by_cases e : i = j
      · subst e
        simp [Array.getD_eq_getD_getElem?, show i < listed.size by omega]
      · rw [getD_set_ne false e]
        constructor
        · exact .inl
        · intro h; exact h.resolve_right (Ne.symm e)
    refine hph.step D hcf hi (by simp [h0]) (fun o' ho' e he hb => ?_) ?_
    · rw [hoi] at ho'; cases ho'
      exact hpre e he hb
    · intro a' w' E' fr' R' hleE hI
      refine ih _ a' w' E' fr' R' (by simpa using hsz) hcnt' (hle.trans hleE) ?_
      have : (fun j => (listed.setIfInBounds i true).getD j false = true) = (fun j => listed.getD j false = true ∨ j = i) := by
        funext j; exact propext (hset j)
      rw [this]; exact hI

end float

/-- The operations, some of them weaker: what they answer the operations themselves answer. -/
theorem floatOps_eval {cf : CallF} {H : List (List Row)} {ms : List Nat} {all : List AOper} : ∀ {l : List AOper} {k : Nat} {st st' : St}, evalOps cf H (floatOps ms all k l) st = some st' →
    ∃ S : Nat → St, S 0 = st ∧ S l.length = st' ∧ ∀ i ao, l[i]? = some ao → evalOper cf H ao (S i) = some (S (i + 1)) ∧
      (ao.op.isLoad = true → tightLoad ms all (k + i) = false → ∀ L2, evalOper cf H ao ((S i).1, L2) = some ((S (i + 1)).1, L2))
  | [], k, st, st', h => by
    simp only [floatOps, evalOps, Option.some.injEq] at h; subst h
    exact ⟨fun _ => st, rfl, rfl, by simp⟩
  | ao :: l, k, st, st', h => by
    simp only [floatOps, evalOps, Option.bind_eq_some_iff] at h
    obtain ⟨st1, h1, h2⟩ := h
    obtain ⟨S, e1, e2, e3⟩ := floatOps_eval h2
    have hone : evalOper cf H ao st = some st1 ∧ (ao.op.isLoad = true → tightLoad ms all k = false → ∀ L2, evalOper cf H ao (st.1, L2) = some (st1.1, L2)) := by
      by_cases hw : ao.op.isLoad = true ∧ tightLoad ms all k = false
      · rw [if_pos (by simp [hw.1, hw.2])] at h1
        have hall : ∀ L2, evalOper cf H ao (st.1, L2) = some (st1.1, L2) ∧ st1.2 = st.2 := by
          intro L2
          unfold evalOper at h1 ⊢
          obtain ⟨b, hb, h1⟩ := Option.bind_eq_some_iff.1 h1
          simp only at hb ⊢
          rw [hb, Option.bind_some]
          cases b with
          | false =>
            simp only [Bool.false_eq_true, if_false, Option.some.injEq] at h1 ⊢
            rw [← h1]
            exact ⟨rfl, rfl⟩
          | true =>
            simp only [if_true] at h1 ⊢
            obtain ⟨r, hr, h3⟩ := Option.map_eq_some_iff.1 h1
            obtain ⟨q1, q2⟩ := evalOp_weak hw.1 hr
            rw [q2 L2, Option.map_some, ← h3]
            exact ⟨rfl, q1⟩
        refine ⟨?_, fun _ _ L2 => (hall L2).1⟩
        have := hall st.2
        rw [show st1 = (st1.1, st.2) by rw [← this.2]]
        exact this.1
      · rw [if_neg (by simp only [Bool.and_eq_true, Bool.not_eq_true']; exact hw)] at h1
        exact ⟨h1, fun a b => absurd ⟨a, b⟩ hw⟩
    refine ⟨fun i => match i with | 0 => st | i + 1 => S i, rfl, e2, fun i ao' hi => ?_⟩
    cases i with
    | zero =>
      simp only [List.getElem?_cons_zero, Option.some.injEq] at hi
      subst hi
      simp only [e1, Nat.add_zero]
      exact hone
    | succ i =>
      simp only [List.getElem?_cons_succ] at hi
      have := e3 i ao' hi
      rw [show k + (i + 1) = k + 1 + i by omega]
      exact this

end Go.Ab

/-
  Operations one behind the other.
-/
import Derived.Test.YtfngllcjikmbkaaAbCall
namespace Go.Ab
open Go Go.RowKit
set_option linter.unusedVariables false
set_option linter.unusedSimpArgs false
set_option linter.unnecessarySimpa false

structure FrameRel (E : Env) (fr : List V) (a : Act) (n : Nat) : Prop where
  size : n ≤ a.tmps.size
  defers : a.defers = []
  slot : ∀ i, VR (get fr i) E (a.tmps.getD i undef)

theorem FrameRel.mono {E F : Env} {fr : List V} {a : Act} {n : Nat} (h : FrameRel E fr a n) (hle : E.Le F) : FrameRel F fr a n :=
  ⟨h.size, h.defers, fun i => VR.mono hle _ _ (h.slot i)⟩

theorem FrameRel.put {E : Env} {fr : List V} {a : Act} {n : Nat} {dst : Option Nat} {v : V} {x : Value} (h : FrameRel E fr a n) (hd : dst.all (· < n) = true) (hv : VR v E x) : FrameRel E (setDst fr dst v) (a.put dst x) n := by
  cases dst with
  | none => exact h
  | some d =>
    have hdn : d < n := by simpa using hd
    refine ⟨by simpa [Act.put] using h.size, h.defers, fun i => ?_⟩
    simp only [setDst, get_set, Act.put]
    split
    · rename_i e; subst e
      have := h.size
      simp [Array.getD_eq_getD_getElem?, show d < a.tmps.size by omega]
      exact hv
    · rename_i e
      have := h.slot i
      simpa [Array.getD_eq_getD_getElem?, e] using this

theorem takeIn_rows {keep : Bool} {L L' : List Row} {site : Nat} {u v : V} (h : takeIn keep L site u = (v, L')) : L' = L ∨ ∃ r : Row, L' = rset L site r ∧ r.ver = (rget L site).ver + 1 := by
  unfold takeIn at h
  split at h
  · split at h <;> cases h
    · exact .inr ⟨_, rfl, rfl⟩
    · exact .inl rfl
  · split at h <;> cases h
    · exact .inr ⟨_, rfl, rfl⟩
    · exact .inl rfl
  · cases h; exact .inl rfl
  · cases h; exact .inl rfl

/-- The rows behind an operation that writes none: they are as they were, but for the operation's own one, which is new. -/
theorem evalOp_rows {cf : CallF} {H : List (List Row)} {fr : List V} {L L' : List Row} {ao : AOp} {v : V} (hm : ao.mutates = false) (he : evalOp cf H fr L ao = some (v, L')) :
    L' = L ∨ ∃ r : Row, L' = rset L ao.site r ∧ r.ver = (rget L ao.site).ver + 1 := by
  cases ao <;> simp only [AOp.mutates, Bool.true_eq_false] at hm <;> simp only [evalOp, one] at he
  case mv => cases he; exact .inl rfl
  case pick => obtain ⟨t, _, h⟩ := Option.map_eq_some_iff.1 he; cases h; exact .inl rfl
  case eqb => split at he <;> cases he; exact .inl rfl
  case eqagg =>
    split at he
    · obtain ⟨t, _, h⟩ := Option.map_eq_some_iff.1 he; cases h; exact .inl rfl
    · cases he
  case neg => split at he <;> cases he; exact .inl rfl
  case conv => split at he <;> cases he; exact .inl rfl
  case alloc => split at he <;> cases he; exact .inr ⟨_, rfl, rfl⟩
  case box => split at he <;> cases he; exact .inr ⟨_, rfl, rfl⟩
  case lit =>
    obtain ⟨t, _, h⟩ := Option.bind_eq_some_iff.1 he
    split at h <;> cases h; exact .inl rfl
  case ext =>
    split at he
    · obtain ⟨t, _, h⟩ := Option.map_eq_some_iff.1 he; cases h; exact .inl rfl
    · cases he
  case call =>
    unfold callV at he
    split at he
    · obtain ⟨u, _, h⟩ := Option.map_eq_some_iff.1 he
      exact takeIn_rows h
    · cases he
  case mkfn => cases he; exact .inl rfl
  case mks =>
    unfold mksV at he
    split at he
    · split at he <;> cases he; exact .inr ⟨_, rfl, rfl⟩
    · cases he
  case mm =>
    split at he
    · obtain ⟨t, _, h⟩ := Option.map_eq_some_iff.1 he; cases h; exact .inl rfl
    · cases he
  case nilck => split at he <;> cases he <;> exact .inl rfl
  case mkmap => cases he; exact .inr ⟨_, rfl, rfl⟩
  all_goals (obtain ⟨t, _, h⟩ := Option.map_eq_some_iff.1 he; cases h; exact .inl rfl)

theorem evalOp_row {cf : CallF} {H : List (List Row)} {fr : List V} {L L' : List Row} {ao : AOp} {v : V} (hm : ao.mutates = false) (he : evalOp cf H fr L ao = some (v, L')) (s : Nat) :
    rget L' s = rget L s ∨ (s = ao.site ∧ (rget L' s).ver = (rget L s).ver + 1) := by
  rcases evalOp_rows hm he with rfl | ⟨r, rfl, hr⟩
  · exact .inl rfl
  · rw [rget_rset]
    split
    · rename_i e; subst e; exact .inr ⟨rfl, hr⟩
    · exact .inl rfl

theorem evalOp_zero {cf : CallF} {H : List (List Row)} {fr : List V} {L L' : List Row} {ao : AOp} {v : V} (hm : ao.mutates = false) (hs : ao.siteOk = true) (he : evalOp cf H fr L ao = some (v, L')) (h0 : ao.site = 0) : L' = L := by
  cases ao <;> simp only [AOp.mutates, Bool.true_eq_false] at hm <;> simp only [AOp.siteOk, bne_iff_ne, ne_eq] at hs <;> simp only [AOp.site] at h0 <;> simp only [evalOp, one] at he
  case alloc => exact absurd h0 hs
  case box => exact absurd h0 hs
  case mks => exact absurd h0 hs
  case mkmap => exact absurd h0 hs
  case mv => cases he; rfl
  case pick => obtain ⟨t, _, h⟩ := Option.map_eq_some_iff.1 he; cases h; rfl
  case eqb => split at he <;> cases he; rfl
  case eqagg =>
    split at he
    · obtain ⟨t, _, h⟩ := Option.map_eq_some_iff.1 he; cases h; rfl
    · cases he
  case neg => split at he <;> cases he; rfl
  case conv => split at he <;> cases he; rfl
  case lit =>
    obtain ⟨t, _, h⟩ := Option.bind_eq_some_iff.1 he
    split at h <;> cases h; rfl
  case ext =>
    split at he
    · obtain ⟨t, _, h⟩ := Option.map_eq_some_iff.1 he; cases h; rfl
    · cases he
  case call =>
    subst h0
    unfold callV at he
    split at he
    · obtain ⟨u, _, h⟩ := Option.map_eq_some_iff.1 he
      unfold takeIn at h
      split at h
      · simp only [bne_self_eq_false, Bool.false_eq_true, if_false] at h; cases h; rfl
      · simp only [bne_self_eq_false, Bool.false_eq_true, if_false] at h; cases h; rfl
      · cases h; rfl
      · cases h; rfl
    · cases he
  case mkfn => cases he; rfl
  case mm =>
    split at he
    · obtain ⟨t, _, h⟩ := Option.map_eq_some_iff.1 he; cases h; rfl
    · cases he
  case nilck => split at he <;> cases he <;> rfl
  all_goals (obtain ⟨t, _, h⟩ := Option.map_eq_some_iff.1 he; cases h; rfl)

/-- An operation that writes no row, wherever it stands. -/
theorem step_of {P : Program} {keep : Nat} {site : Nat} {o : Oper} {ao : AOp} {E : Env} {M : List (List Row)} {w : World} {a : Act} {fr : List V} {cf : CallF} {H : List (List Row)} {L L' : List Row} {v : V}
    (hcf : SoundCall P cf) (hop : cOp P keep site o = some ao) (hsite : 0 < site) (hm : ao.mutates = false) (he : evalOp cf H fr L ao = some (v, L')) (hs : Sees E fr a (argTmps ao.argList))
    (hL : RelM E (L :: H) w) (hM : RelM E M w) (hrow : ao.site ≠ 0 → (rget L ao.site).ver < (rget L' ao.site).ver → rowAt M 0 ao.site = rget L' ao.site ∧ E.own 0 ao.site (rget L' ao.site).ver = none) :
    StepA P E M w o a v ao.site (rget L' ao.site).ver := by
  by_cases hc : ao.plain = true
  · exact (op_gives hop hsite hc he hs hL hM hrow).step
  · cases ao <;> simp only [AOp.plain, not_true_eq_false] at hc <;> simp only [AOp.mutates, Bool.true_eq_false] at hm
    exact call_step hcf hop hsite he hs hL hM hrow

/-- The guard, as the model sees it. -/
theorem wanted_rel {P : Program} {E : Env} {fr : List V} {a : Act} {ops : Array Oper} {o : Oper} {ao : AOper} {b : Bool}
    (hg : match o.guard with | none => ao.guard = none | some (j, w) => ∃ d, (ops[j]?).bind (·.dst) = some d ∧ ao.guard = some (d, w))
    (hs : ∀ d w, ao.guard = some (d, w) → VR (get fr d) E (a.tmps.getD d undef)) (hw : wanted fr ao.guard = some b) : Region.wanted o (yielded ops a.tmps) = b := by
  unfold Region.wanted
  cases hgo : o.guard with
  | none =>
    simp only [hgo] at hg
    simp only [hg, wanted, Option.some.injEq] at hw
    exact hw
  | some jw =>
    obtain ⟨j, w⟩ := jw
    simp only [hgo] at hg
    obtain ⟨d, hd, hag⟩ := hg
    have hv := hs d w hag
    simp only [hag, wanted] at hw
    simp only [yielded, hd, Option.bind_some]
    have hget : a.tmps.getD d undef = (a.tmps[d]?).getD undef := by simp [Array.getD_eq_getD_getElem?]
    rw [hget] at hv
    split at hw
    · rename_i c hc
      rw [hc] at hv
      simp only [VR] at hv
      cases hx : a.tmps[d]? with
      | none => rw [hx] at hv; cases hv
      | some x =>
        rw [hx] at hv
        simp only [Option.getD_some] at hv
        subst hv
        simp only [Option.some.injEq] at hw
        simpa using hw
    · rename_i hc
      rw [hc] at hv
      simp only [VR, VRs] at hv
      obtain ⟨c, hv, _⟩ := hv
      simp only [Option.some.injEq] at hw
      subst hw
      cases hx : a.tmps[d]? with
      | none => simp
      | some x =>
        rw [hx] at hv
        simp only [Option.getD_some] at hv
        subst hv
        simp
    · cases hw

/-- What the making of an operation has checked. -/
theorem cOper_spec {P : Program} {keep : Nat} {site n : Nat} {ops : Array Oper} {o : Oper} {ao : AOper} (h : cOper P keep site ops n o = some ao) :
    cOp P keep site o = some ao.op ∧ ao.dst = o.dst ∧ o.dst.all (· < n) = true ∧
      (match o.guard with | none => ao.guard = none | some (j, w) => ∃ d, (ops[j]?).bind (·.dst) = some d ∧ ao.guard = some (d, w)) := by
  unfold cOper at h
  obtain ⟨op, hop, h⟩ := Option.bind_eq_some_iff.1 h
  split at h
  · rename_i hd
    split at h
    · rename_i hg; cases h; exact ⟨hop, rfl, hd, by simp [hg]⟩
    · rename_i j w hg
      obtain ⟨d, hd', rfl⟩ := Option.map_eq_some_iff.1 h
      exact ⟨hop, rfl, hd, by simp only [hg]; exact ⟨d, hd', rfl⟩⟩
  · cases h

theorem tup_undef (E : Env) : VR (.tup []) E undef := ⟨#[], rfl, rfl⟩

/-- Behind an operation that takes at most a row of its own. -/
theorem close_step {P : Program} {n : Nat} {o : Oper} {w0 : Base} {E : Env} {w : World} {a : Act} {fr : List V} {H : List (List Row)} {L L1 : List Row} {v : V} {s : Nat} (hd : o.dst.all (· < n) = true) (hR : RelF w0 E L H w) (hF : FrameRel E fr a n)
    (hrow : ∀ s', rget L1 s' = rget L s' ∨ (s' = s ∧ (rget L1 s').ver = (rget L s').ver + 1))
    (hst : RelM E (L1 :: H) w → (s ≠ 0 → (rget L s).ver < (rget L1 s).ver → rowAt (L1 :: H) 0 s = rget L1 s ∧ E.own 0 s (rget L1 s).ver = none) → StepA P E (L1 :: H) w o a v s (rget L1 s).ver)
    {next : Act → World → Prop} {Q : Exit → Act → World → Prop} (hn : ∀ a' w' E', E.Le E' → RelF w0 E' L1 H w' → FrameRel E' (setDst fr o.dst v) a' n → next a' w') : o.wp P a w next Q := by
  have hfresh : ∀ s, (rget L s).ver < (rget L1 s).ver → E.own 0 s (rget L1 s).ver = none := fun s h => hR.fresh s h
  have hM : RelM E (L1 :: H) w := by
    refine hR.mem.change fun d s o' ho' => ?_
    cases d with
    | succ d => rfl
    | zero =>
      simp only [rowAt_zero] at ho' ⊢
      rcases hrow s with h | ⟨_, h⟩
      · exact h
      · rw [hfresh s (by omega)] at ho'; cases ho'
  refine hst hM (fun _ h => ⟨rfl, hfresh _ h⟩) next Q ?_
  intro x w' E' hle hM' hbel hv hkeys
  have hout : ∀ d s v o, E'.own (d + 1) s v = some o → w0.E.own (d + 1) s v = some o := by
    intro d s v' o' ho'
    rcases hkeys.own (d + 1) s v' o' ho' with h | ⟨h, _⟩
    · exact hR.out d s v' o' h
    · cases h
  have hnew : ∀ b cs, E'.imm b = some cs → w0.E.imm b = some cs ∨ w0.w.heap.size ≤ b := by
    intro b cs hb
    rcases hkeys.imm b cs hb with h | h
    · exact hR.new b cs h
    · exact .inr (Nat.le_trans hR.below.size h)
  refine hn _ w' E' hle ⟨hR.below.trans (hbel.mono hR.below.size), hM', fun s v' o' ho' => ?_, hout, hnew⟩ ((hF.mono hle).put hd hv)
  rcases hkeys.own 0 s v' o' ho' with h | ⟨_, rfl, rfl, _, h⟩
  · have h1 := hR.bnd s v' o' h
    refine ⟨?_, h1.2⟩
    rcases hrow s with h2 | ⟨_, h2⟩
    · rw [h2]; exact h1.1
    · omega
  · exact ⟨Nat.le_refl _, Nat.le_trans hR.below.size h⟩

set_option maxHeartbeats 400000 in
theorem oper_seq {P : Program} {keep : Nat} {site n : Nat} {ops : Array Oper} {o : Oper} {ao : AOper} {w0 : Base} {E : Env} {w : World} {a : Act} {fr fr' : List V} {cf : CallF} {H : List (List Row)} {L L' : List Row}
    (hcf : SoundCall P cf) (hc : cOper P keep site ops n o = some ao) (hsite : 0 < site) (he : evalOper cf H ao (fr, L) = some (fr', L')) (hR : RelF w0 E L H w) (hF : FrameRel E fr a n)
    {next : Act → World → Prop} {Q : Exit → Act → World → Prop} (hn : ∀ a' w' E', E.Le E' → RelF w0 E' L' H w' → FrameRel E' fr' a' n → next a' w') :
    if Region.wanted o (yielded ops a.tmps) then o.wp P a w next Q ∨ (o.asks P a w ∧ LetsOut Q) else next (a.put o.dst undef) w := by
  obtain ⟨hop, hdst, hd, hg⟩ := cOper_spec hc
  unfold evalOper at he
  obtain ⟨b, hb, he⟩ := Option.bind_eq_some_iff.1 he
  rw [wanted_rel (P := P) hg (fun d w _ => hF.slot d) hb]
  cases b with
  | false =>
    simp only [Bool.false_eq_true, if_false, Option.some.injEq, Prod.mk.injEq] at he ⊢
    obtain ⟨rfl, rfl⟩ := he
    refine hn _ _ E (.refl _) hR ?_
    rw [hdst]
    exact hF.put hd (tup_undef E)
  | true =>
    simp only [if_true] at he ⊢
    obtain ⟨⟨v, L1⟩, hev, he⟩ := Option.map_eq_some_iff.1 he
    simp only [Prod.mk.injEq] at he
    obtain ⟨rfl, rfl⟩ := he
    refine .inl ?_
    have hs : Sees E fr a (argTmps ao.op.argList) := fun t _ => hF.slot t
    by_cases hm : ao.op.mutates = false
    · refine close_step (s := ao.op.site) (fr := fr) (by exact hd) hR hF (fun s' => evalOp_row hm hev s') (fun hM hr => step_of hcf hop hsite hm hev hs hR.mem hM hr) ?_
      rw [← hdst]
      exact hn
    by_cases hcl : ∃ s f as, ao.op = .callf s f as
    · obtain ⟨s, f, as, hao⟩ := hcl
      rw [hao] at hop hev hs
      obtain ⟨c, fo, ho, hc, hf, has⟩ := callf_shape hop
      simp only [evalOp, Option.bind_eq_some_iff] at hev
      obtain ⟨⟨argv, L2⟩, hz, hcv⟩ := hev
      have hfr := hs.arg (y := f) (by simp [AOp.argList]) hf
      have har := args_rel has (fun t ht => hs t (by simp only [AOp.argList]; rw [show f :: as = [f] ++ as by rfl, argTmps_append]; simp [ht]))
      obtain ⟨E2, hle2, hR2, har2⟩ := frzDs_rel hR har hz
      simp only at hcv har2 hR2
      refine close_step (s := s) (fr := fr) (by exact hd) hR2 (hF.mono hle2) (fun s' => ?_) (fun hM hr => call_core hcf ho hc (VR.mono hle2 _ _ hfr) har2 hcv hR2.mem hM hr) ?_
      · unfold callV at hcv
        split at hcv
        · obtain ⟨u, _, ht⟩ := Option.map_eq_some_iff.1 hcv
          rcases takeIn_rows ht with rfl | ⟨r, rfl, hr⟩
          · exact .inl rfl
          · rw [rget_rset]
            split
            · rename_i e; subst e; exact .inr ⟨rfl, hr⟩
            · exact .inl rfl
        · cases hcv
      · rw [← hdst]
        exact fun a' w' E' hle => hn a' w' E' (hle2.trans hle)
    · have hT : Turns P w0 E L1 H w o a v := by
        cases hao : ao.op <;> simp only [hao, AOp.mutates, not_true_eq_false, not_false_eq_true] at hm
        case callf s f as => exact absurd ⟨s, f, as, hao⟩ hcl
        case store nn x y =>
          rw [hao] at hop hev hs
          obtain ⟨t, xo, yo, ho, hn', hx, hy⟩ : ∃ t xo yo, o.op = .store t xo yo ∧ tSize P t = some nn ∧ cArg xo = some x ∧ cArg yo = some y := by
            unfold cOp at hop
            split at hop
            all_goals (try (repeat' split at hop))
            all_goals (try (simp [Option.bind_eq_some_iff, Option.map_eq_some_iff] at hop; done))
            simp only [Option.bind_eq_some_iff, Option.map_eq_some_iff, AOp.store.injEq] at hop
            obtain ⟨nn', hnn, x', hx, y', hy, rfl, rfl, rfl⟩ := hop
            exact ⟨_, _, _, ‹o.op = Op.store _ _ _›, hnn, hx, hy⟩
          simp only [evalOp, Option.map_eq_some_iff, Prod.mk.injEq] at hev
          obtain ⟨L2, hst, rfl, rfl⟩ := hev
          exact store_turns ho hn' hR (hs.arg (by simp [AOp.argList]) hx) (hs.arg (by simp [AOp.argList]) hy) hst
        case mins m x i v' =>
          rw [hao] at hop hev hs
          obtain ⟨t, kt, et, xo, io, vo, ho, ht, hk, hx, hi, hv⟩ : ∃ t kt et xo io vo, o.op = .insert t xo io vo ∧ P.underlying t = some (.map kt et) ∧ tKey P kt = some m ∧ cArg xo = some x ∧ cArg io = some i ∧ cArg vo = some v' := by
            unfold cOp at hop
            split at hop
            all_goals (try (repeat' split at hop))
            all_goals (try (simp [Option.bind_eq_some_iff, Option.map_eq_some_iff] at hop; done))
            simp only [Option.bind_eq_some_iff, Option.map_eq_some_iff, AOp.mins.injEq] at hop
            obtain ⟨m', hm, x', hx, i', hi, v'', hv, rfl, rfl, rfl, rfl⟩ := hop
            exact ⟨_, _, _, _, _, _, ‹o.op = Op.insert _ _ _ _›, ‹_ = some (TypeDesc.map _ _)›, hm, hx, hi, hv⟩
          simp only [evalOp, Option.map_eq_some_iff, Prod.mk.injEq] at hev
          obtain ⟨L2, hst, rfl, rfl⟩ := hev
          exact mput_turns (.inr ho) ht hk hR (hs.arg (by simp [AOp.argList]) hx) (hs.arg (by simp [AOp.argList]) hi) (hs.arg (by simp [AOp.argList]) hv) (mins_mput hst)
        case mput m x i v' =>
          rw [hao] at hop hev hs
          obtain ⟨t, kt, et, xo, io, vo, ho, ht, hk, hx, hi, hv⟩ : ∃ t kt et xo io vo, o.op = .mapUpdate t xo io vo ∧ P.underlying t = some (.map kt et) ∧ tKey P kt = some m ∧ cArg xo = some x ∧ cArg io = some i ∧ cArg vo = some v' := by
            unfold cOp at hop
            split at hop
            all_goals (try (repeat' split at hop))
            all_goals (try (simp [Option.bind_eq_some_iff, Option.map_eq_some_iff] at hop; done))
            simp only [Option.bind_eq_some_iff, Option.map_eq_some_iff, AOp.mput.injEq] at hop
            obtain ⟨m', hm, x', hx, i', hi, v'', hv, rfl, rfl, rfl, rfl⟩ := hop
            exact ⟨_, _, _, _, _, _, ‹o.op = Op.mapUpdate _ _ _ _›, ‹_ = some (TypeDesc.map _ _)›, hm, hx, hi, hv⟩
          simp only [evalOp, Option.map_eq_some_iff, Prod.mk.injEq] at hev
          obtain ⟨L2, hst, rfl, rfl⟩ := hev
          exact mput_turns (.inl ho) ht hk hR (hs.arg (by simp [AOp.argList]) hx) (hs.arg (by simp [AOp.argList]) hi) (hs.arg (by simp [AOp.argList]) hv) hst
        case litf nn z len q =>
          rw [hao] at hop hev hs
          obtain ⟨t, e, parts, ho, ht, hn', hz, hzn, h0, hmax, hq⟩ : ∃ (t e : TypeId) (parts : Array (Nat × Operand)), o.op = .buildSlice t len parts ∧ P.underlying t = some (.slice e) ∧ tSize P e = some nn ∧ tZero P e = some z ∧
              z.length = nn ∧ 0 < nn ∧ len * nn ≤ 16777216 ∧ cParts (fun i => some (i * nn, nn)) parts.toList = some q := by
            unfold cOp at hop
            split at hop
            all_goals (try (repeat' split at hop))
            all_goals (try (simp [Option.bind_eq_some_iff, Option.map_eq_some_iff] at hop; done))
            simp only [Option.bind_eq_some_iff] at hop
            obtain ⟨n', hn', z', hz', hop⟩ := hop
            split at hop
            · rename_i hcc
              obtain ⟨q', hq', hop⟩ := Option.map_eq_some_iff.1 hop
              unfold mkLit at hop
              split at hop
              · cases hop
                exact ⟨_, _, _, ‹o.op = Op.buildSlice _ _ _›, ‹_ = some (TypeDesc.slice _)›, hn', hz', hcc.1, hcc.2.1, hcc.2.2, hq'⟩
              · cases hop
            · cases hop
          exact litf_turns ho ht hn' hz hzn h0 hmax hq hs hR hev
        case app s sz by' x y =>
          rw [hao] at hop hev hs
          obtain ⟨c, t, u, e, e', xo, yo, i, z, ho, hcl, hts, has, ht, hu, hi, hz, hx, hy, h0, hzn, rfl, rfl⟩ : ∃ (c : Call) (t u e e' : TypeId) (xo yo : Operand) (i : TypeInfo) (z : List V), o.op = .call c ∧ c.callee = .builtin .append ∧ c.argTypes.toList = [t, u] ∧ c.args.toList = [xo, yo] ∧
              P.underlying t = some (.slice e) ∧ P.underlying u = some (.slice e') ∧ P.info? e = some i ∧ tZero P e = some z ∧ cArg xo = some x ∧ cArg yo = some y ∧ 0 < i.size ∧ z.length = i.size ∧ sz = i.size ∧ by' = i.bytes := by
            unfold cOp at hop
            split at hop
            all_goals (try (repeat' split at hop))
            all_goals (try (simp [Option.bind_eq_some_iff, Option.map_eq_some_iff] at hop; done))
            simp only [Option.bind_eq_some_iff] at hop
            obtain ⟨i, hi, z, hz, x', hx, y', hy, hop⟩ := hop
            split at hop
            · rename_i hcc
              simp only [Option.some.injEq, AOp.app.injEq] at hop
              obtain ⟨rfl, rfl, rfl, rfl, rfl⟩ := hop
              exact ⟨_, _, _, _, _, _, _, i, z, ‹o.op = Op.call _›, ‹_ = Callee.builtin Builtin.append›, ‹_ = [_, _]›, ‹_ = [_, _]›, ‹_ = some (TypeDesc.slice _)›, ‹_ = some (TypeDesc.slice _)›, hi, hz, hx, hy, hcc.1, hcc.2.2, rfl, rfl⟩
            · cases hop
          simp only [evalOp] at hev
          have e1 : c.argTypes = #[t, u] := by rw [← Array.toArray_toList (xs := c.argTypes), hts]
          have e2 : c.args = #[xo, yo] := by rw [← Array.toArray_toList (xs := c.args), has]
          refine app_turns (vx := a.eval xo) (vy := a.eval yo) ?_ ht hu hi hz hzn h0 hR (hs.arg (by simp [AOp.argList]) hx) (hs.arg (by simp [AOp.argList]) hy) hev
          intro r w' h
          simp [execOp, ho, resolve, hcl, invoke, builtin, e1, e2, h]
      obtain ⟨nx, w', E', x, hrun, hnx, hle, hR', hv⟩ := hT
      unfold Oper.wp
      rw [hrun]
      have hfin := hn (a.put o.dst x) w' E' hle hR' (by rw [hdst]; exact (hF.mono hle).put hd hv)
      rcases hnx with rfl | ⟨rfl, rfl⟩
      · exact hfin
      · exact hfin

end Go.Ab

/-
  Calls.
-/
import Derived.Test.YtfngllcjikmbkaaAbOpD
namespace Go.Ab
open Go Go.RowKit
set_option linter.unusedVariables false
set_option linter.unusedSimpArgs false
set_option linter.unnecessarySimpa false

/-- A slice in memory that a call has made. -/
def OwnSl (E : Env) (lo : Nat) (w : World) (sz : Nat) (els : List (List V)) (x : Value) : Prop :=
  ∃ b c t cap a, x = .slice (some a) els.length cap ∧ els.length ≤ cap ∧ (cap = 0 ∨ (a = ⟨b, 0, none⟩ ∧ cap * sz ≤ c.size)) ∧ lo ≤ b ∧
    w.heap[b]? = some (.cells c t (0, 0)) ∧ E.imm b = none ∧ VRss els E.bare sz c.toList

def RetR (E : Env) (lo : Nat) (w : World) : V → Value → Prop
  | .sl .own sz els, x => OwnSl E lo w sz els x
  | .tup (.sl .own sz els :: vs), x => ∃ (c : Array Value) (y : Value) (ys : List Value), x = .tuple c ∧ c.toList = y :: ys ∧ OwnSl E lo w sz els y ∧ VRs vs E ys
  | v, x => VR v E x

/-- What a call leaves: memory that was there is as it was; its result. -/
def Leaves (E : Env) (w : World) (v : V) (e : Ending) (w' : World) : Prop :=
  ∃ x imm', e = .returned x ∧ Below w.heap.size w w' ∧ (∀ b cs, E.imm b = some cs → imm' b = some cs) ∧
    (∀ b cs, imm' b = some cs → E.imm b = some cs ∨ (w.heap.size ≤ b ∧ ∃ t fr, w'.heap[b]? = some (.cells cs t fr))) ∧
    RetR { E.up 1 with imm := imm' } w.heap.size w' v x

def SoundCall (P : Program) (cf : CallF) : Prop :=
  ∀ f args H v, cf f args H = some v →
    (∃ fn, P.funcs[f]? = some fn ∧ fn.name ≠ "runtime.NumGoroutine" ∧ fn.body.isSome = true) ∧
    ∀ (E : Env) (w : World) (xs : List Value), VRs args E xs → RelM E ([] :: H) w → (∀ s ver, E.own 0 s ver = none) → Calls P f xs.toArray w (Leaves E w v)

/-- An operation that changes no row that is there. -/
def StepA (P : Program) (E : Env) (M : List (List Row)) (w : World) (o : Oper) (a : Act) (v : V) (s ver : Nat) : Prop :=
  ∀ (next : Act → World → Prop) (Q : Exit → Act → World → Prop),
    (∀ x w' E', E.Le E' → RelM E' M w' → Below w.heap.size w w' → VR v E' x → Keys E E' w s ver → next (a.put o.dst x) w') → o.wp P a w next Q

theorem Gives.step {P : Program} {E : Env} {M : List (List Row)} {w : World} {o : Oper} {a : Act} {v : V} {s ver : Nat} (h : Gives P E M w o a v s ver) : StepA P E M w o a v s ver := by
  intro next Q hn
  obtain ⟨x, w', E', hr, h1, h2, h3, h4, h5⟩ := h
  unfold Oper.wp
  rw [hr]
  exact hn x w' E' h1 h2 h3 h4 h5

theorem RelM.inner {E : Env} {M : List (List Row)} {w : World} (h : RelM E M w) : RelM E.inner ([] :: M) w := by
  refine ⟨h.imm, fun d s v o ho => ?_, fun d s o ho hp => ?_, fun d s o ho hp => ?_, fun d s v o d' s' v' o' h1 h2 he => ?_, fun d s o ho => ?_⟩
  rotate_right
  · cases d with
    | zero => simp [Env.inner] at ho
    | succ d =>
      rw [rowAt_succ] at ho
      exact h.nim d s o ho
  · cases d with
    | zero => simp [Env.inner] at ho
    | succ d => exact h.blk d s v o ho
  · cases d with
    | zero => simp [Env.inner] at ho
    | succ d =>
      rw [rowAt_succ] at ho ⊢
      exact h.cur d s o ho hp
  · cases d with
    | zero => simp [Env.inner] at ho
    | succ d =>
      rw [rowAt_succ] at ho ⊢
      exact h.mpc d s o ho hp
  · cases d with
    | zero => simp [Env.inner] at h1
    | succ d =>
      cases d' with
      | zero => simp [Env.inner] at h2
      | succ d' =>
        obtain ⟨e1, e2⟩ := h.inj _ _ _ _ _ _ _ _ h1 h2 he
        exact ⟨by rw [e1], e2⟩

/-- New memory that nobody writes, all at once. -/
theorem RelM.imms {E : Env} {M : List (List Row)} {w w' : World} {imm' : Nat → Option (Array Value)} (h : RelM E M w) (hb : Below w.heap.size w w')
    (h1 : ∀ b cs, E.imm b = some cs → imm' b = some cs)
    (h2 : ∀ b cs, imm' b = some cs → E.imm b = some cs ∨ (w.heap.size ≤ b ∧ ∃ t fr, w'.heap[b]? = some (.cells cs t fr))) : RelM { E with imm := imm' } M w' := by
  have hw := h.below hb
  have hle : E.Le { E with imm := imm' } := ⟨fun _ _ _ _ x => x, h1⟩
  refine ⟨fun b cs hi => ?_, fun d s v o ho => Nat.lt_of_lt_of_le (h.blk d s v o ho) hb.size, fun d s o ho hp => ?_, fun d s o ho hp => ?_, h.inj, fun d s o ho => ?_⟩
  · rcases h2 b cs hi with hi | ⟨_, hi⟩
    · exact hw.imm b cs hi
    · exact hi
  rotate_right
  · have h3 := h.nim d s o ho
    have h5 := h.blk d s _ o ho
    show imm' o.blk = none
    cases hi : imm' o.blk with
    | none => rfl
    | some cs =>
      rcases h2 _ _ hi with h4 | ⟨h4, _⟩
      · rw [h3] at h4; cases h4
      · omega
  · obtain ⟨c, t, hc, r1, r2, r3⟩ := hw.cur d s o ho hp
    exact ⟨c, t, hc, r1, r2, VRss.mono (hle.up d) _ _ _ r3⟩
  · obtain ⟨es, clk, hc, r3⟩ := hw.mpc d s o ho hp
    exact ⟨es, clk, hc, r3.mono (hle.up d)⟩

theorem VR.settle {E : Env} {v : V} {x : Value} (h : VR v E x) : VR (settle v) E x := by
  unfold Ab.settle
  split
  · simp only [VR] at h; exact absurd rfl h.1
  · exact h

theorem VRs.settle {E : Env} : ∀ {vs : List V} {l : List Value}, VRs vs E l → VRs (vs.map Ab.settle) E l
  | [], l, h => h
  | v :: vs, l, h => by
    simp only [VRs] at h
    obtain ⟨x, l', rfl, hv, hr⟩ := h
    exact ⟨x, l', rfl, hv.settle, VRs.settle hr⟩

/-- The result of a call is taken in. -/
theorem takeIn_rel {E : Env} {M : List (List Row)} {w w' : World} {L L' : List Row} {site : Nat} {keep : Bool} {u v : V} {x : Value} (hM : RelM E M w') (hb : w.heap.size ≤ w'.heap.size) (hr : RetR E w.heap.size w' u x)
    (hno : ∀ d s v o, E.own d s v = some o → o.blk < w.heap.size) (he : takeIn keep L site u = (v, L')) (hs : keep = true → site ≠ 0)
    (hrow : keep = true → (rget L site).ver < (rget L' site).ver → rowAt M 0 site = rget L' site ∧ E.own 0 site (rget L' site).ver = none) :
    ∃ E', E.Le E' ∧ RelM E' M w' ∧ VR v E' x ∧ Keys E E' w (if keep then site else 0) (rget L' site).ver := by
  have own : ∀ {sz : Nat} {els : List (List V)} {y : Value}, OwnSl E w.heap.size w' sz els y →
      (keep = false → ∃ E', E.Le E' ∧ RelM E' M w' ∧ VR (.sl .any sz els) E' y ∧ Keys E E' w 0 0) ∧
      (keep = true → rget L' site = ⟨(rget L site).ver + 1, sz, els⟩ → ∃ E', E.Le E' ∧ RelM E' M w' ∧ VR (.ref 0 site ((rget L site).ver + 1) sz 0 els.length) E' y ∧ Keys E E' w site ((rget L site).ver + 1)) := by
    intro sz els y ho
    obtain ⟨b, c, t, cap, a, rfl, hle, hcap, hlo, hb', hi, hrow'⟩ := ho
    have hnb : ∀ d s v o, E.own d s v = some o → o.blk ≠ b := fun d s v o ho e => by have := hno d s v o ho; omega
    constructor
    · intro _
      refine ⟨E.addImm b c, Env.le_addImm hi, hM.addImm hi hb' (fun d s o => hnb d s _ o), ?_, ⟨fun _ _ _ _ h => .inl h, fun x c' hx => ?_⟩⟩
      case refine_2 =>
        simp only [Env.addImm] at hx
        split at hx
        · rename_i e; exact .inr (by omega)
        · exact .inl hx
      simp only [VR]
      refine ⟨by simp, a, cap, rfl, hle, by simp, ?_⟩
      rcases hcap with rfl | ⟨rfl, hcap⟩
      · exact .inl (List.eq_nil_of_length_eq_zero (by omega))
      · exact .inr ⟨c, rfl, by simp [Env.addImm], by simpa using VRss.mono (Env.le_addImm (c := c) hi).bare _ _ _ hrow'⟩
    · intro hk hL
      obtain ⟨h1, h2⟩ := hrow hk (by rw [hL]; simp)
      rw [hL] at h1 h2
      refine ⟨E.addOwn site ((rget L site).ver + 1) ⟨b, sz, c.size, false⟩, Env.le_addOwn h2, hM.addOwn h2 hi hb' hnb (fun _ => by rw [h1]; exact ⟨rfl, VRss.mono E.bare_le _ _ _ hrow'⟩), ?_, ?_⟩
      · simp only [VR]
        refine ⟨_, a, cap, by simp [Env.addOwn]; rfl, rfl, rfl, rfl, hle, ?_⟩
        rcases hcap with h | ⟨h, h'⟩
        · exact .inl h
        · exact .inr ⟨by simpa using h, by simpa using h'⟩
      · refine ⟨fun d s' v' o' ho => ?_, fun _ _ h => .inl h⟩
        simp only [Env.addOwn] at ho
        split at ho
        · rename_i e; cases ho; exact .inr ⟨e.1, e.2.1, e.2.2, hs hk, hlo⟩
        · exact .inl ho
  unfold takeIn at he
  split at he
  · rename_i sz els
    simp only [RetR] at hr
    split at he
    · rename_i hk; cases he
      obtain ⟨E', h1, h2, h3, h4⟩ := (own hr).2 hk (by simp [rget_rset])
      exact ⟨E', h1, h2, h3, by simpa [hk, rget_rset] using h4⟩
    · rename_i hk; cases he
      obtain ⟨E', h1, h2, h3, h4⟩ := (own hr).1 (by simpa using hk)
      refine ⟨E', h1, h2, h3, ⟨fun d s' v' o' ho => ?_, h4.imm⟩⟩
      rcases h4.own d s' v' o' ho with h | ⟨_, _, _, h, _⟩
      · exact .inl h
      · exact absurd rfl h
  · rename_i sz els vs
    simp only [RetR] at hr
    obtain ⟨c, y, ys, rfl, hc, ho, hvs⟩ := hr
    split at he
    · rename_i hk; cases he
      obtain ⟨E', h1, h2, h3, h4⟩ := (own ho).2 hk (by simp [rget_rset])
      refine ⟨E', h1, h2, ?_, by simpa [hk, rget_rset] using h4⟩
      simp only [VR]
      exact ⟨c, rfl, y, ys, hc, h3, VRs.mono h1 _ _ hvs.settle⟩
    · rename_i hk; cases he
      obtain ⟨E', h1, h2, h3, h4⟩ := (own ho).1 (by simpa using hk)
      refine ⟨E', h1, h2, ?_, ⟨fun d s' v' o' ho => ?_, h4.imm⟩⟩
      · simp only [VR]
        exact ⟨c, rfl, y, ys, hc, h3, VRs.mono h1 _ _ hvs.settle⟩
      · rcases h4.own d s' v' o' ho with h | ⟨_, _, _, h, _⟩
        · exact .inl h
        · exact absurd rfl h
  · rename_i vs hvs
    cases he
    have hr' : VR (.tup vs) E x := by
      unfold RetR at hr
      split at hr
      · rename_i h; cases h
      · rename_i h; cases h; exact absurd rfl (hvs _ _ _)
      · exact hr
    simp only [VR] at hr'
    obtain ⟨c, rfl, hc⟩ := hr'
    exact ⟨E, .refl _, hM, ⟨c, rfl, hc.settle⟩, .refl _ _ _ _⟩
  · rename_i h1 h2 h3
    cases he
    refine ⟨E, .refl _, hM, ?_, .refl _ _ _ _⟩
    unfold RetR at hr
    split at hr
    · exact absurd rfl (h1 _ _)
    · exact absurd rfl (h2 _ _ _)
    · exact hr

theorem call_core {P : Program} {o : Oper} {s : Nat} {c : Call} {fo : Operand} {fv : V} {argv : List V} {E : Env} {M : List (List Row)} {w : World} {a : Act} {cf : CallF} {H : List (List Row)} {L L' : List Row} {v : V}
    (hcf : SoundCall P cf) (ho : o.op = .call c) (hc : c.callee = .value fo) (hfr : VR fv E (a.eval fo)) (har : VRs argv E (c.args.toList.map a.eval)) (he : callV cf H L s fv argv = some (v, L'))
    (hL : RelM E (L :: H) w) (hM : RelM E M w) (hrow : s ≠ 0 → (rget L s).ver < (rget L' s).ver → rowAt M 0 s = rget L' s ∧ E.own 0 s (rget L' s).ver = none) : StepA P E M w o a v s (rget L' s).ver := by
  intro next Q hn
  unfold callV at he
  split at he
  · rename_i g caps
    obtain ⟨u, hu, htake⟩ := Option.map_eq_some_iff.1 he
    simp only [VR] at hfr
    obtain ⟨cs, hfo, hcs⟩ := hfr
    obtain ⟨⟨fn, hfn, hname, hbody⟩, hcall⟩ := hcf _ _ _ _ hu
    have hargs : VRs (V.shifts 1 (argv ++ caps)) E.inner (c.args.toList.map a.eval ++ cs.toList) := (VRs.shift 1 _ _).2 (by rw [Env.inner_up]; exact har.append hcs)
    have hC := hcall E.inner w _ hargs hL.inner (fun _ _ => rfl)
    have hrun : (execOp a.eval o).run P w = .ok (.enter g (c.args.map a.eval ++ cs)) w := by
      have hb : fn.body ≠ none := by intro hh; simp [hh] at hbody
      simp [execOp, ho, resolve, hc, hfo, Deferred.ofValue, invoke, callFunc, hfn, hname, hb]
    unfold Oper.wp
    rw [hrun, Oper.upon_enter]
    have harr : (c.args.toList.map a.eval ++ cs.toList).toArray = c.args.map a.eval ++ cs := by
      apply Array.ext'
      simp
    rw [harr] at hC
    refine hC.mono fun e w' hlv => ?_
    obtain ⟨x, imm', rfl, hbel, h1, h2, hret⟩ := hlv
    simp only
    have hM' : RelM { E with imm := imm' } M w' := hM.imms hbel h1 h2
    have hle : E.Le { E with imm := imm' } := ⟨fun _ _ _ _ x => x, h1⟩
    have hret' : RetR { E with imm := imm' } w.heap.size w' u x := hret
    obtain ⟨E', e1, e2, e3, e4⟩ := takeIn_rel (w := w) (site := s) (keep := s != 0) hM' hbel.size hret' (fun d s v o h => hM.blk d s v o h) htake (by simp)
      (fun hk => hrow (by simpa using hk))
    refine hn x w' E' (hle.trans e1) e2 hbel e3 ⟨fun d s' v' o' ho' => ?_, fun b cs hb => ?_⟩
    · rcases e4.own d s' v' o' ho' with h | h
      · exact .inl h
      · by_cases hs0 : s = 0
        · subst hs0; simp at h
        · have : (s != 0) = true := by simpa using hs0
          rw [if_pos this] at h
          exact .inr h
    · rcases e4.imm b cs hb with h | h
      · exact (h2 b cs h).imp id (·.1)
      · exact .inr h
  · cases he


theorem call_step {P : Program} {keep : Nat} {site : Nat} {o : Oper} {s : Nat} {f : Arg} {as : List Arg} {E : Env} {M : List (List Row)} {w : World} {a : Act} {fr : List V} {cf : CallF} {H : List (List Row)} {L L' : List Row} {v : V}
    (hcf : SoundCall P cf) (hop : cOp P keep site o = some (.call s f as)) (hsite : 0 < site) (he : evalOp cf H fr L (.call s f as) = some (v, L')) (hs : Sees E fr a (argTmps (f :: as)))
    (hL : RelM E (L :: H) w) (hM : RelM E M w) (hrow : s ≠ 0 → (rget L s).ver < (rget L' s).ver → rowAt M 0 s = rget L' s ∧ E.own 0 s (rget L' s).ver = none) : StepA P E M w o a v s (rget L' s).ver := by
  have hshape : ∃ c fo, o.op = .call c ∧ c.callee = .value fo ∧ cArg fo = some f ∧ cArgs c.args.toList = some as := by
    unfold cOp at hop
    split at hop
    all_goals (try (repeat' split at hop))
    all_goals (try (simp [Option.bind_eq_some_iff, Option.map_eq_some_iff] at hop; done))
    all_goals
      simp only [Option.bind_eq_some_iff, Option.map_eq_some_iff] at hop
      obtain ⟨f', hf, as', has, hop⟩ := hop
      unfold mkCall at hop
      split at hop
      · cases hop
        exact ⟨_, _, ‹o.op = Op.call _›, ‹_ = Callee.value _›, hf, has⟩
      · cases hop
      · cases hop
  obtain ⟨c, fo, ho, hc, hf, has⟩ := hshape
  have hfr := hs.arg (y := f) (by simp) hf
  have har := args_rel has (fun t ht => hs t (by rw [show f :: as = [f] ++ as by rfl, argTmps_append]; simp [ht]))
  simp only [evalOp] at he
  exact call_core hcf ho hc hfr har he hL hM hrow

/-- A call whose arguments are given up first: its shape. -/
theorem callf_shape {P : Program} {keep : Nat} {site : Nat} {o : Oper} {s : Nat} {f : Arg} {as : List Arg} (hop : cOp P keep site o = some (.callf s f as)) :
    ∃ c fo, o.op = .call c ∧ c.callee = .value fo ∧ cArg fo = some f ∧ cArgs c.args.toList = some as := by
  unfold cOp at hop
  split at hop
  all_goals (try (repeat' split at hop))
  all_goals (try (simp [Option.bind_eq_some_iff, Option.map_eq_some_iff] at hop; done))
  all_goals
    simp only [Option.bind_eq_some_iff, Option.map_eq_some_iff] at hop
    obtain ⟨f', hf, as', has, hop⟩ := hop
    unfold mkCall at hop
    split at hop
    · cases hop
    · cases hop
      exact ⟨_, _, ‹o.op = Op.call _›, ‹_ = Callee.value _›, hf, has⟩
    · cases hop
      exact ⟨_, _, ‹o.op = Op.call _›, ‹_ = Callee.value _›, hf, has⟩

end Go.Ab

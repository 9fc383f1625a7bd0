/-
  What the abstract machine answers the model answers, on every schedule, in whatever memory.
-/
import Derived.Test.YtfngllcjikmbkaaAbFloat
namespace Go.Ab
open Go Go.RowKit
set_option linter.unusedVariables false
set_option linter.unusedSimpArgs false
set_option linter.unnecessarySimpa false

def AExit.to : AExit → Exit
  | .normal => .normal
  | .exit id => .exit id
  | .ret => .ret

section
variable {P : Program} {keep : Nat} {n : Nat} {w0 : Base} {cf : CallF} {H : List (List Row)}

theorem region_seq (hcf : SoundCall P cf) {id : Nat} {ops : Array Oper} {s : Nat} {r : List AOper × Nat} (hr : cOpers P keep ops n s ops.toList = some r) (hs : 0 < s) {st st' : St} {E : Env} {w : World} {a : Act}
    (he : evalOps cf H r.1 st = some st') (hR : RelF w0 E st.2 H w) (hF : FrameRel E st.1 a n) {Q : Exit → Act → World → Prop}
    (hQ : ∀ a' w' E', E.Le E' → RelF w0 E' st'.2 H w' → FrameRel E' st'.1 a' n → Q .normal a' w') : (Code.region id ops false).wp P Q a w := by
  have hl := cOpers_length hr
  simp only [Array.length_toList] at hl
  refine wp_region ?_
  rw [List.range_eq_range', ← hl]
  refine seq_ops (keep := keep) hcf r.1 0 st st' E w a (fun i ao hi => ?_) he hR hF hQ
  have hlt := (List.getElem?_eq_some_iff.1 hi).1
  have ho : ops.toList[i]? = some ops[i] := by simp [Array.getElem?_eq_getElem (show i < ops.size by omega)]
  obtain ⟨ao', s', h1, h2, h3⟩ := (cOpers_at hr hs).2 ho
  rw [hi] at h1; cases h1
  exact ⟨ops[i], s', by simpa using ho, h2, h3⟩

theorem region_draw (hm : P.follows .mixedOrders = true) (hcf : SoundCall P cf) {id : Nat} {ops : Array Oper} {s : Nat} {r : List AOper × Nat} (hr : cOpers P keep ops n s ops.toList = some r) (hs : 0 < s) (hord : orderOk ops.toList r.1 = true)
    {st st' : St} {E : Env} {w : World} {a : Act} {k : Nat} (hk : k = tailFrom (masks [] ops.toList) ops.size ops.size)
    (he : evalOps cf H r.1 (st.1, killAll (killSites (r.1.take k)) st.2) = some st') (hR : RelF w0 E st.2 H w) (hF : FrameRel E st.1 a n) {Q : Exit → Act → World → Prop}
    (hQ : ∀ a' w' E', E.Le E' → RelF w0 E' st'.2 H w' → FrameRel E' st'.1 a' n → Q .normal a' w') : (Code.region id ops true).wp P Q a w := by
  have hl := cOpers_length hr
  simp only [Array.length_toList] at hl
  obtain ⟨S, hS0, hSn, hSe⟩ := states he
  unfold orderOk at hord
  simp only [Bool.and_eq_true, decide_eq_true_eq, Array.length_toList] at hord
  rw [← hk] at hord
  obtain ⟨⟨⟨hkn, hback⟩, htail⟩, hhead⟩ := hord
  have hms : (masks [] ops.toList).length = ops.size := by
    have : ∀ (l : List Oper) (ms : List Nat), (masks ms l).length = ms.length + l.length := by
      intro l
      induction l with
      | nil => intro ms; simp [masks]
      | cons o l ih => intro ms; simp only [masks, ih, List.length_cons]; omega
    rw [this]; simp
  have hat : ∀ {i : Nat}, i < k → ∃ x, r.1[i]? = some x ∧ x.op.mutates = false ∧ x.op.siteOk = true ∧ ∀ {j : Nat} {y : AOper}, j < k → r.1[j]? = some y → pairOk (masks [] ops.toList) i j x y = true := by
    intro i hi
    have h1 := fewAll_spec hhead hi
    cases hx : r.1[i]? with
    | none => simp [hx] at h1
    | some x =>
      simp only [hx, Bool.and_eq_true, Bool.not_eq_true'] at h1
      refine ⟨x, rfl, h1.1.1, h1.1.2, fun {j y} hj hy => ?_⟩
      have h2 := fewAll_spec h1.2 hj
      simpa [hy] using h2
  have D : Drawn P keep n ops r.1 cf H S k (masks [] ops.toList) := by
    refine ⟨hl, hkn, fun i ao hi => ?_, hSe, fun i o ho e he' hb => ?_, fun T hT i j hi hb hp => ?_, fun i j hkj hj hij => ?_, fun i ao hi hx => ?_, fun i ao hi hx => ?_, fun i j x y hi hj hx hy => ?_⟩
    · have hlt := (List.getElem?_eq_some_iff.1 hi).1
      have ho : ops.toList[i]? = some ops[i] := by simp [Array.getElem?_eq_getElem (show i < ops.size by omega)]
      obtain ⟨ao', s', h1, h2, h3⟩ := (cOpers_at hr hs).2 ho
      rw [hi] at h1; cases h1
      exact ⟨ops[i], s', by simpa using ho, h2, h3⟩
    · have := backOk_spec hback (i := i) (o := o) (by simpa using ho) e he' hb
      omega
    · rw [List.getD_eq_getElem?_getD, List.getElem?_eq_getElem (by omega), Option.getD_some] at hb
      exact masks_sound hT ops.toList [] (by simp) (by simp) i _ (List.getElem?_eq_getElem (by omega)) j hb hp
    · have h1 := fewAll_spec htail hj
      simp only [Bool.or_eq_true, decide_eq_true_eq] at h1
      exact fewAll_spec (h1.resolve_left (by omega)) hij
    · obtain ⟨x, hx', h1, _⟩ := hat hi
      rw [hx] at hx'; cases hx'; exact h1
    · obtain ⟨x, hx', _, h1, _⟩ := hat hi
      rw [hx] at hx'; cases hx'; exact h1
    · obtain ⟨x', hx', _, _, h1⟩ := hat hi
      rw [hx] at hx'; cases hx'; exact h1 hj hy
  have hdrew : RelF w0 E st.2 H { w with drawn := w.drawn + 1 } := ⟨hR.below.drew, hR.mem.drew, hR.bnd, hR.out, hR.new⟩
  have hR0 : RelF w0 E (S 0).2 H { w with drawn := w.drawn + 1 } := by rw [hS0]; exact kill_all _ hdrew
  have hrk : ∀ s, (¬ ∃ j ao, j < k ∧ r.1[j]? = some ao ∧ ao.op.site = s ∧ s ≠ 0) → rget (S k).2 s = rget (S 0).2 s := fun s hno =>
    D.rows (i := 0) (j := k) (by omega) (by omega) (fun h0 m z h1 h2 hz e => hno ⟨m, z, h2, hz, e, h0⟩)
  have hkl : ∀ s, (∃ j ao, j < k ∧ r.1[j]? = some ao ∧ ao.op.site = s ∧ s ≠ 0) → ∀ v o, E.own 0 s v = some o → v < (rget (S 0).2 s).ver := by
    rintro s ⟨j, ao, hj, hx, rfl, h0⟩ v o ho
    rw [hS0]
    exact kill_all_lt _ hdrew _ (killSites_spec (i := j) (by rw [List.getElem?_take_of_lt hj]; exact hx) h0) v o ho
  have hdone : ∀ j : Nat, (Array.replicate ops.size false).getD j false = false := fun j => by
    simp only [Array.getD_eq_getD_getElem?, Array.getElem?_replicate]
    split <;> rfl
  refine wp_region_any hm (D.any (E0 := E) (w0 := w0) hcf (fun a' w' E' hle h1 h2 => hQ a' w' E' hle (by rw [← hl, hSn] at h1; exact h1) (by rw [← hl, hSn] at h2; exact h2)) ops.size _ a _ E (by simp) (by omega) (.refl _) (.inl ⟨?_, fun j hj => by simp [hdone] at hj⟩))
  refine ⟨fun i o hi hT => by simp [hdone] at hT, hR0.below, hR0.mem.change fun d s o ho => ?_, fun s v o ho => ⟨(hR0.bnd s v o ho).2, fun hk => .inl (hkl s hk v o ho), fun _ => (hR0.bnd s v o ho).1⟩, hR0.out, hR0.new, hF.size, hF.defers,
    fun j ao t _ hT => by simp [hdone] at hT, fun t _ => by rw [hS0]; exact hF.slot t⟩
  cases d with
  | succ d => rfl
  | zero =>
    simp only [rowAt_zero] at ho ⊢
    by_cases hw : ∃ j ao, j < k ∧ r.1[j]? = some ao ∧ ao.op.site = s ∧ s ≠ 0
    · have hlt := hkl s hw _ _ ho
      have hmono : ∀ m, m ≤ k → (rget (S 0).2 s).ver ≤ (rget (S m).2 s).ver := by
        intro m
        induction m with
        | zero => intro _; exact Nat.le_refl _
        | succ m ih =>
          intro hm'
          have h1 := ih (by omega)
          obtain ⟨x, hx, _⟩ := hat (i := m) (by omega)
          rcases D.row hx (by omega) s with h2 | ⟨_, _, h2⟩ <;> rw [h2] <;> omega
      have := hmono k (Nat.le_refl _)
      omega
    · exact hrk s hw

theorem region_float (hm : P.follows .mixedOrders = true) (hcf : SoundCall P cf) {id : Nat} {ops : Array Oper} {s : Nat} {r : List AOper × Nat} (hr : cOpers P keep ops n s ops.toList = some r) (hs : 0 < s) (hord : floatOk ops.toList r.1 = true)
    {st st' : St} {E : Env} {w : World} {a : Act} (he : evalOps cf H (floatOps (masks [] ops.toList) r.1 0 r.1) st = some st') (hR : RelF w0 E st.2 H w) (hF : FrameRel E st.1 a n) {Q : Exit → Act → World → Prop}
    (hQ : ∀ a' w' E', E.Le E' → RelF w0 E' st'.2 H w' → FrameRel E' st'.1 a' n → Q .normal a' w') : (Code.region id ops true).wp P Q a w := by
  have hl := cOpers_length hr
  simp only [Array.length_toList] at hl
  obtain ⟨S, hS0, hSn, hSe⟩ := floatOps_eval he
  unfold floatOk at hord
  simp only [Bool.and_eq_true, Array.length_toList] at hord
  obtain ⟨hback, hpair⟩ := hord
  have hms : (masks [] ops.toList).length = ops.size := by
    have : ∀ (l : List Oper) (ms : List Nat), (masks ms l).length = ms.length + l.length := by
      intro l
      induction l with
      | nil => intro ms; simp [masks]
      | cons o l ih => intro ms; simp only [masks, ih, List.length_cons]; omega
    rw [this]; simp
  have D : Float P keep n ops r.1 cf H S (masks [] ops.toList) := by
    refine ⟨hl, fun i ao hi => ?_, fun i ao hi => (hSe i ao hi).1, fun i o ho e he' hb => ?_, fun T hT i j hi hb hp => ?_, fun i ao hi hc => ?_, fun i j x y hx hy => ?_⟩
    · have hlt := (List.getElem?_eq_some_iff.1 hi).1
      have ho : ops.toList[i]? = some ops[i] := by simp [Array.getElem?_eq_getElem (show i < ops.size by omega)]
      obtain ⟨ao', s', h1, h2, h3⟩ := (cOpers_at hr hs).2 ho
      rw [hi] at h1; cases h1
      exact ⟨ops[i], s', by simpa using ho, h2, h3⟩
    · have := backOk_spec hback (i := i) (o := o) (by simpa using ho) e he' hb
      omega
    · rw [List.getD_eq_getElem?_getD, List.getElem?_eq_getElem (by omega), Option.getD_some] at hb
      exact masks_sound hT ops.toList [] (by simp) (by simp) i _ (List.getElem?_eq_getElem (by omega)) j hb hp
    · obtain ⟨h1, h2⟩ := hSe i ao hi
      rw [Nat.zero_add] at h2
      by_cases hld : ao.op.isLoad = true
      · cases ht : tightLoad (masks [] ops.toList) r.1 i with
        | false => exact .inl (h2 hld ht)
        | true =>
          refine .inr fun j y hne hy hcy => ?_
          have h3 := fewAll_spec ht (i := j) (List.getElem?_eq_some_iff.1 hy).1
          simp only [hy, hcy, Bool.not_true, Bool.false_or, Bool.or_eq_true, beq_iff_eq] at h3
          exact h3.resolve_left hne
      · left
        intro L2
        unfold evalOper at h1 ⊢
        obtain ⟨b, hb, h1⟩ := Option.bind_eq_some_iff.1 h1
        simp only at hb ⊢
        rw [hb, Option.bind_some]
        cases b with
        | false =>
          simp only [Bool.false_eq_true, if_false, Option.some.injEq] at h1 ⊢
          rw [← h1]
        | true =>
          simp only [if_true] at h1 ⊢
          obtain ⟨q, hq, h3⟩ := Option.map_eq_some_iff.1 h1
          have := evalOp_free hc (by simpa using hld) (v := q.1) (L' := q.2) hq L2
          rw [this, Option.map_some, ← h3]
    · have hxl := (List.getElem?_eq_some_iff.1 hx).1
      have hyl := (List.getElem?_eq_some_iff.1 hy).1
      have h1 := fewAll_spec hpair (i := i) (by omega)
      simp only [hx] at h1
      have h2 := fewAll_spec h1 (i := j) (by omega)
      simpa only [hy] using h2
  have hdrew : RelF w0 E st.2 H { w with drawn := w.drawn + 1 } := ⟨hR.below.drew, hR.mem.drew, hR.bnd, hR.out, hR.new⟩
  have hdone : ∀ j : Nat, (Array.replicate ops.size false).getD j false = false := fun j => by
    simp only [Array.getD_eq_getD_getElem?, Array.getElem?_replicate]
    split <;> rfl
  refine wp_region_any hm (D.any (E0 := E) (w0 := w0) hcf (fun a' w' E' hle h1 h2 => hQ a' w' E' hle (by rw [← hl, hSn] at h1; exact h1) (by rw [← hl, hSn] at h2; exact h2)) ops.size _ a _ E st.1 (S 0).2 (by simp) (by omega) (.refl _) ?_)
  refine ⟨fun i o hi hT => by simp [hdone] at hT, by rw [hS0]; exact hdrew, hF, .inl ⟨0, by omega, rfl, fun i ao hi hc => by simp [hdone]⟩, fun j ao t hT => by simp [hdone] at hT, fun t _ => by rw [hS0]⟩

/-- What a loop's own function says. -/
def SoundLoop (P : Program) (m : Nat) (lf : LoopF) : Prop :=
  ∀ (keep : Nat) (n s : Nat) (c : Code) (ac : ACode) (s' : Nat) (w0 : Base) (H : List (List Row)) (st st' : St) (e : AExit) (E : Env) (w : World) (a : Act) (Q : Exit → Act → World → Prop),
    cCode P keep n s c = some (ac, s') → 0 < s → lf ac H st = some (e, st') → RelF w0 E st.2 H w → FrameRel E st.1 a n →
    (∀ a' w' E', E.Le E' → RelF w0 E' st'.2 H w' → FrameRel E' st'.1 a' n → Q e.to a' w') → Code.rounds P c Q m a w

theorem cCode_pos {P : Program} {keep : Nat} {n : Nat} : ∀ {c : Code} {s s' : Nat} {ac : ACode}, cCode P keep n s c = some (ac, s') → 0 < s → 0 < s'
  | .skip, s, s', ac, h, hs | .label _, s, s', ac, h, hs | .exit _, s, s', ac, h, hs | .ret, s, s', ac, h, hs => by
    simp only [cCode, Option.some.injEq, Prod.mk.injEq] at h; omega
  | .region id ops draw, s, s', ac, h, hs => by
    simp only [cCode, Option.bind_eq_some_iff] at h
    obtain ⟨r, hr, h⟩ := h
    have := (cOpers_at hr hs).1
    split at h
    · split at h
      · cases h; omega
      · split at h <;> cases h; omega
    · cases h; omega
  | .seq x y, s, s', ac, h, hs => by
    simp only [cCode, Option.bind_eq_some_iff, Option.map_eq_some_iff, Prod.mk.injEq] at h
    obtain ⟨⟨x', s1⟩, hx, ⟨y', s2⟩, hy, _, rfl⟩ := h
    exact cCode_pos hy (cCode_pos hx hs)
  | .cond c x y, s, s', ac, h, hs => by
    simp only [cCode, Option.bind_eq_some_iff, Option.map_eq_some_iff, Prod.mk.injEq] at h
    obtain ⟨_, _, ⟨x', s1⟩, hx, ⟨y', s2⟩, hy, _, rfl⟩ := h
    exact cCode_pos hy (cCode_pos hx hs)
  | .block id c, s, s', ac, h, hs => by
    simp only [cCode, Option.map_eq_some_iff, Prod.mk.injEq] at h
    obtain ⟨⟨x', s1⟩, hx, _, rfl⟩ := h
    exact cCode_pos hx hs
  | .loop c, s, s', ac, h, hs => by
    simp only [cCode, Option.map_eq_some_iff, Prod.mk.injEq] at h
    obtain ⟨⟨x', s1⟩, hx, _, rfl⟩ := h
    exact cCode_pos hx hs
  | .scope c, s, s', ac, h, hs => by
    simp only [cCode, Option.map_eq_some_iff, Prod.mk.injEq] at h
    obtain ⟨⟨x', s1⟩, hx, _, rfl⟩ := h
    exact cCode_pos hx hs
  | .goto _, s, s', ac, h, hs | .refuse _, s, s', ac, h, hs | .rangeFunc .., s, s', ac, h, hs => by simp [cCode] at h

theorem exec_sound (hm : P.follows .mixedOrders = true) (hcf : SoundCall P cf) {m : Nat} {lf : LoopF} (hlf : SoundLoop P m lf) :
    ∀ (c : Code) (s s' : Nat) (ac : ACode) (st st' : St) (e : AExit) (E : Env) (w : World) (a : Act) (Q : Exit → Act → World → Prop), cCode P keep n s c = some (ac, s') → 0 < s →
      exec cf lf H ac st = some (e, st') → RelF w0 E st.2 H w → FrameRel E st.1 a n → (∀ a' w' E', E.Le E' → RelF w0 E' st'.2 H w' → FrameRel E' st'.1 a' n → Q e.to a' w') → c.wp P Q a w
  | .skip, s, s', ac, st, st', e, E, w, a, Q, hc, hs, he, hR, hF, hQ => by
    simp only [cCode, Option.some.injEq, Prod.mk.injEq] at hc; obtain ⟨rfl, rfl⟩ := hc
    simp only [exec, Option.some.injEq, Prod.mk.injEq] at he; obtain ⟨rfl, rfl⟩ := he
    exact wp_skip (hQ a w E (.refl _) hR hF)
  | .label _, s, s', ac, st, st', e, E, w, a, Q, hc, hs, he, hR, hF, hQ => by
    simp only [cCode, Option.some.injEq, Prod.mk.injEq] at hc; obtain ⟨rfl, rfl⟩ := hc
    simp only [exec, Option.some.injEq, Prod.mk.injEq] at he; obtain ⟨rfl, rfl⟩ := he
    exact wp_label (hQ a w E (.refl _) hR hF)
  | .ret, s, s', ac, st, st', e, E, w, a, Q, hc, hs, he, hR, hF, hQ => by
    simp only [cCode, Option.some.injEq, Prod.mk.injEq] at hc; obtain ⟨rfl, rfl⟩ := hc
    simp only [exec, Option.some.injEq, Prod.mk.injEq] at he; obtain ⟨rfl, rfl⟩ := he
    exact wp_ret (hQ a w E (.refl _) hR hF)
  | .exit id, s, s', ac, st, st', e, E, w, a, Q, hc, hs, he, hR, hF, hQ => by
    simp only [cCode, Option.some.injEq, Prod.mk.injEq] at hc; obtain ⟨rfl, rfl⟩ := hc
    simp only [exec, Option.some.injEq, Prod.mk.injEq] at he; obtain ⟨rfl, rfl⟩ := he
    exact wp_exit (hQ a w E (.refl _) hR hF)
  | .region id ops draw, s, s', ac, st, st', e, E, w, a, Q, hc, hs, he, hR, hF, hQ => by
    simp only [cCode, Option.bind_eq_some_iff] at hc
    obtain ⟨r, hr, hc⟩ := hc
    cases draw with
    | false =>
      simp only [Bool.false_eq_true, if_false, Option.some.injEq, Prod.mk.injEq] at hc
      obtain ⟨rfl, rfl⟩ := hc
      simp only [exec, Option.map_eq_some_iff, Prod.mk.injEq] at he
      obtain ⟨st1, h1, rfl, rfl⟩ := he
      exact region_seq hcf hr hs h1 hR hF hQ
    | true =>
      simp only [if_true] at hc
      split at hc
      · rename_i hord
        cases hc
        simp only [exec, Option.map_eq_some_iff, Prod.mk.injEq] at he
        obtain ⟨st1, h1, rfl, rfl⟩ := he
        exact region_draw hm hcf hr hs hord rfl h1 hR hF hQ
      · split at hc
        · rename_i hord
          cases hc
          simp only [exec, killAll, Option.map_eq_some_iff, Prod.mk.injEq] at he
          obtain ⟨st1, h1, rfl, rfl⟩ := he
          exact region_float hm hcf hr hs hord h1 hR hF hQ
        · cases hc
  | .seq x y, s, s', ac, st, st', e, E, w, a, Q, hc, hs, he, hR, hF, hQ => by
    simp only [cCode, Option.bind_eq_some_iff, Option.map_eq_some_iff, Prod.mk.injEq] at hc
    obtain ⟨⟨x', s1⟩, hx, ⟨y', s2⟩, hy, rfl, rfl⟩ := hc
    simp only [exec, Option.bind_eq_some_iff] at he
    obtain ⟨⟨e1, st1⟩, h1, h2⟩ := he
    refine wp_seq (exec_sound hm hcf hlf x s s1 x' st st1 e1 E w a _ hx hs h1 hR hF fun a' w' E' hle hR' hF' => ?_)
    cases e1 with
    | normal =>
      simp only at h2
      exact exec_sound hm hcf hlf y s1 s2 y' st1 st' e E' w' a' Q hy (cCode_pos hx hs) h2 hR' hF' fun a2 w2 E2 hle2 => hQ a2 w2 E2 (hle.trans hle2)
    | exit id => simp only [Option.some.injEq, Prod.mk.injEq] at h2; obtain ⟨rfl, rfl⟩ := h2; exact hQ a' w' E' hle hR' hF'
    | ret => simp only [Option.some.injEq, Prod.mk.injEq] at h2; obtain ⟨rfl, rfl⟩ := h2; exact hQ a' w' E' hle hR' hF'
  | .cond c x y, s, s', ac, st, st', e, E, w, a, Q, hc, hs, he, hR, hF, hQ => by
    simp only [cCode, Option.bind_eq_some_iff, Option.map_eq_some_iff, Prod.mk.injEq] at hc
    obtain ⟨c', hcc, ⟨x', s1⟩, hx, ⟨y', s2⟩, hy, rfl, rfl⟩ := hc
    simp only [exec, Option.bind_eq_some_iff] at he
    obtain ⟨t, ht, he⟩ := he
    have hv := arg_rel (E := E) (fr := st.1) (a := a) hcc (fun t _ => hF.slot t)
    rw [asB_some ht] at hv
    simp only [VR] at hv
    refine wp_cond hv ?_
    cases t with
    | true => simp only [if_true] at he ⊢; exact exec_sound hm hcf hlf x s s1 x' st st' e E w a Q hx hs he hR hF hQ
    | false => simp only [Bool.false_eq_true, if_false] at he ⊢; exact exec_sound hm hcf hlf y s1 s2 y' st st' e E w a Q hy (cCode_pos hx hs) he hR hF hQ
  | .block id c, s, s', ac, st, st', e, E, w, a, Q, hc, hs, he, hR, hF, hQ => by
    simp only [cCode, Option.map_eq_some_iff, Prod.mk.injEq] at hc
    obtain ⟨⟨x', s1⟩, hx, rfl, rfl⟩ := hc
    simp only [exec, Option.map_eq_some_iff] at he
    obtain ⟨⟨e1, st1⟩, h1, h2⟩ := he
    refine wp_block (exec_sound hm hcf hlf c s s1 x' st st1 e1 E w a _ hx hs h1 hR hF fun a' w' E' hle hR' hF' => ?_)
    cases e1 with
    | normal => simp only [Prod.mk.injEq] at h2; obtain ⟨rfl, rfl⟩ := h2; exact hQ a' w' E' hle hR' hF'
    | ret => simp only [Prod.mk.injEq] at h2; obtain ⟨rfl, rfl⟩ := h2; exact hQ a' w' E' hle hR' hF'
    | exit i =>
      simp only [Prod.mk.injEq] at h2
      obtain ⟨h2, rfl⟩ := h2
      have := hQ a' w' E' hle hR' hF'
      simp only [AExit.to, Exit.inBlock]
      split
      · rename_i h; rw [if_pos h] at h2; subst h2; exact this
      · rename_i h; rw [if_neg h] at h2; subst h2; exact this
  | .loop c, s, s', ac, st, st', e, E, w, a, Q, hc, hs, he, hR, hF, hQ => by
    simp only [cCode, Option.map_eq_some_iff, Prod.mk.injEq] at hc
    obtain ⟨⟨x', s1⟩, hx, rfl, rfl⟩ := hc
    simp only [exec] at he
    exact wp_loop_rounds m (hlf keep n s c x' s1 w0 H st st' e E w a Q hx hs he hR hF hQ)
  | .scope c, s, s', ac, st, st', e, E, w, a, Q, hc, hs, he, hR, hF, hQ => by
    simp only [cCode, Option.map_eq_some_iff, Prod.mk.injEq] at hc
    obtain ⟨⟨x', s1⟩, hx, rfl, rfl⟩ := hc
    simp only [exec] at he
    refine wp_scope_straight (exec_sound hm hcf hlf c s s1 x' st st' e E w a _ hx hs he hR hF fun a' w' E' hle hR' hF' => ?_)
    have := hQ a' w' E' hle hR' hF'
    cases e <;> exact this
  | .goto _, s, s', ac, st, st', e, E, w, a, Q, hc, hs, he, hR, hF, hQ => by simp [cCode] at hc
  | .refuse _, s, s', ac, st, st', e, E, w, a, Q, hc, hs, he, hR, hF, hQ => by simp [cCode] at hc
  | .rangeFunc .., s, s', ac, st, st', e, E, w, a, Q, hc, hs, he, hR, hF, hQ => by simp [cCode] at hc

/-- One value of a result, for the caller. -/
def CR (F : Env) (lo : Nat) (w : World) (u : V) (x : Value) : Prop :=
  match u with
  | .sl .own sz els => OwnSl F lo w sz els x
  | u => VR u F x

theorem CR.vr {F : Env} {lo : Nat} {w : World} {u : V} {x : Value} (h : CR F lo w u x) (hu : ∀ sz els, u ≠ .sl .own sz els) : VR u F x := by
  unfold CR at h
  split at h
  · exact absurd rfl (hu _ _)
  · exact h

theorem CR.of {F : Env} {lo : Nat} {w : World} {u : V} {x : Value} (h : VR u F x) : CR F lo w u x := by
  unfold CR
  split
  · simp only [VR] at h; exact absurd rfl h.1
  · exact h

theorem outV_rel {E : Env} {L : List Row} {w : World} {v u : V} {x : Value} (hR : RelF w0 E L H w) (hv : VR v E x) (h : outV L v = some u) : CR (E.up 1) w0.w.heap.size w u x ∧ (∀ l, u ≠ .tup l) := by
  unfold outV at h
  split at h
  all_goals first
    | (cases h; exact ⟨.of (by simpa [VR] using hv), by intro l; simp⟩)
    | skip
  · -- a slice that is a value
    split at h
    · cases h
    · cases h
      exact ⟨.of (by simpa [VR] using hv), by intro l; simp⟩
  · -- a row of one's own
    rename_i s ver szr off len
    dsimp only at h
    split at h
    · rename_i hc
      cases h
      obtain ⟨hver, h0, rfl, rfl, hsz0, hpure⟩ := hc
      refine ⟨?_, by intro l; simp⟩
      simp only [VR] at hv
      obtain ⟨o, a, cap, ho, hmp, rfl, hosz, hle, hcs⟩ := hv
      rw [← hver] at ho
      obtain ⟨c, t, hb, hcsz, hsz, hrow⟩ := hR.mem.cur 0 s o ho hmp
      simp only [rowAt_zero, Env.up_zero] at hrow hsz
      simp only [CR, OwnSl]
      refine ⟨o.blk, c, t, cap, a, rfl, hle, ?_, (hR.bnd _ _ _ ho).2, hb, hR.mem.nim _ _ _ ho, ?_⟩
      · rcases hcs with h | ⟨h1, h2⟩
        · exact .inl h
        · refine .inr ⟨by simpa using h1, ?_⟩
          rw [← hsz, hcsz]; simpa using h2
      · rw [← hsz]
        have h9 : VRss (rget L s).els E.bare o.sz c.toList := VRss.pure hpure hrow
        exact h9
    · cases h
  · cases h
    exact ⟨.of (by simpa [VR, Env.up] using hv), by intro l; simp⟩
  · cases h
    exact ⟨.of (by simpa [VR, Env.up] using hv), by intro l; simp⟩
  · split at h
    · rename_i hp
      cases h
      refine ⟨.of ?_, by intro l; simp⟩
      simp only [VR] at hv ⊢
      obtain ⟨c, rfl, hc⟩ := hv
      have h9 := VRs.calm hp hc
      exact ⟨c, rfl, VRs.mono (E.up 1).bare_le _ _ h9⟩
    · cases h
  · split at h
    · rename_i hp
      cases h
      refine ⟨.of ?_, by intro l; simp⟩
      simp only [VR] at hv ⊢
      obtain ⟨c, rfl, hc⟩ := hv
      have h9 := VRs.pure hp hc
      exact ⟨c, rfl, VRs.mono (E.up 1).bare_le _ _ h9⟩
    · cases h
  · cases h

inductive CRs (F : Env) (lo : Nat) (w : World) : List V → List Value → Prop
  | nil : CRs F lo w [] []
  | cons {u us x xs} : CR F lo w u x → (∀ l, u ≠ .tup l) → CRs F lo w us xs → CRs F lo w (u :: us) (x :: xs)

theorem outVs_rel {E : Env} {L : List Row} {w : World} (hR : RelF w0 E L H w) : ∀ {vs us : List V} {xs : List Value}, VRs vs E xs → outVs L vs = some us → CRs (E.up 1) w0.w.heap.size w us xs
  | [], us, xs, hv, h => by
    simp only [outVs, Option.some.injEq] at h; subst h
    simp only [VRs] at hv; subst hv
    exact .nil
  | v :: vs, us, xs, hv, h => by
    simp only [outVs, Option.bind_eq_some_iff, Option.map_eq_some_iff] at h
    obtain ⟨u, hu, us', hus, rfl⟩ := h
    simp only [VRs] at hv
    obtain ⟨x, xs', rfl, hx, hxs⟩ := hv
    obtain ⟨h1, h2⟩ := outV_rel hR hx hu
    exact .cons h1 h2 (outVs_rel hR hxs hus)

theorem CRs.vrs {F : Env} {lo : Nat} {w : World} : ∀ {us : List V} {xs : List Value}, CRs F lo w us xs → us.all (fun v => match v with | .sl .own _ _ => false | _ => true) = true → VRs us F xs
  | _, _, .nil, _ => rfl
  | _, _, .cons (u := u) (us := us) h1 h2 h3, h => by
    simp only [List.all_cons, Bool.and_eq_true] at h
    exact ⟨_, _, rfl, h1.vr (fun sz els e => by subst e; simp at h), h3.vrs h.2⟩

theorem CRs.length {F : Env} {lo : Nat} {w : World} : ∀ {us : List V} {xs : List Value}, CRs F lo w us xs → xs.length = us.length
  | _, _, .nil => rfl
  | _, _, .cons _ _ h => by simp [h.length]

/-- The whole result. -/
theorem ret_rel {F : Env} {lo : Nat} {w : World} {us : List V} {xs : List Value} {v : V} (h : CRs F lo w us xs) (ho : ownsLast us = true) (hv : tupOf us = v) :
    RetR F lo w v (if h : xs.toArray.size = 1 then xs.toArray[0] else .tuple xs.toArray) := by
  match us, h, ho, hv with
  | [], h, ho, hv =>
    subst hv
    cases h
    exact ⟨#[], rfl, rfl⟩
  | [u], h, ho, hv =>
    subst hv
    show RetR F lo w u _
    cases h with
    | cons h1 h2 h3 =>
      cases h3
      rw [dif_pos (by simp)]
      simp only [List.getElem_toArray, List.getElem_cons_zero]
      cases u with
      | sl k sz els => cases k <;> exact h1
      | tup l => exact absurd rfl (h2 l)
      | _ => exact h1
  | u :: u2 :: us, h, ho, hv =>
    subst hv
    show RetR F lo w (.tup (u :: u2 :: us)) _
    have hlen := h.length
    rw [dif_neg (by simp only [List.size_toArray, hlen, List.length_cons]; omega)]
    cases h with
    | cons h1 h2 h3 =>
      rename_i x xs
      simp only [ownsLast] at ho
      have hrest := h3.vrs ho
      have plain : (∀ sz els, u ≠ .sl .own sz els) → VR (.tup (u :: u2 :: us)) F (.tuple (x :: xs).toArray) := fun hu => ⟨_, rfl, x, xs, rfl, h1.vr hu, hrest⟩
      cases u with
      | sl k sz els =>
        cases k with
        | own => exact ⟨_, x, xs, rfl, rfl, h1, hrest⟩
        | any => exact plain (by simp)
        | full => exact plain (by simp)
      | _ => exact plain (by simp)

theorem loadV_more {L : List Row} {g : Bool} {k : Nat} {v u : V} (h : loadV [L] g k v = some u) : loadV (L :: H) g k v = some u := by
  unfold loadV at h ⊢
  split at h
  · rename_i d s ver i off
    dsimp only at h ⊢
    cases d with
    | zero => exact h
    | succ d =>
      split at h
      · rename_i hc
        have : (rowAt [L] (d + 1) s).ver = 0 := rfl
        omega
      · cases h
  · exact h
  · cases h

theorem results_rel {E : Env} {L : List Row} {w : World} {fr : List V} {a : Act} (hR : RelF w0 E L H w) (hF : FrameRel E fr a n) : ∀ {l : List ResultVar} {rs : List ARes} {vs : List V}, cRes P l = some rs → resVs L fr rs = some vs →
    ∃ xs : List Value, (l.mapM (fun r => match r with | .tmp t => pure (a.tmps.getD t undef) | .cell b t => do loadVar t (← asAddr (a.tmps.getD b undef)) : ResultVar → Sem Value)).run P w = .ok xs w ∧ VRs vs E xs
  | [], rs, vs, h, hv => by
    simp only [cRes, Option.some.injEq] at h; subst h
    simp only [resVs, Option.some.injEq] at hv; subst hv
    exact ⟨[], rfl, rfl⟩
  | .tmp t :: l, rs, vs, h, hv => by
    simp only [cRes, Option.map_eq_some_iff] at h
    obtain ⟨rs', hrs, rfl⟩ := h
    simp only [resVs, resV, Option.bind_some, Option.map_eq_some_iff] at hv
    obtain ⟨vs', hvs, rfl⟩ := hv
    obtain ⟨xs, hx, hxr⟩ := results_rel hR hF hrs hvs
    exact ⟨a.tmps.getD t undef :: xs, by simp only [List.mapM_cons, Sem.run_bind, Sem.run_pure, Result.andThen_ok, hx], _, _, rfl, hF.slot t, hxr⟩
  | .cell b t :: l, rs, vs, h, hv => by
    simp only [cRes, Option.bind_eq_some_iff, Option.map_eq_some_iff] at h
    obtain ⟨g, hg, k, hk, rs', hrs, rfl⟩ := h
    simp only [resVs, resV, Option.bind_eq_some_iff, Option.map_eq_some_iff] at hv
    obtain ⟨u, hu, vs', hvs, rfl⟩ := hv
    obtain ⟨xs, hx, hxr⟩ := results_rel hR hF hrs hvs
    obtain ⟨y, hy, hyr⟩ := run_loadAt_of (P := P) hR.mem hg hk (hF.slot b) (loadV_more hu)
    have hp : ∃ ad, a.tmps.getD b undef = .pointer (some ad) := by
      have hs := hF.slot b
      unfold loadV at hu
      split at hu
      · rename_i e; rw [e] at hs; simp only [VR] at hs
        obtain ⟨o, _, e1⟩ := hs; exact ⟨_, e1.2⟩
      · rename_i e; rw [e] at hs; simp only [VR] at hs
        obtain ⟨_, _, _, _, e1, _⟩ := hs; exact ⟨_, e1⟩
      · cases hu
    obtain ⟨ad, had⟩ := hp
    rw [had] at hy
    simp only [Instr.loadAt, Instr.sureAddr, Sem.run_bind, Sem.run_pure, Result.andThen_ok] at hy
    have hasA : (asAddr (a.tmps.getD b undef)).run P w = .ok ad w := by rw [had]; rfl
    exact ⟨y :: xs, by simp only [List.mapM_cons, Sem.run_bind, hasA, Sem.run_pure, Result.andThen_ok, hy, hx], _, _, rfl, hyr, hxr⟩

/-- The table holds what the program's own functions come to. -/
def TblOk (P : Program) (tbl : Tbl) : Prop := ∀ f af, tbl f = some af → ∃ fn keep, P.funcs[f]? = some fn ∧ cFunc P keep fn = some af

/-- What is known of the others is right. -/
def PrOk (P : Program) (tbl : Tbl) : Prop := SoundCall P fun f args _ => tbl.pr f args
theorem prOk_none {P : Program} {fn : FuncId → Option AFunc} : PrOk P ⟨fn, fun _ _ => none⟩ := fun _ _ _ _ h => by cases h

theorem callS_sound (hm : P.follows .mixedOrders = true) {tbl : Tbl} (htbl : TblOk P tbl) (hpr : PrOk P tbl) (hcf : SoundCall P cf) {m : Nat} {lf : LoopF} (hlf : SoundLoop P m lf) : SoundCall P (callS tbl cf lf) := by
  intro f args H v hv
  unfold callS at hv
  cases haf : tbl.fn f with
  | none => rw [haf] at hv; exact hpr f args H v hv
  | some af =>
  rw [haf] at hv
  simp only [Option.bind_eq_some_iff] at hv
  obtain ⟨⟨e, st⟩, hex, hv⟩ := hv
  obtain ⟨fn, keep, hfn, hcfn⟩ := htbl f af haf
  unfold cFunc at hcfn
  split at hcfn
  · cases hcfn
  · rename_i hname
    simp only [Option.bind_eq_some_iff, Option.map_eq_some_iff] at hcfn
    obtain ⟨c, hbody, rs, hrs, ⟨ac, s'⟩, hcode, rfl⟩ := hcfn
    refine ⟨⟨fn, hfn, fun e => hname (.inl e), by simp [hbody]⟩, fun E w xs hargs hmem hown => ?_⟩
    have hR0 : RelF ⟨w, E⟩ E [] H w := ⟨Below.refl _ _, hmem, fun s v o ho => (by rw [hown] at ho; cases ho), fun _ _ _ _ h => h, fun _ _ h => .inl h⟩
    have hF0 : FrameRel E args { tmps := xs.toArray ++ Array.replicate (fn.ntmps - xs.toArray.size) undef, defers := [] } fn.ntmps := by
      refine ⟨by simp; omega, rfl, fun i => ?_⟩
      have hget : ∀ {vs : List V} {i : Nat}, get vs i = (vs[i]?).getD .undef := by
        intro vs
        induction vs with
        | nil => intro i; simp [get]
        | cons v vs ih => intro i; cases i <;> simp [get, ih]
      rw [hget]
      cases hi : args[i]? with
      | none => trivial
      | some u =>
        obtain ⟨x, hx, hxr⟩ := hargs.at hi
        have hlt := (List.getElem?_eq_some_iff.1 hx).1
        simp only [Option.getD_some, Array.getD_eq_getD_getElem?]
        rw [Array.getElem?_append_left (by simpa using hlt)]
        simpa [hx] using hxr
    have hsplit : ∀ e' : AExit, e' = .normal ∨ e' = .ret ∨ ∃ i, e' = .exit i := fun e' => by cases e' <;> simp
    have hfin : ∃ vs vs' L' us, resVs st.2 st.1 rs = some vs ∧ (∀ (E' : Env) (w' : World) (ys : List Value), RelF ⟨w, E⟩ E' st.2 H w' → VRs vs E' ys → ∃ E2, E'.Le E2 ∧ RelF ⟨w, E⟩ E2 L' H w' ∧ VRs vs' E2 ys) ∧
        outVs L' vs' = some us ∧ ownsLast us = true ∧ tupOf us = v ∧ (e = .normal ∨ e = .ret) := by
      have key : finish rs st = some v → ∃ vs vs' L' us, resVs st.2 st.1 rs = some vs ∧ (∀ (E' : Env) (w' : World) (ys : List Value), RelF ⟨w, E⟩ E' st.2 H w' → VRs vs E' ys → ∃ E2, E'.Le E2 ∧ RelF ⟨w, E⟩ E2 L' H w' ∧ VRs vs' E2 ys) ∧
          outVs L' vs' = some us ∧ ownsLast us = true ∧ tupOf us = v := by
        intro hv
        simp only [finish, Option.bind_eq_some_iff] at hv
        obtain ⟨vs, h1, hv⟩ := hv
        have slow : finF st.2 vs = some v → ∃ vs0 vs' L' us, resVs st.2 st.1 rs = some vs0 ∧ (∀ (E' : Env) (w' : World) (ys : List Value), RelF ⟨w, E⟩ E' st.2 H w' → VRs vs0 E' ys → ∃ E2, E'.Le E2 ∧ RelF ⟨w, E⟩ E2 L' H w' ∧ VRs vs' E2 ys) ∧
            outVs L' vs' = some us ∧ ownsLast us = true ∧ tupOf us = v := by
          intro hv
          simp only [finF, Option.bind_eq_some_iff] at hv
          obtain ⟨⟨vs', L'⟩, h2, us, h3, hv⟩ := hv
          split at hv
          · exact ⟨vs, vs', L', us, h1, fun E' w' ys hR hv => frzRs_rel hR hv h2, h3, ‹_›, Option.some.inj hv⟩
          · cases hv
        unfold fin2 at hv
        split at hv
        · rename_i us h2
          split at hv
          · exact ⟨vs, vs, st.2, us, h1, fun E' w' ys hR hv => ⟨E', .refl _, hR, hv⟩, h2, ‹_›, Option.some.inj hv⟩
          · exact slow hv
        · exact slow hv
      rcases hsplit e with rfl | rfl | ⟨i, rfl⟩
      · obtain ⟨vs, vs', L', us, k1, k2, k3, k4, k5⟩ := key hv
        exact ⟨vs, vs', L', us, k1, k2, k3, k4, k5, .inl rfl⟩
      · obtain ⟨vs, vs', L', us, k1, k2, k3, k4, k5⟩ := key hv
        exact ⟨vs, vs', L', us, k1, k2, k3, k4, k5, .inr rfl⟩
      · cases hv
    obtain ⟨vs, vs', L', us, h1, hfz, h2, h3, h4, h5⟩ := hfin
    refine calls_of_wp hfn hbody (exec_sound (keep := keep) (n := fn.ntmps) (w0 := ⟨w, E⟩) hm hcf hlf c 1 s' ac (args, []) st e E w _ _ hcode (by omega) hex hR0 hF0 fun a' w' Eo hleo hRo hF' => ?_)
    obtain ⟨ys, hys, hysro⟩ := results_rel (P := P) hRo hF' hrs h1
    obtain ⟨E', hle1, hR', hysr⟩ := hfz Eo w' ys hRo hysro
    have hdef := hF'.defers
    have hle := hleo.trans hle1
    have hret := ret_rel (outVs_rel hR' hysr h2) h3 h4
    have hE : E'.up 1 = { E.up 1 with imm := E'.imm } := by
      simp only [Env.up, Env.mk.injEq, and_true]
      funext d s v
      cases ho : E'.own (d + 1) s v with
      | some o => exact (hR'.out d s v o ho).symm
      | none =>
        cases ho2 : E.own (d + 1) s v with
        | none => rfl
        | some o => rw [hle.own _ _ _ _ ho2] at ho; cases ho
    have hres : (results fn a'.tmps).run P w' = .ok (if h : ys.toArray.size = 1 then ys.toArray[0] else .tuple ys.toArray) w' := by
      unfold results
      rw [← Array.toArray_toList (xs := fn.results), List.mapM_toArray]
      simp only [Sem.run_bind, Sem.run_map, Sem.run_pure]
      erw [hys]
      rfl
    have hbp : ∀ e' : AExit, (e' = .normal ∨ e' = .ret) → bodyPost P fn (Leaves E w v) e'.to a' w' := by
      intro e' he'
      have key : a'.defers = [] ∧ ∃ v', (results fn a'.tmps).run P w' = .ok v' w' ∧ Leaves E w v (.returned v') w' := by
        refine ⟨hdef, _, hres, _, E'.imm, rfl, hR'.below, hle.imm, fun b cs hb => ?_, by rw [← hE]; exact hret⟩
        rcases hR'.new b cs hb with h | h
        · exact .inl h
        · exact .inr ⟨h, hR'.mem.imm b cs hb⟩
      rcases he' with rfl | rfl <;> exact key
    exact hbp e h5

theorem stepN_sound (hm : P.follows .mixedOrders = true) {tbl : Tbl} (htbl : TblOk P tbl) (hpr : PrOk P tbl) : ∀ m, SoundCall P (stepN tbl m).1 ∧ SoundLoop P m (stepN tbl m).2
  | 0 => ⟨fun _ _ _ _ h => by simp [stepN] at h, fun _ _ _ _ _ _ _ _ _ _ _ _ _ _ _ _ _ h => by simp [stepN] at h⟩
  | m + 1 => by
    obtain ⟨h1, h2⟩ := stepN_sound hm htbl hpr m
    refine ⟨callS_sound hm htbl hpr h1 h2, ?_⟩
    intro keep n s c ac s' w0 H st st' e E w a Q hc hs he hR hF hQ
    simp only [stepN, loopS, Option.bind_eq_some_iff] at he
    obtain ⟨⟨e1, st1⟩, hx, he⟩ := he
    rw [rounds_succ]
    refine exec_sound (n := n) hm h1 h2 c s s' ac st st1 e1 E w a _ hc hs hx hR hF fun a' w' E' hle hR' hF' => ?_
    cases e1 with
    | normal =>
      simp only at he
      exact h2 keep n s c ac s' w0 H st1 st' e E' w' a' Q hc hs he hR' hF' fun a2 w2 E2 hle2 => hQ a2 w2 E2 (hle.trans hle2)
    | exit id => simp only [Option.some.injEq, Prod.mk.injEq] at he; obtain ⟨rfl, rfl⟩ := he; exact hQ a' w' E' hle hR' hF'
    | ret => simp only [Option.some.injEq, Prod.mk.injEq] at he; obtain ⟨rfl, rfl⟩ := he; exact hQ a' w' E' hle hR' hF'

end

end Go.Ab

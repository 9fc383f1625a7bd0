/-
  Regions: in the order of the text, and in whatever order the edges allow.
-/
import Derived.Test.YtfngllcjikmbkaaAbSeq
namespace Go.Ab
open Go Go.RowKit
set_option linter.unusedVariables false
set_option linter.unusedSimpArgs false
set_option linter.unnecessarySimpa false

theorem cOpers_length {P : Program} {keep : Nat} {ops : Array Oper} {n : Nat} : ∀ {l : List Oper} {site : Nat} {r : List AOper × Nat}, cOpers P keep ops n site l = some r → r.1.length = l.length
  | [], site, r, h => by simp only [cOpers, Option.some.injEq] at h; subst h; rfl
  | o :: l, site, r, h => by
    simp only [cOpers, Option.bind_eq_some_iff, Option.map_eq_some_iff] at h
    obtain ⟨a, _, r', hr, rfl⟩ := h
    simp [cOpers_length hr]

theorem cOpers_at {P : Program} {keep : Nat} {ops : Array Oper} {n : Nat} : ∀ {l : List Oper} {site : Nat} {r : List AOper × Nat}, cOpers P keep ops n site l = some r → 0 < site →
    site ≤ r.2 ∧ ∀ {i : Nat} {o : Oper}, l[i]? = some o → ∃ ao s, r.1[i]? = some ao ∧ 0 < s ∧ cOper P keep s ops n o = some ao
  | [], site, r, h, _ => by simp only [cOpers, Option.some.injEq] at h; subst h; simp
  | o :: l, site, r, h, h0 => by
    simp only [cOpers, Option.bind_eq_some_iff, Option.map_eq_some_iff] at h
    obtain ⟨a, ha, r', hr, rfl⟩ := h
    have hpos : site ≤ (if a.op.site = 0 then site else site + 1) := by split <;> omega
    obtain ⟨h1, h2⟩ := cOpers_at hr (by omega)
    refine ⟨by simp only; omega, fun {i o'} hi => ?_⟩
    cases i with
    | zero => simp only [List.getElem?_cons_zero, Option.some.injEq] at hi; subst hi; exact ⟨a, site, rfl, h0, ha⟩
    | succ i => simp only [List.getElem?_cons_succ] at hi ⊢; exact h2 hi

theorem seq_ops {P : Program} {keep : Nat} {n : Nat} {ops : Array Oper} {w0 : Base} {cf : CallF} {H : List (List Row)} (hcf : SoundCall P cf) {Q : Exit → Act → World → Prop} :
    ∀ (as : List AOper) (k : Nat) (st st' : St) (E : Env) (w : World) (a : Act), (∀ i ao, as[i]? = some ao → ∃ o s, ops[k + i]? = some o ∧ 0 < s ∧ cOper P keep s ops n o = some ao) →
      evalOps cf H as st = some st' → RelF w0 E st.2 H w → FrameRel E st.1 a n → (∀ a' w' E', E.Le E' → RelF w0 E' st'.2 H w' → FrameRel E' st'.1 a' n → Q .normal a' w') →
      wpOps P ops Q (List.range' k as.length) a w
  | [], k, st, st', E, w, a, _, he, hR, hF, hQ => by
    simp only [evalOps, Option.some.injEq] at he; subst he
    simp only [List.length_nil, List.range'_zero, wpOps]
    exact hQ a w E (.refl _) hR hF
  | ao :: as, k, st, st', E, w, a, hc, he, hR, hF, hQ => by
    simp only [evalOps, Option.bind_eq_some_iff] at he
    obtain ⟨st1, h1, h2⟩ := he
    obtain ⟨o, s, ho, hs, hco⟩ := hc 0 ao rfl
    simp only [Nat.add_zero] at ho
    rw [List.length_cons, List.range'_succ]
    simp only [wpOps, ho]
    obtain ⟨fr, L⟩ := st
    obtain ⟨fr1, L1⟩ := st1
    refine oper_seq hcf hco hs h1 hR hF ?_
    intro a' w' E' hle hR' hF'
    refine seq_ops (keep := keep) hcf as (k + 1) (fr1, L1) st' E' w' a' ?_ h2 hR' hF' (fun a2 w2 E2 hle2 => hQ a2 w2 E2 (hle.trans hle2))
    intro i ao' hi
    obtain ⟨o', s', ho', hs', hco'⟩ := hc (i + 1) ao' (by simpa using hi)
    exact ⟨o', s', by rw [← ho']; congr 1; omega, hs', hco'⟩

/-! ### Rows that are given up -/

theorem kill_one {w0 : Base} {E : Env} {L : List Row} {H : List (List Row)} {w : World} (h : RelF w0 E L H w) (s : Nat) : RelF w0 E (rset L s ⟨(rget L s).ver + 1, 0, []⟩) H w := by
  refine ⟨h.below, h.mem.change fun d s' o ho => ?_, fun s' v o ho => ?_, h.out, h.new⟩
  · cases d with
    | succ d => rfl
    | zero =>
      simp only [rowAt_zero, rget_rset] at ho ⊢
      split at ho
      · rename_i e; subst e
        rw [h.fresh s (Nat.lt_succ_self _)] at ho; cases ho
      · rename_i e; rw [if_neg e]
  · have := h.bnd s' v o ho
    refine ⟨?_, this.2⟩
    rw [rget_rset]
    split
    · rename_i e; subst e; have := this.1; simp only; omega
    · exact this.1

theorem kill_all {w0 : Base} {E : Env} {H : List (List Row)} {w : World} : ∀ (ks : List Nat) {L : List Row}, RelF w0 E L H w → RelF w0 E (killAll ks L) H w
  | [], _, h => h
  | s :: ks, L, h => kill_all ks (kill_one h s)

/-! ### Masks -/

theorem foldl_or_testBit (f : Edge → Nat) (p : Edge → Prop) [DecidablePred p] (j : Nat) : ∀ (l : List Edge) (m : Nat),
    (l.foldl (fun m e => if p e then m ||| 2 ^ e.on ||| f e else m) m).testBit j = true → m.testBit j = true ∨ ∃ e ∈ l, p e ∧ (e.on = j ∨ (f e).testBit j = true)
  | [], m, h => .inl h
  | e :: l, m, h => by
    rw [List.foldl_cons] at h
    rcases foldl_or_testBit f p j l _ h with h | ⟨e', h1, h2⟩
    · split at h
      · rename_i hp
        rw [Nat.testBit_or, Nat.testBit_or, Bool.or_eq_true, Bool.or_eq_true] at h
        rcases h with (h | h) | h
        · exact .inl h
        · rw [Nat.testBit_two_pow, decide_eq_true_eq] at h
          exact .inr ⟨e, by simp, hp, .inl h⟩
        · exact .inr ⟨e, by simp, hp, .inr h⟩
      · exact .inl h
    · exact .inr ⟨e', by simp [h1], h2⟩

/-- A set of operations that holds, with each, all that are bound to stand ahead of it. -/
def Closed (ops : List Oper) (S : Nat → Prop) : Prop := ∀ i o, ops[i]? = some o → S i → ∀ e ∈ o.after, Region.binds .any e = true → S e.on

/-- All that is bound to stand ahead of the operation is in the set. -/
def Pre (ops : List Oper) (S : Nat → Prop) (i : Nat) : Prop := ∀ o, ops[i]? = some o → ∀ e ∈ o.after, Region.binds .any e = true → S e.on

theorem Closed.pre {ops : List Oper} {S : Nat → Prop} (hS : Closed ops S) {i : Nat} (h : S i) : Pre ops S i := fun o ho => hS i o ho h

theorem maskOf_sound {ops : List Oper} {S : Nat → Prop} (hS : Closed ops S) {ms : List Nat} {i : Nat} {o : Oper} (ho : ops[i]? = some o) (hms : ∀ j m, ms.reverse[j]? = some m → ∀ b, m.testBit b = true → Pre ops S j → S b)
    (hi : Pre ops S i) : ∀ b, (maskOf ms o).testBit b = true → S b := by
  intro b hb
  unfold maskOf at hb
  rcases foldl_or_testBit (fun e => ms.reverse.getD e.on 0) (fun e => Region.binds .any e = true ∧ e.on < ms.length) b o.after.toList 0 hb with h | ⟨e, he, ⟨hbn, hlt⟩, h⟩
  · simp at h
  · have hSe := hi o ho e (by simpa using he) hbn
    rcases h with h | h
    · rw [← h]; exact hSe
    · have hlt' : e.on < ms.reverse.length := by simpa using hlt
      rw [List.getD_eq_getElem?_getD, List.getElem?_eq_getElem hlt', Option.getD_some] at h
      exact hms e.on _ (List.getElem?_eq_getElem hlt') b h (hS.pre hSe)

theorem masks_sound {ops : List Oper} {S : Nat → Prop} (hS : Closed ops S) : ∀ (l : List Oper) (ms : List Nat), (∀ i, l[i]? = ops[ms.length + i]?) →
    (∀ j m, ms.reverse[j]? = some m → ∀ b, m.testBit b = true → Pre ops S j → S b) → ∀ j m, (masks ms l)[j]? = some m → ∀ b, m.testBit b = true → Pre ops S j → S b
  | [], ms, _, hms, j, m, hj => by simp only [masks] at hj; exact hms j m hj
  | o :: l, ms, hl, hms, j, m, hj => by
    simp only [masks] at hj
    have ho : ops[ms.length]? = some o := by have := hl 0; simpa using this.symm
    refine masks_sound hS l (maskOf ms o :: ms) ?_ ?_ j m hj
    · intro i
      have := hl (i + 1)
      simp only [List.getElem?_cons_succ] at this
      rw [this]; congr 1; simp only [List.length_cons]; omega
    · intro j' m' hj' b hb hSj
      rw [List.reverse_cons] at hj'
      by_cases hlt : j' < ms.reverse.length
      · rw [List.getElem?_append_left hlt] at hj'
        exact hms j' m' hj' b hb hSj
      · rw [List.getElem?_append_right (by omega)] at hj'
        have hz : j' - ms.reverse.length = 0 := by
          have := (List.getElem?_eq_some_iff.1 hj').1
          simp at this ⊢; omega
        rw [hz] at hj'
        simp only [List.getElem?_cons_zero, Option.some.injEq] at hj'
        subst hj'
        have hj'' : j' = ms.length := by simp at hz hlt; omega
        subst hj''
        exact maskOf_sound hS ho hms hSj b hb

theorem fewAll_spec {n : Nat} {p : Nat → Bool} (h : fewAll n p = true) {i : Nat} (hi : i < n) : p i = true := by
  unfold fewAll at h
  rw [List.all_eq_true] at h
  exact h i (by simpa using hi)

theorem backOk_spec : ∀ {l : List Oper} {k : Nat}, backOk k l = true → ∀ {i : Nat} {o : Oper}, l[i]? = some o → ∀ e ∈ o.after, Region.binds .any e = true → e.on < k + i
  | [], _, _, i, o, h => by simp at h
  | p :: l, k, hb, i, o, h => by
    simp only [backOk, Bool.and_eq_true] at hb
    cases i with
    | zero =>
      simp only [List.getElem?_cons_zero, Option.some.injEq] at h
      subst h
      intro e he hbn
      have := List.all_eq_true.1 hb.1 e (by simpa using he)
      simpa [hbn] using this
    | succ i =>
      simp only [List.getElem?_cons_succ] at h
      intro e he hbn
      have := backOk_spec hb.2 h e he hbn
      omega

theorem killSites_spec : ∀ {l : List AOper} {i : Nat} {ao : AOper}, l[i]? = some ao → ao.op.site ≠ 0 → ao.op.site ∈ killSites l
  | [], i, ao, h, _ => by simp at h
  | p :: l, i, ao, h, h0 => by
    unfold killSites
    cases i with
    | zero =>
      simp only [List.getElem?_cons_zero, Option.some.injEq] at h; subst h
      rw [if_neg h0]; simp
    | succ i =>
      simp only [List.getElem?_cons_succ] at h
      have := killSites_spec h h0
      split
      · exact this
      · simp [this]

theorem killAll_ver (s : Nat) : ∀ (ks : List Nat) (L : List Row), (rget L s).ver ≤ (rget (killAll ks L) s).ver
  | [], L => Nat.le_refl _
  | k :: ks, L => by
    refine Nat.le_trans ?_ (killAll_ver s ks _)
    rw [rget_rset]
    split
    · rename_i e; subst e; simp
    · exact Nat.le_refl _

theorem kill_all_lt {w0 : Base} {E : Env} {H : List (List Row)} {w : World} : ∀ (ks : List Nat) {L : List Row}, RelF w0 E L H w → ∀ s ∈ ks, ∀ v o, E.own 0 s v = some o → v < (rget (killAll ks L) s).ver
  | [], _, _, s, hs, _, _, _ => by cases hs
  | k :: ks, L, h, s, hs, v, o, ho => by
    simp only [killAll]
    rcases List.mem_cons.1 hs with rfl | hs
    · have h1 := (h.bnd s v o ho).1
      have h2 := killAll_ver s ks (rset L s ⟨(rget L s).ver + 1, 0, []⟩)
      rw [rget_rset, if_pos rfl] at h2
      simp only at h2
      omega
    · exact kill_all_lt ks (kill_one h k) s hs v o ho

/-- The states in the order of the text. -/
theorem states {cf : CallF} {H : List (List Row)} : ∀ {as : List AOper} {st st' : St}, evalOps cf H as st = some st' →
    ∃ S : Nat → St, S 0 = st ∧ S as.length = st' ∧ ∀ i ao, as[i]? = some ao → evalOper cf H ao (S i) = some (S (i + 1))
  | [], st, st', h => by
    simp only [evalOps, Option.some.injEq] at h; subst h
    exact ⟨fun _ => st, rfl, rfl, by simp⟩
  | ao :: as, st, st', h => by
    simp only [evalOps, Option.bind_eq_some_iff] at h
    obtain ⟨st1, h1, h2⟩ := h
    obtain ⟨S, e1, e2, e3⟩ := states h2
    refine ⟨fun i => match i with | 0 => st | i + 1 => S i, rfl, e2, fun i ao' hi => ?_⟩
    cases i with
    | zero => simp only [List.getElem?_cons_zero, Option.some.injEq] at hi; subst hi; simp only [e1]; exact h1
    | succ i => simp only [List.getElem?_cons_succ] at hi; exact e3 i ao' hi

theorem put_same {a : Act} {d : Nat} {x : Value} (h : d < a.tmps.size) : (a.put (some d) x).tmps.getD d undef = x := by
  simp [Act.put, Array.getD_eq_getD_getElem?, h]

theorem put_other {a : Act} {dst : Option Nat} {x : Value} {t : Nat} (h : dst ≠ some t) : (a.put dst x).tmps.getD t undef = a.tmps.getD t undef := by
  cases dst with
  | none => rfl
  | some d =>
    have : d ≠ t := fun e => h (by rw [e])
    simp [Act.put, Array.getD_eq_getD_getElem?, this]

section draw
variable {P : Program} {keep : Nat} {n : Nat} {ops : Array Oper} {as : List AOper} {w0 : Base} {cf : CallF} {H : List (List Row)} {S : Nat → St} {k : Nat} {ms : List Nat}

/-- All that has been checked of a region that draws, and what its operations give in the order of the text. -/
structure Drawn (P : Program) (keep : Nat) (n : Nat) (ops : Array Oper) (as : List AOper) (cf : CallF) (H : List (List Row)) (S : Nat → St) (k : Nat) (ms : List Nat) : Prop where
  len : as.length = ops.size
  kn : k ≤ ops.size
  comp : ∀ (i : Nat) (ao : AOper), as[i]? = some ao → ∃ o s, ops[i]? = some o ∧ 0 < s ∧ cOper P keep s ops n o = some ao
  ev : ∀ (i : Nat) (ao : AOper), as[i]? = some ao → evalOper cf H ao (S i) = some (S (i + 1))
  back : ∀ (i : Nat) (o : Oper), ops[i]? = some o → ∀ e ∈ o.after, Region.binds .any e = true → e.on < i
  mask : ∀ T : Nat → Prop, Closed ops.toList T → ∀ i j : Nat, i < ops.size → (ms.getD i 0).testBit j = true → Pre ops.toList T i → T j
  tail : ∀ i j : Nat, k ≤ j → j < ops.size → i < j → (ms.getD j 0).testBit i = true
  still : ∀ (i : Nat) (ao : AOper), i < k → as[i]? = some ao → ao.op.mutates = false
  sited : ∀ (i : Nat) (ao : AOper), i < k → as[i]? = some ao → ao.op.siteOk = true
  pair : ∀ (i j : Nat) (x y : AOper), i < k → j < k → as[i]? = some x → as[j]? = some y → pairOk ms i j x y = true

variable (D : Drawn P keep n ops as cf H S k ms)
include D

theorem Drawn.slot {i : Nat} {ao : AOper} (hi : as[i]? = some ao) {t : Nat} (h : ao.dst ≠ some t) : get (S (i + 1)).1 t = get (S i).1 t := by
  have he := D.ev i ao hi
  unfold evalOper at he
  obtain ⟨b, _, he⟩ := Option.bind_eq_some_iff.1 he
  have hset : ∀ v, get (setDst (S i).1 ao.dst v) t = get (S i).1 t := by
    intro v
    cases hd : ao.dst with
    | none => rfl
    | some d =>
      simp only [setDst, get_set]
      rw [if_neg (fun e => h (by rw [hd, e]))]
  split at he
  · obtain ⟨r, _, hr⟩ := Option.map_eq_some_iff.1 he
    rw [← hr]; exact hset _
  · simp only [Option.some.injEq] at he; rw [← he]; exact hset _

theorem Drawn.row {i : Nat} {ao : AOper} (hi : as[i]? = some ao) (hk : i < k) (s : Nat) : rget (S (i + 1)).2 s = rget (S i).2 s ∨ (s = ao.op.site ∧ s ≠ 0 ∧ (rget (S (i + 1)).2 s).ver = (rget (S i).2 s).ver + 1) := by
  have he := D.ev i ao hi
  unfold evalOper at he
  obtain ⟨b, _, he⟩ := Option.bind_eq_some_iff.1 he
  split at he
  · obtain ⟨⟨v, L'⟩, hv, hr⟩ := Option.map_eq_some_iff.1 he
    rw [← hr]
    by_cases h0 : ao.op.site = 0
    · rw [evalOp_zero (D.still i ao hk hi) (D.sited i ao hk hi) hv h0]; exact .inl rfl
    · rcases evalOp_row (D.still i ao hk hi) hv s with h | ⟨h1, h2⟩
      · exact .inl h
      · exact .inr ⟨h1, by rw [h1]; exact h0, h2⟩
  · simp only [Option.some.injEq] at he; rw [← he]; exact .inl rfl

/-- Two operations of the head do not write one slot, nor take one row. -/
theorem Drawn.apart {i j : Nat} {x y : AOper} (hi : i < k) (hj : j < k) (hx : as[i]? = some x) (hy : as[j]? = some y) (hne : i ≠ j) :
    (∀ d, y.dst = some d → x.dst ≠ some d) ∧ (y.op.site ≠ 0 → x.op.site ≠ y.op.site) := by
  have := D.pair i j x y hi hj hx hy
  unfold pairOk at this
  rw [if_neg hne, Bool.and_eq_true] at this
  constructor
  · intro d hd
    rw [hd] at this
    simp only [Bool.and_eq_true, bne_iff_ne, ne_eq] at this
    exact this.1.2
  · intro h0
    have h2 := this.2
    simp only [Bool.or_eq_true, beq_iff_eq, bne_iff_ne, ne_eq] at h2
    exact h2.resolve_left h0

theorem Drawn.reads {i j : Nat} {x y : AOper} (hi : i < k) (hj : j < k) (hx : as[i]? = some x) (hy : as[j]? = some y) (hne : i ≠ j) {t : Nat} (hd : y.dst = some t) (hr : t ∈ x.reads) :
    (j < i ∧ (ms.getD i 0).testBit j = true) ∨ (i < j ∧ (ms.getD j 0).testBit i = true) := by
  have := D.pair i j x y hi hj hx hy
  unfold pairOk at this
  rw [if_neg hne, Bool.and_eq_true, hd] at this
  simp only [Bool.and_eq_true, Bool.or_eq_true, Bool.not_eq_true'] at this
  have h1 := this.1.1
  rcases h1 with h1 | h1
  · have : x.reads.contains t = true := by simpa using hr
    rw [this] at h1; cases h1
  · split at h1
    · exact .inl ⟨‹_›, h1⟩
    · exact .inr ⟨by omega, h1⟩

/-- A slot that no operation of [i, j) writes. -/
theorem Drawn.slots {t : Nat} {i : Nat} : ∀ {j : Nat}, i ≤ j → j ≤ as.length → (∀ m ao, i ≤ m → m < j → as[m]? = some ao → ao.dst ≠ some t) → get (S j).1 t = get (S i).1 t
  | 0, h, _, _ => by have : i = 0 := by omega
                     subst this; rfl
  | j + 1, h, hl, hno => by
    by_cases e : i = j + 1
    · subst e; rfl
    · obtain ⟨ao, hao⟩ : ∃ ao, as[j]? = some ao := ⟨_, List.getElem?_eq_getElem (by omega)⟩
      rw [D.slot hao (hno j ao (by omega) (by omega) hao)]
      exact Drawn.slots (by omega) (by omega) (fun m ao' h1 h2 => hno m ao' h1 (by omega))

theorem Drawn.rows {s : Nat} {i : Nat} : ∀ {j : Nat}, i ≤ j → j ≤ k → (s ≠ 0 → ∀ m ao, i ≤ m → m < j → as[m]? = some ao → ao.op.site ≠ s) → rget (S j).2 s = rget (S i).2 s
  | 0, h, _, _ => by have : i = 0 := by omega
                     subst this; rfl
  | j + 1, h, hl, hno => by
    by_cases e : i = j + 1
    · subst e; rfl
    · have := D.kn
      have := D.len
      obtain ⟨ao, hao⟩ : ∃ ao, as[j]? = some ao := ⟨_, List.getElem?_eq_getElem (by omega)⟩
      have ih := Drawn.rows (s := s) (i := i) (j := j) (by omega) (by omega) (fun h0 m ao' h1 h2 => hno h0 m ao' h1 (by omega))
      rcases D.row hao (by omega) s with h1 | ⟨h1, h0, _⟩
      · rw [h1, ih]
      · exact absurd h1.symm (hno h0 j ao (by omega) (by omega) hao)

/-- What holds while operations of the head are carried out, in whatever order. -/
structure Head (P : Program) (n : Nat) (ops : Array Oper) (as : List AOper) (w0 : Base) (H : List (List Row)) (S : Nat → St) (k : Nat) (E : Env) (w : World) (a : Act) (T : Nat → Prop) : Prop where
  closed : Closed ops.toList T
  below : Below w0.w.heap.size w0.w w
  mem : RelM E ((S k).2 :: H) w
  keys : ∀ s v o, E.own 0 s v = some o → w0.w.heap.size ≤ o.blk ∧
    (((∃ j ao, j < k ∧ as[j]? = some ao ∧ ao.op.site = s ∧ s ≠ 0) → v < (rget (S 0).2 s).ver ∨ (∃ j ao, j < k ∧ T j ∧ as[j]? = some ao ∧ ao.op.site = s ∧ v = (rget (S (j + 1)).2 s).ver)) ∧
     ((¬ ∃ j ao, j < k ∧ as[j]? = some ao ∧ ao.op.site = s ∧ s ≠ 0) → v ≤ (rget (S 0).2 s).ver))
  out : ∀ d s v o, E.own (d + 1) s v = some o → w0.E.own (d + 1) s v = some o
  new : ∀ b cs, E.imm b = some cs → w0.E.imm b = some cs ∨ w0.w.heap.size ≤ b
  size : n ≤ a.tmps.size
  defers : a.defers = []
  done : ∀ j ao t, j < k → T j → as[j]? = some ao → ao.dst = some t → VR (get (S (j + 1)).1 t) E (a.tmps.getD t undef)
  open_ : ∀ t, (∀ j ao, j < k → T j → as[j]? = some ao → ao.dst ≠ some t) → VR (get (S 0).1 t) E (a.tmps.getD t undef)

/-- What an operation of the head looks at, wherever it stands. -/
theorem Head.sees {E : Env} {w : World} {a : Act} {T : Nat → Prop} (h : Head P n ops as w0 H S k E w a T) {i : Nat} {x : AOper} (hi : i < k) (hx : as[i]? = some x) (hTi : ¬ T i)
    (hready : ∀ j, (ms.getD i 0).testBit j = true → T j) : ∀ t ∈ x.reads, VR (get (S i).1 t) E (a.tmps.getD t undef) := by
  intro t ht
  have hkn := D.kn
  have hlen := D.len
  have at_ : ∀ {m : Nat}, m < k → ∃ ao, as[m]? = some ao := fun h => ⟨_, List.getElem?_eq_getElem (by omega)⟩
  by_cases hw : ∃ j y, j < k ∧ j ≠ i ∧ as[j]? = some y ∧ y.dst = some t
  · obtain ⟨j, y, hj, hji, hy, hd⟩ := hw
    have uniq : ∀ m ao, m < k → m ≠ j → as[m]? = some ao → ao.dst ≠ some t := fun m ao hm hmj hao => (D.apart hm hj hao hy hmj).1 t hd
    rcases D.reads hi hj hx hy (Ne.symm hji) hd ht with ⟨hlt, hb⟩ | ⟨hlt, hb⟩
    · have hT := hready j hb
      rw [D.slots (i := j + 1) (j := i) (by omega) (by omega) (fun m ao h1 h2 hao => uniq m ao (by omega) (by omega) hao)]
      exact h.done j y t hj hT hy hd
    · have hTj : ¬ T j := fun hT => hTi (D.mask T h.closed j i (by omega) hb (h.closed.pre hT))
      rw [D.slots (i := 0) (j := i) (by omega) (by omega) (fun m ao h1 h2 hao => uniq m ao (by omega) (by omega) hao)]
      refine h.open_ t fun m ao hm hTm hao => ?_
      by_cases e : m = j
      · subst e; exact absurd hTm hTj
      · exact uniq m ao hm e hao
  · rw [D.slots (i := 0) (j := i) (by omega) (by omega) (fun m ao h1 h2 hao hdm => hw ⟨m, ao, by omega, by omega, hao, hdm⟩)]
    refine h.open_ t fun m ao hm hTm hao hdm => ?_
    by_cases e : m = i
    · subst e; exact hTi hTm
    · exact hw ⟨m, ao, hm, e, hao, hdm⟩

/-- The frame, one operation on. -/
theorem Head.frame {E E' : Env} {w : World} {a : Act} {T : Nat → Prop} (h : Head P n ops as w0 H S k E w a T) {i : Nat} {ao : AOper} (hi : i < k) (hx : as[i]? = some ao) (hle : E.Le E')
    (hd : ao.dst.all (· < n) = true) {x : Value} (hv : ∀ t, ao.dst = some t → VR (get (S (i + 1)).1 t) E' x) :
    n ≤ (a.put ao.dst x).tmps.size ∧ (a.put ao.dst x).defers = [] ∧
    (∀ j ao' t, j < k → (T j ∨ j = i) → as[j]? = some ao' → ao'.dst = some t → VR (get (S (j + 1)).1 t) E' ((a.put ao.dst x).tmps.getD t undef)) ∧
    (∀ t, (∀ j ao', j < k → (T j ∨ j = i) → as[j]? = some ao' → ao'.dst ≠ some t) → VR (get (S 0).1 t) E' ((a.put ao.dst x).tmps.getD t undef)) := by
  refine ⟨?_, ?_, ?_, ?_⟩
  · have := h.size
    cases ao.dst <;> simpa [Act.put] using this
  · have := h.defers
    cases ao.dst <;> simpa [Act.put] using this
  · intro j ao' t hj hT hao hdt
    by_cases e : j = i
    · subst e
      rw [hx] at hao; cases hao
      have hdn : t < n := by simpa [hdt] using hd
      rw [hdt, put_same (by have := h.size; omega)]
      exact hv t hdt
    · have := (D.apart hi hj hx hao (Ne.symm e)).1 t hdt
      rw [put_other this]
      exact VR.mono hle _ _ (h.done j ao' t hj (hT.resolve_right e) hao hdt)
  · intro t hno
    rw [put_other (hno i ao hi (.inr rfl) hx)]
    exact VR.mono hle _ _ (h.open_ t fun j ao' hj hT hao => hno j ao' hj (.inl hT) hao)

set_option maxHeartbeats 400000 in
theorem Head.step {E : Env} {w : World} {a : Act} {T : Nat → Prop} (hcf : SoundCall P cf) (h : Head P n ops as w0 H S k E w a T) {i : Nat} (hi : i < k) (hTi : ¬ T i)
    (hready : ∀ o, ops[i]? = some o → ∀ e ∈ o.after, Region.binds .any e = true → T e.on) {K : Act → World → Prop} {Q : Exit → Act → World → Prop}
    (hK : ∀ a' w' E', E.Le E' → Head P n ops as w0 H S k E' w' a' (fun j => T j ∨ j = i) → K a' w') : wpOp P ops Q i K a w := by
  have hkn := D.kn
  have hlen := D.len
  obtain ⟨ao, hx⟩ : ∃ ao, as[i]? = some ao := ⟨_, List.getElem?_eq_getElem (by omega)⟩
  obtain ⟨o, site, ho, hs, hco⟩ := D.comp i ao hx
  obtain ⟨hop, hdst, hd, hg⟩ := cOper_spec hco
  have hpre : Pre ops.toList T i := fun o' ho' => hready o' (by simpa using ho')
  have hclosed' : Closed ops.toList (fun j => T j ∨ j = i) := by
    intro j o' hj hT e he hb
    rcases hT with hT | rfl
    · exact .inl (h.closed j o' hj hT e he hb)
    · exact .inl (hpre o' hj e he hb)
  have hmask : ∀ j, (ms.getD i 0).testBit j = true → T j := fun j hb => D.mask T h.closed i j (by omega) hb hpre
  have hsees := h.sees D hi hx hTi hmask
  have he := D.ev i ao hx
  unfold evalOper at he
  obtain ⟨b, hb, he⟩ := Option.bind_eq_some_iff.1 he
  unfold wpOp
  rw [ho]
  simp only
  rw [wanted_rel (P := P) hg (fun d w hgd => hsees d (by simp [AOper.reads, hgd])) hb]
  have uniq : ∀ j y, j < k → as[j]? = some y → y.op.site = ao.op.site → ao.op.site ≠ 0 → j = i := by
    intro j y hj hy hs h0
    by_cases e : j = i
    · exact e
    · exact absurd hs ((D.apart hj hi hy hx e).2 h0)
  cases b with
  | false =>
    simp only [Bool.false_eq_true, if_false, Option.some.injEq] at he ⊢
    rw [← hdst]
    obtain ⟨f1, f2, f3, f4⟩ := h.frame D hi hx (.refl E) (by rw [hdst]; exact hd) (x := undef) (fun t ht => by
      rw [← he]; simp only [ht, setDst, get_set, if_true]; exact tup_undef E)
    refine hK _ w E (.refl _) ⟨hclosed', h.below, h.mem, fun s v o' ho' => ?_, h.out, h.new, f1, f2, f3, f4⟩
    obtain ⟨k1, k2, k3⟩ := h.keys s v o' ho'
    refine ⟨k1, fun hk => ?_, k3⟩
    rcases k2 hk with h1 | ⟨j, y, hj, hT, rest⟩
    · exact .inl h1
    · exact .inr ⟨j, y, hj, .inl hT, rest⟩
  | true =>
    simp only [if_true] at he ⊢
    refine .inl ?_
    obtain ⟨⟨v, L1⟩, hev, he⟩ := Option.map_eq_some_iff.1 he
    have hm := D.still i ao hi hx
    have hL1 : (S (i + 1)).2 = L1 := by rw [← he]
    have hslot : ∀ t, ao.dst = some t → get (S (i + 1)).1 t = v := by
      intro t ht
      rw [← he]; simp only [ht, setDst, get_set, if_true]
    -- the rows where the operation stands in the text
    have hrowsBefore : ao.op.site ≠ 0 → rget (S i).2 ao.op.site = rget (S 0).2 ao.op.site := fun h0 =>
      D.rows (i := 0) (j := i) (by omega) (by omega) (fun _ m y h1 h2 hy e => by
        have := uniq m y (by omega) hy e h0
        omega)
    have hrowsBehind : ao.op.site ≠ 0 → rget (S k).2 ao.op.site = rget (S (i + 1)).2 ao.op.site := fun h0 =>
      D.rows (i := i + 1) (j := k) (by omega) (by omega) (fun _ m y h1 h2 hy e => by
        have := uniq m y (by omega) hy e h0
        omega)
    have hfresh : ao.op.site ≠ 0 → (rget (S i).2 ao.op.site).ver < (rget L1 ao.op.site).ver → E.own 0 ao.op.site (rget L1 ao.op.site).ver = none := by
      intro h0 hlt
      cases ho' : E.own 0 ao.op.site (rget L1 ao.op.site).ver with
      | none => rfl
      | some o' =>
        obtain ⟨_, k2, _⟩ := h.keys _ _ _ ho'
        rw [hrowsBefore h0] at hlt
        rcases k2 ⟨i, ao, hi, hx, rfl, h0⟩ with h1 | ⟨j, y, hj, hT, hy, hys, _⟩
        · omega
        · have := uniq j y hj hy hys h0
          subst this
          exact absurd hT hTi
    have hL : RelM E ((S i).2 :: H) w := by
      refine h.mem.change fun d s o' ho' => ?_
      cases d with
      | succ d => rfl
      | zero =>
        simp only [rowAt_zero] at ho' ⊢
        by_cases hw : ∃ j y, i ≤ j ∧ j < k ∧ as[j]? = some y ∧ y.op.site = s ∧ s ≠ 0
        · obtain ⟨j, y, hij, hj, hy, hys, hs0⟩ := hw
          obtain ⟨_, k2, _⟩ := h.keys _ _ _ ho'
          have uniq' : ∀ m z, m < k → as[m]? = some z → z.op.site = s → m = j := by
            intro m z hm' hz hzs
            by_cases e : m = j
            · exact e
            · exact absurd (hzs.trans hys.symm) ((D.apart hm' hj hz hy e).2 (by rw [hys]; exact hs0))
          have hb4 : rget (S i).2 s = rget (S 0).2 s := D.rows (i := 0) (j := i) (by omega) (by omega) (fun _ m z h1 h2 hz e => by
            have := uniq' m z (by omega) hz e
            omega)
          have hb5 : rget (S k).2 s = rget (S (j + 1)).2 s := D.rows (i := j + 1) (j := k) (by omega) (by omega) (fun _ m z h1 h2 hz e => by
            have := uniq' m z (by omega) hz e
            omega)
          have hb6 : rget (S j).2 s = rget (S 0).2 s := D.rows (i := 0) (j := j) (by omega) (by omega) (fun _ m z h1 h2 hz e => by
            have := uniq' m z (by omega) hz e
            omega)
          rcases k2 ⟨j, y, hj, hy, hys, hs0⟩ with h1 | ⟨j', y', hj', hT, hy', hys', hver⟩
          · rw [hb4] at h1; omega
          · have := uniq' j' y' hj' hy' hys'
            subst this
            rcases D.row hy hj s with h2 | ⟨_, _, h2⟩
            · rw [hb4, hb5, h2, hb6]
            · rw [hb4] at hver
              rw [hb6] at h2
              omega
        · exact (D.rows (i := i) (j := k) (by omega) (by omega) (fun hs0 m z h1 h2 hz e => hw ⟨m, z, h1, h2, hz, e, hs0⟩)).symm
    have hsees' : Sees E (S i).1 a (argTmps ao.op.argList) := fun t ht => hsees t (by simp [AOper.reads, ht])
    refine step_of hcf hop hs hm hev hsees' hL h.mem (fun h0 hlt => ⟨by rw [rowAt_zero, hrowsBehind h0, hL1], hfresh h0 hlt⟩) K Q ?_
    intro x w' E' hle hM' hbel hv hkeys
    rw [← hdst]
    obtain ⟨f1, f2, f3, f4⟩ := h.frame D hi hx hle (by rw [hdst]; exact hd) (x := x) (fun t ht => by rw [hslot t ht]; exact hv)
    have hout : ∀ d s v o, E'.own (d + 1) s v = some o → w0.E.own (d + 1) s v = some o := by
      intro d s v' o' ho'
      rcases hkeys.own (d + 1) s v' o' ho' with h1 | ⟨h1, _⟩
      · exact h.out d s v' o' h1
      · cases h1
    have hnew : ∀ b cs, E'.imm b = some cs → w0.E.imm b = some cs ∨ w0.w.heap.size ≤ b := by
      intro b cs hb
      rcases hkeys.imm b cs hb with h1 | h1
      · exact h.new b cs h1
      · exact .inr (Nat.le_trans h.below.size h1)
    refine hK _ w' E' hle ⟨hclosed', h.below.trans (hbel.mono h.below.size), hM', fun s v' o' ho' => ?_, hout, hnew, f1, f2, f3, f4⟩
    rcases hkeys.own 0 s v' o' ho' with h1 | ⟨_, rfl, rfl, h0, h1⟩
    · obtain ⟨k1, k2, k3⟩ := h.keys s v' o' h1
      refine ⟨k1, fun hk => ?_, k3⟩
      rcases k2 hk with h2 | ⟨j, y, hj, hT, rest⟩
      · exact .inl h2
      · exact .inr ⟨j, y, hj, .inl hT, rest⟩
    · refine ⟨Nat.le_trans h.below.size h1, fun _ => .inr ⟨i, ao, hi, .inr rfl, hx, rfl, by rw [hL1]⟩, fun hno => absurd ⟨i, ao, hi, hx, rfl, h0⟩ hno⟩

/-- All operations of the head are done: the state is that of the text. -/
theorem Head.toSeq {E : Env} {w : World} {a : Act} {T : Nat → Prop} (h : Head P n ops as w0 H S k E w a T) (hall : ∀ j, j < k → T j) : RelF w0 E (S k).2 H w ∧ FrameRel E (S k).1 a n := by
  have hkn := D.kn
  have hlen := D.len
  have at_ : ∀ {m : Nat}, m < k → ∃ ao, as[m]? = some ao := fun h => ⟨_, List.getElem?_eq_getElem (by omega)⟩
  refine ⟨⟨h.below, h.mem, fun s v o ho => ?_, h.out, h.new⟩, ⟨h.size, h.defers, fun t => ?_⟩⟩
  · obtain ⟨k1, k2, k3⟩ := h.keys s v o ho
    refine ⟨?_, k1⟩
    by_cases hw : ∃ j y, j < k ∧ as[j]? = some y ∧ y.op.site = s ∧ s ≠ 0
    · obtain ⟨j, y, hj, hy, hys, hs0⟩ := hw
      have uniq' : ∀ m z, m < k → as[m]? = some z → z.op.site = s → m = j := by
        intro m z hm' hz hzs
        by_cases e : m = j
        · exact e
        · exact absurd (hzs.trans hys.symm) ((D.apart hm' hj hz hy e).2 (by rw [hys]; exact hs0))
      have hb5 : rget (S k).2 s = rget (S (j + 1)).2 s := D.rows (i := j + 1) (j := k) (by omega) (by omega) (fun _ m z h1 h2 hz e => by
        have := uniq' m z (by omega) hz e
        omega)
      have hb6 : rget (S j).2 s = rget (S 0).2 s := D.rows (i := 0) (j := j) (by omega) (by omega) (fun _ m z h1 h2 hz e => by
        have := uniq' m z (by omega) hz e
        omega)
      rcases k2 ⟨j, y, hj, hy, hys, hs0⟩ with h1 | ⟨j', y', hj', hT, hy', hys', hver⟩
      · rw [hb5]
        rcases D.row hy hj s with h2 | ⟨_, _, h2⟩
        · rw [h2, hb6]; omega
        · rw [h2, hb6]; omega
      · have := uniq' j' y' hj' hy' hys'
        subst this
        rw [hver, hb5]
        exact Nat.le_refl _
    · rw [D.rows (i := 0) (j := k) (by omega) (by omega) (fun hs0 m z h1 h2 hz e => hw ⟨m, z, h2, hz, e, hs0⟩)]
      exact k3 hw
  · by_cases hw : ∃ j y, j < k ∧ as[j]? = some y ∧ y.dst = some t
    · obtain ⟨j, y, hj, hy, hd⟩ := hw
      rw [D.slots (i := j + 1) (j := k) (by omega) (by omega) (fun m ao h1 h2 hao => (D.apart (by omega) hj hao hy (by omega)).1 t hd)]
      exact h.done j y t hj (hall j hj) hy hd
    · rw [D.slots (i := 0) (j := k) (by omega) (by omega) (fun m ao h1 h2 hao hdm => hw ⟨m, ao, h2, hao, hdm⟩)]
      exact h.open_ t fun m ao hm _ hao hdm => hw ⟨m, ao, hm, hao, hdm⟩

def cnt (listed : Array Bool) (m : Nat) : Nat := (List.range m).countP fun i => listed.getD i false

omit D in
theorem cnt_set {listed : Array Bool} {i : Nat} (hi : listed.getD i false = false) (hs : i < listed.size) : ∀ m : Nat, cnt (listed.setIfInBounds i true) m = cnt listed m + if i < m then 1 else 0
  | 0 => by simp [cnt]
  | m + 1 => by
    have ih := cnt_set hi hs m
    unfold cnt at ih ⊢
    rw [List.range_succ, List.countP_append, List.countP_append, ih]
    by_cases e : i = m
    · subst e
      have h1 : (listed.setIfInBounds i true).getD i false = true := by simp [Array.getD_eq_getD_getElem?, hs]
      rw [List.countP_singleton, List.countP_singleton, h1, hi]
      simp
    · have h1 : (listed.setIfInBounds i true).getD m false = listed.getD m false := getD_set_ne false e
      rw [List.countP_singleton, List.countP_singleton, h1]
      have : (i < m + 1) ↔ (i < m) := by omega
      simp only [this]
      omega

omit D in
theorem cnt_full {listed : Array Bool} : ∀ {m : Nat}, m ≤ cnt listed m → ∀ i, i < m → listed.getD i false = true
  | 0, _, i, hi => by omega
  | m + 1, h, i, hi => by
    unfold cnt at h
    rw [List.range_succ, List.countP_append, List.countP_singleton] at h
    have hle : (List.range m).countP (fun i => listed.getD i false) ≤ m := by
      have := List.countP_le_length (p := fun i => listed.getD i false) (l := List.range m)
      simpa using this
    by_cases hm : listed.getD m false = true
    · rcases Nat.lt_or_ge i m with h1 | h1
      · rw [if_pos hm] at h
        exact cnt_full (m := m) (by unfold cnt; omega) i h1
      · have : i = m := by omega
        subst this; exact hm
    · rw [if_neg hm] at h
      omega

/-- Where nothing more is ready all is done. -/
theorem Drawn.progress {listed : Array Bool} (hsz : listed.size = ops.size) (hr : Region.ready .any ops listed = []) : ∀ i, i < ops.size → listed.getD i false = true := by
  intro i
  induction i using Nat.strongRecOn with
  | _ i ih =>
    intro hi
    cases hl : listed.getD i false with
    | true => rfl
    | false =>
      exfalso
      have hmem : i ∈ Region.ready .any ops listed := by
        rw [mem_ready]
        refine ⟨?_, ops[i], Array.getElem?_eq_getElem hi, fun e he hb => ?_⟩
        · have : i < listed.size := by omega
          simp only [Array.getD_eq_getD_getElem?, Array.getElem?_eq_getElem this, Option.getD_some] at hl ⊢
          exact hl
        · have := D.back i ops[i] (Array.getElem?_eq_getElem hi) e he hb
          exact ih e.on this (by omega)
      rw [hr] at hmem
      cases hmem

omit D in
theorem getD_both' {listed : Array Bool} {i : Nat} (hi : i < listed.size) : listed.getD i true = listed.getD i false := by
  simp [Array.getD_eq_getD_getElem?, Array.getElem?_eq_getElem hi]

set_option maxHeartbeats 400000 in
/-- Whatever order the edges allow. -/
theorem Drawn.any (hcf : SoundCall P cf) {Q : Exit → Act → World → Prop} {E0 : Env} (hQ : ∀ a w E, E0.Le E → RelF w0 E (S ops.size).2 H w → FrameRel E (S ops.size).1 a n → Q .normal a w) :
    ∀ (fuel : Nat) (listed : Array Bool) (a : Act) (w : World) (E : Env), listed.size = ops.size → ops.size ≤ fuel + cnt listed ops.size → E0.Le E →
      ((Head P n ops as w0 H S k E w a (fun j => listed.getD j false = true) ∧ ∀ j, listed.getD j false = true → j < k) ∨
       (∃ j, k ≤ j ∧ j ≤ ops.size ∧ (∀ i, listed.getD i false = true ↔ i < j) ∧ RelF w0 E (S j).2 H w ∧ FrameRel E (S j).1 a n)) →
      wpAny P .any ops Q fuel listed a w := by
  have hkn := D.kn
  have hlen := D.len
  have final : ∀ (listed : Array Bool) (a : Act) (w : World) (E : Env), E0.Le E → (∀ i, i < ops.size → listed.getD i false = true) →
      ((Head P n ops as w0 H S k E w a (fun j => listed.getD j false = true) ∧ ∀ j, listed.getD j false = true → j < k) ∨
       (∃ j, k ≤ j ∧ j ≤ ops.size ∧ (∀ i, listed.getD i false = true ↔ i < j) ∧ RelF w0 E (S j).2 H w ∧ FrameRel E (S j).1 a n)) → Q .normal a w := by
    intro listed a w E hle hall hph
    rcases hph with ⟨hH, hlt⟩ | ⟨j, h1, h2, h3, h4, h5⟩
    · have hk : k = ops.size := by
        rcases Nat.lt_or_ge k ops.size with h | h
        · have := hlt k (hall k h); omega
        · omega
      obtain ⟨r1, r2⟩ := hH.toSeq D (fun j hj => hall j (by omega))
      rw [hk] at r1 r2
      exact hQ a w E hle r1 r2
    · have hj : j = ops.size := by
        rcases Nat.lt_or_ge j ops.size with h | h
        · have := (h3 j).1 (hall j h); omega
        · omega
      subst hj
      exact hQ a w E hle h4 h5
  intro fuel
  induction fuel with
  | zero =>
    intro listed a w E hsz hcnt hle hph
    have hall := cnt_full (listed := listed) (m := ops.size) (by omega)
    refine ⟨?_, final listed a w E hle hall hph⟩
    cases hr : Region.ready .any ops listed with
    | nil => rfl
    | cons j rest =>
      exfalso
      have hmem : j ∈ Region.ready .any ops listed := by rw [hr]; simp
      rw [mem_ready] at hmem
      obtain ⟨h0, o, ho, _⟩ := hmem
      have hj : j < ops.size := (Array.getElem?_eq_some_iff.1 ho).1
      rw [getD_both' (by omega), hall j hj] at h0
      cases h0
  | succ fuel ih =>
    intro listed a w E hsz hcnt hle hph
    refine ⟨fun hr => final listed a w E hle (D.progress hsz hr) hph, fun i hi => ?_⟩
    rw [mem_ready] at hi
    obtain ⟨h0, oi, hoi, hpre⟩ := hi
    have hi : i < ops.size := (Array.getElem?_eq_some_iff.1 hoi).1
    rw [getD_both' (by omega)] at h0
    have hcnt' : ops.size ≤ fuel + cnt (listed.setIfInBounds i true) ops.size := by
      rw [cnt_set h0 (by omega), if_pos hi]; omega
    have hset : ∀ j, (listed.setIfInBounds i true).getD j false = true ↔ (listed.getD j false = true ∨ j = i) := by
      intro j
      by_cases e : i = j
      · subst e
        simp [Array.getD_eq_getD_getElem?, show i < listed.size by omega]
      · rw [getD_set_ne false e]
        constructor
        · exact .inl
        · intro h; exact h.resolve_right (Ne.symm e)
    -- the state of the text, once the head is done
    have tailStep : ∀ j, k ≤ j → j ≤ ops.size → (∀ i, listed.getD i false = true ↔ i < j) → RelF w0 E (S j).2 H w → FrameRel E (S j).1 a n → wpOp P ops Q i (wpAny P .any ops Q fuel (listed.setIfInBounds i true)) a w := by
      intro j h1 h2 h3 h4 h5
      have hij : i = j := by
        have hge : ¬ i < j := fun h => by rw [(h3 i).2 h] at h0; cases h0
        rcases Nat.lt_or_ge j i with h | h
        · exfalso
          have hb := D.tail j i (by omega) hi h
          have hcl : Closed ops.toList (fun q => listed.getD q false = true) := by
            intro q o' hq hT e he hbn
            have hq' : ops[q]? = some o' := by simpa using hq
            have hlt := D.back q o' hq' e he hbn
            exact (h3 e.on).2 (by have := (h3 q).1 hT; omega)
          have := D.mask _ hcl i j hi hb (fun o' ho' e he hbn => by
            have : ops[i]? = some o' := by simpa using ho'
            rw [hoi] at this; cases this
            exact hpre e he hbn)
          have := (h3 j).1 this
          omega
        · omega
      subst hij
      obtain ⟨ao, hx⟩ : ∃ ao, as[i]? = some ao := ⟨_, List.getElem?_eq_getElem (by omega)⟩
      obtain ⟨o, site, ho, hs, hco⟩ := D.comp i ao hx
      unfold wpOp
      rw [ho]
      obtain ⟨⟨fr', L'⟩, hS1⟩ : ∃ s, S (i + 1) = s := ⟨_, rfl⟩
      obtain ⟨⟨fr, L⟩, hS0⟩ : ∃ s, S i = s := ⟨_, rfl⟩
      have hev := D.ev i ao hx
      rw [hS0, hS1] at hev
      rw [hS0] at h4 h5
      refine oper_seq hcf hco hs hev h4 h5 ?_
      intro a' w' E' hle' hR' hF'
      refine ih _ a' w' E' (by simpa using hsz) hcnt' (hle.trans hle') (.inr ⟨i + 1, by omega, by omega, fun q => ?_, ?_, ?_⟩)
      · rw [hset, h3]; omega
      · rw [hS1]; exact hR'
      · rw [hS1]; exact hF'
    rcases hph with ⟨hH, hlt⟩ | ⟨j, h1, h2, h3, h4, h5⟩
    · by_cases hik : i < k
      · refine hH.step D hcf hik (by simp [h0]) (fun o' ho' e he hb => ?_) ?_
        · rw [hoi] at ho'; cases ho'
          exact hpre e he hb
        · intro a' w' E' hleE hH'
          refine ih _ a' w' E' (by simpa using hsz) hcnt' (hle.trans hleE) (.inl ⟨?_, fun j hj => ?_⟩)
          · have : (fun j => (listed.setIfInBounds i true).getD j false = true) = (fun j => listed.getD j false = true ∨ j = i) := by
              funext j; exact propext (hset j)
            rw [this]; exact hH'
          · rcases (hset j).1 hj with h | h
            · exact hlt j h
            · omega
      · -- the whole head is done
        have hall : ∀ j, j < k → listed.getD j false = true := by
          intro j hj
          have hb := D.tail j i (by omega) hi (by omega)
          exact D.mask _ hH.closed i j hi hb (fun o' ho' e he hbn => by
            have : ops[i]? = some o' := by simpa using ho'
            rw [hoi] at this; cases this
            exact hpre e he hbn)
        obtain ⟨r1, r2⟩ := hH.toSeq D hall
        exact tailStep k (Nat.le_refl _) hkn (fun q => ⟨hlt q, hall q⟩) r1 r2
    · exact tailStep j h1 h2 h3 h4 h5

end draw

end Go.Ab

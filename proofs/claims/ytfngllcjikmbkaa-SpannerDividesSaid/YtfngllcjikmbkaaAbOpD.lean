/-
  Stores and appends.
-/
import Derived.Test.YtfngllcjikmbkaaAbOpC
import Derived.Deep.AppendSrc
import Derived.Deep.Upon
namespace Go.Ab
open Go Go.RowKit
set_option linter.unusedVariables false
set_option linter.unusedSimpArgs false
set_option linter.unnecessarySimpa false

/-- How a call began. -/
structure Base where
  w : World
  E : Env

/-- What is known within a call that began so. -/
structure RelF (w0 : Base) (E : Env) (L : List Row) (H : List (List Row)) (w : World) : Prop where
  below : Below w0.w.heap.size w0.w w
  mem : RelM E (L :: H) w
  bnd : ∀ s v o, E.own 0 s v = some o → v ≤ (rget L s).ver ∧ w0.w.heap.size ≤ o.blk
  out : ∀ d s v o, E.own (d + 1) s v = some o → w0.E.own (d + 1) s v = some o
  new : ∀ b cs, E.imm b = some cs → w0.E.imm b = some cs ∨ w0.w.heap.size ≤ b

theorem rset_rset (L : List Row) (s : Nat) (r1 r2 : Row) : rset (rset L s r1) s r2 = rset L s r2 := by
  induction L generalizing s with
  | nil =>
    induction s with
    | zero => rfl
    | succ s ih => simp [rset, ih]
  | cons q L ih => cases s <;> simp [rset, ih]

theorem RelM.drew {E : Env} {M : List (List Row)} {w : World} (h : RelM E M w) : RelM E M w.drew := ⟨h.imm, h.blk, h.cur, h.mpc, h.inj, h.nim⟩

theorem V.shifts_length (d : Nat) (l : List V) : (V.shifts d l).length = l.length := by
  induction l with
  | nil => rfl
  | cons a l ih => simp [V.shifts, ih]

theorem VRss.shift {E : Env} {d sz : Nat} : ∀ {es : List (List V)} {l : List Value}, VRss es (E.up d) sz l → VRss (es.map (V.shifts d)) E sz l
  | [], _, _ => trivial
  | e :: es, l, h => by
    simp only [VRss] at h
    simp only [List.map_cons, VRss, V.shifts_length]
    exact ⟨h.1, (VRs.shift d _ _).2 h.2.1, VRss.shift h.2.2⟩

theorem RelM.write {E : Env} {L : List Row} {H : List (List Row)} {w : World} (h : RelM E (L :: H) w) {s : Nat} {o : Own} {c c' : Array Value} {t : TypeId} {row : Row}
    (ho : E.own 0 s (rget L s).ver = some o) (hmp : o.mp = false) (hb : w.heap[o.blk]? = some (.cells c t (0, 0))) (hcs : c'.size = c.size) (hv : row.ver = (rget L s).ver) (hsz : o.sz = row.sz)
    (hr : VRss row.els E o.sz c'.toList) : RelM E (rset L s row :: H) (w.setRow o.blk c') := by
  have hnew := setRow_heap w o.blk c c' t (0, 0) hb
  refine ⟨fun b cs hi => ?_, fun d s' v o' ho' => ?_, fun d s' o' ho' hp' => ?_, fun d s' o' ho' hp' => ?_, h.inj, fun d s' o' ho' => ?_⟩
  rotate_right
  · by_cases e : d = 0 ∧ s' = s
    · obtain ⟨rfl, rfl⟩ := e
      simp only [rowAt_zero, rget_rset, if_true] at ho'
      rw [hv, ho] at ho'
      cases ho'
      exact h.nim 0 s' o (by simpa using ho)
    · have hrow : rowAt (rset L s row :: H) d s' = rowAt (L :: H) d s' := by
        cases d with
        | zero => simp only [rowAt_zero, rget_rset]; rw [if_neg (fun x => e ⟨rfl, x.symm⟩)]
        | succ d => rfl
      rw [hrow] at ho'
      exact h.nim d s' o' ho'
  · have hne : b ≠ o.blk := by
      intro e
      have := h.nim 0 s o (by simpa using ho)
      rw [e, this] at hi; cases hi
    obtain ⟨t', fr, hc⟩ := h.imm b cs hi
    exact ⟨t', fr, by rw [setRow_other w o.blk b c' hne]; exact hc⟩
  · have := h.blk d s' v o' ho'
    simpa using this
  · by_cases e : d = 0 ∧ s' = s
    · obtain ⟨rfl, rfl⟩ := e
      simp only [rowAt_zero, rget_rset, if_true] at ho' ⊢
      rw [hv, ho] at ho'
      cases ho'
      obtain ⟨c0, t0, hb0, hc0, hsz0, _⟩ := h.cur 0 s' o (by simpa using ho) hmp
      rw [hb] at hb0
      cases hb0
      exact ⟨c', t, hnew, by rw [hcs]; exact hc0, hsz, by simpa using hr⟩
    · have hrow : rowAt (rset L s row :: H) d s' = rowAt (L :: H) d s' := by
        cases d with
        | zero => simp only [rowAt_zero, rget_rset]; rw [if_neg (fun x => e ⟨rfl, x.symm⟩)]
        | succ d => rfl
      rw [hrow] at ho' ⊢
      obtain ⟨c0, t0, hb0, hc0, hsz0, hr0⟩ := h.cur d s' o' ho' hp'
      have hne : o'.blk ≠ o.blk := fun e' => by
        obtain ⟨e1, e2⟩ := h.inj _ _ _ _ _ _ _ _ ho' ho e'
        exact e ⟨e1, e2⟩
      exact ⟨c0, t0, by rw [setRow_other w o.blk o'.blk c' hne]; exact hb0, hc0, hsz0, hr0⟩
  · by_cases e : d = 0 ∧ s' = s
    · obtain ⟨rfl, rfl⟩ := e
      simp only [rowAt_zero, rget_rset, if_true] at ho' ⊢
      rw [hv, ho] at ho'
      cases ho'
      rw [hmp] at hp'; cases hp'
    · have hrow : rowAt (rset L s row :: H) d s' = rowAt (L :: H) d s' := by
        cases d with
        | zero => simp only [rowAt_zero, rget_rset]; rw [if_neg (fun x => e ⟨rfl, x.symm⟩)]
        | succ d => rfl
      rw [hrow] at ho' ⊢
      obtain ⟨es, clk, hb0, hr0⟩ := h.mpc d s' o' ho' hp'
      have hne : o'.blk ≠ o.blk := fun e' => by
        obtain ⟨e1, e2⟩ := h.inj _ _ _ _ _ _ _ _ ho' ho e'
        exact e ⟨e1, e2⟩
      exact ⟨es, clk, by rw [setRow_other w o.blk o'.blk c' hne]; exact hb0, hr0⟩

/-- A map's entries turn. -/
theorem RelM.mwrite {E : Env} {L : List Row} {H : List (List Row)} {w : World} (h : RelM E (L :: H) w) {s : Nat} {o : Own} {es es' : Array MapEntry} {clk clk' : Nat} {row : Row}
    (ho : E.own 0 s (rget L s).ver = some o) (hmp : o.mp = true) (hb : w.heap[o.blk]? = some (.map es clk)) (hv : row.ver = (rget L s).ver)
    (hr : EntR row.els E es'.toList) : RelM E (rset L s row :: H) { w with heap := w.heap.setIfInBounds o.blk (.map es' clk') } := by
  have hlt := heap_lt hb
  have hnew : (w.heap.setIfInBounds o.blk (.map es' clk'))[o.blk]? = some (.map es' clk') := by simp [hlt]
  have hoth : ∀ b, b ≠ o.blk → (w.heap.setIfInBounds o.blk (.map es' clk'))[b]? = w.heap[b]? := fun b hne => by
    rw [Array.getElem?_setIfInBounds]; rw [if_neg (fun e => hne e.symm)]
  have hrows : ∀ d s', ¬ (d = 0 ∧ s' = s) → rowAt (rset L s row :: H) d s' = rowAt (L :: H) d s' := by
    intro d s' e
    cases d with
    | zero => simp only [rowAt_zero, rget_rset]; rw [if_neg (fun x => e ⟨rfl, x.symm⟩)]
    | succ d => rfl
  refine ⟨fun b cs hi => ?_, fun d s' v o' ho' => ?_, fun d s' o' ho' hp' => ?_, fun d s' o' ho' hp' => ?_, h.inj, fun d s' o' ho' => ?_⟩
  · obtain ⟨t', fr, hc⟩ := h.imm b cs hi
    have hne : b ≠ o.blk := by intro e; subst e; rw [hb] at hc; cases hc
    exact ⟨t', fr, by rw [hoth b hne]; exact hc⟩
  · have := h.blk d s' v o' ho'
    simpa using this
  · by_cases e : d = 0 ∧ s' = s
    · obtain ⟨rfl, rfl⟩ := e
      simp only [rowAt_zero, rget_rset, if_true] at ho' ⊢
      rw [hv, ho] at ho'
      cases ho'
      rw [hmp] at hp'; cases hp'
    · rw [hrows d s' e] at ho' ⊢
      obtain ⟨c0, t0, hb0, hc0, hsz0, hr0⟩ := h.cur d s' o' ho' hp'
      have hne : o'.blk ≠ o.blk := fun e' => by
        obtain ⟨e1, e2⟩ := h.inj _ _ _ _ _ _ _ _ ho' ho e'
        exact e ⟨e1, e2⟩
      exact ⟨c0, t0, by rw [hoth _ hne]; exact hb0, hc0, hsz0, hr0⟩
  · by_cases e : d = 0 ∧ s' = s
    · obtain ⟨rfl, rfl⟩ := e
      simp only [rowAt_zero, rget_rset, if_true] at ho' ⊢
      rw [hv, ho] at ho'
      cases ho'
      exact ⟨es', clk', hnew, by simpa using hr⟩
    · rw [hrows d s' e] at ho' ⊢
      obtain ⟨es0, clk0, hb0, hr0⟩ := h.mpc d s' o' ho' hp'
      have hne : o'.blk ≠ o.blk := fun e' => by
        obtain ⟨e1, e2⟩ := h.inj _ _ _ _ _ _ _ _ ho' ho e'
        exact e ⟨e1, e2⟩
      exact ⟨es0, clk0, by rw [hoth _ hne]; exact hb0, hr0⟩
  · by_cases e : d = 0 ∧ s' = s
    · obtain ⟨rfl, rfl⟩ := e
      simp only [rowAt_zero, rget_rset, if_true] at ho'
      rw [hv] at ho'
      exact h.nim 0 s' o' (by simpa using ho')
    · rw [hrows d s' e] at ho'
      exact h.nim d s' o' ho'

theorem RelM.bump {E : Env} {L : List Row} {H : List (List Row)} {w : World} (h : RelM E (L :: H) w) {s : Nat} {o : Own}
    (ho : E.own 0 s (rget L s).ver = some o) (hf : E.own 0 s ((rget L s).ver + 1) = none) :
    RelM (E.addOwn s ((rget L s).ver + 1) o) (rset L s { rget L s with ver := (rget L s).ver + 1 } :: H) w := by
  have hle := Env.le_addOwn (o := o) hf
  refine ⟨h.imm, fun d s' v o' ho' => ?_, fun d s' o' ho' hp' => ?_, fun d s' o' ho' hp' => ?_, fun d s₁ v₁ o₁ d' s₂ v₂ o₂ h1 h2 he => ?_, fun d s' o' ho' => ?_⟩
  rotate_right
  · simp only [Env.addOwn] at ho'
    by_cases e : d = 0 ∧ s' = s
    · obtain ⟨rfl, rfl⟩ := e
      simp only [rowAt_zero, rget_rset, if_true, and_self] at ho'
      cases ho'
      exact h.nim 0 s' _ (by simpa using ho)
    · have hrow : rowAt (rset L s { rget L s with ver := (rget L s).ver + 1 } :: H) d s' = rowAt (L :: H) d s' := by
        cases d with
        | zero => simp only [rowAt_zero, rget_rset]; rw [if_neg (fun x => e ⟨rfl, x.symm⟩)]
        | succ d => rfl
      rw [hrow, if_neg (fun x => e ⟨x.1, x.2.1⟩)] at ho'
      exact h.nim d s' o' ho'
  · simp only [Env.addOwn] at ho'
    split at ho'
    · cases ho'; exact h.blk _ _ _ _ ho
    · exact h.blk d s' v o' ho'
  · simp only [Env.addOwn] at ho'
    by_cases e : d = 0 ∧ s' = s
    · obtain ⟨rfl, rfl⟩ := e
      simp only [rowAt_zero, rget_rset, if_true, and_self] at ho' ⊢
      cases ho'
      obtain ⟨c0, t0, hb0, hc0, hsz0, hr0⟩ := h.cur 0 s' _ (by simpa using ho) hp'
      exact ⟨c0, t0, hb0, hc0, hsz0, VRss.mono (hle.up 0) _ _ _ hr0⟩
    · have hrow : rowAt (rset L s { rget L s with ver := (rget L s).ver + 1 } :: H) d s' = rowAt (L :: H) d s' := by
        cases d with
        | zero => simp only [rowAt_zero, rget_rset]; rw [if_neg (fun x => e ⟨rfl, x.symm⟩)]
        | succ d => rfl
      rw [hrow] at ho' ⊢
      rw [if_neg (fun x => e ⟨x.1, x.2.1⟩)] at ho'
      obtain ⟨c0, t0, hb0, hc0, hsz0, hr0⟩ := h.cur d s' o' ho' hp'
      exact ⟨c0, t0, hb0, hc0, hsz0, VRss.mono (hle.up d) _ _ _ hr0⟩
  · simp only [Env.addOwn] at ho'
    by_cases e : d = 0 ∧ s' = s
    · obtain ⟨rfl, rfl⟩ := e
      simp only [rowAt_zero, rget_rset, if_true, and_self] at ho' ⊢
      cases ho'
      obtain ⟨c0, t0, hb0, hr0⟩ := h.mpc 0 s' _ (by simpa using ho) hp'
      exact ⟨c0, t0, hb0, EntR.mono (hle.up 0) hr0⟩
    · have hrow : rowAt (rset L s { rget L s with ver := (rget L s).ver + 1 } :: H) d s' = rowAt (L :: H) d s' := by
        cases d with
        | zero => simp only [rowAt_zero, rget_rset]; rw [if_neg (fun x => e ⟨rfl, x.symm⟩)]
        | succ d => rfl
      rw [hrow] at ho' ⊢
      rw [if_neg (fun x => e ⟨x.1, x.2.1⟩)] at ho'
      obtain ⟨c0, t0, hb0, hr0⟩ := h.mpc d s' o' ho' hp'
      exact ⟨c0, t0, hb0, EntR.mono (hle.up d) hr0⟩
  · simp only [Env.addOwn] at h1 h2
    split at h1 <;> split at h2
    · rename_i e e'; exact ⟨e.1.trans e'.1.symm, e.2.1.trans e'.2.1.symm⟩
    · rename_i e e'; cases h1
      have := h.inj _ _ _ _ _ _ _ _ ho h2 he
      exact ⟨e.1.trans this.1, e.2.1.trans this.2⟩
    · rename_i e e'; cases h2
      have := h.inj _ _ _ _ _ _ _ _ h1 ho he
      exact ⟨this.1.trans e'.1.symm, this.2.trans e'.2.1.symm⟩
    · exact h.inj _ _ _ _ _ _ _ _ h1 h2 he

theorem below_setRow {B : Nat} {w0 w : World} (h : Below B w0 w) {b : Nat} (hb : B ≤ b) (c : Array Value) : Below B w0 (w.setRow b c) :=
  ⟨h.os, h.tape, h.output, by simpa using h.size, fun k hk => by rw [setRow_other w b k c (by omega)]; exact h.block k hk⟩

/-- What an operation may do that changes rows. -/
def Turns (P : Program) (w0 : Base) (E : Env) (L' : List Row) (H : List (List Row)) (w : World) (o : Oper) (a : Act) (v : V) : Prop :=
  ∃ nx w' E' x, (execOp a.eval o).run P w = .ok nx w' ∧ (nx = .value x ∨ (nx = .skip ∧ x = undef)) ∧ E.Le E' ∧ RelF w0 E' L' H w' ∧ VR v E' x

theorem VRss.length_all {E : Env} : ∀ {es : List (List V)} {sz : Nat} {l : List Value}, VRss es E sz l → ∀ e ∈ es, e.length = sz
  | [], _, _, _, e, he => by cases he
  | a :: es, sz, l, h, e, he => by
    simp only [VRss] at h
    rcases List.mem_cons.1 he with rfl | he
    · exact h.1
    · exact VRss.length_all h.2.2 e he

/-- One element of a row is written anew. -/
theorem VRss.set {E : Env} : ∀ {es : List (List V)} {sz : Nat} {l : List Value} {i : Nat} {e : List V} {m : List Value}, VRss es E sz l → i < es.length → e.length = sz → VRs e E m →
    VRss (es.set i e) E sz (l.take (i * sz) ++ m ++ l.drop (i * sz + sz))
  | [], _, _, i, _, _, _, hi, _, _ => by simp at hi
  | a :: es, sz, l, 0, e, m, h, _, he, hm => by
    have hml := hm.length
    simp only [VRss] at h
    simp only [List.set_cons_zero, Nat.zero_mul, List.take_zero, List.nil_append, Nat.zero_add, VRss]
    refine ⟨he, ?_, ?_⟩
    · rw [List.take_append_of_le_length (by omega), List.take_of_length_le (by omega)]; exact hm
    · rw [List.drop_append_of_le_length (by omega), List.drop_of_length_le (by omega), List.nil_append]; exact h.2.2
  | a :: es, sz, l, i + 1, e, m, h, hi, he, hm => by
    simp only [VRss] at h
    have hal := h.2.1.length
    simp only [List.length_take] at hal
    simp only [List.length_cons] at hi
    have ih := VRss.set h.2.2 (i := i) (by omega) he hm
    simp only [List.set_cons_succ, VRss]
    refine ⟨h.1, ?_, ?_⟩
    · rw [List.append_assoc, List.take_append_of_le_length (by simp [Nat.succ_mul]; omega), List.take_take, Nat.min_eq_left (by rw [Nat.succ_mul]; omega)]
      exact h.2.1
    · rw [List.append_assoc, List.drop_append_of_le_length (by simp [Nat.succ_mul]; omega), ← List.append_assoc, List.drop_take, show (i + 1) * sz - sz = i * sz by rw [Nat.succ_mul]; omega]
      rw [show (i + 1) * sz + sz = sz + (i * sz + sz) by rw [Nat.succ_mul]; omega, ← List.drop_drop]
      exact ih

theorem splice_length {cs p : List V} {off : Nat} (h : off + p.length ≤ cs.length) : (splice cs off p).length = cs.length := by
  simp [splice]; omega

theorem seg_in {α : Type} (l q : List α) (base off sz : Nat) (h1 : off + q.length ≤ sz) (h2 : base + sz ≤ l.length) :
    l.take (base + off) ++ q ++ l.drop (base + off + q.length) =
      l.take base ++ ((l.drop base).take off ++ q ++ ((l.drop base).take sz).drop (off + q.length)) ++ l.drop (base + sz) := by
  have e1 : l.drop (base + off + q.length) = ((l.drop base).take sz).drop (off + q.length) ++ l.drop (base + sz) := by
    have e2 : l.drop base = (l.drop base).take sz ++ l.drop (base + sz) := by
      rw [← List.drop_drop, List.take_append_drop]
    rw [Nat.add_assoc, ← List.drop_drop]
    conv => lhs; rw [e2]
    rw [List.drop_append_of_le_length (by simp; omega)]
  rw [e1, List.take_add]
  simp [List.append_assoc]

theorem store_turns {P : Program} {E : Env} {w0 : Base} {w : World} {o : Oper} {a : Act} {t : TypeId} {n : Nat} {x y : Operand} {v1 v2 : V} {L L' : List Row} {H : List (List Row)} (ho : o.op = .store t x y) (hn : tSize P t = some n)
    (h : RelF w0 E L H w) (h1 : VR v1 E (a.eval x)) (h2 : VR v2 E (a.eval y)) (he : storeV L n v1 v2 = some L') : Turns P w0 E L' H w o a (.tup []) := by
  unfold storeV at he
  split at he
  · rename_i s ver i off
    dsimp only at he
    split at he
    · rename_i hc
      obtain ⟨hver, h0, hpl, hsc⟩ := hc
      simp only [Option.bind_eq_some_iff] at he
      obtain ⟨e, hei, he⟩ := he
      split at he
      · rename_i hle
        cases he
        simp only [VR] at h1
        obtain ⟨ow, hown, hmp, hx⟩ := h1
        rw [← hver] at hown
        obtain ⟨c, t', hb, hcs, hsz, hrow⟩ := h.mem.cur 0 s ow hown hmp
        simp only [rowAt_zero, Env.up_zero] at hrow hsz
        have hcell := VR.cells hsc h2
        have hcl := hcell.length
        obtain ⟨hel, hev⟩ := hrow.at hei
        have hilt := (List.getElem?_eq_some_iff.1 hei).1
        have hbound := hrow.bound
        have hmul : (i + 1) * ow.sz ≤ (rget L s).els.length * ow.sz := Nat.mul_le_mul_right _ hilt
        rw [Nat.succ_mul] at hmul
        simp only [Array.length_toList] at hbound
        obtain ⟨ti, hti, htn⟩ := Option.map_eq_some_iff.1 hn
        have hst := run_storeCells_at P ow.blk (i * ow.sz + off) t' (a.eval y).cells.toList 0 c w hb (by omega) (VRs.oneCell hsc hcell)
        simp only [Nat.add_zero] at hst
        rw [seg_in c.toList (a.eval y).cells.toList (i * ow.sz) off ow.sz (by omega) (by simp; omega)] at hst
        generalize hc' : (c.toList.take (i * ow.sz) ++ ((c.toList.drop (i * ow.sz)).take off ++ (a.eval y).cells.toList ++ ((c.toList.drop (i * ow.sz)).take ow.sz).drop (off + (a.eval y).cells.toList.length)) ++ c.toList.drop (i * ow.sz + ow.sz)).toArray = c' at hst
        have hc'l : c'.toList = c.toList.take (i * ow.sz) ++ ((c.toList.drop (i * ow.sz)).take off ++ (a.eval y).cells.toList ++ ((c.toList.drop (i * ow.sz)).take ow.sz).drop (off + (a.eval y).cells.toList.length)) ++ c.toList.drop (i * ow.sz + ow.sz) := by
          rw [← hc']
        have hsp := hev.splice off hcell
        rw [List.take_take, Nat.min_eq_left (by omega)] at hsp
        have hset := hrow.set hilt (by rw [splice_length (by omega)]; exact hel) hsp
        rw [← hc'l] at hset
        have hlen : c'.size = c.size := by
          have : c'.toList.length = c.toList.length := by
            rw [hc'l, ← seg_in c.toList (a.eval y).cells.toList (i * ow.sz) off ow.sz (by omega) (by simp; omega)]
            simp only [List.length_append, List.length_take, List.length_drop, hcl, Array.length_toList]
            rw [Nat.min_eq_left (by omega)]
            omega
          simpa using this
        have hmem := h.mem.write (row := { rget L s with els := (rget L s).els.set i (splice e off v2.cells) }) hown hmp hb hlen rfl hsz hset
        refine ⟨.skip, _, E, undef, ?_, .inr ⟨rfl, rfl⟩, .refl _, ⟨below_setRow h.below (h.bnd _ _ _ hown).2 _, hmem, ?_, h.out, h.new⟩, ⟨#[], rfl, rfl⟩⟩
        · simp only [execOp, ho, Instr.storeAt, hx, Instr.sureAddr, storeVar, Sem.run_bind, Sem.run_pure, Result.andThen_ok, run_sizeOf hn]
          rw [if_neg (by simp only [Array.length_toList] at hcl; omega), hst]
          rfl
        · intro s' v' o' ho'
          have := h.bnd s' v' o' ho'
          rw [rget_rset]
          split
          · rename_i e'; subst e'; exact this
          · exact this
      · cases he
    · cases he
  · cases he

theorem EntR.modify {E : Env} {k v : V} {x y : Value} {j j' : Nat} {e : MapEntry} (hk : VR k E x) (hv : VR v E y) {es : List (List V)} {l : Array MapEntry} {l' : List MapEntry} (hp : l'.Perm l.toList) (h : EntO es E l') (hj : l'[j]? = some e) (hj' : l.toList[j']? = some e) :
    EntR (es.set j [k, v]) E (l.modify j' fun e => { e with key := x, val := y }).toList := by
  have hlt := (List.getElem?_eq_some_iff.1 hj').1
  have hlt2 := (List.getElem?_eq_some_iff.1 hj).1
  have hlen := h.length
  have e1 : (l.modify j' fun e => { e with key := x, val := y }).toList = l.toList.set j' { e with key := x, val := y } := by
    have he : l[j']? = some e := by simpa using hj'
    apply List.ext_getElem?
    intro n
    simp only [Array.getElem?_toList, Array.getElem?_modify, List.getElem?_set, Array.length_toList]
    split
    · rename_i e2; subst e2
      simp only [Array.length_toList] at hlt
      have he2 : l[j'] = e := by simpa [hlt] using he
      simp [hlt, he, he2]
    · rfl
  rw [e1]
  refine ⟨l'.set j { e with key := x, val := y }, ?_, h.set (m := { e with key := x, val := y }) (by simp only [VRs]; exact ⟨_, _, rfl, hk, _, _, rfl, hv, rfl⟩) (by omega)⟩
  refine (perm_set hlt2).trans (.trans ?_ (perm_set hlt).symm)
  have := ((perm_eraseIdx hj).symm.trans hp).trans (perm_eraseIdx hj')
  exact (this.cons_inv).cons _

/-- Behind a change of a map's entries. -/
theorem turns_map {P : Program} {E : Env} {w0 : Base} {w : World} {o : Oper} {a : Act} {t kt et : TypeId} {m : MK} {x y z : Operand} {v1 v2 v3 : V} {L L' : List Row} {H : List (List Row)} (ho : o.op = .mapUpdate t x y z ∨ o.op = .insert t x y z)
    (h : RelF w0 E L H w) {s : Nat} {ow : Own} {es es' : Array MapEntry} {clk clk' : Nat} {row : Row} (hown : E.own 0 s (rget L s).ver = some ow) (hmp : ow.mp = true) (hb : w.heap[ow.blk]? = some (.map es clk))
    (hv : row.ver = (rget L s).ver) (hr : EntR row.els E es'.toList) (hL : L' = rset L s row)
    (hrun : (Instr.mapUpdate t (a.eval x) (a.eval y) (a.eval z)).run P w = .ok () { w with heap := w.heap.setIfInBounds ow.blk (.map es' clk') }) : Turns P w0 E L' H w o a (.tup []) := by
  have hex : ∀ {w' : World}, (Instr.mapUpdate t (a.eval x) (a.eval y) (a.eval z)).run P w = .ok () w' → (execOp a.eval o).run P w = .ok .skip w' := by
    intro w' hr
    rcases ho with ho | ho <;> simp [execOp, ho, hr]
  have hmem := h.mem.mwrite (row := row) (es' := es') (clk' := clk') hown hmp hb hv hr
  subst hL
  refine ⟨.skip, _, E, undef, hex hrun, .inr ⟨rfl, rfl⟩, .refl _, ⟨?_, hmem, ?_, h.out, h.new⟩, ⟨#[], rfl, rfl⟩⟩
  · have hbb := (h.bnd _ _ _ hown).2
    refine ⟨h.below.os, h.below.tape, h.below.output, by simpa using h.below.size, fun k hk => ?_⟩
    have := h.below.block k hk
    rw [← this]
    show (w.heap.setIfInBounds ow.blk _)[k]? = _
    rw [Array.getElem?_setIfInBounds, if_neg (by omega)]
  · intro s' v' o' ho'
    have := h.bnd s' v' o' ho'
    rw [rget_rset]
    split
    · rename_i e'; subst e'; rw [hv]; exact this
    · exact this

theorem mput_turns {P : Program} {E : Env} {w0 : Base} {w : World} {o : Oper} {a : Act} {t kt et : TypeId} {m : MK} {x y z : Operand} {v1 v2 v3 : V} {L L' : List Row} {H : List (List Row)} (ho : o.op = .mapUpdate t x y z ∨ o.op = .insert t x y z)
    (ht : P.underlying t = some (.map kt et)) (hk : tKey P kt = some m)
    (h : RelF w0 E L H w) (h1 : VR v1 E (a.eval x)) (h2 : VR v2 E (a.eval y)) (h3 : VR v3 E (a.eval z)) (he : mputV L m v1 v2 v3 = some L') : Turns P w0 E L' H w o a (.tup []) := by
  unfold mputV at he
  split at he
  · rename_i s ver
    dsimp only at he
    split at he
    · rename_i hc
      obtain ⟨hver, h0⟩ := hc
      obtain ⟨r, hf, he⟩ := Option.map_eq_some_iff.1 he
      simp only [VR] at h1
      obtain ⟨ow, hown, hmp, hx⟩ := h1
      rw [← hver] at hown
      obtain ⟨es, clk, hb, hrow⟩ := h.mem.mpc 0 s ow hown hmp
      simp only [rowAt_zero, Env.up_zero] at hrow
      obtain ⟨kd, hd, hm⟩ := Option.bind_eq_some_iff.1 hk
      obtain ⟨r', g1, g2⟩ := findNow_of hm h2 hrow hf
      have hck := run_checkKey_of (w := w) hd hm false (a.eval y)
      have hfk := run_findKey_of (w := w) hd g1
      unfold FoundR at g2
      split at g2
      · simp only at he
        refine turns_map (kt := kt) (et := et) (m := m) (v1 := v2) (v2 := v2) (v3 := v3) ho h (row := { rget L s with els := (rget L s).els ++ [[v2, v3]] }) (es' := es.push { key := a.eval y, val := a.eval z, born := clk }) (clk' := clk + 1) hown hmp hb rfl ?_ he.symm ?_
        · rw [Array.toList_push]
          exact EntR.snoc (m := { key := a.eval y, val := a.eval z, born := clk }) (by simp only [VRs]; exact ⟨_, _, rfl, h2, _, _, rfl, h3, rfl⟩) hrow
        · simp only [Instr.mapUpdate, Sem.run_bind, run_underlying ht, Result.andThen_ok, hx, run_getMap hb, hck, hfk]
          exact run_setMap _ hb
      · rename_i j u j' u'
        obtain ⟨hv, e, l', e2, e3, e4, e5, e6, e7⟩ := g2
        simp only at he
        refine turns_map (kt := kt) (et := et) (m := m) (v1 := v2) (v2 := v2) (v3 := v3) ho h (row := { rget L s with els := (rget L s).els.set j [v2, v3] }) (es' := es.modify j' fun e => { e with key := a.eval y, val := a.eval z }) (clk' := clk) hown hmp hb rfl (EntR.modify h2 h3 e5 e6 e7 e2) he.symm ?_
        have e8 : es[j']? = some e := by simpa using e2
        simp only [Instr.mapUpdate, Sem.run_bind, run_underlying ht, Result.andThen_ok, hx, run_getMap hb, hck, hfk, e8, Option.map_some, Option.getD_some, Instr.keyThatStays, e4, if_true, Sem.run_pure]
        exact run_setMap _ hb
      · exact g2.elim
    · cases he
  · cases he

theorem mins_mput {L L' : List Row} {m : MK} {v1 v2 v3 : V} (he : minsV L m v1 v2 v3 = some L') : mputV L m v1 v2 v3 = some L' := by
  unfold minsV at he
  split at he
  · dsimp only at he
    split at he
    · rename_i hc
      split at he
      · rename_i hf
        cases he
        unfold mputV
        simp only [hc, and_self, if_true, hf, Option.map_some]
      · cases he
    · cases he
  · cases he

/-- The order of a map's entries is not known. -/
theorem RelM.perm {E : Env} {L : List Row} {H : List (List Row)} {w : World} (h : RelM E (L :: H) w) {s : Nat} {o : Own} {row : Row}
    (ho : E.own 0 s (rget L s).ver = some o) (hmp : o.mp = true) (hv : row.ver = (rget L s).ver) (hp : row.els.Perm (rget L s).els) : RelM E (rset L s row :: H) w := by
  have hrows : ∀ d s', ¬ (d = 0 ∧ s' = s) → rowAt (rset L s row :: H) d s' = rowAt (L :: H) d s' := by
    intro d s' e
    cases d with
    | zero => simp only [rowAt_zero, rget_rset]; rw [if_neg (fun x => e ⟨rfl, x.symm⟩)]
    | succ d => rfl
  refine ⟨h.imm, h.blk, fun d s' o' ho' hp' => ?_, fun d s' o' ho' hp' => ?_, h.inj, fun d s' o' ho' => ?_⟩
  · by_cases e : d = 0 ∧ s' = s
    · obtain ⟨rfl, rfl⟩ := e
      simp only [rowAt_zero, rget_rset, if_true] at ho' ⊢
      rw [hv, ho] at ho'
      cases ho'
      rw [hmp] at hp'; cases hp'
    · rw [hrows d s' e] at ho' ⊢
      exact h.cur d s' o' ho' hp'
  · by_cases e : d = 0 ∧ s' = s
    · obtain ⟨rfl, rfl⟩ := e
      simp only [rowAt_zero, rget_rset, if_true] at ho' ⊢
      rw [hv, ho] at ho'
      cases ho'
      obtain ⟨es, clk, hb, hr⟩ := h.mpc 0 s' _ (by simpa using ho) hp'
      exact ⟨es, clk, hb, hr.perm hp⟩
    · rw [hrows d s' e] at ho' ⊢
      exact h.mpc d s' o' ho' hp'
  · by_cases e : d = 0 ∧ s' = s
    · obtain ⟨rfl, rfl⟩ := e
      simp only [rowAt_zero, rget_rset, if_true] at ho'
      rw [hv] at ho'
      exact h.nim 0 s' o' (by simpa using ho')
    · rw [hrows d s' e] at ho'
      exact h.nim d s' o' ho'

theorem RelF.perm {w0 : Base} {E : Env} {L : List Row} {H : List (List Row)} {w : World} (h : RelF w0 E L H w) {s : Nat} {o : Own} {row : Row}
    (ho : E.own 0 s (rget L s).ver = some o) (hmp : o.mp = true) (hv : row.ver = (rget L s).ver) (hp : row.els.Perm (rget L s).els) : RelF w0 E (rset L s row) H w := by
  refine ⟨h.below, h.mem.perm ho hmp hv hp, fun s' v' o' ho' => ?_, h.out, h.new⟩
  have := h.bnd s' v' o' ho'
  rw [rget_rset]
  split
  · rename_i e'; subst e'; rw [hv]; exact this
  · exact this

/-- What is appended. -/
theorem src_of {P : Program} {E : Env} {w : World} {L : List Row} {H : List (List Row)} {u e' : TypeId} {sz : Nat} {y : V} {x : Value} {new : List (List V)} (hu : P.underlying u = some (.slice e')) (hm : RelM E (L :: H) w) (hy : VR y E x)
    (he : elsOf (L :: H) y = some new) (hall : new = [] ∨ new.all (fun e => e.length = sz ∧ e.all V.scalar) = true) : ∃ news, Src P sz u x new.length news w ∧ VRs new.flatten E news ∧ (∀ e ∈ new, e.length = sz) := by
  have hone : ∀ {l : List Value}, VRs new.flatten E l → ∀ z ∈ l, z.oneCell' = true := by
    intro l hl
    refine VRs.oneCell ?_ hl
    rcases hall with rfl | hall
    · rfl
    · rw [List.all_eq_true] at hall ⊢
      intro v hv
      obtain ⟨e, he1, he2⟩ := List.mem_flatten.1 hv
      have := hall e he1
      simp only [decide_eq_true_eq, List.all_eq_true] at this
      exact this.2 v he2
  have hlens : ∀ e ∈ new, e.length = sz := by
    intro e hee
    rcases hall with rfl | hall
    · cases hee
    · rw [List.all_eq_true] at hall
      have := hall e hee
      simp only [decide_eq_true_eq] at this
      exact this.1
  unfold elsOf at he
  split at he
  · cases he
    simp only [VR] at hy; subst hy
    exact ⟨[], Src.ofNil (P := P) w hu 0, rfl, hlens⟩
  · rename_i k szs els
    split at he
    · cases he
    · cases he
      simp only [VR] at hy
      obtain ⟨_, ⟨b, off, sp⟩, cap, rfl, hle, _, hcs⟩ := hy
      rcases hcs with rfl | ⟨cs, hsp, him, hcs⟩
      · exact ⟨[], Src.ofSlice (P := P) w hu _ _ _ [] (by simp) (by simp) (by simp), rfl, hlens⟩
      · simp only at hsp him hcs; subst hsp
        obtain ⟨t', fr', hbl⟩ := hm.imm b cs him
        by_cases hn : new = []
        · subst hn
          exact ⟨[], Src.ofSlice (P := P) w hu _ _ _ [] (by simp) (by simp) (by simp), rfl, hlens⟩
        · have hszs : szs = sz := by
            obtain ⟨e, hee⟩ := List.exists_mem_of_ne_nil _ hn
            rw [← hcs.length_all e hee, hlens e hee]
          subst hszs
          have hfl := VRs.mono E.bare_le _ _ hcs.flat
          have hbd := hcs.bound
          simp only [List.length_drop, Array.length_toList] at hbd
          refine ⟨_, Src.ofSlice (P := P) w hu _ _ _ _ (by simp; omega) ?_ (hone hfl), hfl, hlens⟩
          intro j z hj
          rw [add_off, cell_of hbl]
          have hjl := (List.getElem?_eq_some_iff.1 hj).1
          simp only [List.length_take, List.length_drop] at hjl
          rw [List.getElem?_take_of_lt (by omega), List.getElem?_drop] at hj
          exact hj
  · rename_i d s ver szr off len
    dsimp only at he
    split at he
    · rename_i hc
      cases he
      simp only [VR] at hy
      obtain ⟨ow, ad, cap, hown, hmp, rfl, hszr, hle, hcs⟩ := hy
      rw [← hc.1] at hown
      obtain ⟨c, t', hb, hcsz, hsz, hrow⟩ := hm.cur d s ow hown hmp
      have hseg := ((hrow.drop off).take len).shift
      have hnl : ((((rowAt (L :: H) d s).els.drop off).take len).map (V.shifts d)).length = len := by simp; omega
      rcases hcs with rfl | ⟨rfl, hcs⟩
      · have hl0 : len = 0 := by omega
        subst hl0
        exact ⟨[], by rw [hnl]; exact Src.ofSlice (P := P) w hu _ _ _ [] (by simp) (by simp) (by simp), by simp [VRs], hlens⟩
      · by_cases hn : (((rowAt (L :: H) d s).els.drop off).take len).map (V.shifts d) = []
        · have hl0 : len = 0 := by rw [← hnl, hn]; rfl
          subst hl0
          exact ⟨[], by rw [hnl]; exact Src.ofSlice (P := P) w hu _ _ _ [] (by simp) (by simp) (by simp), by simp [VRs], hlens⟩
        · have hszs : ow.sz = sz := by
            obtain ⟨e, hee⟩ := List.exists_mem_of_ne_nil _ hn
            rw [← hseg.length_all e hee, hlens e hee]
          have hfl := hseg.flat
          have hbd := hseg.bound
          rw [hnl] at hfl hbd ⊢
          simp only [List.length_drop, Array.length_toList] at hbd
          rw [hszs] at hfl hbd ⊢
          refine ⟨_, Src.ofSlice (P := P) w hu _ _ _ _ (by simp; omega) ?_ (hone hfl), hfl, hlens⟩
          intro j z hj
          rw [add_off, cell_of hb]
          have hjl := (List.getElem?_eq_some_iff.1 hj).1
          simp only [List.length_take, List.length_drop] at hjl
          rw [List.getElem?_take_of_lt (by omega), List.getElem?_drop] at hj
          exact hj
    · cases he
  · cases he

theorem RelF.fresh {w0 : Base} {E : Env} {L : List Row} {H : List (List Row)} {w : World} (h : RelF w0 E L H w) (s : Nat) {v : Nat} (hv : (rget L s).ver < v) : E.own 0 s v = none := by
  cases ho : E.own 0 s v with
  | none => rfl
  | some o => have := (h.bnd s v o ho).1; omega

/-! ### Rows that are given up -/

theorem frzV_rel {E : Env} {w0 : Base} {w : World} {L L' : List Row} {H : List (List Row)} {v v' : V} {x : Value} (h : RelF w0 E L H w) (hv : VR v E x) (he : frzV L v = some (v', L')) :
    ∃ E', E.Le E' ∧ RelF w0 E' L' H w ∧ VR v' E' x := by
  unfold frzV at he
  split at he
  · rename_i s ver sz off len
    dsimp only at he
    split at he
    · rename_i hc
      obtain ⟨hver, h0, hle, hp⟩ := hc
      cases he
      simp only [VR] at hv
      obtain ⟨o, a, cap, ho, hmp, rfl, hosz, hlc, hcs⟩ := hv
      rw [← hver] at ho
      obtain ⟨c, t, hb, hcsz, hsz, hrow⟩ := h.mem.cur 0 s o (by simpa using ho) hmp
      simp only [rowAt_zero, Env.up_zero] at hrow hsz
      have hi := h.mem.nim 0 s o (by simpa using ho)
      have hle' := Env.le_addImm (c := c) hi
      have hcur : ∀ d s' o', E.own d s' (rowAt (rset L s ⟨ver + 1, 0, []⟩ :: H) d s').ver = some o' → ¬ (d = 0 ∧ s' = s) ∧ rowAt (rset L s ⟨ver + 1, 0, []⟩ :: H) d s' = rowAt (L :: H) d s' := by
        intro d s' o' ho'
        cases d with
        | succ d => exact ⟨by simp, rfl⟩
        | zero =>
          simp only [rowAt_zero, rget_rset] at ho' ⊢
          split at ho'
          · rename_i e
            subst e
            have := (h.bnd _ _ _ ho').1
            simp only at this
            omega
          · rename_i e
            rw [if_neg e]
            exact ⟨fun z => e z.2.symm, rfl⟩
      have hM : RelM E (rset L s ⟨ver + 1, 0, []⟩ :: H) w := h.mem.change fun d s' o' ho' => (hcur d s' o' ho').2
      have hM' := hM.addImm hi hb (fun d s' o' ho' e => by
        have h1 := (hcur d s' o' ho').1
        exact h1 (h.mem.inj _ _ _ _ _ _ _ _ ho' ho e))
      refine ⟨_, hle', ⟨h.below, hM', fun s' v o' ho' => ?_, h.out, fun b cs hb' => ?_⟩, ?_⟩
      · have := h.bnd s' v o' ho'
        refine ⟨?_, this.2⟩
        rw [rget_rset]
        split
        · rename_i e; subst e; have := this.1; simp only; omega
        · exact this.1
      · simp only [Env.addImm] at hb'
        split at hb'
        · rename_i e; subst e
          exact .inr (h.bnd _ _ _ ho).2
        · exact h.new b cs hb'
      · simp only [VR]
        have hll : (((rget L s).els.drop off).take len).length = len := by simp; omega
        refine ⟨by simp, a, cap, by rw [hll], by rw [hll]; exact hlc, by simp, ?_⟩
        rcases hcs with h1 | ⟨rfl, h2⟩
        · left
          exact List.eq_nil_of_length_eq_zero (by omega)
        · right
          refine ⟨c, rfl, by simp [Env.addImm], ?_⟩
          have h3 := ((VRss.pure hp hrow).drop off).take len
          rw [hosz] at h3 ⊢
          exact VRss.mono hle'.bare _ _ _ h3
    · cases he
  · cases he
    exact ⟨E, .refl _, h, hv⟩

theorem frzL_rel {w0 : Base} {w : World} {H : List (List Row)} : ∀ {vs vs' : List V} {xs : List Value} {E : Env} {L L' : List Row}, RelF w0 E L H w → VRs vs E xs → frzL L vs = some (vs', L') →
    ∃ E', E.Le E' ∧ RelF w0 E' L' H w ∧ VRs vs' E' xs
  | [], vs', xs, E, L, L', h, hv, he => by
    simp only [frzL, Option.some.injEq, Prod.mk.injEq] at he
    obtain ⟨rfl, rfl⟩ := he
    exact ⟨E, .refl _, h, hv⟩
  | v :: vs, vs', xs, E, L, L', h, hv, he => by
    simp only [frzL, Option.bind_eq_some_iff, Option.map_eq_some_iff, Prod.mk.injEq] at he
    obtain ⟨⟨v1, L1⟩, h1, ⟨vs2, L2⟩, h2, rfl, rfl⟩ := he
    simp only [VRs] at hv
    obtain ⟨x, xs', rfl, hx, hxs⟩ := hv
    obtain ⟨E1, e1, r1, q1⟩ := frzV_rel h hx h1
    obtain ⟨E2, e2, r2, q2⟩ := frzL_rel r1 (VRs.mono e1 _ _ hxs) h2
    exact ⟨E2, e1.trans e2, r2, ⟨x, xs', rfl, VR.mono e2 _ _ q1, q2⟩⟩

theorem frzD_rel {E : Env} {w0 : Base} {w : World} {L L' : List Row} {H : List (List Row)} {v v' : V} {x : Value} (h : RelF w0 E L H w) (hv : VR v E x) (he : frzD L v = some (v', L')) :
    ∃ E', E.Le E' ∧ RelF w0 E' L' H w ∧ VR v' E' x := by
  unfold frzD at he
  split at he
  · obtain ⟨⟨vs, L2⟩, h1, h2⟩ := Option.map_eq_some_iff.1 he
    cases h2
    simp only [VR] at hv
    obtain ⟨c, rfl, hc⟩ := hv
    obtain ⟨E', e1, e2, e3⟩ := frzL_rel h hc h1
    exact ⟨E', e1, e2, c, rfl, e3⟩
  · exact frzV_rel h hv he

theorem frzDs_rel {w0 : Base} {w : World} {H : List (List Row)} : ∀ {vs vs' : List V} {xs : List Value} {E : Env} {L L' : List Row}, RelF w0 E L H w → VRs vs E xs → frzDs L vs = some (vs', L') →
    ∃ E', E.Le E' ∧ RelF w0 E' L' H w ∧ VRs vs' E' xs
  | [], vs', xs, E, L, L', h, hv, he => by
    simp only [frzDs, Option.some.injEq, Prod.mk.injEq] at he
    obtain ⟨rfl, rfl⟩ := he
    exact ⟨E, .refl _, h, hv⟩
  | v :: vs, vs', xs, E, L, L', h, hv, he => by
    simp only [frzDs, Option.bind_eq_some_iff, Option.map_eq_some_iff, Prod.mk.injEq] at he
    obtain ⟨⟨v1, L1⟩, h1, ⟨vs2, L2⟩, h2, rfl, rfl⟩ := he
    simp only [VRs] at hv
    obtain ⟨x, xs', rfl, hx, hxs⟩ := hv
    obtain ⟨E1, e1, r1, q1⟩ := frzD_rel h hx h1
    obtain ⟨E2, e2, r2, q2⟩ := frzDs_rel r1 (VRs.mono e1 _ _ hxs) h2
    exact ⟨E2, e1.trans e2, r2, ⟨x, xs', rfl, VR.mono e2 _ _ q1, q2⟩⟩

/-- A row of one's own is given up. -/
theorem RelF.give {E : Env} {w0 : Base} {w : World} {L : List Row} {H : List (List Row)} (h : RelF w0 E L H w) {s ver : Nat} {o : Own} (hver : (rget L s).ver = ver) (ho : E.own 0 s (rget L s).ver = some o) (hmp : o.mp = false) :
    ∃ c, E.Le (E.addImm o.blk c) ∧ RelF w0 (E.addImm o.blk c) (rset L s ⟨ver + 1, 0, []⟩) H w ∧ VRss (rget L s).els E o.sz c.toList := by
  obtain ⟨c, t, hb, hcsz, hsz, hrow⟩ := h.mem.cur 0 s o (by simpa using ho) hmp
  simp only [rowAt_zero, Env.up_zero] at hrow hsz
  have hi := h.mem.nim 0 s o (by simpa using ho)
  have hle' := Env.le_addImm (c := c) hi
  have hcur : ∀ d s' o', E.own d s' (rowAt (rset L s ⟨ver + 1, 0, []⟩ :: H) d s').ver = some o' → ¬ (d = 0 ∧ s' = s) ∧ rowAt (rset L s ⟨ver + 1, 0, []⟩ :: H) d s' = rowAt (L :: H) d s' := by
    intro d s' o' ho'
    cases d with
    | succ d => exact ⟨by simp, rfl⟩
    | zero =>
      simp only [rowAt_zero, rget_rset] at ho' ⊢
      split at ho'
      · rename_i e
        subst e
        have := (h.bnd _ _ _ ho').1
        simp only at this
        omega
      · rename_i e
        rw [if_neg e]
        exact ⟨fun z => e z.2.symm, rfl⟩
  have hM : RelM E (rset L s ⟨ver + 1, 0, []⟩ :: H) w := h.mem.change fun d s' o' ho' => (hcur d s' o' ho').2
  have hM' := hM.addImm hi hb (fun d s' o' ho' e => by
    have h1 := (hcur d s' o' ho').1
    exact h1 (h.mem.inj _ _ _ _ _ _ _ _ ho' ho e))
  refine ⟨c, hle', ⟨h.below, hM', fun s' v o' ho' => ?_, h.out, fun b cs hb' => ?_⟩, hrow⟩
  · have := h.bnd s' v o' ho'
    refine ⟨?_, this.2⟩
    rw [rget_rset]
    split
    · rename_i e; subst e; have := this.1; simp only; omega
    · exact this.1
  · simp only [Env.addImm] at hb'
    split at hb'
    · rename_i e; subst e
      exact .inr (h.bnd _ _ _ ho).2
    · exact h.new b cs hb'

theorem frzPt_rel {E : Env} {w0 : Base} {w : World} {L L' : List Row} {H : List (List Row)} {v v' : V} {x : Value} (h : RelF w0 E L H w) (hv : VR v E x) (he : frzPt L v = some (v', L')) :
    ∃ E', E.Le E' ∧ RelF w0 E' L' H w ∧ VR v' E' x := by
  unfold frzPt at he
  split at he
  · rename_i s ver i off
    dsimp only at he
    split at he
    · rename_i hc
      obtain ⟨hver, h0, hp⟩ := hc
      obtain ⟨e, hei, he⟩ := Option.map_eq_some_iff.1 he
      cases he
      simp only [VR] at hv
      obtain ⟨o, ho, hmp, rfl⟩ := hv
      rw [← hver] at ho
      obtain ⟨c, h1, h2, h3⟩ := h.give hver ho hmp
      refine ⟨_, h1, h2, ?_⟩
      obtain ⟨h4, h5⟩ := (VRss.pure hp h3).at hei
      simp only [VR]
      exact ⟨o.blk, i * o.sz, c, by simp [Env.addImm], rfl, by rw [h4]; exact VRs.mono h1.bare _ _ h5⟩
    · cases he
  · cases he
    exact ⟨E, .refl _, h, hv⟩

theorem frzC_rel {w0 : Base} {w : World} {H : List (List Row)} : ∀ {vs vs' : List V} {xs : List Value} {E : Env} {L L' : List Row}, RelF w0 E L H w → VRs vs E xs → frzC L vs = some (vs', L') →
    ∃ E', E.Le E' ∧ RelF w0 E' L' H w ∧ VRs vs' E' xs
  | [], vs', xs, E, L, L', h, hv, he => by
    simp only [frzC, Option.some.injEq, Prod.mk.injEq] at he
    obtain ⟨rfl, rfl⟩ := he
    exact ⟨E, .refl _, h, hv⟩
  | v :: vs, vs', xs, E, L, L', h, hv, he => by
    simp only [frzC, Option.bind_eq_some_iff, Option.map_eq_some_iff, Prod.mk.injEq] at he
    obtain ⟨⟨v1, L1⟩, h1, ⟨vs2, L2⟩, h2, rfl, rfl⟩ := he
    simp only [VRs] at hv
    obtain ⟨x, xs', rfl, hx, hxs⟩ := hv
    obtain ⟨E1, e1, r1, q1⟩ := frzPt_rel h hx h1
    obtain ⟨E2, e2, r2, q2⟩ := frzC_rel r1 (VRs.mono e1 _ _ hxs) h2
    exact ⟨E2, e1.trans e2, r2, ⟨x, xs', rfl, VR.mono e2 _ _ q1, q2⟩⟩

theorem frzR_rel {E : Env} {w0 : Base} {w : World} {L L' : List Row} {H : List (List Row)} {v v' : V} {x : Value} (h : RelF w0 E L H w) (hv : VR v E x) (he : frzR L v = some (v', L')) :
    ∃ E', E.Le E' ∧ RelF w0 E' L' H w ∧ VR v' E' x := by
  unfold frzR at he
  split at he
  · obtain ⟨⟨vs, L2⟩, h1, h2⟩ := Option.map_eq_some_iff.1 he
    cases h2
    simp only [VR] at hv
    obtain ⟨c, rfl, hc⟩ := hv
    obtain ⟨E', e1, e2, e3⟩ := frzC_rel h hc h1
    exact ⟨E', e1, e2, c, rfl, e3⟩
  · exact frzD_rel h hv he

theorem frzRs_rel {w0 : Base} {w : World} {H : List (List Row)} : ∀ {vs vs' : List V} {xs : List Value} {E : Env} {L L' : List Row}, RelF w0 E L H w → VRs vs E xs → frzRs L vs = some (vs', L') →
    ∃ E', E.Le E' ∧ RelF w0 E' L' H w ∧ VRs vs' E' xs
  | [], vs', xs, E, L, L', h, hv, he => by
    simp only [frzRs, Option.some.injEq, Prod.mk.injEq] at he
    obtain ⟨rfl, rfl⟩ := he
    exact ⟨E, .refl _, h, hv⟩
  | v :: vs, vs', xs, E, L, L', h, hv, he => by
    simp only [frzRs, Option.bind_eq_some_iff, Option.map_eq_some_iff, Prod.mk.injEq] at he
    obtain ⟨⟨v1, L1⟩, h1, ⟨vs2, L2⟩, h2, rfl, rfl⟩ := he
    simp only [VRs] at hv
    obtain ⟨x, xs', rfl, hx, hxs⟩ := hv
    obtain ⟨E1, e1, r1, q1⟩ := frzR_rel h hx h1
    obtain ⟨E2, e2, r2, q2⟩ := frzRs_rel r1 (VRs.mono e1 _ _ hxs) h2
    exact ⟨E2, e1.trans e2, r2, ⟨x, xs', rfl, VR.mono e2 _ _ q1, q2⟩⟩

/-- The parts of a literal, as values. -/
def PV (E : Env) (a : Act) (place : Nat → Option (Nat × Nat)) : List (Nat × Operand) → List (Nat × Nat × V) → Prop
  | [], q => q = []
  | (i, x) :: parts, q => ∃ off n v q', q = (off, n, v) :: q' ∧ place i = some (off, n) ∧ VR v E (a.eval x) ∧ PV E a place parts q'

theorem PV.mono {E F : Env} {a : Act} {place : Nat → Option (Nat × Nat)} (hle : E.Le F) : ∀ {parts : List (Nat × Operand)} {q : List (Nat × Nat × V)}, PV E a place parts q → PV F a place parts q
  | [], q, h => h
  | (i, x) :: parts, q, ⟨off, n, v, q', h1, h2, h3, h4⟩ => ⟨off, n, v, q', h1, h2, VR.mono hle _ _ h3, h4.mono hle⟩

theorem frzP_rel {w0 : Base} {w : World} {H : List (List Row)} {fr : List V} {a : Act} {place : Nat → Option (Nat × Nat)} : ∀ {parts : List (Nat × Operand)} {q : List (Nat × Nat × Arg)} {q' : List (Nat × Nat × V)} {E : Env} {L L' : List Row},
    RelF w0 E L H w → cParts place parts = some q → Sees E fr a (argTmps (q.map (·.2.2))) → frzP L fr q = some (q', L') → ∃ E', E.Le E' ∧ RelF w0 E' L' H w ∧ PV E' a place parts q'
  | [], q, q', E, L, L', h, hq, hs, he => by
    simp only [cParts, Option.some.injEq] at hq; subst hq
    simp only [frzP, Option.some.injEq, Prod.mk.injEq] at he
    obtain ⟨rfl, rfl⟩ := he
    exact ⟨E, .refl _, h, rfl⟩
  | (i, x) :: parts, q, q', E, L, L', h, hq, hs, he => by
    simp only [cParts, Option.bind_eq_some_iff, Option.map_eq_some_iff] at hq
    obtain ⟨⟨off, n⟩, hp, y, hy, q1, hq1, rfl⟩ := hq
    simp only [frzP, Option.bind_eq_some_iff, Option.map_eq_some_iff, Prod.mk.injEq] at he
    obtain ⟨⟨v1, L1⟩, h1, ⟨q2, L2⟩, h2, rfl, rfl⟩ := he
    have hy' : VR (ev fr y) E (a.eval x) := hs.arg (by simp) hy
    have hs' : Sees E fr a (argTmps (q1.map (·.2.2))) := fun t ht => hs t (by
      simp only [List.map_cons]
      rw [show y :: List.map (fun x => x.2.2) q1 = [y] ++ List.map (fun x => x.2.2) q1 by rfl, argTmps_append]
      simp [ht])
    obtain ⟨E1, e1, r1, w1⟩ := frzD_rel h hy' h1
    obtain ⟨E2, e2, r2, w2⟩ := frzP_rel r1 hq1 (fun t ht => VR.mono e1 _ _ (hs' t ht)) h2
    exact ⟨E2, e1.trans e2, r2, off, n, v1, q2, rfl, hp, VR.mono e2 _ _ w1, w2⟩

theorem fillW_rel {E : Env} {a : Act} (place : Nat → Option (Nat × Nat)) : ∀ (parts : List (Nat × Operand)) (q : List (Nat × Nat × V)) (cs : List V) (c : Array Value) (r : List V),
    PV E a place parts q → VRs cs E c.toList → fillW cs q = some r →
    ∃ d : Array Value, Instr.fill place c (parts.map fun p => (p.1, a.eval p.2)) = some d ∧ VRs r E d.toList
  | [], q, cs, c, r, hq, hc, hr => by
    simp only [PV] at hq; subst hq
    simp only [fillW, Option.some.injEq] at hr; subst hr
    exact ⟨c, rfl, hc⟩
  | (i, x) :: parts, q, cs, c, r, hq, hc, hr => by
    simp only [PV] at hq
    obtain ⟨off, n, y, q', rfl, hp, hy', hq'⟩ := hq
    simp only [fillW] at hr
    split at hr
    · rename_i hcond
      obtain ⟨hn, hle, hsc⟩ := hcond
      have hcell := VR.cells hsc hy'
      have hlen := hcell.length
      have hlc := hc.length
      simp only [Array.length_toList] at hlen hlc
      have hsp := hc.splice off hcell
      obtain ⟨d, hd, hrd⟩ := fillW_rel place parts q' _ ((a.eval x).cells.zipIdx.foldl (fun cs (c, j) => cs.setIfInBounds (off + j) c) c) r hq'
        (by
          rw [← Array.foldl_toList, Array.toList_zipIdx]
          rw [foldl_splice off _ 0 c (by simp; omega)]
          simpa using hsp) hr
      refine ⟨d, ?_, hrd⟩
      simp only [List.map_cons, Instr.fill, hp]
      rw [if_neg (by simp; omega)]
      exact hd
    · cases hr

theorem fillW_length : ∀ {q : List (Nat × Nat × V)} {cs r : List V}, fillW cs q = some r → r.length = cs.length
  | [], cs, r, h => by simp only [fillW, Option.some.injEq] at h; rw [h]
  | (off, n, x) :: q, cs, r, h => by
    simp only [fillW] at h
    split at h
    · rename_i hc
      rw [fillW_length h]
      simp [splice]
      omega
    · cases h

theorem run_litf_of {P : Program} {E : Env} {w : World} {t e : TypeId} {len n : Nat} {parts : Array (Nat × Operand)} {z : List V} {q : List (Nat × Nat × V)} {r : List V} {a : Act} (ht : P.underlying t = some (.slice e)) (hn : tSize P e = some n) (hz : tZero P e = some z)
    (hzn : z.length = n) (h0 : 0 < n) (hmax : len * n ≤ 16777216) (hq : PV E a (fun i => some (i * n, n)) parts.toList q) (hr : fillW ((List.replicate len z).flatten) q = some r) :
    ∃ d : Array Value, (Instr.buildSlice t len (parts.map fun (i, x) => (i, a.eval x))).run P w = .ok (.slice (some ⟨w.heap.size, 0, none⟩) len len) (w.alloc (.cells d e)) ∧ VRs r E d.toList ∧ r.length = len * n := by
  obtain ⟨x, hx, hxr⟩ := run_zero (P := P) (w := w) hz
  have hrl := fillW_length hr
  rw [List.length_flatten, List.map_replicate, List.sum_replicate_nat] at hrl
  have hzr := zeros_rel (hxr E) (by omega) len
  rw [hzn] at hzr hrl
  obtain ⟨d, hd, hdr⟩ := fillW_rel (E := E) (a := a) (fun i => some (i * n, n)) parts.toList q _ ((Array.range (len * n)).map (fun i => x.cells[i % x.cells.size]!)) r hq hzr hr
  refine ⟨d, ?_, hdr, hrl⟩
  have hp : (parts.map fun (i, x) => (i, a.eval x)).toList = parts.toList.map fun p => (p.1, a.eval p.2) := by simp
  have hm : ¬ len * n > 2 ^ 24 := by
    have : (2 : Nat) ^ 24 = 16777216 := rfl
    omega
  simp only [Instr.buildSlice, Sem.run_bind, run_underlying ht, Result.andThen_ok, run_sizeOf hn, if_neg hm, Sem.run_pure]
  by_cases hl : len * n = 0
  · have hl0 : len = 0 := by
      rcases Nat.mul_eq_zero.1 hl with h | h
      · exact h
      · omega
    subst hl0
    have hz0 : ∀ f : Nat → Value, (Array.range 0).map f = #[] := fun f => Array.eq_empty_of_size_eq_zero (by simp)
    simp only [Nat.zero_mul, hz0] at hd
    simp only [Nat.zero_mul, if_true, Sem.run_pure, Result.andThen_ok, hz0, hp, hd]
    simp [newRow]
  · simp only [if_neg hl, Sem.run_bind, hx, Result.andThen_ok, Sem.run_pure, hp, hd]
    simp [newRow]

theorem litf_turns {P : Program} {E : Env} {w0 : Base} {w : World} {o : Oper} {a : Act} {t e : TypeId} {len n : Nat} {parts : Array (Nat × Operand)} {z : List V} {q : List (Nat × Nat × Arg)} {fr : List V} {L L' : List Row} {H : List (List Row)} {v : V} {cf : CallF}
    (ho : o.op = .buildSlice t len parts) (ht : P.underlying t = some (.slice e)) (hn : tSize P e = some n) (hz : tZero P e = some z) (hzn : z.length = n) (h0 : 0 < n) (hmax : len * n ≤ 16777216)
    (hq : cParts (fun i => some (i * n, n)) parts.toList = some q) (hs : Sees E fr a (argTmps (q.map (·.2.2)))) (h : RelF w0 E L H w) (he : evalOp cf H fr L (.litf n z len q) = some (v, L')) : Turns P w0 E L' H w o a v := by
  simp only [evalOp, Option.bind_eq_some_iff] at he
  obtain ⟨⟨q1, L1⟩, h1, cs, h2, he⟩ := he
  split at he
  · rename_i hc
    cases he
    obtain ⟨E1, e1, r1, hpv⟩ := frzP_rel h hq hs h1
    obtain ⟨d, hd, hdr, hl⟩ := run_litf_of (P := P) (w := w) ht hn hz hzn h0 hmax hpv h2
    obtain ⟨x, w', E2, g1, g2, g3, g4, g5, g6⟩ := gives_lit (P := P) (o := o) (a := a) (s := 0) (ver := 0) r1.mem (exec_run (by simp only [execOp, ho]) hd) hdr hl hc.2.2
    refine ⟨.value x, w', E2, x, g1, .inl rfl, e1.trans g2, ⟨r1.below.trans (g4.mono r1.below.size), g3, fun s' v' o' ho' => ?_, fun d s' v' o' ho' => ?_, fun b cs hb => ?_⟩, g5⟩
    · rcases g6.own 0 s' v' o' ho' with h3 | ⟨_, _, _, h3, _⟩
      · exact r1.bnd s' v' o' h3
      · exact absurd rfl h3
    · rcases g6.own (d + 1) s' v' o' ho' with h3 | ⟨h3, _⟩
      · exact r1.out d s' v' o' h3
      · cases h3
    · rcases g6.imm b cs hb with h3 | h3
      · exact r1.new b cs h3
      · exact .inr (Nat.le_trans r1.below.size h3)
  · cases he

theorem grow_turns {P : Program} {E : Env} {w0 : Base} {w : World} {o : Oper} {a : Act} {L : List Row} {H : List (List Row)} {S ver sz need cap : Nat} {els : List (List V)} {l : List Value} {zs : Array Value} {e : TypeId}
    (h : RelF w0 E L H w) (hrun : (execOp a.eval o).run P w = .ok (.value (.slice (some ⟨w.heap.size, 0, none⟩) need cap)) (w.drew.alloc (.cells (l.toArray ++ zs) e)))
    (hver : (rget L S).ver < ver) (hl : VRs els.flatten E l) (hsz : ∀ x ∈ els, x.length = sz) (hn : els.length = need) (hc : need ≤ cap) (hz : zs.size = (cap - need) * sz) :
    Turns P w0 E (rset L S ⟨ver, sz, els⟩) H w o a (.ref 0 S ver sz 0 need) := by
  have hf := h.fresh S hver
  have hM : RelM E (rset L S ⟨ver, sz, els⟩ :: H) w.drew := by
    refine (h.mem.drew).change fun d s o' ho' => ?_
    cases d with
    | succ d => rfl
    | zero =>
      simp only [rowAt_zero, rget_rset] at ho' ⊢
      split at ho'
      · rename_i e'; subst e'; rw [hf] at ho'; cases ho'
      · rename_i e'; rw [if_neg e']
  have hb : Below w.drew.heap.size w.drew (w.drew.alloc (.cells (l.toArray ++ zs) e)) := below_alloc _ _
  have hll := hl.length
  have hfl : els.flatten.length = need * sz := by
    rw [List.length_flatten, ← hn]
    clear hl hll hrun hn hM
    induction els with
    | nil => simp
    | cons x els ih =>
      rw [List.map_cons, List.sum_cons, ih (fun y hy => hsz y (by simp [hy])), hsz x (by simp), List.length_cons, Nat.succ_mul, Nat.add_comm]
  have hrows : VRss els E sz (l.toArray ++ zs).toList := by
    refine VRss.of_flat hsz ?_
    rw [hn, Array.toList_append, List.take_append_of_le_length (by simp; omega), List.take_of_length_le (by simp; omega)]
    simpa using hl
  have hadd := (hM.below hb).addOwn (s := S) (ver := ver) (b := w.heap.size) (c := l.toArray ++ zs) (t := e) (sz := sz) hf (hM.imm_new (Nat.le_refl _)) (alloc_at _ _) hM.own_ne_new
    (fun _ => by simp only [rowAt_zero, rget_rset, if_true]; exact ⟨trivial, hrows⟩)
  refine ⟨_, _, _, _, hrun, .inl rfl, Env.le_addOwn hf, ⟨?_, hadd, ?_, fun d s' v' o' ho' => h.out d s' v' o' (by simpa [Env.addOwn] using ho'), h.new⟩, ?_⟩
  · exact ((h.below).drew).alloc h.below.size _
  · intro s' v' o' ho'
    simp only [Env.addOwn] at ho'
    split at ho'
    · rename_i e'; cases ho'
      obtain ⟨_, rfl, rfl⟩ := e'
      exact ⟨by simp [rget_rset], h.below.size⟩
    · have := h.bnd s' v' o' ho'
      refine ⟨?_, this.2⟩
      rw [rget_rset]
      split
      · rename_i e'; subst e'; have := this.1; simp only; omega
      · exact this.1
  · simp only [VR]
    refine ⟨⟨w.heap.size, sz, (l.toArray ++ zs).size, false⟩, _, cap, by simp [Env.addOwn], rfl, rfl, rfl, hc, .inr ⟨by simp, ?_⟩⟩
    simp only [Nat.zero_add, Array.size_append, List.size_toArray, hz]
    rw [hll, hfl, ← Nat.add_mul]
    exact Nat.mul_le_mul_right _ (by omega)

theorem cut_appendCap {need old : Nat} {e : TypeId} {w : World} (h : need < 2 ^ 63) : need ≤ grownCap w need old e := by
  unfold grownCap Question.cut
  simp only
  omega

theorem zeros_size {P : Program} {e : TypeId} {i : TypeInfo} {z : List V} (hi : P.info? e = some i) (hz : tZero P e = some z) (hzn : z.length = i.size) : ∃ zv : Value, i.zero = some zv ∧ zv.cells.size = i.size := by
  unfold tZero at hz
  simp only [hi, Option.bind_some, Option.bind_eq_some_iff] at hz
  obtain ⟨zv, hzv, hc⟩ := hz
  refine ⟨zv, hzv, ?_⟩
  have := (cellsOf_rel ⟨fun _ _ _ => none, fun _ => none⟩ hc).length
  simp only [Array.length_toList] at this
  omega

/-- There is room: the cells behind the length are written. -/
theorem run_append_row {P : Program} (w : World) (t tx ty e : TypeId) (i : TypeInfo) (ht : P.underlying t = some (.slice e)) (hi : P.info? e = some i) {g sLen sCap : Nat} {x : Value} {n : Nat} {news : List Value} (hs : Src P i.size tx x n news w)
    {cur : Array Value} {t' : TypeId} (hg : w.heap[g]? = some (.cells cur t' (0, 0))) (hroom : sLen + n ≤ sCap) (hfit : sLen * i.size + news.length ≤ cur.size) :
    (Builtin.append_ #[t, tx] ty #[.slice (some ⟨g, 0, none⟩) sLen sCap, x]).run P w =
      .ok (.slice (some ⟨g, 0, none⟩) (sLen + n) sCap) (w.setRow g (cur.toList.take (sLen * i.size) ++ news ++ cur.toList.drop (sLen * i.size + news.length)).toArray) := by
  have hst := run_storeCells_at P g (sLen * i.size) t' news 0 cur w hg (by simpa using hfit) hs.one
  simp only [Nat.add_zero] at hst
  rcases hs.kind with ⟨e', hk⟩ | hk <;> simp [Builtin.append_, run_underlying ht, run_underlying hk, sizeOf, typeInfo, hi, hs.len, hroom, hs.cells, Addr.add_lit, hst]

theorem app_turns {P : Program} {E : Env} {w0 : Base} {w : World} {o : Oper} {a : Act} {t u e e' : TypeId} {i : TypeInfo} {z : List V} {x y : V} {vx vy : Value} {L L' : List Row} {H : List (List Row)} {site : Nat} {v : V}
    (hexec : ∀ {r : Value} {w' : World}, (Builtin.append_ #[t, u] o.type #[vx, vy]).run P w = .ok r w' → (execOp a.eval o).run P w = .ok (.value r) w')
    (ht : P.underlying t = some (.slice e)) (hu : P.underlying u = some (.slice e')) (hi : P.info? e = some i) (hz : tZero P e = some z) (hzn : z.length = i.size) (h0 : 0 < i.size)
    (h : RelF w0 E L H w) (hx : VR x E vx) (hy : VR y E vy) (he : appV (L :: H) site i.size i.bytes x y = some (v, L')) : Turns P w0 E L' H w o a v := by
  obtain ⟨zv, hzv, hzvn⟩ := zeros_size hi hz hzn
  simp only [appV, List.getD_cons_zero, Option.bind_eq_some_iff] at he
  obtain ⟨new, hnew, he⟩ := he
  have hzs : ∀ k : Nat, (Builtin.zeroCells zv.cells k).size = k * i.size := fun k => by rw [size_zeroCells, hzvn]
  have room : ∀ {need : Nat}, roomy i.bytes need = true → need ≤ 4294967296 ∧ need * i.bytes ≤ 140737488355328 := by
    intro need hr
    simp only [roomy, Bool.and_eq_true, decide_eq_true_eq] at hr
    refine ⟨hr.1, ?_⟩
    have := Nat.mul_le_mul hr.1 hr.2
    omega
  have nothing : new = [] → ∀ {base : Option Addr} {sLen sCap : Nat}, sLen ≤ sCap → vx = .slice base sLen sCap → (execOp a.eval o).run P w = .ok (.value vx) w := by
    intro hn base sLen sCap hle hvx
    subst hn
    obtain ⟨news, hsrc, hfl, _⟩ := src_of (P := P) (sz := i.size) hu h.mem hy hnew (.inl rfl)
    simp only [List.flatten_nil, VRs] at hfl
    subst hfl
    subst hvx
    exact hexec (run_append_nothing w t u o.type e i ht hi base sLen sCap hle vy hsrc)
  split at he
  · -- onto nil
    simp only [VR] at hx
    split at he
    · rename_i hemp
      cases he
      have hn : new = [] := by simpa using hemp
      exact ⟨_, w, E, _, nothing hn (Nat.le_refl _) hx, .inl rfl, .refl _, h, hx⟩
    · rename_i hemp
      split at he
      · rename_i hc
        cases he
        obtain ⟨news, hsrc, hfl, hlens⟩ := src_of (P := P) (sz := i.size) hu h.mem hy hnew (.inr hc.2)
        have hr := room hc.1
        have hpos : 0 < new.length := List.length_pos_iff.2 (by simpa using hemp)
        have hg := run_append_grow_src w t u o.type e i zv ht hi hzv none 0 0 [] (by simpa using run_firstCells_none w.drew i.size 0 0 0) vy new.length news hsrc (by omega) (by omega)
          (growslice_fits (by omega) (by simpa using hr.2))
        rw [← hx] at hg
        simp only [Nat.zero_add, List.nil_append] at hg
        exact grow_turns (zs := Builtin.zeroCells zv.cells _) h (hexec hg) (by omega) hfl hlens rfl (cut_appendCap (by omega)) (hzs _)
      · cases he
  · -- onto a literal
    rename_i szs els
    simp only [VR] at hx
    obtain ⟨_, ad, cap, hvx, hle, hf, hcs⟩ := hx
    have hcap : cap = els.length := hf trivial
    subst hcap
    split at he
    · rename_i hemp
      cases he
      have hn : new = [] := by simpa using hemp
      refine ⟨_, w, E, _, nothing hn (Nat.le_refl _) hvx, .inl rfl, .refl _, h, ?_⟩
      simp only [VR]
      exact ⟨by simp, ad, _, hvx, hle, fun _ => rfl, hcs⟩
    · rename_i hemp
      split at he
      · rename_i hc
        cases he
        have hall := hc.2
        rw [List.all_append, Bool.and_eq_true] at hall
        obtain ⟨news, hsrc, hfl, hlens⟩ := src_of (P := P) (sz := i.size) hu h.mem hy hnew (.inr hall.2)
        have hr := room hc.1
        have hpos : 0 < new.length := List.length_pos_iff.2 (by simpa using hemp)
        have helens : ∀ q ∈ els, q.length = i.size := by
          intro q hq
          have := List.all_eq_true.1 hall.1 q hq
          simp only [decide_eq_true_eq] at this
          exact this.1
        have holds : ∃ olds : List Value, (Builtin.firstCells i.size els.length (.slice (some ad) els.length els.length)).run P w.drew = .ok olds.toArray w.drew ∧ VRs els.flatten E olds := by
          by_cases hn : els = []
          · subst hn
            exact ⟨[], run_firstCells_some w.drew i.size 0 ad 0 0 [] (by simp) (by simp), rfl⟩
          · rcases hcs with rfl | ⟨cs, hsp, him, hcs⟩
            · exact absurd rfl hn
            · obtain ⟨b, off, sp⟩ := ad
              simp only at hsp him hcs; subst hsp
              obtain ⟨t', fr', hbl⟩ := h.mem.imm b cs him
              have hszs : szs = i.size := by
                obtain ⟨q, hq⟩ := List.exists_mem_of_ne_nil _ hn
                rw [← hcs.length_all q hq, helens q hq]
              subst hszs
              have hfl' := VRs.mono E.bare_le _ _ hcs.flat
              have hbd := hcs.bound
              simp only [List.length_drop, Array.length_toList] at hbd
              refine ⟨_, run_firstCells_some w.drew i.size els.length _ _ _ _ (by simp; omega) ?_, hfl'⟩
              intro j q hj
              rw [add_off, World.cell?_drew, cell_of hbl]
              have hjl := (List.getElem?_eq_some_iff.1 hj).1
              simp only [List.length_take, List.length_drop] at hjl
              rw [List.getElem?_take_of_lt (by omega), List.getElem?_drop] at hj
              exact hj
        obtain ⟨olds, hold, hofl⟩ := holds
        have hg := run_append_grow_src w t u o.type e i zv ht hi hzv (some ad) els.length els.length olds hold vy new.length news hsrc (by omega) (by omega) (growslice_fits (by omega) hr.2)
        rw [← hvx] at hg
        have hfin := grow_turns (S := site) (ver := (rget L site).ver + 1) (sz := i.size) (els := els ++ new) (zs := Builtin.zeroCells zv.cells (grownCap w (els.length + new.length) els.length e - (els.length + new.length))) h (hexec hg) (by omega)
          (by rw [List.flatten_append]; exact hofl.append hfl)
          (fun q hq => by rcases List.mem_append.1 hq with hq | hq; exact helens q hq; exact hlens q hq) (by simp) (cut_appendCap (by omega)) (hzs _)
        exact hfin
      · cases he
  · -- onto a row of one's own
    rename_i s ver szr len
    split at he
    · rename_i hc
      obtain ⟨hver, hv0, hlen, hrsz, hszr, hroomy, hall⟩ := hc
      cases he
      simp only [VR] at hx
      obtain ⟨ow, ad, cap, hown, hmp, hvx, hosz, hle, hcs⟩ := hx
      rw [← hver] at hown
      obtain ⟨c, t', hb, hcsz, hsz, hrow⟩ := h.mem.cur 0 s ow hown hmp
      simp only [rowAt_zero, Env.up_zero] at hrow hsz
      obtain ⟨news, hsrc, hfl, hlens⟩ := src_of (P := P) (sz := i.size) hu h.mem hy hnew (.inr hall)
      have hr := room hroomy
      have hszi : ow.sz = i.size := by omega
      have hbd := hrow.bound
      simp only [Array.length_toList] at hbd
      have hfresh : E.own 0 s ((rget L s).ver + 1) = none := h.fresh s (Nat.lt_succ_self _)
      have hnl := hsrc.newsLen
      by_cases hroom : len + new.length ≤ cap
      · -- there is room
        have hinpl : ∃ w', (execOp a.eval o).run P w = .ok (.value (.slice (some ad) (len + new.length) cap)) w' ∧ Below w0.w.heap.size w0.w w' ∧ RelM E (rset L s { rget L s with els := (rget L s).els ++ new } :: H) w' := by
          by_cases hn : new = []
          · subst hn
            refine ⟨w, by rw [nothing rfl hle hvx, hvx]; rfl, h.below, ?_⟩
            have := h.mem.write (row := { rget L s with els := (rget L s).els ++ [] }) (c' := c) hown hmp hb rfl rfl hsz (by simpa using hrow)
            rwa [setRow_self w ow.blk c t' (0, 0) hb] at this
          · have hpos : 0 < new.length := List.length_pos_iff.2 hn
            rcases hcs with rfl | ⟨rfl, hcs⟩
            · omega
            · simp only [Nat.zero_add] at hcs
              have hmul : (len + new.length) * i.size ≤ cap * i.size := Nat.mul_le_mul_right _ hroom
              rw [Nat.add_mul] at hmul
              have hfit : len * i.size + news.length ≤ c.size := by rw [hnl, hcsz]; rw [hszi] at hcs; omega
              have hrun := run_append_row w t u o.type e i ht hi hsrc hb hroom hfit
              have hlr : ((rget L s).els ++ new).length * ow.sz = len * i.size + news.length := by
                rw [List.length_append, ← hlen, Nat.add_mul, hszi, hnl]
              refine ⟨_, hexec (by rw [hvx]; simpa using hrun), below_setRow h.below (h.bnd _ _ _ hown).2 _, ?_⟩
              refine h.mem.write (row := { rget L s with els := (rget L s).els ++ new }) hown hmp hb ?_ rfl hsz ?_
              · simp only [List.size_toArray, List.length_append, List.length_take, List.length_drop, Array.length_toList]
                omega
              · refine VRss.of_flat ?_ ?_
                · intro q hq
                  rcases List.mem_append.1 hq with hq | hq
                  · exact hrow.length_all q hq
                  · rw [hlens q hq, hszi]
                · rw [hlr, List.flatten_append]
                  have h1 := hrow.flat
                  rw [← hlen, hszi] at h1
                  have hA : (c.toList.take (len * i.size)).length = len * i.size := by
                    rw [List.length_take, Array.length_toList]
                    exact Nat.min_eq_left (by omega)
                  have hAB : (c.toList.take (len * i.size) ++ news).length = len * i.size + news.length := by rw [List.length_append, hA]
                  show VRs _ E (List.take _ (c.toList.take (len * i.size) ++ (news ++ c.toList.drop (len * i.size + news.length))))
                  rw [← List.append_assoc, List.take_append_of_le_length (Nat.le_of_eq hAB.symm), List.take_of_length_le (Nat.le_of_eq hAB)]
                  exact h1.append hfl
        obtain ⟨w', hrun, hbel, hmem⟩ := hinpl
        have hget : rget (rset L s { rget L s with els := (rget L s).els ++ new }) s = { rget L s with els := (rget L s).els ++ new } := by simp [rget_rset]
        have hbump := hmem.bump (s := s) (o := ow) (by rw [hget]; exact hown) (by rw [hget]; exact hfresh)
        rw [hget] at hbump
        have hsame : rset (rset L s { rget L s with els := (rget L s).els ++ new }) s { ({ rget L s with els := (rget L s).els ++ new } : Row) with ver := (rget L s).ver + 1 } = rset L s ⟨ver + 1, i.size, (rget L s).els ++ new⟩ := by
          rw [show ({ ({ rget L s with els := (rget L s).els ++ new } : Row) with ver := (rget L s).ver + 1 } : Row) = ⟨ver + 1, i.size, (rget L s).els ++ new⟩ by rw [hver, ← hrsz]]
          exact rset_rset _ _ _ _
        simp only at hbump hsame
        rw [hsame] at hbump
        refine ⟨_, w', _, _, hrun, .inl rfl, Env.le_addOwn hfresh, ⟨hbel, hbump, ?_, fun d s' v' o' ho' => h.out d s' v' o' (by simpa [Env.addOwn] using ho'), h.new⟩, ?_⟩
        · intro s' v' o' ho'
          simp only [Env.addOwn] at ho'
          split at ho'
          · rename_i e1; cases ho'
            obtain ⟨_, rfl, rfl⟩ := e1
            exact ⟨by simp [rget_rset, hver], (h.bnd _ _ _ hown).2⟩
          · have := h.bnd s' v' o' ho'
            refine ⟨?_, this.2⟩
            rw [rget_rset]
            split
            · rename_i e1; subst e1; have := this.1; simp only; omega
            · exact this.1
        · simp only [VR]
          refine ⟨ow, ad, cap, by simp [Env.addOwn, hver], hmp, rfl, by omega, hroom, ?_⟩
          rcases hcs with h1 | ⟨h1, h2⟩
          · exact .inl h1
          · exact .inr ⟨h1, h2⟩
      · -- a new array
        have holds : ∃ olds : List Value, (Builtin.firstCells i.size len (.slice (some ad) len cap)).run P w.drew = .ok olds.toArray w.drew ∧ VRs (rget L s).els.flatten E olds := by
          rcases hcs with rfl | ⟨rfl, hcs⟩
          · have hl0 : len = 0 := by omega
            subst hl0
            have : (rget L s).els = [] := List.eq_nil_of_length_eq_zero hlen.symm
            rw [this]
            exact ⟨[], run_firstCells_some w.drew i.size 0 ad 0 0 [] (by simp) (by simp), rfl⟩
          · have h1 := hrow.flat
            rw [← hlen, hszi] at h1
            rw [← hlen, hszi] at hbd
            refine ⟨_, run_firstCells_some w.drew i.size len _ _ _ _ (by simp; omega) ?_, h1⟩
            intro j q hj
            rw [add_off, World.cell?_drew, cell_of hb]
            have hjl := (List.getElem?_eq_some_iff.1 hj).1
            simp only [List.length_take] at hjl
            rw [List.getElem?_take_of_lt (by omega)] at hj
            simpa using hj
        obtain ⟨olds, hold, hofl⟩ := holds
        have hg := run_append_grow_src w t u o.type e i zv ht hi hzv (some ad) len cap olds hold vy new.length news hsrc (by omega) (by omega) (growslice_fits (by omega) hr.2)
        rw [← hvx] at hg
        have hfin := grow_turns (S := s) (ver := ver + 1) (sz := i.size) (els := (rget L s).els ++ new) (zs := Builtin.zeroCells zv.cells (grownCap w (len + new.length) cap e - (len + new.length))) h (hexec hg) (by omega)
          (by rw [List.flatten_append]; exact hofl.append hfl)
          (fun q hq => by rcases List.mem_append.1 hq with hq | hq; rw [hrow.length_all q hq, hszi]; exact hlens q hq) (by simp [hlen]) (cut_appendCap (by omega)) (hzs _)
        exact hfin
    · cases he
  · cases he

end Go.Ab

/-
  The rows of the abstract machine in the model's heap.
-/
import Derived.Test.YtfngllcjikmbkaaAbRel
import Derived.Test.YtfngllcjikmbkaaAbComp
namespace Go.Ab
open Go Go.RowKit

structure RelM (E : Env) (M : List (List Row)) (w : World) : Prop where
  imm : ∀ b cs, E.imm b = some cs → ∃ t fr, w.heap[b]? = some (.cells cs t fr)
  blk : ∀ d s v o, E.own d s v = some o → o.blk < w.heap.size
  cur : ∀ d s o, E.own d s (rowAt M d s).ver = some o → o.mp = false → ∃ c t, w.heap[o.blk]? = some (.cells c t (0, 0)) ∧ c.size = o.cs ∧
    o.sz = (rowAt M d s).sz ∧ VRss (rowAt M d s).els (E.up d) o.sz c.toList
  mpc : ∀ d s o, E.own d s (rowAt M d s).ver = some o → o.mp = true → ∃ es clk, w.heap[o.blk]? = some (.map es clk) ∧ EntR (rowAt M d s).els (E.up d) es.toList
  inj : ∀ d s v o d' s' v' o', E.own d s v = some o → E.own d' s' v' = some o' → o.blk = o'.blk → d = d' ∧ s = s'
  nim : ∀ d s o, E.own d s (rowAt M d s).ver = some o → E.imm o.blk = none

theorem heap_lt {w : World} {b : Nat} {o : Obj} (h : w.heap[b]? = some o) : b < w.heap.size := by
  rcases Nat.lt_or_ge b w.heap.size with h' | h'
  · exact h'
  · simp [Array.getElem?_eq_none h'] at h

theorem RelM.below {E : Env} {M : List (List Row)} {w w' : World} (h : RelM E M w) (hb : Below w.heap.size w w') : RelM E M w' := by
  refine ⟨fun b cs hi => ?_, fun d s v o ho => ?_, fun d s o ho hp => ?_, fun d s o ho hp => ?_, h.inj, h.nim⟩
  · obtain ⟨t, fr, hc⟩ := h.imm b cs hi
    exact ⟨t, fr, (hb.block b (heap_lt hc)).trans hc⟩
  · have := h.blk d s v o ho
    exact Nat.lt_of_lt_of_le this hb.size
  · obtain ⟨c, t, hc, rest⟩ := h.cur d s o ho hp
    exact ⟨c, t, (hb.block _ (heap_lt hc)).trans hc, rest⟩
  · obtain ⟨es, clk, hc, rest⟩ := h.mpc d s o ho hp
    exact ⟨es, clk, (hb.block _ (heap_lt hc)).trans hc, rest⟩

theorem RelM.change {E : Env} {M M' : List (List Row)} {w : World} (h : RelM E M w)
    (hm : ∀ d s o, E.own d s (rowAt M' d s).ver = some o → rowAt M' d s = rowAt M d s) : RelM E M' w := by
  refine ⟨h.imm, h.blk, fun d s o ho hp => ?_, fun d s o ho hp => ?_, h.inj, fun d s o ho => ?_⟩
  · have := hm d s o ho
    rw [this] at ho ⊢
    exact h.cur d s o ho hp
  · have := hm d s o ho
    rw [this] at ho ⊢
    exact h.mpc d s o ho hp
  · have := hm d s o ho
    rw [this] at ho
    exact h.nim d s o ho

@[simp] theorem rowAt_zero (L : List Row) (H : List (List Row)) (s : Nat) : rowAt (L :: H) 0 s = rget L s := rfl
@[simp] theorem rowAt_succ (L : List Row) (H : List (List Row)) (d s : Nat) : rowAt (L :: H) (d + 1) s = rowAt H d s := rfl

/-- A new block that nobody writes. -/
def Env.addImm (E : Env) (b : Nat) (c : Array Value) : Env := { E with imm := fun x => if x = b then some c else E.imm x }
def Env.addOwn (E : Env) (s ver : Nat) (o : Own) : Env := { E with own := fun d s' v => if d = 0 ∧ s' = s ∧ v = ver then some o else E.own d s' v }

theorem Env.le_addImm {E : Env} {b : Nat} {c : Array Value} (h : E.imm b = none) : E.Le (E.addImm b c) := by
  refine ⟨fun _ _ _ _ x => x, fun x c' hx => ?_⟩
  simp only [Env.addImm]
  split
  · rename_i e; subst e; rw [h] at hx; cases hx
  · exact hx
theorem Env.le_addOwn {E : Env} {s ver : Nat} {o : Own} (h : E.own 0 s ver = none) : E.Le (E.addOwn s ver o) := by
  refine ⟨fun d s' v o' x => ?_, fun _ _ x => x⟩
  simp only [Env.addOwn]
  split
  · rename_i e; obtain ⟨rfl, rfl, rfl⟩ := e; rw [h] at x; cases x
  · exact x

theorem RelM.imm_lt {E : Env} {M : List (List Row)} {w : World} (h : RelM E M w) {b : Nat} {cs : Array Value} (hi : E.imm b = some cs) : b < w.heap.size := by
  obtain ⟨t, fr, hc⟩ := h.imm b cs hi
  exact heap_lt hc

theorem RelM.imm_new {E : Env} {M : List (List Row)} {w : World} (h : RelM E M w) {b : Nat} (hb : w.heap.size ≤ b) : E.imm b = none := by
  cases hi : E.imm b with
  | none => rfl
  | some cs => have := h.imm_lt hi; omega

theorem RelM.addImm {E : Env} {M : List (List Row)} {w : World} (h : RelM E M w) {b : Nat} {c : Array Value} {t : TypeId} {fr : Nat × Nat}
    (hi : E.imm b = none) (hb : w.heap[b]? = some (.cells c t fr)) (hno : ∀ d s o, E.own d s (rowAt M d s).ver = some o → o.blk ≠ b) : RelM (E.addImm b c) M w := by
  refine ⟨fun x cs hx => ?_, fun d s v o ho => h.blk d s v o ho, fun d s o ho hp => ?_, fun d s o ho hp => ?_, h.inj, fun d s o ho => ?_⟩
  · simp only [Env.addImm] at hx
    split at hx
    · rename_i e; subst e; cases hx; exact ⟨t, fr, hb⟩
    · exact h.imm x cs hx
  rotate_right
  · have := h.nim d s o ho
    simp only [Env.addImm, if_neg (hno d s o ho), this]
  · obtain ⟨c', t', hc, h1, h2, h3⟩ := h.cur d s o ho hp
    exact ⟨c', t', hc, h1, h2, VRss.mono ((Env.le_addImm hi).up d) _ _ _ h3⟩
  · obtain ⟨es, clk, hc, h1⟩ := h.mpc d s o ho hp
    exact ⟨es, clk, hc, h1.mono ((Env.le_addImm hi).up d)⟩

/-- A row of one's own, or a map, takes a block that is nobody's. -/
theorem RelM.addAny {E : Env} {M : List (List Row)} {w : World} (h : RelM E M w) {s ver : Nat} {q : Own}
    (hf : E.own 0 s ver = none) (hi : E.imm q.blk = none) (hlt : q.blk < w.heap.size) (hno : ∀ d s v o, E.own d s v = some o → o.blk ≠ q.blk)
    (hr : (rowAt M 0 s).ver = ver → q.mp = false → ∃ c t, w.heap[q.blk]? = some (.cells c t (0, 0)) ∧ c.size = q.cs ∧ q.sz = (rowAt M 0 s).sz ∧ VRss (rowAt M 0 s).els E q.sz c.toList)
    (hr' : (rowAt M 0 s).ver = ver → q.mp = true → ∃ es clk, w.heap[q.blk]? = some (.map es clk) ∧ EntR (rowAt M 0 s).els E es.toList) :
    RelM (E.addOwn s ver q) M w := by
  have hle := Env.le_addOwn (o := q) hf
  refine ⟨h.imm, fun d s' v o ho => ?_, fun d s' o ho hp => ?_, fun d s' o ho hp => ?_, fun d s₁ v₁ o d' s₂ v₂ o' ho ho' he => ?_, fun d s' o ho => ?_⟩
  · simp only [Env.addOwn] at ho ⊢
    split at ho
    · cases ho; exact hlt
    · exact h.blk d s' v o ho
  · simp only [Env.addOwn] at ho
    split at ho
    · rename_i e; obtain ⟨rfl, rfl, hv⟩ := e
      cases ho
      obtain ⟨c, t, hb, h0, h1, h2⟩ := hr hv hp
      exact ⟨c, t, hb, h0, h1, by simpa using VRss.mono hle _ _ _ h2⟩
    · obtain ⟨c', t', hc, h1, h2, h3⟩ := h.cur d s' o ho hp
      exact ⟨c', t', hc, h1, h2, VRss.mono (hle.up d) _ _ _ h3⟩
  · simp only [Env.addOwn] at ho
    split at ho
    · rename_i e; obtain ⟨rfl, rfl, hv⟩ := e
      cases ho
      obtain ⟨es, clk, hb, h2⟩ := hr' hv hp
      exact ⟨es, clk, hb, by simpa using h2.mono hle⟩
    · obtain ⟨es, clk, hc, h3⟩ := h.mpc d s' o ho hp
      exact ⟨es, clk, hc, h3.mono (hle.up d)⟩
  · simp only [Env.addOwn] at ho ho'
    split at ho <;> split at ho'
    · rename_i e e'; exact ⟨e.1.trans e'.1.symm, e.2.1.trans e'.2.1.symm⟩
    · cases ho; exact absurd he.symm (hno _ _ _ _ ho')
    · cases ho'; exact absurd he (hno _ _ _ _ ho)
    · exact h.inj _ _ _ _ _ _ _ _ ho ho' he
  · simp only [Env.addOwn] at ho
    split at ho
    · cases ho; exact hi
    · exact h.nim d s' o ho

/-- A row of one's own takes a block that is nobody's. -/
theorem RelM.addOwn {E : Env} {M : List (List Row)} {w : World} (h : RelM E M w) {s ver b : Nat} {c : Array Value} {t : TypeId} {sz : Nat}
    (hf : E.own 0 s ver = none) (hi : E.imm b = none) (hb : w.heap[b]? = some (.cells c t (0, 0))) (hno : ∀ d s v o, E.own d s v = some o → o.blk ≠ b)
    (hr : ∀ (_ : (rowAt M 0 s).ver = ver), sz = (rowAt M 0 s).sz ∧ VRss (rowAt M 0 s).els E sz c.toList) :
    RelM (E.addOwn s ver ⟨b, sz, c.size, false⟩) M w :=
  h.addAny hf hi (heap_lt hb) hno (fun hv _ => ⟨c, t, hb, rfl, (hr hv).1, (hr hv).2⟩) (fun _ e => by cases e)

/-- A map. -/
theorem RelM.addMap {E : Env} {M : List (List Row)} {w : World} (h : RelM E M w) {s ver b : Nat} {es : Array MapEntry} {clk : Nat}
    (hf : E.own 0 s ver = none) (hi : E.imm b = none) (hb : w.heap[b]? = some (.map es clk)) (hno : ∀ d s v o, E.own d s v = some o → o.blk ≠ b)
    (hr : ∀ (_ : (rowAt M 0 s).ver = ver), EntR (rowAt M 0 s).els E es.toList) :
    RelM (E.addOwn s ver ⟨b, 0, 0, true⟩) M w :=
  h.addAny hf hi (heap_lt hb) hno (fun _ e => by cases e) (fun hv _ => ⟨es, clk, hb, hr hv⟩)

theorem alloc_at (w : World) (o : Obj) : (w.alloc o).heap[w.heap.size]? = some o := by
  show (w.heap.push o)[w.heap.size]? = some o
  simp
theorem below_alloc (w : World) (o : Obj) : Below w.heap.size w (w.alloc o) := (Below.refl _ _).alloc (Nat.le_refl _) _

theorem RelM.own_ne_new {E : Env} {M : List (List Row)} {w : World} (h : RelM E M w) : ∀ d s v o, E.own d s v = some o → o.blk ≠ w.heap.size := by
  intro d s v o ho he
  have := h.blk d s v o ho
  omega

/-! ### Reading -/

theorem cell_of {w : World} {b off : Nat} {c : Array Value} {t : TypeId} {fr : Nat × Nat} (h : w.heap[b]? = some (.cells c t fr)) :
    w.cell? ⟨b, off, none⟩ = c.toList[off]? := by
  simp [World.cell?, h]

@[simp] theorem add_off (b o j : Nat) : (⟨b, o, none⟩ : Addr).add j = ⟨b, o + j, none⟩ := by
  unfold Addr.add; split <;> simp_all

/-- 'pick3' at a place of a block: the model loads what the abstract machine has. -/
theorem run_load_of {P : Program} {E : Env} {w : World} {t : TypeId} {g : Bool} {n b o off : Nat} {c : Array Value} {t' : TypeId} {fr : Nat × Nat} {e : List V} {v : V}
    (hg : tAgg P t = some g) (hn : tSize P t = some n) (hb : w.heap[b]? = some (.cells c t' fr))
    (he : VRs e E ((c.toList.drop o).take e.length)) (hp : pick3 g n e off = some v) :
    ∃ x, (loadVar t ⟨b, o + off, none⟩).run P w = .ok x w ∧ VR v E x := by
  have hu : ∃ d, P.underlying t = some d ∧ (isAgg t).run P w = .ok g w := by
    unfold tAgg at hg
    cases hd : P.underlying t with
    | none => simp [hd] at hg
    | some d =>
      refine ⟨d, rfl, ?_⟩
      simp only [hd] at hg
      unfold isAgg
      simp only [Sem.run_bind, run_underlying hd, Result.andThen_ok]
      cases d <;> simp_all
  obtain ⟨d, hd, hia⟩ := hu
  have hl := he.length
  simp only [List.length_take, List.length_drop] at hl
  unfold tSize at hn
  obtain ⟨i, hi, rfl⟩ := Option.map_eq_some_iff.1 hn
  cases g with
  | false =>
    simp only [pick3, Bool.false_eq_true, if_false] at hp
    obtain ⟨x, hx, hv⟩ := he.at hp
    have hlt : off < e.length := (List.getElem?_eq_some_iff.1 hp).1
    rw [List.getElem?_take_of_lt hlt, List.getElem?_drop] at hx
    refine ⟨x, ?_, hv⟩
    unfold loadVar
    simp only [Sem.run_bind, hia, Result.andThen_ok, Bool.false_eq_true, if_false, run_load, cell_of hb, hx]
  | true =>
    simp only [pick3, if_true] at hp
    split at hp
    · rename_i hle
      cases hp
      have h2 := (he.drop off).take i.size
      refine ⟨.agg (((c.toList.drop (o + off)).take i.size).toArray), ?_, ?_⟩
      · unfold loadVar
        simp only [Sem.run_bind, hia, Result.andThen_ok, if_true, sizeOf, typeInfo, run_program, hi, Sem.run_pure]
        have hrun := run_loadCells_list (P := P) w ⟨b, o + off, none⟩ ((c.toList.drop (o + off)).take i.size) (fun j v hj => by
          rw [add_off, cell_of hb]
          have hjl := (List.getElem?_eq_some_iff.1 hj).1
          simp only [List.length_take] at hjl
          rw [List.getElem?_take_of_lt (by omega), List.getElem?_drop] at hj
          exact hj)
        have hlen : ((c.toList.drop (o + off)).take i.size).length = i.size := by
          simp only [List.length_take, List.length_drop]
          omega
        rw [hlen] at hrun
        rw [hrun]
        rfl
      · simp only [VR]
        refine ⟨_, rfl, ?_⟩
        rw [List.drop_take, List.take_take, Nat.min_eq_left (by omega), List.drop_drop] at h2
        simpa using h2
    · cases hp

end Go.Ab

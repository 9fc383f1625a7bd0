/-
  Operation by operation, all but calls, stores and appends: what the model's run gives.
-/
import Derived.Test.YtfpkelnakagdfaaAbEq
namespace Go.Ab
open Go Go.RowKit
set_option linter.unusedVariables false
set_option linter.unusedSimpArgs false
set_option linter.unnecessarySimpa false

/-- The rows' keys that an operation adds: at most the one of its own row, on new memory. -/
structure Keys (E E' : Env) (w : World) (s ver : Nat) : Prop where
  own : ∀ d s' v' o', E'.own d s' v' = some o' → E.own d s' v' = some o' ∨ (d = 0 ∧ s' = s ∧ v' = ver ∧ s ≠ 0 ∧ w.heap.size ≤ o'.blk)
  imm : ∀ b cs, E'.imm b = some cs → E.imm b = some cs ∨ w.heap.size ≤ b

theorem Keys.refl (E : Env) (w : World) (s ver : Nat) : Keys E E w s ver := ⟨fun _ _ _ _ h => .inl h, fun _ _ h => .inl h⟩

def Gives (P : Program) (E : Env) (M : List (List Row)) (w : World) (o : Oper) (a : Act) (v : V) (s ver : Nat) : Prop :=
  ∃ x w' E', (execOp a.eval o).run P w = .ok (.value x) w' ∧ E.Le E' ∧ RelM E' M w' ∧ Below w.heap.size w w' ∧ VR v E' x ∧ Keys E E' w s ver

theorem Gives.same {P : Program} {E : Env} {M : List (List Row)} {w : World} {o : Oper} {a : Act} {v : V} {s ver : Nat} {x : Value} (hM : RelM E M w)
    (h : (execOp a.eval o).run P w = .ok (.value x) w) (hv : VR v E x) : Gives P E M w o a v s ver :=
  ⟨x, w, E, h, .refl _, hM, Below.refl _ _, hv, .refl _ _ _ _⟩

theorem foldl_splice (off : Nat) : ∀ (l : List Value) (j : Nat) (cs : Array Value), off + j + l.length ≤ cs.size →
    ((l.zipIdx j).foldl (fun (cs : Array Value) (x : Value × Nat) => cs.setIfInBounds (off + x.2) x.1) cs).toList = cs.toList.take (off + j) ++ l ++ cs.toList.drop (off + j + l.length)
  | [], j, cs, _ => by simp
  | x :: l, j, cs, h => by
    simp only [List.length_cons] at h
    rw [List.zipIdx_cons, List.foldl_cons, foldl_splice off l (j + 1) _ (by simp; omega)]
    have hlt : off + j < cs.toList.length := by simp; omega
    simp only [Array.toList_setIfInBounds, List.length_cons]
    rw [show off + (j + 1) = (off + j) + 1 by omega, List.take_succ_eq_append_getElem (by simpa using hlt), List.getElem_set_self, List.take_set, List.set_eq_of_length_le (by simp; omega), List.drop_set_of_lt (by omega)]
    simp [show off + j + 1 + l.length = off + j + (l.length + 1) by omega]

theorem fill_rel {E : Env} {fr : List V} {a : Act} (place : Nat → Option (Nat × Nat)) : ∀ (parts : List (Nat × Operand)) (q : List (Nat × Nat × Arg)) (cs : List V) (c : Array Value) (r : List V),
    cParts place parts = some q → Sees E fr a (argTmps (q.map (·.2.2))) → VRs cs E c.toList → fillV fr cs q = some r →
    ∃ d : Array Value, Instr.fill place c (parts.map fun p => (p.1, a.eval p.2)) = some d ∧ VRs r E d.toList
  | [], q, cs, c, r, hq, _, hc, hr => by
    simp only [cParts, Option.some.injEq] at hq; subst hq
    simp only [fillV, Option.some.injEq] at hr; subst hr
    exact ⟨c, rfl, hc⟩
  | (i, x) :: parts, q, cs, c, r, hq, hs, hc, hr => by
    simp only [cParts, Option.bind_eq_some_iff, Option.map_eq_some_iff] at hq
    obtain ⟨⟨off, n⟩, hp, y, hy, q', hq', rfl⟩ := hq
    simp only [fillV] at hr
    split at hr
    · rename_i hcond
      obtain ⟨hn, hle, hsc⟩ := hcond
      have hy' : VR (ev fr y) E (a.eval x) := hs.arg (by simp) hy
      have hcell := VR.cells hsc hy'
      have hlen := hcell.length
      have hlc := hc.length
      simp only [Array.length_toList] at hlen hlc
      have hsp := hc.splice off hcell
      obtain ⟨d, hd, hrd⟩ := fill_rel place parts q' _ ((a.eval x).cells.zipIdx.foldl (fun cs (c, j) => cs.setIfInBounds (off + j) c) c) r hq'
        (fun t ht => hs t (by
          simp only [List.map_cons]
          rw [show y :: List.map (fun x => x.2.2) q' = [y] ++ List.map (fun x => x.2.2) q' by rfl, argTmps_append]
          simp [ht]))
        (by
          rw [← Array.foldl_toList, Array.toList_zipIdx]
          rw [foldl_splice off _ 0 c (by simp; omega)]
          simpa using hsp) hr
      refine ⟨d, ?_, hrd⟩
      simp only [List.map_cons, Instr.fill, hp]
      rw [if_neg (by simp; omega)]
      exact hd
    · cases hr

theorem run_zero {P : Program} {w : World} {t : TypeId} {z : List V} (h : tZero P t = some z) : ∃ x, (zeroValue t).run P w = .ok x w ∧ ∀ E, VRs z E x.cells.toList := by
  unfold tZero at h
  simp only [Option.bind_eq_some_iff] at h
  obtain ⟨x, ⟨i, hi, hz⟩, hc⟩ := h
  refine ⟨x, ?_, fun E => cellsOf_rel E hc⟩
  simp [zeroValue, typeInfo, hi, hz]

/-- A block of one's own, with known contents, for the operation's row. -/
theorem gives_own {P : Program} {E : Env} {M : List (List Row)} {w w1 : World} {o : Oper} {a : Act} {s : Nat} {row : Row} {c : Array Value} {t : TypeId} {v : V} {x : Value} (hM : RelM E M w)
    (hw1 : RelM E M w1) (hsz1 : w1.heap.size = w.heap.size) (hb1 : Below w.heap.size w w1)
    (hrun : (execOp a.eval o).run P w = .ok (.value x) (w1.alloc (.cells c t))) (hs : s ≠ 0) (hrow : rowAt M 0 s = row) (hf : E.own 0 s row.ver = none)
    (hc : VRss row.els E row.sz c.toList) (hv : ∀ E' : Env, E'.own 0 s row.ver = some ⟨w.heap.size, row.sz, c.size, false⟩ → VR v E' x) : Gives P E M w o a v s row.ver := by
  have hb : Below w1.heap.size w1 (w1.alloc (.cells c t)) := below_alloc _ _
  have hR := hw1.below hb
  have hno := hw1.own_ne_new
  refine ⟨x, _, E.addOwn s row.ver ⟨w1.heap.size, row.sz, c.size, false⟩, hrun, Env.le_addOwn hf, ?_, hb1.trans (hb.mono (by omega)), hv _ (by simp [Env.addOwn, hsz1]), ?_⟩
  · exact hR.addOwn hf (hw1.imm_new (Nat.le_refl _)) (alloc_at _ _) hno (fun _ => by rw [hrow]; exact ⟨rfl, hc⟩)
  · refine ⟨fun d s' v' o' ho => ?_, fun _ _ h => .inl h⟩
    simp only [Env.addOwn] at ho
    split at ho
    · rename_i e; cases ho; exact .inr ⟨e.1, e.2.1, e.2.2, hs, by simp [hsz1]⟩
    · exact .inl ho

/-- A map of one's own, empty. -/
theorem gives_map {P : Program} {E : Env} {M : List (List Row)} {w : World} {o : Oper} {a : Act} {s ver : Nat} (hM : RelM E M w)
    (hrun : (execOp a.eval o).run P w = .ok (.value (.map (some w.heap.size))) (w.alloc (.map #[] 0))) (hs : s ≠ 0) (hrow : rowAt M 0 s = ⟨ver, 0, []⟩) (hf : E.own 0 s ver = none) : Gives P E M w o a (.mp 0 s ver) s ver := by
  have hb : Below w.heap.size w (w.alloc (.map #[] 0)) := below_alloc _ _
  have hR := hM.below hb
  refine ⟨_, _, E.addOwn s ver ⟨w.heap.size, 0, 0, true⟩, hrun, Env.le_addOwn hf, ?_, hb, ?_, ?_⟩
  · exact hR.addMap hf (hM.imm_new (Nat.le_refl _)) (alloc_at _ _) hM.own_ne_new (fun _ => by rw [hrow]; exact EntR.nil)
  · simp only [VR]
    exact ⟨⟨w.heap.size, 0, 0, true⟩, by simp [Env.addOwn], rfl, rfl⟩
  · refine ⟨fun d s' v' o' ho => ?_, fun _ _ h => .inl h⟩
    simp only [Env.addOwn] at ho
    split at ho
    · rename_i e; cases ho; exact .inr ⟨e.1, e.2.1, e.2.2, hs, by simp⟩
    · exact .inl ho

section
variable {P : Program} {E : Env} {M : List (List Row)} {w : World} {o : Oper} {a : Act} {fr : List V} {s ver : Nat}

theorem exec_run {o : Oper} {a : Act} {i : Sem Value} {x : Value} {w' : World} (h : execOp a.eval o = (do pure (.value (← i)) : Sem Next)) (hr : i.run P w = .ok x w') :
    (execOp a.eval o).run P w = .ok (.value x) w' := by rw [h]; simp [hr]

theorem asB_some {v : V} {b : Bool} (h : asB v = some b) : v = .bool b := by
  unfold asB at h; split at h <;> simp_all

theorem gives_pick {c x y : Operand} {c' x' y' : Arg} (ho : o.op = .pick c x y) (hM : RelM E M w) (hc : VR (ev fr c') E (a.eval c)) (hx : VR (ev fr x') E (a.eval x)) (hy : VR (ev fr y') E (a.eval y)) {t : Bool} (ht : asB (ev fr c') = some t) :
    Gives P E M w o a (if t then ev fr x' else ev fr y') s ver := by
  rw [asB_some ht] at hc
  simp only [VR] at hc
  refine .same (x := if t then a.eval x else a.eval y) hM ?_ (by cases t <;> assumption)
  simp [execOp, ho, hc, asBool]

theorem run_fieldAt_of {t : TypeId} {f n : Nat} {fs : Array Field} {fd : Field} {v v' : V} {x : Value} (ht : P.underlying t = some (.struct fs)) (hf : fs[f]? = some fd) (hn : tSize P fd.type = some n) (h0 : n ≠ 0)
    (hv : VR v E x) (h : addOff fd.offset v = some v') : ∃ y, (Instr.fieldAt t x f).run P w = .ok y w ∧ VR v' E y := by
  obtain ⟨i, hi, hin⟩ := Option.map_eq_some_iff.1 hn
  have hfp : ∀ b off : Nat, (fieldPlace ⟨b, off, none⟩ fd).run P w = .ok ⟨b, off + fd.offset, none⟩ w := by
    intro b off
    simp only [fieldPlace, Sem.run_bind, sizeOf, typeInfo, run_program, Result.andThen_ok, hi, Sem.run_pure, hin, if_neg h0, add_off]
  unfold addOff at h
  split at h <;> cases h
  · simp only [VR] at hv ⊢
    obtain ⟨o, ho, hmp, rfl⟩ := hv
    refine ⟨_, ?_, o, ho, hmp, rfl⟩
    simp only [Instr.fieldAt, Sem.run_bind, run_underlying ht, Result.andThen_ok, hf, Instr.sureAddr, Sem.run_pure, hfp, Nat.add_assoc]
  · simp only [VR] at hv ⊢
    obtain ⟨b, off, cs, hb, rfl, hc⟩ := hv
    refine ⟨_, ?_, b, off, cs, hb, rfl, hc⟩
    simp only [Instr.fieldAt, Sem.run_bind, run_underlying ht, Result.andThen_ok, hf, Instr.sureAddr, Sem.run_pure, hfp, Nat.add_assoc]

theorem run_sizeOf {t : TypeId} {n : Nat} (hn : tSize P t = some n) : (sizeOf t).run P w = .ok n w := by
  obtain ⟨i, hi, rfl⟩ := Option.map_eq_some_iff.1 hn
  simp [sizeOf, typeInfo, hi]

theorem run_elem_of {t e : TypeId} {sz : Nat} {v i v' : V} {x y : Value} (ht : P.underlying t = some (.slice e)) (hn : tSize P e = some sz) (hv : VR v E x) (hi : VR i E y) (h : elemV sz v i = some v') :
    ∃ u, (Instr.indexAt t x y).run P w = .ok u w ∧ VR v' E u := by
  unfold elemV at h
  split at h
  · rename_i k sz' els kk n
    split at h
    · rename_i hc
      obtain ⟨_, rfl, h0⟩ := hc
      obtain ⟨e', he', rfl⟩ := Option.map_eq_some_iff.1 h
      simp only [VR] at hv hi
      subst hi
      obtain ⟨hk, ⟨b, off, sp⟩, cap, rfl, hl, hf, hcs⟩ := hv
      have hlt := (List.getElem?_eq_some_iff.1 he').1
      rcases hcs with rfl | ⟨cs, hsp, him, hcs⟩
      · simp at hlt
      · simp only at hsp him hcs; subst hsp
        have hat := hcs.at he'
        refine ⟨.pointer (some ⟨b, off + n.toNat * sz', none⟩), ?_, b, off + n.toNat * sz', cs, him, by simp, ?_⟩
        · have : n < (els.length : Int) := by omega
          simp only [Instr.indexAt, Sem.run_bind, asIntOf, Sem.run_pure, Result.andThen_ok, run_underlying ht, if_pos (And.intro h0 this), run_sizeOf hn, add_off]
        · rw [← List.drop_drop, hat.1]; exact hat.2
    · cases h
  · rename_i d s ver sz' off len kk n
    split at h
    · rename_i hc
      obtain ⟨rfl, h0, hlt⟩ := hc
      cases h
      simp only [VR] at hv hi
      subst hi
      obtain ⟨o', a', cap, ho, hmp, rfl, hsz, hl, hcs⟩ := hv
      rcases hcs with rfl | ⟨rfl, hcs⟩
      · omega
      · refine ⟨.pointer (some ⟨o'.blk, off * o'.sz + n.toNat * sz', none⟩), ?_, o', ho, hmp, ?_⟩
        · simp only [Instr.indexAt, Sem.run_bind, asIntOf, Sem.run_pure, Result.andThen_ok, run_underlying ht, if_pos (And.intro h0 hlt), run_sizeOf hn, add_off]
        · rw [← hsz, ← Nat.add_mul]; simp
    · cases h
  · cases h

theorem run_arr_of {t e : TypeId} {len sz : Nat} {v i v' : V} {x y : Value} (ht : P.underlying t = some (.array len e)) (hn : tSize P e = some sz) (hv : VR v E x) (hi : VR i E y) (h : arrV len sz v i = some v') :
    ∃ u, (Instr.indexAt t x y).run P w = .ok u w ∧ VR v' E u := by
  unfold arrV at h
  split at h
  · rename_i d s ver j off kk n
    split at h
    · rename_i hc
      cases h
      simp only [VR] at hv hi ⊢
      subst hi
      obtain ⟨o', ho, hmp, rfl⟩ := hv
      refine ⟨_, ?_, o', ho, hmp, rfl⟩
      simp only [Instr.indexAt, Sem.run_bind, asIntOf, Sem.run_pure, Result.andThen_ok, run_underlying ht, Instr.sureAddr, if_pos hc, run_sizeOf hn, add_off, Nat.add_assoc]
    · cases h
  · rename_i e' off kk n
    split at h
    · rename_i hc
      cases h
      simp only [VR] at hv hi ⊢
      subst hi
      obtain ⟨b, o', cs, hb, rfl, hcs⟩ := hv
      refine ⟨_, ?_, b, o', cs, hb, rfl, hcs⟩
      simp only [Instr.indexAt, Sem.run_bind, asIntOf, Sem.run_pure, Result.andThen_ok, run_underlying ht, Instr.sureAddr, if_pos hc, run_sizeOf hn, add_off, Nat.add_assoc]
    · cases h
  · cases h

theorem run_part_of {t : TypeId} {g : Bool} {n off : Nat} {cs : List V} {c : Array Value} {v : V} (hg : tAgg P t = some g) (hn : tSize P t = some n) (hc : VRs cs E c.toList) (hp : pick3 g n cs off = some v) :
    ∃ x, (part t c off).run P w = .ok x w ∧ VR v E x := by
  have hu : (isAgg t).run P w = .ok g w := by
    unfold tAgg at hg
    cases hd : P.underlying t with
    | none => simp [hd] at hg
    | some d =>
      simp only [hd] at hg
      unfold isAgg
      simp only [Sem.run_bind, run_underlying hd, Result.andThen_ok]
      cases d <;> simp_all
  have hl := hc.length
  cases g with
  | false =>
    simp only [pick3, Bool.false_eq_true, if_false] at hp
    obtain ⟨x, hx, hv⟩ := hc.at hp
    refine ⟨x, ?_, hv⟩
    have hx' : c[off]? = some x := by simpa using hx
    unfold part
    simp only [Sem.run_bind, hu, Result.andThen_ok, Bool.false_eq_true, if_false, hx']
    rfl
  | true =>
    simp only [pick3, if_true] at hp
    split at hp
    · cases hp
      refine ⟨.agg (c.extract off (off + n)), ?_, ?_⟩
      · unfold part
        simp only [Sem.run_bind, hu, Result.andThen_ok, if_true, run_sizeOf hn, Sem.run_pure]
      · simp only [VR]
        refine ⟨_, rfl, ?_⟩
        have := (hc.drop off).take n
        simpa [List.extract_eq_take_drop] using this
    · cases hp

theorem run_idx_of {t e : TypeId} {len sz : Nat} {g : Bool} {v i v' : V} {x y : Value} (ht : P.underlying t = some (.array len e)) (hg : tAgg P e = some g) (hn : tSize P e = some sz) (hv : VR v E x) (hi : VR i E y) (h : idxV len sz g v i = some v') :
    ∃ u, (Instr.index t x y).run P w = .ok u w ∧ VR v' E u := by
  unfold idxV at h
  split at h
  · rename_i cs kk n
    split at h
    · rename_i hc
      simp only [VR] at hv hi
      subst hi
      obtain ⟨c, rfl, hcs⟩ := hv
      obtain ⟨u, hu, hr⟩ := run_part_of (P := P) (w := w) hg hn hcs h
      refine ⟨u, ?_, hr⟩
      simp only [Instr.index, Sem.run_bind, asIntOf, Sem.run_pure, Result.andThen_ok, run_underlying ht, if_pos hc, run_sizeOf hn, hu]
    · cases h
  · cases h

theorem run_strIdx_of {t : TypeId} {v i v' : V} {x y : Value} (ht : P.underlying t = some .string) (hv : VR v E x) (hi : VR i E y) (h : strIdxV v i = some v') :
    ∃ u, (Instr.index t x y).run P w = .ok u w ∧ VR v' E u := by
  unfold strIdxV at h
  split at h
  · split at h
    · rename_i s kk n h0
      obtain ⟨b, hb, rfl⟩ := Option.map_eq_some_iff.1 h
      simp only [VR] at hv hi
      subst hi; subst hv
      refine ⟨.int .u8 b.toNat, ?_, rfl⟩
      simp only [Instr.index, Sem.run_bind, asIntOf, Sem.run_pure, Result.andThen_ok, run_underlying ht, if_pos h0, hb]
    · cases h
  · cases h

def boundV (x : Option V) (dflt top : Nat) : Option Nat :=
  match x with
  | none => some dflt
  | some (.int _ n) => if 0 ≤ n ∧ n ≤ top then some n.toNat else none
  | some _ => none

theorem run_bound_of {v : V} {x : Value} {d y y' n : Nat} {code : BoundsCode} (hv : VR v E x) (h : boundV (some v) d y = some n) (hy : y ≤ y') :
    (Instr.sliceBound x y' code).run P w = .ok n w ∧ n ≤ y := by
  unfold boundV at h
  split at h
  · rename_i h'; cases h'
  · rename_i kk m h'
    cases h'
    split at h
    · rename_i hc
      cases h
      simp only [VR] at hv; subst hv
      refine ⟨?_, by omega⟩
      have hc' : 0 ≤ m ∧ m ≤ (y' : Int) := by omega
      simp only [Instr.sliceBound, Sem.run_bind, asIntOf, Sem.run_pure, Result.andThen_ok, if_pos hc']
    · cases h
  · cases h

/-- An operand that may lack. -/
def VRo (E : Env) : Option V → Option Value → Prop
  | none, none => True
  | some v, some x => VR v E x
  | _, _ => False

theorem run_bounds_of {isSlice : Bool} {len cap : Nat} {lo hi mx : Option V} {xl xh xm : Option Value} {r : Nat × Nat × Nat} (hl : VRo E lo xl) (hh : VRo E hi xh) (hm : VRo E mx xm) (hcap : len ≤ cap) (h : bounds len lo hi mx = some r) :
    (Instr.sliceBounds isSlice len cap xl xh xm).run P w = .ok (r.1, r.2.1, if mx.isSome then r.2.2 else cap) w ∧ r.1 ≤ r.2.1 ∧ r.2.1 ≤ r.2.2 ∧ r.2.2 ≤ len ∧ (mx.isNone → r.2.2 = len) := by
  unfold bounds at h
  split at h
  · cases h
  · rename_i hcond
    simp only [Option.bind_eq_some_iff, Option.map_eq_some_iff] at h
    obtain ⟨m, hm', hh', hhh, l, hl', rfl⟩ := h
    have hm' : boundV mx len len = some m := hm'
    have hhh : boundV hi len m = some hh' := hhh
    have hl' : boundV lo 0 hh' = some l := hl'
    simp only
    have nn : ∀ {d top n : Nat}, boundV none d top = some n → n = d := fun h => by simpa [boundV] using h.symm
    cases mx with
    | none =>
      cases xm with
      | some _ => exact hm.elim
      | none =>
        obtain rfl := nn hm'
        cases hi with
        | none =>
          cases xh with
          | some _ => exact hh.elim
          | none =>
            obtain rfl := nn hhh
            cases lo with
            | none =>
              cases xl with
              | some _ => exact hl.elim
              | none => obtain rfl := nn hl'; simp [Instr.sliceBounds]
            | some v =>
              cases xl with
              | none => exact hl.elim
              | some x =>
                have h3 : ∀ code, _ := fun code => run_bound_of (P := P) (w := w) (code := code) hl hl' (Nat.le_refl _)
                simp [Instr.sliceBounds, (h3 _).1, (h3 .sliceB).2]
        | some v' =>
          cases xh with
          | none => exact hh.elim
          | some x' =>
            have h2 : ∀ code, _ := fun code => run_bound_of (P := P) (w := w) (code := code) hh hhh hcap
            cases lo with
            | none =>
              cases xl with
              | some _ => exact hl.elim
              | none => obtain rfl := nn hl'; simp [Instr.sliceBounds, (h2 _).1, (h2 .sliceB).2]
            | some v =>
              cases xl with
              | none => exact hl.elim
              | some x =>
                have h3 : ∀ code, _ := fun code => run_bound_of (P := P) (w := w) (code := code) hl hl' (Nat.le_refl _)
                simp [Instr.sliceBounds, (h2 _).1, (h2 .sliceB).2, (h3 _).1, (h3 .sliceB).2]
    | some v =>
      cases xm with
      | none => exact hm.elim
      | some x =>
        have h1 : ∀ code, _ := fun code => run_bound_of (P := P) (w := w) (code := code) hm hm' hcap
        cases hi with
        | none => simp at hcond
        | some v' =>
          cases xh with
          | none => exact hh.elim
          | some x' =>
            have h2 : ∀ code, _ := fun code => run_bound_of (P := P) (w := w) (code := code) hh hhh (Nat.le_refl _)
            cases lo with
            | none =>
              cases xl with
              | some _ => exact hl.elim
              | none => obtain rfl := nn hl'; simp [Instr.sliceBounds, (h1 _).1, (h1 .sliceB).2, (h2 _).1, (h2 .sliceB).2]
            | some v =>
              cases xl with
              | none => exact hl.elim
              | some x =>
                have h3 : ∀ code, _ := fun code => run_bound_of (P := P) (w := w) (code := code) hl hl' (Nat.le_refl _)
                simp [Instr.sliceBounds, (h1 _).1, (h1 .sliceB).2, (h2 _).1, (h2 .sliceB).2, (h3 _).1, (h3 .sliceB).2]

theorem VRss.sub {F : Env} {es : List (List V)} {sz : Nat} {l : List Value} (i j : Nat) (h : VRss es F sz l) : VRss ((es.take j).drop i) F sz (l.drop (i * sz)) := (h.take j).drop i

theorem run_sub_of {t e : TypeId} {sz : Nat} {v v' : V} {x : Value} {lo hi mx : Option V} {xl xh xm : Option Value} (ht : P.underlying t = some (.slice e)) (hn : tSize P e = some sz)
    (hv : VR v E x) (hl : VRo E lo xl) (hh : VRo E hi xh) (hm : VRo E mx xm) (h : subV sz v lo hi mx = some v') :
    ∃ u, (Instr.sliceAt t x xl xh xm).run P w = .ok u w ∧ VR v' E u := by
  have hun : (Instr.sliceAt t x xl xh xm).run P w = (Instr.slice t x xl xh xm).run P w := by
    simp only [Instr.sliceAt, Sem.run_bind, run_underlying ht, Result.andThen_ok]
  rw [hun]
  unfold subV at h
  split at h
  · simp only [Option.bind_eq_some_iff] at h
    obtain ⟨r, hr, h⟩ := h
    split at h
    · rename_i hnone
      cases h
      simp only [VR] at hv; subst hv
      obtain ⟨h1, h2, h3, h4, h5⟩ := run_bounds_of (P := P) (w := w) (isSlice := true) hl hh hm (Nat.le_refl 0) hr
      refine ⟨.slice none 0 0, ?_, rfl⟩
      simp only [Instr.slice, Sem.run_bind, run_underlying ht, Result.andThen_ok, h1, run_sizeOf hn, Sem.run_pure]
      have : mx.isSome = false := by cases mx <;> simp_all
      simp only [this, Bool.false_eq_true, if_false]
      have e1 : r.1 = 0 := by omega
      have e2 : r.2.1 = 0 := by omega
      simp [e1, e2]
    · cases h
  · rename_i k sz' els
    split at h
    · rename_i hc
      obtain ⟨hk, rfl⟩ := hc
      obtain ⟨r, hr, rfl⟩ := Option.map_eq_some_iff.1 h
      simp only [VR] at hv
      obtain ⟨_, ⟨b, off, sp⟩, cap, rfl, hle, hf, hcs⟩ := hv
      obtain ⟨h1, h2, h3, h4, h5⟩ := run_bounds_of (P := P) (w := w) (isSlice := true) hl hh hm hle hr
      refine ⟨_, by simp only [Instr.slice, Sem.run_bind, run_underlying ht, Result.andThen_ok, h1, run_sizeOf hn, Sem.run_pure]; rfl, ?_⟩
      generalize hM : (if mx.isSome then r.2.2 else cap) = m
      have hmcap : r.2.1 ≤ m := by subst hM; split <;> omega
      have hlen : ((els.take r.2.1).drop r.1).length = r.2.1 - r.1 := by simp; omega
      have haddr : ∃ a' : Addr, (if m = r.1 then some (⟨b, off, sp⟩ : Addr) else Option.map (fun x : Addr => x.add (r.1 * sz')) (some (⟨b, off, sp⟩ : Addr))) = some a' ∧ (m ≠ r.1 → a' = (⟨b, off, sp⟩ : Addr).add (r.1 * sz')) := by
        by_cases e : m = r.1
        · exact ⟨_, by rw [if_pos e], fun h => absurd e h⟩
        · exact ⟨_, by rw [if_neg e]; rfl, fun _ => rfl⟩
      obtain ⟨a', ha', ha''⟩ := haddr
      rw [ha']
      simp only [VR]
      refine ⟨by split <;> simp, a', m - r.1, by rw [hlen], by rw [hlen]; omega, ?_, ?_⟩
      · intro hfull
        rw [hlen]
        split at hfull
        · rename_i hcase
          rcases hcase with ⟨hs, he⟩ | ⟨hs, hk', he⟩
          · subst hM; rw [if_pos hs]; omega
          · subst hM
            have : mx.isSome = false := by cases mx <;> simp_all
            simp only [this, Bool.false_eq_true, if_false]
            have := hf hk'
            omega
        · cases hfull
      · by_cases e : m = r.1
        · refine .inl ?_
          apply List.eq_nil_of_length_eq_zero
          rw [hlen]; omega
        · rcases hcs with rfl | ⟨cs, hsp, him, hcs⟩
          · exact .inl (by simp)
          · simp only at hsp him hcs; subst hsp
            refine .inr ⟨cs, ?_, ?_, ?_⟩
            · rw [ha'' e]; simp
            · rw [ha'' e]; simpa using him
            · rw [ha'' e]; simp only [add_off]; rw [← List.drop_drop]; exact hcs.sub _ _
    · cases h
  · rename_i d s ver sz' off len
    split at h
    · rename_i hsz'; subst hsz'
      obtain ⟨r, hr, rfl⟩ := Option.map_eq_some_iff.1 h
      simp only [VR] at hv
      obtain ⟨o', a, cap, ho, hmp, rfl, hsz, hle, hcs⟩ := hv
      obtain ⟨h1, h2, h3, h4, h5⟩ := run_bounds_of (P := P) (w := w) (isSlice := true) hl hh hm hle hr
      refine ⟨_, by simp only [Instr.slice, Sem.run_bind, run_underlying ht, Result.andThen_ok, h1, run_sizeOf hn, Sem.run_pure]; rfl, ?_⟩
      generalize hM : (if mx.isSome then r.2.2 else cap) = m
      have hmcap : r.2.1 ≤ m := by subst hM; split <;> omega
      have hmle : m ≤ cap := by subst hM; split <;> omega
      simp only [VR]
      by_cases e : m = r.1
      · rw [if_pos e]
        exact ⟨o', a, m - r.1, ho, hmp, rfl, hsz, by omega, .inl (by omega)⟩
      · rw [if_neg e]
        rcases hcs with rfl | ⟨rfl, hcs⟩
        · omega
        · refine ⟨o', _, m - r.1, ho, hmp, rfl, hsz, by omega, .inr ⟨?_, ?_⟩⟩
          · show Addr.add ⟨o'.blk, off * o'.sz, none⟩ _ = _
            rw [add_off, hsz, Nat.add_mul]
          · refine Nat.le_trans (Nat.mul_le_mul_right _ ?_) hcs
            omega
    · cases h
  · cases h

theorem run_strSub_of {t : TypeId} {v v' : V} {x : Value} {lo hi : Option V} {xl xh : Option Value} (ht : P.underlying t = some .string)
    (hv : VR v E x) (hl : VRo E lo xl) (hh : VRo E hi xh) (h : strSubV v lo hi = some v') :
    ∃ u, (Instr.sliceAt t x xl xh none).run P w = .ok u w ∧ VR v' E u := by
  have hun : (Instr.sliceAt t x xl xh none).run P w = (Instr.slice t x xl xh none).run P w := by
    simp only [Instr.sliceAt, Sem.run_bind, run_underlying ht, Result.andThen_ok]
  rw [hun]
  unfold strSubV at h
  split at h
  · obtain ⟨r, hr, rfl⟩ := Option.map_eq_some_iff.1 h
    simp only [VR] at hv; subst hv
    obtain ⟨h1, h2, h3, h4, h5⟩ := run_bounds_of (P := P) (w := w) (E := E) (isSlice := false) (mx := none) (xm := none) hl hh trivial (Nat.le_refl _) hr
    refine ⟨_, ?_, rfl⟩
    simp only [Instr.slice, Sem.run_bind, run_underlying ht, Result.andThen_ok, Option.isSome_none, Bool.false_eq_true, if_false, Sem.run_pure, h1]
  · cases h

theorem run_len_of {t e : TypeId} {ty : TypeId} {v v' : V} {x : Value} (ht : P.underlying t = some (.slice e)) (hv : VR v E x) (h : lenV v = some v') :
    ∃ u, (Builtin.len_ #[t] ty #[x]).run P w = .ok u w ∧ VR v' E u := by
  have hx : ∀ a n c, (Builtin.len_ #[t] ty #[.slice a n c]).run P w = .ok (goInt n) w := by
    intro a n c
    simp [Builtin.len_, run_underlying ht]
  unfold lenV at h
  split at h
  · cases h; simp only [VR] at hv; subst hv; exact ⟨_, hx _ _ _, rfl⟩
  · split at h
    · cases h
    · cases h
      simp only [VR] at hv
      obtain ⟨_, a, cap, rfl, _⟩ := hv
      exact ⟨_, hx _ _ _, rfl⟩
  · cases h
    simp only [VR] at hv
    obtain ⟨o', a, cap, _, _, rfl, _⟩ := hv
    exact ⟨_, hx _ _ _, rfl⟩
  · cases h

theorem run_slen_of {t : TypeId} {ty : TypeId} {v v' : V} {x : Value} (ht : P.underlying t = some .string) (hv : VR v E x) (h : strLenV v = some v') :
    ∃ u, (Builtin.len_ #[t] ty #[x]).run P w = .ok u w ∧ VR v' E u := by
  unfold strLenV at h
  split at h
  · cases h; simp only [VR] at hv; subst hv
    refine ⟨_, ?_, rfl⟩
    simp [Builtin.len_, run_underlying ht, goInt]
  · cases h

theorem run_mm_of {mx : Bool} : ∀ {l : List V} {v v' : V} {x : Value} {xs : List Value}, VR v E x → VRs l E xs → mmV mx v l = some v' →
    ∃ u, (xs.foldlM (if mx then Builtin.max2 else Builtin.min2) x).run P w = .ok u w ∧ VR v' E u
  | [], v, v', x, xs, hv, hl, h => by
    simp only [VRs] at hl; subst hl
    unfold mmV at h
    split at h
    · cases h; exact ⟨x, rfl, hv⟩
    · rename_i h'; cases h'
    · cases h
  | q :: l, v, v', x, xs, hv, hl, h => by
    unfold mmV at h
    split at h
    · rename_i h'; cases h'
    · rename_i k a k' b l' h'
      cases h'
      split at h
      · rename_i hk; subst hk
        simp only [VRs] at hl
        obtain ⟨y, ys, rfl, hy, hr⟩ := hl
        simp only [VR] at hv hy; subst hv; subst hy
        obtain ⟨u, hu, hur⟩ := run_mm_of (v := .int k (if mx then (if b > a then b else a) else (if b < a then b else a))) rfl hr h
        refine ⟨u, ?_, hur⟩
        rw [List.foldlM_cons]
        cases mx <;> simpa [Builtin.min2, Builtin.max2] using hu
      · cases h
    · cases h

theorem run_build_of {t : TypeId} {parts : Array (Nat × Operand)} {z : List V} {q : List (Nat × Nat × Arg)} {r : List V} {fr : List V} {a : Act} (hz : tZero P t = some z) (hs : Sees E fr a (argTmps (q.map (·.2.2)))) (hr : fillV fr z q = some r)
    (hp : (∃ fs ps, P.underlying t = some (.struct fs) ∧ places P fs.toList = some ps ∧ cParts (ps[·]?) parts.toList = some q) ∨
      (∃ len e n, P.underlying t = some (.array len e) ∧ tSize P e = some n ∧ cParts (fun i => some (i * n, n)) parts.toList = some q)) :
    ∃ u, (Instr.build t (parts.map fun (i, x) => (i, a.eval x))).run P w = .ok u w ∧ VR (.agg r) E u := by
  obtain ⟨x, hx, hxr⟩ := run_zero (P := P) (w := w) hz
  rcases hp with ⟨fs, ps, ht, hps, hq⟩ | ⟨len, e, n, ht, hn, hq⟩
  · have hpl : ∀ (l : List Field) (ps : List (Nat × Nat)), places P l = some ps → (l.mapM (fun f => do pure (f.offset, ← sizeOf f.type) : Field → Sem (Nat × Nat))).run P w = .ok ps w := by
      intro l
      induction l with
      | nil => intro ps h; simp only [places, Option.some.injEq] at h; subst h; rfl
      | cons f l ih =>
        intro ps h
        simp only [places, Option.bind_eq_some_iff, Option.map_eq_some_iff] at h
        obtain ⟨n, hn, ps', hps', rfl⟩ := h
        have := ih ps' hps'
        simp only [List.mapM_cons, Sem.run_bind, run_sizeOf hn, Result.andThen_ok, Sem.run_pure, this]
    have hpa : (fs.mapM (fun f => do pure (f.offset, ← sizeOf f.type) : Field → Sem (Nat × Nat))).run P w = .ok ps.toArray w := by
      rw [← Array.toArray_toList (xs := fs), List.mapM_toArray]
      simp only [Sem.run_map, hpl fs.toList ps hps, Result.andThen_ok]
    obtain ⟨d, hd, hdr⟩ := fill_rel (E := E) (fr := fr) (a := a) (ps[·]?) parts.toList q z x.cells r hq hs (hxr E) hr
    refine ⟨.agg d, ?_, d, rfl, hdr⟩
    simp only [Instr.build, Sem.run_bind, hx, Result.andThen_ok, run_underlying ht, hpa]
    have : (parts.map fun (i, x) => (i, a.eval x)).toList = parts.toList.map fun p => (p.1, a.eval p.2) := by simp
    rw [this]
    simp only [List.getElem?_toArray, hd]
    rfl
  · obtain ⟨d, hd, hdr⟩ := fill_rel (E := E) (fr := fr) (a := a) (fun i => some (i * n, n)) parts.toList q z x.cells r hq hs (hxr E) hr
    refine ⟨.agg d, ?_, d, rfl, hdr⟩
    simp only [Instr.build, Sem.run_bind, hx, Result.andThen_ok, run_underlying ht, run_sizeOf hn]
    have : (parts.map fun (i, x) => (i, a.eval x)).toList = parts.toList.map fun p => (p.1, a.eval p.2) := by simp
    rw [this]
    simp only [hd]
    rfl

theorem chop_length (sz : Nat) : ∀ (n : Nat) (cs : List V), (chop sz n cs).length = n
  | 0, _ => rfl
  | n + 1, cs => by simp [chop, chop_length sz n]

theorem chop_each {sz : Nat} : ∀ {n : Nat} {cs : List V}, cs.length = n * sz → ∀ e ∈ chop sz n cs, e.length = sz
  | 0, _, _, e, he => by simp [chop] at he
  | n + 1, cs, h, e, he => by
    rw [Nat.succ_mul] at h
    simp only [chop, List.mem_cons] at he
    rcases he with rfl | he
    · simp; omega
    · exact chop_each (by simp; omega) e he

theorem chop_flat {sz : Nat} : ∀ {n : Nat} {cs : List V}, cs.length = n * sz → (chop sz n cs).flatten = cs
  | 0, cs, h => by simp at h; simp [chop, h]
  | n + 1, cs, h => by
    rw [Nat.succ_mul] at h
    have ih := chop_flat (sz := sz) (n := n) (cs := cs.drop sz) (by rw [List.length_drop]; omega)
    simp only [chop, List.flatten_cons, ih, List.take_append_drop]

theorem fillV_length {fr : List V} : ∀ {q : List (Nat × Nat × Arg)} {cs r : List V}, fillV fr cs q = some r → r.length = cs.length
  | [], cs, r, h => by simp only [fillV, Option.some.injEq] at h; rw [h]
  | (off, n, x) :: q, cs, r, h => by
    simp only [fillV] at h
    split at h
    · rename_i hc
      rw [fillV_length h]
      simp [splice]
      omega
    · cases h

theorem zeros_rel {F : Env} {z : List V} {x : Array Value} (hx : VRs z F x.toList) (h0 : 0 < z.length) : ∀ n : Nat,
    VRs ((List.replicate n z).flatten) F ((Array.range (n * z.length)).map (fun i => x[i % x.size]!)).toList
  | 0 => by simp [VRs]
  | n + 1 => by
    have ih := zeros_rel hx h0 n
    have hsz : x.size = z.length := by simpa using hx.length
    have key : ((Array.range ((n + 1) * z.length)).map (fun i => x[i % x.size]!)).toList = ((Array.range (n * z.length)).map (fun i => x[i % x.size]!)).toList ++ x.toList := by
      simp only [Array.toList_map, Array.toList_range]
      rw [Nat.succ_mul, List.range_add, List.map_append, List.map_map]
      congr 1
      apply List.ext_getElem
      · simp [hsz]
      · intro j h1 h2
        simp only [List.length_map, List.length_range] at h1
        simp only [List.getElem_map, List.getElem_range, Function.comp_apply, hsz]
        rw [Nat.add_comm, Nat.add_mul_mod_self_right, Nat.mod_eq_of_lt h1]
        simp [getElem!_pos, hsz, h1]
    rw [key, List.replicate_succ', List.flatten_append]
    simpa using ih.append hx

theorem run_lit_of {t e : TypeId} {len n : Nat} {parts : Array (Nat × Operand)} {z : List V} {q : List (Nat × Nat × Arg)} {r : List V} {fr : List V} {a : Act} (ht : P.underlying t = some (.slice e)) (hn : tSize P e = some n) (hz : tZero P e = some z)
    (hzn : z.length = n) (h0 : 0 < n) (hmax : len * n ≤ 16777216) (hq : cParts (fun i => some (i * n, n)) parts.toList = some q) (hs : Sees E fr a (argTmps (q.map (·.2.2)))) (hr : fillV fr ((List.replicate len z).flatten) q = some r) :
    ∃ d : Array Value, (Instr.buildSlice t len (parts.map fun (i, x) => (i, a.eval x))).run P w = .ok (.slice (some ⟨w.heap.size, 0, none⟩) len len) (w.alloc (.cells d e)) ∧ VRs r E d.toList ∧ r.length = len * n := by
  obtain ⟨x, hx, hxr⟩ := run_zero (P := P) (w := w) hz
  have hrl := fillV_length hr
  rw [List.length_flatten, List.map_replicate, List.sum_replicate_nat] at hrl
  have hzr := zeros_rel (hxr E) (by omega) len
  rw [hzn] at hzr hrl
  obtain ⟨d, hd, hdr⟩ := fill_rel (E := E) (fr := fr) (a := a) (fun i => some (i * n, n)) parts.toList q _ ((Array.range (len * n)).map (fun i => x.cells[i % x.cells.size]!)) r hq hs hzr hr
  refine ⟨d, ?_, hdr, hrl⟩
  have hp : (parts.map fun (i, x) => (i, a.eval x)).toList = parts.toList.map fun p => (p.1, a.eval p.2) := by simp
  have hm : ¬ len * n > 2 ^ 24 := by
    have : (2 : Nat) ^ 24 = 16777216 := rfl
    omega
  simp only [Instr.buildSlice, Sem.run_bind, run_underlying ht, Result.andThen_ok, run_sizeOf hn, if_neg hm, Sem.run_pure]
  by_cases hl : len * n = 0
  · have hl0 : len = 0 := by
      rcases Nat.mul_eq_zero.1 hl with h | h
      · exact h
      · omega
    subst hl0
    have hz0 : ∀ f : Nat → Value, (Array.range 0).map f = #[] := fun f => Array.eq_empty_of_size_eq_zero (by simp)
    simp only [Nat.zero_mul, hz0] at hd
    simp only [Nat.zero_mul, if_true, Sem.run_pure, Result.andThen_ok, hz0, hp, hd]
    simp [newRow]
  · simp only [if_neg hl, Sem.run_bind, hx, Result.andThen_ok, Sem.run_pure, hp, hd]
    simp [newRow]

/-- A slice literal: new memory that nobody writes. -/
theorem gives_lit {M : List (List Row)} {o : Oper} {a : Act} {s ver : Nat} {d : Array Value} {e : TypeId} {len n : Nat} {r : List V} (hM : RelM E M w) (hrun : (execOp a.eval o).run P w = .ok (.value (.slice (some ⟨w.heap.size, 0, none⟩) len len)) (w.alloc (.cells d e)))
    (hd : VRs r E d.toList) (hl : r.length = len * n) (hp : r.all V.pure = true) : Gives P E M w o a (.sl .full n (chop n len r)) s ver := by
  have hi := hM.imm_new (Nat.le_refl w.heap.size)
  refine ⟨_, _, E.addImm w.heap.size d, hrun, Env.le_addImm hi, (hM.below (below_alloc _ _)).addImm hi (alloc_at _ _) (fun d s o ho => hM.own_ne_new d s _ o ho), below_alloc _ _, ?_, ⟨fun _ _ _ _ h => .inl h, fun x c hx => ?_⟩⟩
  case refine_2 =>
    simp only [Env.addImm] at hx
    split at hx
    · rename_i e; exact .inr (by omega)
    · exact .inl hx
  simp only [VR, chop_length]
  refine ⟨by simp, _, len, rfl, Nat.le_refl _, fun _ => rfl, .inr ⟨d, rfl, by simp [Env.addImm], ?_⟩⟩
  refine VRss.of_flat (chop_each hl) ?_
  rw [chop_flat hl, chop_length, List.drop_zero]
  have := VRs.pure hp (VRs.mono (Env.le_addImm (b := w.heap.size) (c := d) hi) _ _ hd)
  rw [List.take_of_length_le (by have := hd.length; simp only [Array.length_toList] at this ⊢; omega)]
  exact this

theorem run_loadAt_of {L : List Row} {H : List (List Row)} {t : TypeId} {g : Bool} {n : Nat} {v v' : V} {x : Value} (hL : RelM E (L :: H) w) (hg : tAgg P t = some g) (hn : tSize P t = some n) (hv : VR v E x) (h : loadV (L :: H) g n v = some v') :
    ∃ u, (Instr.loadAt t x).run P w = .ok u w ∧ VR v' E u := by
  unfold loadV at h
  split at h
  · rename_i d s ver i off
    dsimp only at h
    split at h
    · rename_i hc
      simp only [Option.bind_eq_some_iff, Option.map_eq_some_iff] at h
      obtain ⟨e, he, v₁, hp, rfl⟩ := h
      simp only [VR] at hv
      obtain ⟨o, ho, hmp, rfl⟩ := hv
      rw [← hc.1] at ho
      obtain ⟨c, t', hb, hcs, hsz, hrow⟩ := hL.cur d s o ho hmp
      obtain ⟨hel, hev⟩ := hrow.at he
      rw [← hel] at hev
      rw [hel] at hev
      obtain ⟨u, hu, hur⟩ := run_load_of (P := P) (E := E.up d) (w := w) (o := i * o.sz) (off := off) hg hn hb (by rw [hel]; exact hev) hp
      exact ⟨u, by simp only [Instr.loadAt, Sem.run_bind, Instr.sureAddr, Sem.run_pure, Result.andThen_ok, hu], (VR.shift d _ _).2 hur⟩
    · cases h
  · simp only [VR] at hv
    obtain ⟨b, o, cs, hb, rfl, hcs⟩ := hv
    obtain ⟨t', fr', hbl⟩ := hL.imm b cs hb
    obtain ⟨u, hu, hur⟩ := run_load_of (P := P) (E := E.bare) (w := w) hg hn hbl hcs h
    exact ⟨u, by simp only [Instr.loadAt, Sem.run_bind, Instr.sureAddr, Sem.run_pure, Result.andThen_ok, hu], VR.mono E.bare_le _ _ hur⟩
  · cases h

/-! ### Maps -/

theorem text_self (a : ByteArray) : (a == a) = true := by
  cases a with
  | mk d => exact beq_self_eq_true d
theorem text_eq {a b : ByteArray} (h : (a == b) = true) : a = b := by
  cases a with
  | mk x =>
    cases b with
    | mk y => exact congrArg ByteArray.mk (eq_of_beq (show (x == y) = true from h))

theorem same_of {kd : TypeDesc} {m : MK} {k k' : V} {x x' : Value} {E F : Env} {b : Bool} (hm : mkOf kd = some m) (hk : VR k E x) (hk' : VR k' F x') (h : keyEq m k k' = some b) :
    Instr.sameNow kd x x' = some b ∧ (b = true → Instr.sameBits 10000 x' x = true) := by
  unfold keyEq at h
  split at h
  · simp only [VR] at hk hk'
    subst hk; subst hk'
    cases kd <;> simp only [mkOf, Option.some.injEq, reduceCtorEq] at hm
    split at h
    · rename_i e; subst e
      cases h
      refine ⟨by simp [Instr.sameNow], fun e => ?_⟩
      have e := eq_of_beq e
      subst e
      simp [Instr.sameBits]
    · cases h
  · simp only [VR] at hk hk'
    subst hk; subst hk'
    cases kd <;> simp only [mkOf, Option.some.injEq, reduceCtorEq] at hm
    cases h
    refine ⟨by simp [Instr.sameNow], fun e => ?_⟩
    have e := text_eq e
    subst e
    exact text_self _
  · simp only [VR] at hk hk'
    subst hk; subst hk'
    cases kd <;> simp only [mkOf, Option.some.injEq, reduceCtorEq] at hm
    cases h
    refine ⟨by simp [Instr.sameNow], fun e => ?_⟩
    have e := eq_of_beq e
    subst e
    simp [Instr.sameBits]
  · cases h

/-- What looking a key up in the abstract says of the entries. -/
theorem findO_of {kd : TypeDesc} {m : MK} {k : V} {x : Value} {E F : Env} (hm : mkOf kd = some m) (hk : VR k F x) : ∀ {es : List (List V)} {l : List MapEntry} {i : Nat} {r : Option (Nat × V)}, EntO es E l → findV m k es i = some r →
    (r = none → ∀ e ∈ l, Instr.sameNow kd x e.key = some false) ∧
    (∀ j v, r = some (j, v) → ∃ n e, j = i + n ∧ l[n]? = some e ∧ VR v E e.val ∧ Instr.sameNow kd x e.key = some true ∧ Instr.sameBits 10000 e.key x = true ∧ ∀ e' ∈ l.eraseIdx n, Instr.sameNow kd x e'.key = some false)
  | [], l, i, r, hr, h => by
    simp only [EntO] at hr; subst hr
    simp only [findV, Option.some.injEq] at h; subst h
    exact ⟨fun _ e he => by (cases he), fun _ _ h => by (cases h)⟩
  | e :: es, l, i, r, hr, h => by
    obtain ⟨me, l', rfl, hv, hr⟩ := hr
    unfold findV at h
    split at h
    · rename_i h0; cases h0
    · rename_i h0
      cases h0
      simp only [VRs] at hv
      obtain ⟨y1, _, e1, hk', y2, _, e2, hv', e3⟩ := hv
      cases e1; cases e2
      split at h
      · rename_i hq hrest
        cases h
        obtain ⟨h1, h2⟩ := same_of hm hk hk' hq
        obtain ⟨h3, _⟩ := findO_of hm hk hr hrest
        refine ⟨fun h => by (cases h), fun j v hj => ?_⟩
        cases hj
        exact ⟨0, me, rfl, rfl, hv', h1, h2 rfl, fun e' he' => h3 rfl e' (by simpa using he')⟩
      · rename_i hq
        obtain ⟨h1, _⟩ := same_of hm hk hk' hq
        obtain ⟨h3, h4⟩ := findO_of hm hk hr h
        refine ⟨fun hn e' he' => ?_, fun j v hj => ?_⟩
        · cases he' with
          | head => exact h1
          | tail _ he' => exact h3 hn e' he'
        · obtain ⟨n, e', h5, h6, h7, h8, h9, h10⟩ := h4 j v hj
          refine ⟨n + 1, e', by omega, by simpa using h6, h7, h8, h9, fun e2 he2 => ?_⟩
          simp only [List.eraseIdx_cons_succ] at he2
          cases he2 with
          | head => exact h1
          | tail _ he2 => exact h10 e2 he2
      · cases h
    · cases h

theorem findNow_none {kd : TypeDesc} {x : Value} : ∀ {l : List MapEntry} {i : Nat}, (∀ e ∈ l, Instr.sameNow kd x e.key = some false) → Instr.findNow kd x l i = some none
  | [], _, _ => rfl
  | e :: l, i, h => by
    simp only [Instr.findNow, h e (.head _)]
    exact findNow_none (fun e' he' => h e' (.tail _ he'))

theorem findNow_some {kd : TypeDesc} {x : Value} {e : MapEntry} (he : Instr.sameNow kd x e.key = some true) : ∀ {l rest : List MapEntry} {i : Nat}, l.Perm (e :: rest) → (∀ e' ∈ rest, Instr.sameNow kd x e'.key = some false) →
    ∃ j, Instr.findNow kd x l i = some (some (i + j, e.val)) ∧ l[j]? = some e
  | [], rest, i, h, _ => by have := h.length_eq; simp at this
  | a :: l, rest, i, h, hr => by
    have ha : a ∈ e :: rest := h.subset (.head _)
    rcases List.mem_cons.1 ha with rfl | ha
    · exact ⟨0, by simp only [Instr.findNow, he, Nat.add_zero], rfl⟩
    · obtain ⟨s, t, rfl⟩ := List.append_of_mem ha
      have h1 : l.Perm (e :: (s ++ t)) := by
        have h2 : (e :: (s ++ a :: t)).Perm (a :: e :: (s ++ t)) := ((List.perm_middle (l₁ := s) (a := a) (l₂ := t)).cons e).trans (.swap _ _ _)
        exact (h.trans h2).cons_inv
      obtain ⟨j, h3, h4⟩ := findNow_some he (i := i + 1) h1 (fun e' he' => hr e' (by
        rcases List.mem_append.1 he' with h | h
        · exact List.mem_append_left _ h
        · exact List.mem_append_right _ (.tail _ h)))
      exact ⟨j + 1, by simp only [Instr.findNow, hr a ha, h3]; simp only [Nat.add_assoc, Nat.add_comm 1 j], by simpa using h4⟩

theorem perm_eraseIdx {α : Type} {a : α} : ∀ {l : List α} {n : Nat}, l[n]? = some a → l.Perm (a :: l.eraseIdx n)
  | [], n, h => by simp at h
  | b :: l, 0, h => by
    simp only [List.getElem?_cons_zero, Option.some.injEq] at h
    subst h
    simp
  | b :: l, n + 1, h => by
    simp only [List.getElem?_cons_succ] at h
    rw [List.eraseIdx_cons_succ]
    exact ((perm_eraseIdx h).cons b).trans (.swap _ _ _)

theorem perm_set {α : Type} {b : α} : ∀ {l : List α} {n : Nat}, n < l.length → (l.set n b).Perm (b :: l.eraseIdx n)
  | [], n, h => by simp at h
  | a :: l, 0, h => by simp
  | a :: l, n + 1, h => by
    rw [List.set_cons_succ, List.eraseIdx_cons_succ]
    exact ((perm_set (by simpa using h)).cons a).trans (.swap _ _ _)

def FoundR (E : Env) (x : Value) (es : List (List V)) (l : List MapEntry) : Option (Nat × V) → Option (Nat × Value) → Prop
  | none, none => True
  | some (j, v), some (j', y) => VR v E y ∧ ∃ e l', l[j']? = some e ∧ e.val = y ∧ Instr.sameBits 10000 e.key x = true ∧ l'.Perm l ∧ EntO es E l' ∧ l'[j]? = some e
  | _, _ => False

theorem findNow_of {kd : TypeDesc} {m : MK} {k : V} {x : Value} {E F : Env} (hm : mkOf kd = some m) (hk : VR k F x) {es : List (List V)} {l : List MapEntry} {r : Option (Nat × V)} (h : EntR es E l) (hf : findV m k es 0 = some r) :
    ∃ r', Instr.findNow kd x l 0 = some r' ∧ FoundR E x es l r r' := by
  obtain ⟨l', h1, h2⟩ := h
  obtain ⟨h3, h4⟩ := findO_of hm hk h2 hf
  cases r with
  | none => exact ⟨none, findNow_none (fun e he => h3 rfl e (h1.symm.subset he)), trivial⟩
  | some jv =>
    obtain ⟨j, v⟩ := jv
    obtain ⟨n, e, h5, h6, h7, h8, h9, h10⟩ := h4 j v rfl
    obtain rfl : j = n := by omega
    have hlt := (List.getElem?_eq_some_iff.1 h6).1
    have hp : l.Perm (e :: l'.eraseIdx j) := h1.symm.trans (perm_eraseIdx h6)
    obtain ⟨j', h12, h13⟩ := findNow_some h8 (i := 0) hp h10
    rw [Nat.zero_add] at h12
    exact ⟨some (j', e.val), h12, h7, e, l', h13, rfl, h9, h1, h2, h6⟩

theorem run_checkKey_of {kt : TypeId} {kd : TypeDesc} {m : MK} (hd : P.underlying kt = some kd) (hm : mkOf kd = some m) (b : Bool) (x : Value) : (Instr.checkKey b 10000 kt x).run P w = .ok () w := by
  show (Instr.checkKey b (9999 + 1) kt x).run P w = .ok () w
  unfold Instr.checkKey
  simp only [Sem.run_bind, run_underlying hd, Result.andThen]
  cases kd <;> simp_all [mkOf]

theorem run_findKey_of {kt : TypeId} {kd : TypeDesc} {x : Value} {l : List MapEntry} {r : Option (Nat × Value)} (hd : P.underlying kt = some kd) (h : Instr.findNow kd x l 0 = some r) : (Instr.findKey kt x l).run P w = .ok r w := by
  simp [Instr.findKey, run_underlying hd, Result.andThen, h]

theorem run_getMap {r : Nat} {es : Array MapEntry} {clk : Nat} (hb : w.heap[r]? = some (.map es clk)) : (getObj r).run P w = .ok (.map es clk) w := by
  simp [getObj, Sem.run, hb]

theorem run_setMap {r : Nat} {es : Array MapEntry} {clk : Nat} (o : Obj) (hb : w.heap[r]? = some (.map es clk)) : (setObj r o).run P w = .ok () { w with heap := w.heap.setIfInBounds r o } := by
  simp [setObj, Sem.run, hb]

theorem run_zeroV {t : TypeId} {z : V} (h : zeroV P t = some z) : ∃ x, (zeroValue t).run P w = .ok x w ∧ VR z E x := by
  unfold zeroV at h
  simp only [Option.bind_eq_some_iff] at h
  obtain ⟨x, ⟨i, hi, hz⟩, hc⟩ := h
  exact ⟨x, by simp [zeroValue, typeInfo, hi, hz], ofVal_rel hc E⟩

theorem run_mget_of {L : List Row} {H : List (List Row)} {t kt et : TypeId} {m : MK} {z x i v : V} {ok : Bool} {xv iv : Value} (ht : P.underlying t = some (.map kt et)) (hk : tKey P kt = some m) (hz : zeroV P et = some z)
    (hL : RelM E (L :: H) w) (hx : VR x E xv) (hi : VR i E iv) (h : mgetV (L :: H) m ok z x i = some v) : ∃ u, (Instr.lookup t xv iv ok).run P w = .ok u w ∧ VR v E u := by
  unfold mgetV at h
  split at h
  · rename_i d s ver
    dsimp only at h
    split at h
    · rename_i hc
      obtain ⟨r, hf, h⟩ := Option.map_eq_some_iff.1 h
      simp only [VR] at hx
      obtain ⟨o, ho, hmp, rfl⟩ := hx
      rw [← hc.1] at ho
      obtain ⟨es, clk, hb, hrow⟩ := hL.mpc d s o ho hmp
      obtain ⟨kd, hd, hm⟩ := Option.bind_eq_some_iff.1 hk
      obtain ⟨r', h1, h2⟩ := findNow_of hm hi hrow hf
      have hck := run_checkKey_of (w := w) hd hm es.isEmpty iv
      have hfk := run_findKey_of (w := w) hd h1
      obtain ⟨zx, hzx, hzr⟩ := run_zeroV (P := P) (E := E) (w := w) hz
      unfold FoundR at h2
      split at h2
      · simp only at h
        refine ⟨if ok then .tuple #[zx, .bool false] else zx, ?_, ?_⟩
        · simp only [Instr.lookup, Sem.run_bind, run_underlying ht, Result.andThen_ok, run_getMap hb, Sem.run_pure, hck, hfk, hzx]
        · subst h
          cases ok
          · exact hzr
          · simp only [if_true, VR, VRs]
            exact ⟨_, rfl, _, _, rfl, hzr, _, _, rfl, rfl, rfl⟩
      · rename_i j u j' y
        obtain ⟨hv, _⟩ := h2
        have hv := (VR.shift d _ _).2 hv
        simp only at h
        refine ⟨if ok then .tuple #[y, .bool true] else y, ?_, ?_⟩
        · simp only [Instr.lookup, Sem.run_bind, run_underlying ht, Result.andThen_ok, run_getMap hb, Sem.run_pure, hck, hfk]
        · subst h
          cases ok
          · exact hv
          · simp only [if_true, VR, VRs]
            exact ⟨_, rfl, _, _, rfl, hv, _, _, rfl, rfl, rfl⟩
      · exact h2.elim
    · cases h
  · cases h

theorem wrap_small {n : Int} (h0 : 0 ≤ n) (h1 : n ≤ 4294967296) : IntKind.i64.wrap n = n := IntWalk.i64_in _ (by omega)

theorem run_mks_of {t e : TypeId} {i : TypeInfo} {z : List V} {l c : Int} (ht : P.underlying t = some (.slice e)) (hi : P.info? e = some i) (hz : tZero P e = some z) (hzn : z.length = i.size) (h0 : 0 < i.size)
    (hl0 : 0 ≤ l) (hlc : l ≤ c) (hc : c ≤ 4294967296) (hb : i.bytes ≤ 16384) :
    ∃ d : Array Value, (Instr.makeSlice t (.int .i64 l) (.int .i64 c)).run P w = .ok (.slice (some ⟨w.heap.size, 0, none⟩) l.toNat c.toNat) (w.alloc (.cells d e)) ∧ VRs (List.replicate c.toNat z).flatten E d.toList := by
  obtain ⟨x, hx, hxr⟩ := run_zero (P := P) (w := w) hz
  have hzr := zeros_rel (hxr E) (by omega) c.toNat
  rw [hzn] at hzr
  refine ⟨(Array.range (c.toNat * i.size)).map (fun j => x.cells[j % x.cells.size]!), ?_, hzr⟩
  have hbc : (i.bytes : Int) * c ≤ 70368744177664 := by
    have h1 : (i.bytes : Int) * c ≤ (16384 : Int) * c := Int.mul_le_mul_of_nonneg_right (by omega) (by omega)
    omega
  have hbl : (i.bytes : Int) * l ≤ 70368744177664 := by
    have h1 : (i.bytes : Int) * l ≤ (16384 : Int) * l := Int.mul_le_mul_of_nonneg_right (by omega) (by omega)
    omega
  have w1 := wrap_small hl0 (by omega)
  have w2 := wrap_small (n := c) (by omega) hc
  have hcond : (decide (c < 0) || decide ((i.bytes : Int) * c > 2 ^ 48) || decide (l < 0) || decide (l > c)) = false := by
    have e1 : (2 : Int) ^ 48 = 281474976710656 := rfl
    simp only [Bool.or_eq_false_iff, decide_eq_false_iff_not]
    omega
  simp only [Instr.makeSlice, Sem.run_bind, run_underlying ht, Result.andThen_ok, asInt, asIntOf, Sem.run_pure, typeInfo, run_program, hi, w1, w2]
  simp only [hcond, Bool.false_eq_true, if_false, Sem.run_bind, run_askRoom, Result.andThen_ok, sizeOf, typeInfo, run_program, hi, Sem.run_pure]
  by_cases hn : c.toNat * i.size = 0
  · have hz0 : ∀ f : Nat → Value, (Array.range 0).map f = #[] := fun f => Array.eq_empty_of_size_eq_zero (by simp)
    simp only [hn, if_true, Sem.run_pure, Result.andThen_ok, hz0]
    simp [newRow]
  · simp only [if_neg hn, Sem.run_bind, hx, Result.andThen_ok, Sem.run_pure]
    simp [newRow]

end

end Go.Ab

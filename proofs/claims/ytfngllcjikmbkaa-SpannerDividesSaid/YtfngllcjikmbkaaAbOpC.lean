/-
  All operations but calls, stores and appends: the model gives what the abstract machine gives.
-/
import Derived.Test.YtfngllcjikmbkaaAbOpB
namespace Go.Ab
open Go Go.RowKit
set_option linter.unusedVariables false
set_option linter.unusedSimpArgs false
set_option linter.unnecessarySimpa false

def AOp.plain : AOp → Bool
  | .store .. | .app .. | .call .. | .litf .. | .callf .. | .mput .. | .mins .. => false
  | _ => true

theorem cOpt_rel {E : Env} {fr : List V} {a : Act} {x : Option Operand} {y : Option Arg} {l : List Arg} (h : cOpt x = some y) (hs : Sees E fr a (argTmps l)) (hl : ∀ z, y = some z → z ∈ l) : VRo E (y.map (ev fr)) (x.map a.eval) := by
  cases x with
  | none => simp only [cOpt, Option.some.injEq] at h; subst h; trivial
  | some x =>
    simp only [cOpt, Option.map_eq_some_iff] at h
    obtain ⟨z, hz, rfl⟩ := h
    exact hs.arg (hl z rfl) hz

theorem one_some {L L' : List Row} {v v' : V} {o : Option V} (h : one L o = some (v, L')) : o = some v ∧ L' = L := by
  unfold one at h
  obtain ⟨u, hu, h⟩ := Option.map_eq_some_iff.1 h
  cases h
  exact ⟨hu, rfl⟩

set_option maxHeartbeats 1000000 in
theorem op_gives {P : Program} {keep : Nat} {site : Nat} {o : Oper} {ao : AOp} {E : Env} {M : List (List Row)} {w : World} {a : Act} {fr : List V} {cf : CallF} {H : List (List Row)} {L L' : List Row} {v : V}
    (hop : cOp P keep site o = some ao) (hsite : 0 < site) (hp : ao.plain = true) (he : evalOp cf H fr L ao = some (v, L')) (hs : Sees E fr a (argTmps ao.argList))
    (hL : RelM E (L :: H) w) (hM : RelM E M w) (hrow : ao.site ≠ 0 → (rget L ao.site).ver < (rget L' ao.site).ver → rowAt M 0 ao.site = rget L' ao.site ∧ E.own 0 ao.site (rget L' ao.site).ver = none) :
    Gives P E M w o a v ao.site (rget L' ao.site).ver := by
  have hs0 : site ≠ 0 := by omega
  unfold cOp at hop
  split at hop
  · -- move
    rename_i x ho
    obtain ⟨y, hy, rfl⟩ := Option.map_eq_some_iff.1 hop
    simp only [evalOp, Option.some.injEq, Prod.mk.injEq] at he
    obtain ⟨rfl, rfl⟩ := he
    exact .same hM (by simp [execOp, ho]) (hs.arg (by simp [AOp.argList]) hy)
  · -- assign
    rename_i x ho
    obtain ⟨y, hy, rfl⟩ := Option.map_eq_some_iff.1 hop
    simp only [evalOp, Option.some.injEq, Prod.mk.injEq] at he
    obtain ⟨rfl, rfl⟩ := he
    exact .same hM (by simp [execOp, ho]) (hs.arg (by simp [AOp.argList]) hy)
  · -- pick
    rename_i c x y ho
    simp only [Option.bind_eq_some_iff, Option.map_eq_some_iff] at hop
    obtain ⟨c', hc, x', hx, y', hy, rfl⟩ := hop
    simp only [evalOp, Option.map_eq_some_iff, Prod.mk.injEq] at he
    obtain ⟨t, ht, rfl, rfl⟩ := he
    exact gives_pick ho hM (hs.arg (by simp [AOp.argList]) hc) (hs.arg (by simp [AOp.argList]) hx) (hs.arg (by simp [AOp.argList]) hy) ht
  · -- binOp
    rename_i op t x y u ho
    simp only [Option.bind_eq_some_iff] at hop
    obtain ⟨x', hx, y', hy, hop⟩ := hop
    have hrun : ∀ {u : Value}, (do eqGuard op t x y (a.eval x) (a.eval y); binOp op t (a.eval x) (a.eval y) : Sem Value).run P w = .ok u w → (execOp a.eval o).run P w = .ok (.value u) w := by
      intro u h
      exact exec_run (by simp only [execOp, ho]) h
    split at hop
    · cases hop
      obtain ⟨hb, rfl⟩ := one_some (v' := v) he
      obtain ⟨u, hu, hr⟩ := binV_run (P := P) (w := w) (t := t) (hs.arg (by simp [AOp.argList]) hx) (hs.arg (by simp [AOp.argList]) hy) hb x y
      exact .same hM (hrun hu) (hr E)
    · cases hop
      obtain ⟨hb, rfl⟩ := one_some (v' := v) he
      obtain ⟨u, hu, hr⟩ := binV_run (P := P) (w := w) (t := t) (hs.arg (by simp [AOp.argList]) hx) (hs.arg (by simp [AOp.argList]) hy) hb x y
      exact .same hM (hrun hu) (hr E)
    · rename_i ht
      split at hop
      · rename_i hopp
        cases hop
        simp only [evalOp] at he
        split at he
        · rename_i p q hp' hq'
          cases he
          have h1 := hs.arg (y := x') (by simp [AOp.argList]) hx
          have h2 := hs.arg (y := y') (by simp [AOp.argList]) hy
          rw [hp'] at h1; rw [hq'] at h2
          simp only [VR] at h1 h2
          refine .same hM (hrun ?_) (x := .bool (if op == .neq then !(p == q) else (p == q))) rfl
          rw [h1, h2]
          exact eqb_run hopp ht x y
        · cases he
      · cases hop
    all_goals first
      | (cases hop; done)
      | skip
    all_goals
      split at hop
      · rename_i hcond
        obtain ⟨lay, hlay, rfl⟩ := Option.map_eq_some_iff.1 hop
        simp only [evalOp] at he
        split at he
        · rename_i p q hp' hq'
          simp only [Option.map_eq_some_iff, Prod.mk.injEq] at he
          obtain ⟨r, hr, rfl, rfl⟩ := he
          have h1 := hs.arg (y := x') (by simp [AOp.argList]) hx
          have h2 := hs.arg (y := y') (by simp [AOp.argList]) hy
          rw [hp'] at h1; rw [hq'] at h2
          simp only [VR] at h1 h2
          obtain ⟨c1, e1, h1⟩ := h1
          obtain ⟨c2, e2, h2⟩ := h2
          have hag : tAgg P t = some true := by unfold tAgg; simp only [‹P.underlying t = _›]
          have hq := run_plainEq (P := P) (E := E) 20 t lay hlay w 10000 (by omega) p q c1.toList c2.toList r h1 h2 hr
          rw [pack_agg hag, pack_agg hag] at hq
          simp only [Array.toArray_toList] at hq
          refine .same hM (hrun ?_) (x := .bool (if op == .neq then !r else r)) rfl
          rw [e1, e2]
          simp only [Sem.run_bind, run_eqGuard_agg (P := P) w op t x y c1 c2 hcond.2, Result.andThen_ok]
          rcases hcond.1 with rfl | rfl
          · rw [run_eql_struct, hq]; rfl
          · rw [run_neq_struct, hq]; rfl
        · cases he
      · cases hop
  · -- not
    rename_i _ x ho
    obtain ⟨x', hx, rfl⟩ := Option.map_eq_some_iff.1 hop
    simp only [evalOp, Option.map_eq_some_iff, Prod.mk.injEq] at he
    obtain ⟨b, hb, rfl, rfl⟩ := he
    have h1 := hs.arg (y := x') (by simp [AOp.argList]) hx
    rw [asB_some hb] at h1
    simp only [VR] at h1
    exact .same hM (x := .bool (!b)) (by simp [execOp, ho, h1, Op.unary]) rfl
  · -- neg
    rename_i _ x ho
    obtain ⟨x', hx, rfl⟩ := Option.map_eq_some_iff.1 hop
    simp only [evalOp] at he
    have h1 := hs.arg (y := x') (by simp [AOp.argList]) hx
    split at he
    · rename_i k n hv
      cases he
      rw [hv] at h1
      simp only [VR] at h1
      exact .same hM (x := .int k (k.wrap (0 - n))) (by simp [execOp, ho, h1, Op.unary, Op.intArith]) rfl
    · cases he
  · -- convert
    rename_i t d x ho
    split at hop
    · rename_i k' k ht hd
      obtain ⟨x', hx, rfl⟩ := Option.map_eq_some_iff.1 hop
      simp only [evalOp] at he
      have h1 := hs.arg (y := x') (by simp [AOp.argList]) hx
      split at he
      · rename_i k'' n hv
        cases he
        rw [hv] at h1
        simp only [VR] at h1
        exact .same hM (x := .int k (k.wrap n)) (by simp [execOp, ho, h1, convert, run_underlying ht, run_underlying hd, Conv.intToInt]) rfl
      · cases he
    · cases hop
  · -- alloc
    rename_i t ho
    obtain ⟨z, hz, rfl⟩ := Option.map_eq_some_iff.1 hop
    simp only [evalOp] at he
    split at he
    · cases he
      obtain ⟨h1, h2⟩ := hrow hs0 (by simp [AOp.site, rget_rset])
      simp only [AOp.site, rget_rset, if_true] at h1 h2
      obtain ⟨x, hx, hxr⟩ := run_zero (P := P) (w := w) hz
      have := gives_own (P := P) (o := o) (a := a) (s := site) (row := ⟨(rget L site).ver + 1, z.length, [z]⟩) (c := x.cells) (t := t) (v := .ptr 0 site ((rget L site).ver + 1) 0 0) (x := .pointer (some ⟨w.heap.size, 0, none⟩))
        hM hM rfl (Below.refl _ _) (by simp [execOp, ho, Instr.alloc, hx, newVar, newRow]) hs0 h1 h2
        (by simp only [VRss]; have := hxr E; exact ⟨trivial, by rw [← this.length, List.take_length]; exact this, trivial⟩)
        (fun E' h => by simp only [VR]; exact ⟨_, h, by simp⟩)
      simpa [AOp.site, rget_rset] using this
    · cases he
  · -- box
    rename_i t x ho
    obtain ⟨x', hx, rfl⟩ := Option.map_eq_some_iff.1 hop
    simp only [evalOp] at he
    split at he
    · rename_i hsc
      cases he
      obtain ⟨h1, h2⟩ := hrow hs0 (by simp [AOp.site, rget_rset])
      simp only [AOp.site, rget_rset, if_true] at h1 h2
      have hx1 := VR.cells hsc (hs.arg (y := x') (by simp [AOp.argList]) hx)
      have := gives_own (P := P) (o := o) (a := a) (s := site) (row := ⟨(rget L site).ver + 1, (ev fr x').cells.length, [(ev fr x').cells]⟩) (c := (a.eval x).cells) (t := t) (v := .ptr 0 site ((rget L site).ver + 1) 0 0) (x := .pointer (some ⟨w.heap.size, 0, none⟩))
        hM hM rfl (Below.refl _ _) (by simp [execOp, ho, Instr.box, newVar, newRow]) hs0 h1 h2
        (by simp only [VRss]; exact ⟨trivial, by rw [← hx1.length, List.take_length]; exact hx1, trivial⟩)
        (fun E' h => by simp only [VR]; exact ⟨_, h, by simp⟩)
      simpa [AOp.site, rget_rset] using this
    · cases he
  · -- build
    rename_i t parts ho
    obtain ⟨z, hz, hop⟩ := Option.bind_eq_some_iff.1 hop
    have hfin : ∀ {q : List (Nat × Nat × Arg)}, ao = .build z q → ((∃ fs ps, P.underlying t = some (.struct fs) ∧ places P fs.toList = some ps ∧ cParts (ps[·]?) parts.toList = some q) ∨
      (∃ len e n, P.underlying t = some (.array len e) ∧ tSize P e = some n ∧ cParts (fun i => some (i * n, n)) parts.toList = some q)) → Gives P E M w o a v ao.site (rget L' ao.site).ver := by
      intro q hq hp'
      subst hq
      simp only [evalOp, Option.map_eq_some_iff, Prod.mk.injEq] at he
      obtain ⟨r, hr, rfl, rfl⟩ := he
      obtain ⟨u, hu, hur⟩ := run_build_of (P := P) (w := w) (E := E) (a := a) hz hs hr hp'
      exact .same hM (exec_run (by simp only [execOp, ho]) hu) hur
    split at hop
    · rename_i fs ht
      simp only [Option.bind_eq_some_iff, Option.map_eq_some_iff] at hop
      obtain ⟨ps, hps, q, hq, rfl⟩ := hop
      exact hfin rfl (.inl ⟨fs, ps, ht, hps, hq⟩)
    · rename_i len e ht
      simp only [Option.bind_eq_some_iff, Option.map_eq_some_iff] at hop
      obtain ⟨n, hn, q, hq, rfl⟩ := hop
      exact hfin rfl (.inr ⟨len, e, n, ht, hn, hq⟩)
    · cases hop
  · -- buildSlice
    rename_i t len parts ho
    split at hop
    · rename_i e ht
      simp only [Option.bind_eq_some_iff] at hop
      obtain ⟨n, hn, z, hz, hop⟩ := hop
      split at hop
      · rename_i hc
        obtain ⟨q, hq, hop⟩ := Option.map_eq_some_iff.1 hop
        unfold mkLit at hop
        split at hop
        · subst hop
          simp [AOp.plain] at hp
        subst hop
        simp only [evalOp, Option.bind_eq_some_iff] at he
        obtain ⟨cs, hcs, he⟩ := he
        split at he
        · rename_i hc2
          cases he
          obtain ⟨d, hd, hdr, hl⟩ := run_lit_of (P := P) (w := w) (E := E) (a := a) ht hn hz hc.1 hc.2.1 hc.2.2 hq hs hcs
          exact gives_lit hM (exec_run (by simp only [execOp, ho]) hd) hdr hl hc2.2.2
        · cases he
      · cases hop
    · cases hop
  · -- load
    rename_i t x ho
    simp only [Option.bind_eq_some_iff, Option.map_eq_some_iff] at hop
    obtain ⟨g, hg, n, hn, x', hx, rfl⟩ := hop
    obtain ⟨hb, rfl⟩ := one_some (v' := v) he
    obtain ⟨u, hu, hur⟩ := run_loadAt_of (P := P) hL hg hn (hs.arg (by simp [AOp.argList]) hx) hb
    exact .same hM (exec_run (by simp only [execOp, ho]) hu) hur
  · -- store
    simp only [Option.bind_eq_some_iff, Option.map_eq_some_iff] at hop
    obtain ⟨_, _, _, _, _, _, rfl⟩ := hop
    simp [AOp.plain] at hp
  · -- nilCheck
    rename_i x ho
    obtain ⟨x', hx, rfl⟩ := Option.map_eq_some_iff.1 hop
    simp only [evalOp] at he
    have h1 := hs.arg (y := x') (by simp [AOp.argList]) hx
    split at he
    · rename_i d s ver i off hv
      cases he
      rw [hv] at h1
      have h1' := h1
      simp only [VR] at h1
      obtain ⟨o', _, _, e1⟩ := h1
      exact .same hM (x := a.eval x) (by simp [execOp, ho, e1]) h1'
    · rename_i e off hv
      cases he
      rw [hv] at h1
      have h1' := h1
      simp only [VR] at h1
      obtain ⟨b, o', cs, _, e1, _⟩ := h1
      exact .same hM (x := a.eval x) (by simp [execOp, ho, e1]) h1'
    · cases he
  · -- fieldAddr
    rename_i t x f ho
    split at hop
    · rename_i fs ht
      simp only [Option.bind_eq_some_iff] at hop
      obtain ⟨fd, hf, n, hn, hop⟩ := hop
      split at hop
      · cases hop
      · rename_i h0
        obtain ⟨x', hx, rfl⟩ := Option.map_eq_some_iff.1 hop
        obtain ⟨hb, rfl⟩ := one_some (v' := v) he
        obtain ⟨u, hu, hur⟩ := run_fieldAt_of (P := P) (w := w) ht hf hn h0 (hs.arg (by simp [AOp.argList]) hx) hb
        exact .same hM (exec_run (by simp only [execOp, ho]) hu) hur
    · cases hop
  · -- indexAddr
    rename_i t x i ho
    split at hop
    · rename_i e ht
      simp only [Option.bind_eq_some_iff, Option.map_eq_some_iff] at hop
      obtain ⟨n, hn, x', hx, i', hi, rfl⟩ := hop
      obtain ⟨hb, rfl⟩ := one_some (v' := v) he
      obtain ⟨u, hu, hur⟩ := run_elem_of (P := P) (w := w) ht hn (hs.arg (by simp [AOp.argList]) hx) (hs.arg (by simp [AOp.argList]) hi) hb
      exact .same hM (exec_run (by simp only [execOp, ho]) hu) hur
    · rename_i len e ht
      simp only [Option.bind_eq_some_iff, Option.map_eq_some_iff] at hop
      obtain ⟨n, hn, x', hx, i', hi, rfl⟩ := hop
      obtain ⟨hb, rfl⟩ := one_some (v' := v) he
      obtain ⟨u, hu, hur⟩ := run_arr_of (P := P) (w := w) ht hn (hs.arg (by simp [AOp.argList]) hx) (hs.arg (by simp [AOp.argList]) hi) hb
      exact .same hM (exec_run (by simp only [execOp, ho]) hu) hur
    · cases hop
  · -- index
    rename_i t x i ho
    split at hop
    · rename_i len e ht
      simp only [Option.bind_eq_some_iff, Option.map_eq_some_iff] at hop
      obtain ⟨n, hn, g, hg, x', hx, i', hi, rfl⟩ := hop
      obtain ⟨hb, rfl⟩ := one_some (v' := v) he
      obtain ⟨u, hu, hur⟩ := run_idx_of (P := P) (w := w) ht hg hn (hs.arg (by simp [AOp.argList]) hx) (hs.arg (by simp [AOp.argList]) hi) hb
      exact .same hM (exec_run (by simp only [execOp, ho]) hu) hur
    · rename_i ht
      simp only [Option.bind_eq_some_iff, Option.map_eq_some_iff] at hop
      obtain ⟨x', hx, i', hi, rfl⟩ := hop
      obtain ⟨hb, rfl⟩ := one_some (v' := v) he
      obtain ⟨u, hu, hur⟩ := run_strIdx_of (P := P) (w := w) ht (hs.arg (by simp [AOp.argList]) hx) (hs.arg (by simp [AOp.argList]) hi) hb
      exact .same hM (exec_run (by simp only [execOp, ho]) hu) hur
    · cases hop
  · -- slice
    rename_i t x lo hi mx ho
    split at hop
    · rename_i e ht
      simp only [Option.bind_eq_some_iff, Option.map_eq_some_iff] at hop
      obtain ⟨n, hn, x', hx, lo', hlo, hi', hhi, mx', hmx, rfl⟩ := hop
      obtain ⟨hb, rfl⟩ := one_some (v' := v) he
      obtain ⟨u, hu, hur⟩ := run_sub_of (P := P) (w := w) ht hn (hs.arg (by simp [AOp.argList]) hx)
        (cOpt_rel hlo hs (fun z hz => by simp [AOp.argList, hz])) (cOpt_rel hhi hs (fun z hz => by simp [AOp.argList, hz])) (cOpt_rel hmx hs (fun z hz => by simp [AOp.argList, hz])) hb
      exact .same hM (exec_run (by simp only [execOp, ho]) hu) hur
    · rename_i ht
      split at hop
      · cases hop
      · rename_i hno
        have : mx = none := by cases mx <;> simp_all
        subst this
        simp only [Option.bind_eq_some_iff, Option.map_eq_some_iff] at hop
        obtain ⟨x', hx, lo', hlo, hi', hhi, rfl⟩ := hop
        obtain ⟨hb, rfl⟩ := one_some (v' := v) he
        obtain ⟨u, hu, hur⟩ := run_strSub_of (P := P) (w := w) ht (hs.arg (by simp [AOp.argList]) hx)
          (cOpt_rel hlo hs (fun z hz => by simp [AOp.argList, hz])) (cOpt_rel hhi hs (fun z hz => by simp [AOp.argList, hz])) hb
        exact .same hM (exec_run (by simp only [execOp, ho, Option.map_none]) hu) hur
    · cases hop
  · -- makeFunc
    rename_i f first caps ho
    split at hop
    · rename_i h0
      obtain ⟨cs, hcs, rfl⟩ := Option.map_eq_some_iff.1 hop
      simp only [evalOp, Option.some.injEq, Prod.mk.injEq] at he
      obtain ⟨rfl, rfl⟩ := he
      have hf : first = #[] := by simpa using h0
      subst hf
      refine .same hM (x := .func (.func f) #[] (caps.map a.eval)) (by simp [execOp, ho, Instr.makeFunc]) ⟨_, rfl, ?_⟩
      simpa using args_rel hcs hs
    · cases hop
  · -- makeSlice
    rename_i t len cap ho
    split at hop
    · rename_i e ht
      simp only [Option.bind_eq_some_iff] at hop
      obtain ⟨i, hi, z, hz, l', hl', c', hc', hop⟩ := hop
      split at hop
      · rename_i hcond
        cases hop
        simp only [evalOp] at he
        unfold mksV at he
        split at he
        · rename_i l c hl hc
          split at he
          · rename_i hcc
            cases he
            obtain ⟨h1, h2⟩ := hrow hs0 (by simp [AOp.site, rget_rset])
            simp only [AOp.site, rget_rset, if_true] at h1 h2
            have e1 := hs.arg (y := l') (by simp [AOp.argList]) hl'
            have e2 := hs.arg (y := c') (by simp [AOp.argList]) hc'
            rw [hl] at e1; rw [hc] at e2
            simp only [VR] at e1 e2
            obtain ⟨d, hd, hdr⟩ := run_mks_of (P := P) (w := w) (E := E) ht hi hz hcond.1 hcond.2 hcc.1 hcc.2.1 hcc.2.2.1 hcc.2.2.2.1
            have hdl := hdr.length
            rw [List.length_flatten, List.map_replicate, List.sum_replicate_nat, hcond.1] at hdl
            have hrows : VRss (List.replicate c.toNat z) E i.size d.toList := by
              refine VRss.of_flat (fun e he => by rw [List.eq_of_mem_replicate he]; exact hcond.1) ?_
              rw [List.length_replicate, List.take_of_length_le (by omega)]
              exact hdr
            have htk := hrows.take l.toNat
            rw [List.take_replicate, Nat.min_eq_left (by omega)] at htk
            have := gives_own (P := P) (o := o) (a := a) (s := site) (row := ⟨(rget L site).ver + 1, i.size, List.replicate l.toNat z⟩) (c := d) (t := e) (v := .ref 0 site ((rget L site).ver + 1) i.size 0 l.toNat) (x := .slice (some ⟨w.heap.size, 0, none⟩) l.toNat c.toNat)
              hM hM rfl (Below.refl _ _) (exec_run (by simp only [execOp, ho, e1, e2]) hd) hs0 h1 h2 htk
              (fun E' h => by
                simp only [VR]
                refine ⟨_, _, c.toNat, h, rfl, rfl, rfl, by omega, .inr ⟨by simp, ?_⟩⟩
                simp only [Array.length_toList] at hdl
                simp only [Nat.zero_add]
                omega)
            simpa [AOp.site, rget_rset] using this
          · cases he
        · cases he
      · cases hop
    · cases hop
  · -- extract
    rename_i x i ho
    obtain ⟨x', hx, rfl⟩ := Option.map_eq_some_iff.1 hop
    simp only [evalOp] at he
    have h1 := hs.arg (y := x') (by simp [AOp.argList]) hx
    split at he
    · rename_i vs hv
      simp only [Option.map_eq_some_iff, Prod.mk.injEq] at he
      obtain ⟨u, hu, rfl, rfl⟩ := he
      rw [hv] at h1
      simp only [VR] at h1
      obtain ⟨c, e1, h1⟩ := h1
      obtain ⟨y, hy, hyr⟩ := h1.at hu
      have hy' : c[i]? = some y := by simpa using hy
      exact .same hM (x := y) (by simp [execOp, ho, e1, Instr.extract, hy']) hyr
    · cases he
  · -- makeMap
    rename_i t r ho
    split at hop
    · rename_i k e ht
      obtain ⟨m, hm, rfl⟩ := Option.map_eq_some_iff.1 hop
      simp only [evalOp, Option.some.injEq, Prod.mk.injEq] at he
      obtain ⟨rfl, rfl⟩ := he
      obtain ⟨h1, h2⟩ := hrow hs0 (by simp [AOp.site, rget_rset])
      simp only [AOp.site, rget_rset, if_true] at h1 h2 ⊢
      exact gives_map hM (by simp [execOp, ho, Instr.makeMap]) hs0 h1 h2
    · cases hop
  · -- lookup
    rename_i t x i ok ho
    split at hop
    · rename_i k e ht
      simp only [Option.bind_eq_some_iff, Option.map_eq_some_iff] at hop
      obtain ⟨m, hm, z, hz, x', hx, i', hi, rfl⟩ := hop
      obtain ⟨hb, rfl⟩ := one_some (v' := v) he
      obtain ⟨u, hu, hur⟩ := run_mget_of (P := P) (w := w) ht hm hz hL (hs.arg (y := x') (by simp [AOp.argList]) hx) (hs.arg (y := i') (by simp [AOp.argList]) hi) hb
      exact .same hM (exec_run (by simp only [execOp, ho]) hu) hur
    · cases hop
  · -- mapUpdate
    split at hop
    · simp only [Option.bind_eq_some_iff, Option.map_eq_some_iff] at hop
      obtain ⟨_, _, _, _, _, _, _, _, rfl⟩ := hop
      simp [AOp.plain] at hp
    · cases hop
  · -- insert
    split at hop
    · simp only [Option.bind_eq_some_iff, Option.map_eq_some_iff] at hop
      obtain ⟨_, _, _, _, _, _, _, _, rfl⟩ := hop
      simp [AOp.plain] at hp
    · cases hop
  · -- call
    rename_i c ho
    split at hop
    · simp only [Option.bind_eq_some_iff, Option.map_eq_some_iff] at hop
      obtain ⟨_, _, _, _, rfl⟩ := hop
      unfold mkCall at hp
      split at hp <;> simp [AOp.plain] at hp
    · -- len
      rename_i hcl
      split at hop
      · rename_i t x ht' hx'
        have e1 : c.argTypes = #[t] := by rw [← Array.toArray_toList (xs := c.argTypes), ht']
        have e2 : c.args = #[x] := by rw [← Array.toArray_toList (xs := c.args), hx']
        have hrun : ∀ {u : Value}, (Builtin.len_ #[t] o.type #[a.eval x]).run P w = .ok u w → (execOp a.eval o).run P w = .ok (.value u) w := by
          intro u h
          simp [execOp, ho, resolve, hcl, invoke, builtin, e1, e2, h]
        split at hop
        · rename_i ht
          obtain ⟨x', hx, rfl⟩ := Option.map_eq_some_iff.1 hop
          obtain ⟨hb, rfl⟩ := one_some (v' := v) he
          obtain ⟨u, hu, hur⟩ := run_slen_of (P := P) (w := w) (ty := o.type) ht (hs.arg (by simp [AOp.argList]) hx) hb
          exact .same hM (hrun hu) hur
        · rename_i e ht
          obtain ⟨x', hx, rfl⟩ := Option.map_eq_some_iff.1 hop
          obtain ⟨hb, rfl⟩ := one_some (v' := v) he
          obtain ⟨u, hu, hur⟩ := run_len_of (P := P) (w := w) (ty := o.type) ht (hs.arg (by simp [AOp.argList]) hx) hb
          exact .same hM (hrun hu) hur
        · rename_i n e ht
          cases hop
          simp only [evalOp, Option.some.injEq, Prod.mk.injEq] at he
          obtain ⟨rfl, rfl⟩ := he
          exact .same hM (hrun (u := goInt n) (by simp [Builtin.len_, run_underlying ht])) rfl
        · cases hop
      · cases hop
    · -- append
      split at hop
      · split at hop
        · simp only [Option.bind_eq_some_iff] at hop
          obtain ⟨_, _, _, _, _, _, _, _, hop⟩ := hop
          split at hop
          · cases hop
            simp [AOp.plain] at hp
          · cases hop
        · cases hop
      · cases hop
    · -- min
      rename_i hcl
      obtain ⟨xs, hxs, rfl⟩ := Option.map_eq_some_iff.1 hop
      simp only [evalOp] at he
      split at he
      · rename_i x l hxl
        obtain ⟨hb, rfl⟩ := one_some (v' := v) he
        have hr := args_rel hxs hs
        rw [hxl] at hr
        simp only [VRs] at hr
        obtain ⟨y, ys, e1, hy, hys⟩ := hr
        obtain ⟨u, hu, hur⟩ := run_mm_of (P := P) (w := w) hy hys hb
        refine .same hM ?_ hur
        simp only [Bool.false_eq_true, if_false] at hu
        simp [execOp, ho, resolve, hcl, invoke, builtin, Builtin.min_, e1, hu]
      · cases he
    · -- max
      rename_i hcl
      obtain ⟨xs, hxs, rfl⟩ := Option.map_eq_some_iff.1 hop
      simp only [evalOp] at he
      split at he
      · rename_i x l hxl
        obtain ⟨hb, rfl⟩ := one_some (v' := v) he
        have hr := args_rel hxs hs
        rw [hxl] at hr
        simp only [VRs] at hr
        obtain ⟨y, ys, e1, hy, hys⟩ := hr
        obtain ⟨u, hu, hur⟩ := run_mm_of (P := P) (w := w) hy hys hb
        refine .same hM ?_ hur
        simp only [if_true] at hu
        simp [execOp, ho, resolve, hcl, invoke, builtin, Builtin.max_, e1, hu]
      · cases he
    · cases hop
  · cases hop

end Go.Ab

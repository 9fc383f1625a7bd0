/-
  The pieces of a span, collected: AppendSeq, in the model.
-/
import Derived.Test.YtfngllcjikmbkaaS14N
namespace Go.Proofs.Ytfngllcjikmbkaa
open Go Go.RowKit Go.Shelf
attribute [local go_sem] Oper.semAt_some
set_option maxRecDepth 100000

theorem info69 : (Try.prog.info? 69).map (fun i => (i.zero, i.size, i.bytes)) = some (some (.agg #[.int .i64 0, .int .i64 0, .int .i64 0, .bool false, .bool false]), 5, 32) := by kernel_rfl

def cellsOf (pre : List Pc) : List Value := (pre.map fun x => (cellP x).toList).flatten
theorem cellsOf_snoc (pre : List Pc) (x : Pc) : cellsOf (pre ++ [x]) = cellsOf pre ++ (cellP x).toList := by simp [cellsOf]
theorem cellsOf_len (pre : List Pc) : (cellsOf pre).length = pre.length * 5 := by
  induction pre with
  | nil => rfl
  | cons x t ih =>
    have : cellsOf (x :: t) = (cellP x).toList ++ cellsOf t := rfl
    rw [this, List.length_append, ih]
    simp [cellP]
    omega

theorem cells_new (w : World) (c : Array Value) (t : TypeId) : ∀ j u, c.toList[j]? = some u → (w.alloc (.cells c t)).cell? ((⟨w.heap.size, 0, none⟩ : Addr).add j) = some u := by
  intro j u h
  have hb := World.alloc_heap_new w (.cells c t)
  have e : (⟨w.heap.size, 0, none⟩ : Addr).add j = ⟨w.heap.size, j, none⟩ := by
    unfold Addr.add
    split <;> simp_all
  rw [e]
  simp only [World.cell?, hb]
  simpa using h

theorem pc1_stops (n : Nat) (hn : 1 ≤ n) (Bs so Bp po n₀ : Nat) (sv : Value) (zs : List Int) (m1 m2 : Int) (w : World) (hlen : zs.length ≤ 1000000) (hn0 : n₀ ≤ w.heap.size) (hBs : Bs < n₀) (hBp : Bp < n₀)
    (hc : w.cell? ⟨Bs, so, none⟩ = some sv) (hp1 : w.cell? ⟨Bp, po + 1, none⟩ = some (.int .i64 m1)) (hp2 : w.cell? ⟨Bp, po + 5, none⟩ = some (.int .i64 m2))
    (hI : ∃ b off cap, sv = .slice (some ⟨b, off, none⟩) zs.length cap ∧ b < n₀ ∧ ∀ j, j < zs.length → w.cell? ⟨b, off + j, none⟩ = some (.int .i64 (zs[j]?.getD 0))) :
    SeqStopsK Fence.wide n Try.prog 62 #[.pointer (some ⟨Bs, so, none⟩), .pointer (some ⟨Bp, po, none⟩)] (fun x : Pc => #[encP x]) (Below n₀) (fun ys => ys = pcs zs m1 m2 zs.length) (fun _ => True) (pcs zs m1 m2 zs.length).length w := by
  intro l J Jx W hW hJ hJx hY h0
  obtain ⟨b, off, cap, rfl, hb, hcs⟩ := hI
  refine (pc1_in n hn l Bs so Bp po n₀ b off zs.length cap zs m1 m2 rfl (by omega) hb hBs hBp J Jx (fun s W1 W2 h1 h2 => hJ s W1 W2 none h1 h2 (fun r e => by cases e)) hY W (Nat.le_trans hn0 hW.size)
    ((hW.cell (p := ⟨Bs, so, none⟩) (Nat.lt_of_lt_of_le hBs hn0)).trans hc) ((hW.cell (p := ⟨Bp, po + 1, none⟩) (Nat.lt_of_lt_of_le hBp hn0)).trans hp1) ((hW.cell (p := ⟨Bp, po + 5, none⟩) (Nat.lt_of_lt_of_le hBp hn0)).trans hp2)
    (fun j hj => (hW.cell (p := ⟨b, off + j, none⟩) (Nat.lt_of_lt_of_le hb hn0)).trans (hcs j hj)) h0).mono ?_
  rintro e W' ⟨he, ⟨ys, rfl, hj⟩ | ⟨pre, hj⟩⟩
  · exact ⟨he, .inl ⟨_, rfl, hj⟩⟩
  · exact ⟨he, .inr ⟨_, trivial, hj⟩⟩

set_option maxHeartbeats 4000000 in
theorem ap61 (Bs so Bp po : Nat) (sv : Value) (zs : List Int) (m1 m2 : Int) (w : World) (hlen : zs.length ≤ 1000000) (hBs : Bs < w.heap.size) (hBp : Bp < w.heap.size)
    (hc : w.cell? ⟨Bs, so, none⟩ = some sv) (hp1 : w.cell? ⟨Bp, po + 1, none⟩ = some (.int .i64 m1)) (hp2 : w.cell? ⟨Bp, po + 5, none⟩ = some (.int .i64 m2))
    (hI : ∃ b off cap, sv = .slice (some ⟨b, off, none⟩) zs.length cap ∧ b < w.heap.size ∧ ∀ j, j < zs.length → w.cell? ⟨b, off + j, none⟩ = some (.int .i64 (zs[j]?.getD 0))) :
    CallsIn Fence.wide 2 Try.prog 61 #[.slice none 0 0, .func (.func 62) #[] #[.pointer (some ⟨Bs, so, none⟩), .pointer (some ⟨Bp, po, none⟩)]] w fun e W' =>
      ∃ v, e = .returned v ∧ W'.ownsRow w.heap.size 69 5 v (pcs zs m1 m2 zs.length).length (cellsOf (pcs zs m1 m2 zs.length)) ∧ (v = .slice none 0 0 ↔ pcs zs m1 m2 zs.length = []) ∧ Below w.heap.size w W' := by
  refine callsIn_of_wp_marks Try.func61 rfl trivial ?_ rfl
  simp only [Try.ntmps61, List.size_toArray, List.length_cons, List.length_nil, Nat.reduceAdd, Nat.reduceSub, Array.replicate_succ, Array.replicate_zero, List.push_toArray, List.append_toArray, List.nil_append, List.cons_append]
  gi_wp2
  have bB := Boxed.new w 62 (.slice none 0 0)
  have hB0 : Below w.heap.size w (w.alloc (.cells #[.slice none 0 0] 62)) := (Below.refl _ w).alloc (Nat.le_refl _) _
  have hsz : (w.alloc (.cells #[.slice none 0 0] 62)).heap.size = w.heap.size + 1 := by simp
  obtain ⟨W0, hW0⟩ : ∃ W0, w.alloc (.cells #[.slice none 0 0] 62) = W0 := ⟨_, rfl⟩
  rw [hW0] at bB hB0 hsz ⊢
  clear hW0
  refine wpIn_rangeFunc_ownH rfl (by omega) (gf := 62) (lb := #[.pointer (some ⟨Bs, so, none⟩), .pointer (some ⟨Bp, po, none⟩)]) rfl trivial (enters_of Try.func62 (by kernel_rfl) rfl)
    (pc1_stops 1 (by omega) Bs so Bp po w.heap.size sv zs m1 m2 W0 hlen (by omega) hBs hBp ((hB0.cell (p := ⟨Bs, so, none⟩) hBs).trans hc) ((hB0.cell (p := ⟨Bp, po + 1, none⟩) hBp).trans hp1) ((hB0.cell (p := ⟨Bp, po + 5, none⟩) hBp).trans hp2)
      (by obtain ⟨b, off, cap, h1, h2, h3⟩ := hI; exact ⟨b, off, cap, h1, h2, fun j hj => (hB0.cell (p := ⟨b, off + j, none⟩) h2).trans (h3 j hj)⟩))
    belowK_t (belowK_b (by omega)) (Below.refl _ _) (fun _ => rfl)
    (fun pre W => (∃ v, Boxed W w.heap.size 62 v ∧ W.ownsRow w.heap.size 69 5 v pre.length (cellsOf pre) ∧ (v = .slice none 0 0 ↔ pre = [])) ∧ Below w.heap.size w W)
    (fun _ _ _ => False)
    (OwnFrom.and (Own.from (holdsRow_own w.heap.size w.heap.size 62 69 5 (fun pre => pre.length) (fun pre => cellsOf pre) (fun pre v => (v = .slice none 0 0 ↔ pre = []))) _) (ownFrom_below (Nat.le_refl _) (by omega)))
    (fun _ _ _ _ _ hs _ _ => hs)
    ⟨⟨_, bB, World.ownsRow_nil _ _ _ _, by simp⟩, hB0⟩
    (fun x a' W => ∃ Bx, w.heap.size < Bx ∧ W.heap[Bx]? = some (.cells (cellP x) 69 (0, 0)) ∧ a' = { tmps := #[.slice none 0 0, .func (.func 62) #[] #[.pointer (some ⟨Bs, so, none⟩), .pointer (some ⟨Bp, po, none⟩)], .pointer (some ⟨w.heap.size, 0, none⟩), undef, .slice none 0 0, .pointer (some ⟨Bx, 0, none⟩), .func (.func 62) #[] #[.pointer (some ⟨Bs, so, none⟩), .pointer (some ⟨Bp, po, none⟩)], encP x, undef, undef, undef, undef, undef], defers := [] })
    (fun x a' _ X Y row hs hg hr => by
      obtain ⟨Bx, h1, h2, h3⟩ := hs
      refine ⟨Bx, h1, (hg.block Bx (Array.getElem?_eq_some_iff.1 h2).1 (fun e => ?_)).trans h2, h3⟩
      obtain ⟨_, o, ho, hcl⟩ := hr Bx e.symm
      rw [h2] at ho; cases ho; cases hcl)
    ?assign ?body ?done ?stop
  case assign =>
    rintro l pre ⟨xk, xf, xl, xb, xe⟩ W K ⟨⟨v, bv, hrow, hnil⟩, hB1⟩ hK
    dsimp only [encP, cellP] at hK ⊢
    gi_wp2
    exact hK _ _ ((KeepsOthers.alloc _ _).from _) ((Below.refl _ W).alloc (by have := hB1.size; omega) _) ⟨⟨v, bv.alloc _, hrow.alloc _, hnil⟩, hB1.alloc hB1.size _⟩ ⟨W.heap.size, bv.lt, World.alloc_heap_new W _, rfl⟩
  case body =>
    rintro l pre ⟨xk, xf, xl, xb, xe⟩ a' W hl ⟨r, hr⟩ ⟨⟨v, bv, hrow, hnil⟩, hB1⟩ ⟨Bx, hBx, hX, rfl⟩ hlt
    have hpl : pre.length < 1000000 := by
      have := pcs_len (zs := zs) (m1 := m1) (m2 := m2) (k := zs.length)
      omega
    dsimp only [encP, cellP] at hX ⊢
    have cv := bv.cell
    have x0 : W.cell? ⟨Bx, 0, none⟩ = some (.int .i64 xk) := by simp [World.cell?, hX]
    have x1 : W.cell? ⟨Bx, 1, none⟩ = some (.int .i64 xf) := by simp [World.cell?, hX]
    have x2 : W.cell? ⟨Bx, 2, none⟩ = some (.int .i64 xl) := by simp [World.cell?, hX]
    have x3 : W.cell? ⟨Bx, 3, none⟩ = some (.bool xb) := by simp [World.cell?, hX]
    have x4 : W.cell? ⟨Bx, 4, none⟩ = some (.bool xe) := by simp [World.cell?, hX]
    obtain ⟨i0, hi, hz0, hz1, hz2⟩ := info_parts info69
    have hsW := hB1.size
    gi_wp2_with (gi_at_builtin; refine wpListIn_append_own _ rfl _ _ 62 rfl w.heap.size 69 i0 _ 5 32 Try.underlying62 hi hz0 hz1 hz2 rfl (by decide) _ _ _ rfl (hrow.alloc _) ⟨W.heap.size, 0, none⟩ 1 1 [.int .i64 xk, .int .i64 xf, .int .i64 xl, .bool xb, .bool xe] rfl rfl (cells_new _ _ _) (by simp [Value.oneCell']) (by simp [maxLen]; omega) (by omega) (by simp; omega) ?_; intro v' w1 hown' hgrow _; obtain ⟨g', cap', rfl⟩ := ownsRow_succ hown'; obtain ⟨hv1, hv2, hr2, hk2, hb2⟩ := bv.appended (by decide) hrow hB1.size (Nat.le_refl _) hown' hgrow; have hc1 := hv1.cell; have hf1 := hv1.frozen)
    exact ⟨hk2.from _, hb2, ⟨_, hv2, by rw [List.length_append, cellsOf_snoc]; exact hr2, by simp⟩, hB1.trans hb2⟩
  case done =>
    rintro D ps W hD rfl ⟨⟨v, bv, hrow, hnil⟩, hB1⟩ hK
    have cv := bv.cell
    gi_wp2
    refine ⟨by simp, .inl ⟨_, _, rfl, run_takeDeferred hK, ?_⟩⟩
    refine ⟨_, results_tmp rfl _ _ _, v, rfl, ownsRow_putObj hrow _ hK rfl, hnil, hB1.trans (belowK_b (w := w) (Nat.le_refl _) W D _ _ (by omega) hK rfl rfl)⟩
  case stop =>
    rintro D c pre W _ _ h _
    exact h.elim

end Go.Proofs.Ytfngllcjikmbkaa

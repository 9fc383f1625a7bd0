/-
  What is known of the library's AppendSeq at the pieces of a span, for the abstract machine.
-/
import Derived.Test.YtfngllcjikmbkaaS14P
import Derived.Test.YtfngllcjikmbkaaS14S
import Derived.Test.YtfngllcjikmbkaaS14B
import Derived.Test.YtfngllcjikmbkaaAbSl
namespace Go.Proofs.Ytfngllcjikmbkaa
open Go Go.Ab
set_option linter.unusedVariables false
set_option linter.unnecessarySimpa false
set_option linter.unusedSimpArgs false
set_option maxRecDepth 100000

def int1 : List V → Option Int
  | [.int .i64 n] => some n
  | _ => none
def ints : List (List V) → Option (List Int)
  | [] => some []
  | e :: es => (int1 e).bind fun n => (ints es).map (n :: ·)
def E5 (ps : List Pc) : List (List V) := ps.map fun x => [.i x.k, .i x.f, .i x.l, .bool x.b, .bool x.e]
def outP : List Pc → V
  | [] => .nilsl
  | x :: t => .sl .own 5 (E5 (x :: t))

def pr61 (f : FuncId) (args : List V) : Option V :=
  match f, args with
  | 61, [.nilsl, .fn 62 [.eptr [.sl k 1 els] 0, .eptr [_, .int .i64 m1, _, _, _, .int .i64 m2, _, _, _] 0]] =>
    (ints els).bind fun zs => if 0 < zs.length ∧ zs.length ≤ 1000000 then some (outP (pcs zs m1 m2 zs.length)) else none
  | _, _ => none

theorem ints_rel {E : Env} : ∀ {els : List (List V)} {zs : List Int} {l : List Value}, VRss els E 1 l → ints els = some zs → zs.length = els.length ∧ ∀ j, j < zs.length → l[j]? = some (.int .i64 (zs[j]?.getD 0))
  | [], zs, l, _, h => by
    simp only [ints, Option.some.injEq] at h
    subst h
    exact ⟨rfl, fun j hj => by simp at hj⟩
  | e :: es, zs, l, hr, h => by
    simp only [ints, Option.bind_eq_some_iff, Option.map_eq_some_iff] at h
    obtain ⟨n, hn, ys, hy, rfl⟩ := h
    simp only [VRss] at hr
    obtain ⟨_, h1, h2⟩ := hr
    obtain ⟨h3, h4⟩ := ints_rel h2 hy
    refine ⟨by simp [h3], fun j hj => ?_⟩
    cases j with
    | zero =>
      unfold int1 at hn
      split at hn
      · cases hn
        simp only [VRs, VR] at h1
        obtain ⟨x, l', hl, rfl, rfl⟩ := h1
        have : (l.take 1)[0]? = l[0]? := by simp
        rw [← this, hl]
        rfl
      · cases hn
    | succ j =>
      have := h4 j (by simpa using hj)
      rw [List.getElem?_drop, Nat.add_comm] at this
      simpa using this

theorem cellsOf_rel {E : Env} : ∀ (ps : List Pc) (l : List Value), l.take (ps.length * 5) = cellsOf ps → VRss (E5 ps) E 5 l
  | [], l, _ => trivial
  | x :: t, l, h => by
    have e : cellsOf (x :: t) = (cellP x).toList ++ cellsOf t := rfl
    rw [e] at h
    have h5 : l.take 5 = (cellP x).toList := by
      have := congrArg (List.take 5) h
      rw [List.take_take, Nat.min_eq_left (by simp only [List.length_cons]; omega)] at this
      rw [this, List.take_append_of_le_length (by simp [cellP])]
      exact List.take_of_length_le (by simp [cellP])
    have h6 : (l.drop 5).take (t.length * 5) = cellsOf t := by
      have := congrArg (List.drop 5) h
      rw [List.drop_take, show (x :: t).length * 5 - 5 = t.length * 5 by simp only [List.length_cons]; omega] at this
      rw [this]
      simp [cellP]
    show VRss ([.i x.k, .i x.f, .i x.l, .bool x.b, .bool x.e] :: E5 t) E 5 l
    simp only [VRss]
    refine ⟨rfl, ?_, cellsOf_rel t _ h6⟩
    rw [h5]
    simp [cellP, VRs, VR]

theorem pr61_ok : SoundCall Try.prog (fun f args _ => pr61 f args) := by
  intro f args H v hv
  simp only at hv
  unfold pr61 at hv
  split at hv
  · rename_i k els q0 m1 q2 q3 q4 m2 q6 q7 q8
    obtain ⟨zs, hz, hv⟩ := Option.bind_eq_some_iff.1 hv
    split at hv
    · rename_i hzl
      cases hv
      refine ⟨⟨_, Try.func61, by decide, rfl⟩, ?_⟩
      intro E w xs hx hM hown
      simp only [VRs, VR] at hx
      obtain ⟨x1, l1, rfl, rfl, x2, l2, rfl, ⟨cs, rfl, y1, l3, hcs, ⟨b1, o1, c1, hi1, rfl, z1, l4, hz1, hsv, rfl⟩, y2, l5, hl3, ⟨b2, o2, c2, hi2, rfl, z20, l60, hz2, h20, z21, l61, h61, h21, z22, l62, h62, h22, z23, l63, h63, h23, z24, l64, h64, h24, z25, l65, h65, h25, z26, l66, h66, h26, z27, l67, h67, h27, z28, l68, h68, h28, rfl⟩, rfl⟩, rfl⟩ := hx
      obtain ⟨hk, a, cap, rfl, hcap, _, hels⟩ := hsv
      obtain ⟨t1, fr1, hb1⟩ := hM.imm b1 c1 hi1
      obtain ⟨t2, fr2, hb2⟩ := hM.imm b2 c2 hi2
      rcases hels with rfl | ⟨c3, hasp, hi3, hrow⟩
      · simp only [ints, Option.some.injEq] at hz
        subst hz
        simp at hzl
      obtain ⟨ab, ao, asp⟩ := a
      simp only at hasp hi3 hrow
      subst hasp
      obtain ⟨t3, fr3, hb3⟩ := hM.imm ab c3 hi3
      obtain ⟨hlen, hat⟩ := ints_rel hrow hz
      have hcell : ∀ {b o n i : Nat} {c : Array Value} {t : TypeId} {fr : Nat × Nat} {u : Value}, w.heap[b]? = some (.cells c t fr) → i < n → ((c.toList.drop o).take n)[i]? = some u → w.cell? ⟨b, o + i, none⟩ = some u := by
        intro b o n i c t fr u hb hi hu
        rw [cell_of hb, ← hu, List.getElem?_take_of_lt hi, List.getElem?_drop]
      simp only [List.length_cons, List.length_nil, Nat.reduceAdd] at hz1 hz2
      have hc := hcell (o := o1) (n := 1) (i := 0) hb1 (by decide) (by rw [hz1]; rfl)
      have hp1 := hcell (o := o2) (n := 9) (i := 1) (u := .int .i64 m1) hb2 (by decide) (by rw [hz2, h61, h62, h21]; rfl)
      have hp2 := hcell (o := o2) (n := 9) (i := 5) (u := .int .i64 m2) hb2 (by decide) (by rw [hz2, h61, h62, h63, h64, h65, h66, h25]; rfl)
      have hcs' : cs = #[.pointer (some ⟨b1, o1 + 0, none⟩), .pointer (some ⟨b2, o2 + 0, none⟩)] := by
        apply Array.ext'
        rw [hcs, hl3]
      subst hcs'
      have hmain := ap61 b1 (o1 + 0) b2 (o2 + 0) _ zs m1 m2 w hzl.2 (heap_lt hb1) (heap_lt hb2) hc hp1 hp2 ⟨ab, ao, cap, by rw [hlen], heap_lt hb3, fun j hj => by
        rw [cell_of hb3, ← hat j hj, List.getElem?_drop]⟩
      refine (callsIn_wide.1 hmain).mono ?_
      rintro e w' ⟨v, rfl, hown', hnil, hbel⟩
      refine ⟨v, E.imm, rfl, hbel, fun b c h => h, fun b c h => .inl h, ?_⟩
      obtain ⟨hl5, hv | ⟨g, cp, cur, hv, hgb, hgh, hncap, _, hcsz, htk⟩⟩ := hown'
      · have hps := hnil.1 hv.1
        rw [hps]
        show VR .nilsl { E.up 1 with imm := E.imm } v
        simp only [VR]
        exact hv.1
      · cases hps : pcs zs m1 m2 zs.length with
        | nil =>
          have := hnil.2 hps
          rw [hv] at this
          cases this
        | cons x ps =>
          rw [hps] at hv hncap htk
          show OwnSl { E.up 1 with imm := E.imm } w.heap.size w' 5 (E5 (x :: ps)) v
          have hl : (E5 (x :: ps)).length = (x :: ps).length := by simp [E5]
          refine ⟨g, cur, 69, cp, ⟨g, 0, none⟩, by rw [hl]; exact hv, by rw [hl]; exact hncap, .inr ⟨rfl, by rw [hcsz]; exact Nat.le_refl _⟩, hgb, hgh, hM.imm_new hgb, cellsOf_rel _ _ htk⟩
    · cases hv
  · cases hv

end Go.Proofs.Ytfngllcjikmbkaa

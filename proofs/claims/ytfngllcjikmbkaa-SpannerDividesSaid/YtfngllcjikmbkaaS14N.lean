/-
  The pieces of a span: the iterator, in the model.
-/
import Derived.RangeFuncNested
import Derived.RangeFuncBound
import Derived.RangeFuncCalls
import Derived.RangeFuncLeaves
import Derived.Shelf.Abstract
import Derived.WalkKit
import Derived.OwnWalkIn
import Derived.TacticsInMore
import Derived.LoopNIn
import Derived.LoopIn
import Derived.Maps.AppendAt
import Derived.Test.YtfngllcjikmbkaaChecked
namespace Go.Proofs.Ytfngllcjikmbkaa
open Go Go.RowKit Go.Shelf
attribute [local go_sem] Oper.semAt_some
set_option maxRecDepth 100000

/-- A piece. -/
structure Pc where
  k : Int
  f : Int
  l : Int
  b : Bool
  e : Bool

def encP (x : Pc) : Value := .agg #[.int .i64 x.k, .int .i64 x.f, .int .i64 x.l, .bool x.b, .bool x.e]
def lastM (zs : List Int) (k : Nat) : Int := if k + 1 < zs.length then wrap64 (zs[k + 1]?.getD 0 - 1) else 9223372036854775807
def mxI (x y : Int) : Int := if y > x then y else x
def mnI (x y : Int) : Int := if y < x then y else x
def pcF (zs : List Int) (m1 : Int) (k : Nat) : Int := mxI (zs[k]?.getD 0) m1
def pcL (zs : List Int) (m2 : Int) (k : Nat) : Int := mnI (lastM zs k) m2
def pcAt (zs : List Int) (m1 m2 : Int) (k : Nat) : Pc := ⟨k, pcF zs m1 k, pcL zs m2 k, pcF zs m1 k == m1, pcL zs m2 k == m2⟩
def pcs (zs : List Int) (m1 m2 : Int) : Nat → List Pc
  | 0 => []
  | k + 1 => pcs zs m1 m2 k ++ if pcF zs m1 k ≤ pcL zs m2 k then [pcAt zs m1 m2 k] else []

theorem pcs_mono {zs : List Int} {m1 m2 : Int} {j : Nat} : ∀ {k : Nat}, j ≤ k → (pcs zs m1 m2 j).length ≤ (pcs zs m1 m2 k).length
  | 0, h => by obtain rfl : j = 0 := by omega
               exact Nat.le_refl _
  | k + 1, h => by
    by_cases e : j = k + 1
    · subst e; exact Nat.le_refl _
    · have := pcs_mono (zs := zs) (m1 := m1) (m2 := m2) (j := j) (k := k) (by omega)
      simp only [pcs, List.length_append]
      omega
theorem pcs_len {zs : List Int} {m1 m2 : Int} : ∀ {k : Nat}, (pcs zs m1 m2 k).length ≤ k
  | 0 => Nat.le_refl _
  | k + 1 => by
    have := pcs_len (zs := zs) (m1 := m1) (m2 := m2) (k := k)
    simp only [pcs, List.length_append]
    split <;> simp <;> omega

def cellP (x : Pc) : Array Value := #[.int .i64 x.k, .int .i64 x.f, .int .i64 x.l, .bool x.b, .bool x.e]
theorem pcs_one {zs : List Int} {m1 m2 : Int} {k : Nat} (h : pcF zs m1 k ≤ pcL zs m2 k) : pcs zs m1 m2 (k + 1) = pcs zs m1 m2 k ++ [pcAt zs m1 m2 k] := by simp [pcs, h]
theorem pcs_same {zs : List Int} {m1 m2 : Int} {k : Nat} (h : ¬ pcF zs m1 k ≤ pcL zs m2 k) : pcs zs m1 m2 (k + 1) = pcs zs m1 m2 k := by simp [pcs, h]
theorem pcs_lt {zs : List Int} {m1 m2 : Int} {k len : Nat} (hk : k < len) (h : pcF zs m1 k ≤ pcL zs m2 k) : (pcs zs m1 m2 k).length < (pcs zs m1 m2 len).length := by
  have h1 := pcs_mono (zs := zs) (m1 := m1) (m2 := m2) (j := k + 1) (k := len) hk
  rw [pcs_one h, List.length_append] at h1
  simp at h1
  omega
theorem grown_drew {W W' : World} {row : Option Nat} (h : W.grownBy W' row) : W.grownBy W'.drew row := ⟨h.os, h.tape, h.output, h.size, h.block⟩
theorem cell_up {W : World} {a : Addr} {v : Value} (o : Obj) (h : W.cell? a = some v) : ((W.alloc o).drew).cell? a = some v := cell_kept h (grown_drew (World.grownBy_alloc W o none)) (fun r e => by cases e)

set_option maxHeartbeats 4000000 in
theorem pc1_in (n : Nat) (hn : 1 ≤ n) (l Bs so Bp po n₀ b off len cap : Nat) (zs : List Int) (m1 m2 : Int) (hzl : zs.length = len) (hreach : len * 8 ≤ 140737488351232) (hb : b < n₀) (hBs' : Bs < n₀) (hBp' : Bp < n₀)  (J Jx : List Pc → World → Prop)
    (hA : ∀ s W W', J s W → W.grownBy W' none → J s W')
    (hY : ∀ pre x W, J pre W → pre.length < (pcs zs m1 m2 len).length → YieldAt Fence.wide (n - 1) Try.prog l #[encP x] W fun e W' =>
      (e = .returned (.bool true) ∧ J (pre ++ [x]) W' ∧ Below n₀ W W') ∨ (e = .returned (.bool false) ∧ Jx (pre ++ [x]) W'))
    (W : World) (hn0 : n₀ ≤ W.heap.size) (hBs : W.cell? ⟨Bs, so, none⟩ = some (.slice (some ⟨b, off, none⟩) len cap)) (hp1 : W.cell? ⟨Bp, po + 1, none⟩ = some (.int .i64 m1)) (hp2 : W.cell? ⟨Bp, po + 5, none⟩ = some (.int .i64 m2))
    (hc : ∀ j, j < len → W.cell? ⟨b, off + j, none⟩ = some (.int .i64 (zs[j]?.getD 0))) (h0 : J [] W) :
    CallsIn Fence.wide n Try.prog 62 #[.func (.yield l) #[] #[], .pointer (some ⟨Bs, so, none⟩), .pointer (some ⟨Bp, po, none⟩)] W fun e W' => (∃ v, e = .returned v) ∧
      ((∃ ys, ys = pcs zs m1 m2 len ∧ J ys W') ∨ (∃ pre, Jx pre W')) := by
  refine callsIn_of_wp Try.func62 rfl trivial ?_ rfl
  simp only [Try.ntmps62, List.size_toArray, List.length_cons, List.length_nil, Nat.reduceAdd, Nat.reduceSub, Array.replicate_succ, Array.replicate_zero, List.push_toArray, List.append_toArray, List.nil_append, List.cons_append]
  gi_wp2
  gi_loopw [10] (fun i wr => ∃ k : Nat, k ≤ len ∧ i = .int .i64 k ∧ J (pcs zs m1 m2 k) wr ∧ Below n₀ W wr)
    (fun i _ => len - (intOf i).toNat)
  case atStart => exact ⟨0, Nat.zero_le _, rfl, h0, Below.refl _ _⟩
  case round =>
    obtain ⟨k, hk, rfl, hJs, hnx⟩ := hrel
    by_cases hlt : k < len
    · have hcx := (hnx.cell (p := ⟨b, off + k, none⟩) hb).trans (hc k hlt)
      have hcs := (hnx.cell (p := ⟨Bs, so, none⟩) hBs').trans hBs
      have hc1 := (hnx.cell (p := ⟨Bp, po + 1, none⟩) hBp').trans hp1
      have hc2 := (hnx.cell (p := ⟨Bp, po + 5, none⟩) hBp').trans hp2
      obtain ⟨x, hx⟩ : ∃ x, zs[k]?.getD 0 = x := ⟨_, rfl⟩
      rw [hx] at hcx
      have hF : (x < m1 ∧ pcF zs m1 k = m1) ∨ (m1 ≤ x ∧ pcF zs m1 k = x) := by
        unfold pcF mxI
        rw [hx]
        by_cases c : x < m1
        · exact .inl ⟨c, if_pos c⟩
        · exact .inr ⟨by omega, if_neg c⟩
      have hgr : ∀ o, wr.grownBy ((wr.alloc o).drew) none := fun o => grown_drew (World.grownBy_alloc wr o none)
      have hsz : n₀ ≤ wr.heap.size := Nat.le_trans hn0 hnx.size
      have hnd : ∀ o, Below n₀ W ((wr.alloc o).drew) := fun o => (hnx.alloc hsz o).drew
      have hd1 : ∀ o, ((wr.alloc o).drew).cell? ⟨Bp, po + 1, none⟩ = some (.int .i64 m1) := fun o => cell_up o hc1
      have hd2 : ∀ o, ((wr.alloc o).drew).cell? ⟨Bp, po + 5, none⟩ = some (.int .i64 m2) := fun o => cell_up o hc2
      by_cases hk1 : k + 1 < len
      · have hcy := (hnx.cell (p := ⟨b, off + (k + 1), none⟩) hb).trans (hc (k + 1) hk1)
        obtain ⟨y, hy⟩ : ∃ y, zs[k + 1]?.getD 0 = y := ⟨_, rfl⟩
        rw [hy] at hcy
        have hL : (m2 < wrap64 (y - 1) ∧ pcL zs m2 k = m2) ∨ (wrap64 (y - 1) ≤ m2 ∧ pcL zs m2 k = wrap64 (y - 1)) := by
          have e : lastM zs k = wrap64 (y - 1) := by
            unfold lastM
            rw [if_pos (by omega), hy]
          unfold pcL mnI
          rw [e]
          by_cases c : m2 < wrap64 (y - 1)
          · exact .inl ⟨c, if_pos c⟩
          · exact .inr ⟨by omega, if_neg c⟩
        clear hc hx hy
        rcases hF with ⟨hF1, hF2⟩ | ⟨hF1, hF2⟩ <;> rcases hL with ⟨hL1, hL2⟩ | ⟨hL1, hL2⟩
        all_goals
          by_cases hfl : pcF zs m1 k ≤ pcL zs m2 k
          · have hlen : (pcs zs m1 m2 k).length < (pcs zs m1 m2 len).length := pcs_lt hlt hfl
            obtain ⟨fn, tmps, assign, body, hy, hR⟩ := hY _ (pcAt zs m1 m2 k) ((wr.alloc (.cells (cellP (pcAt zs m1 m2 k)) 69)).drew) (hA _ _ _ hJs (hgr _)) hlen
            have hnx' : Below n₀ W ((wr.alloc (.cells (cellP (pcAt zs m1 m2 k)) 69)).drew) := hnd _
            rw [← pcs_one hfl] at hR
            simp only [encP, cellP, pcAt, hF2, hL2, beq_self_eq_true] at hy hR hnx' hfl
            clear hlen hF2 hL2 hY hA hgr hnd
            gi_wp2
            gi_region
            gi_wp2
            refine hR.mono ?_
            rintro e W3 (⟨rfl, hJ3, hk3⟩ | ⟨rfl, hJx3⟩)
            · gi_wp2
              go_roundw
              case rel => exact ⟨k + 1, by omega, by simp, hJ3, hnx'.trans hk3⟩
              case measure => simp [intOf]; omega
            · gi_wp2
              refine bodyPost_ret (results_none rfl _ _ _) rfl ?_
              exact ⟨⟨_, rfl⟩, .inr ⟨_, hJx3⟩⟩
          · have hJ3 := hA _ _ _ hJs (hgr (.cells (cellP (pcAt zs m1 m2 k)) 69))
            have hnx' : Below n₀ W ((wr.alloc (.cells (cellP (pcAt zs m1 m2 k)) 69)).drew) := hnd _
            rw [← pcs_same hfl] at hJ3
            simp only [cellP, pcAt, hF2, hL2, beq_self_eq_true] at hJ3 hnx' hfl
            have hfl' := Int.not_le.1 hfl
            clear hF2 hL2 hY hA hgr hnd
            gi_wp2
            gi_region
            gi_wp2
            refine ⟨fun _ h => (by cases h), ?_⟩
            gi_wp2
            go_roundw
            case rel => exact ⟨k + 1, by omega, by simp, hJ3, hnx'⟩
            case measure => simp [intOf]; omega
      · have hk1' : len ≤ k + 1 := by omega
        have hL : (m2 < 9223372036854775807 ∧ pcL zs m2 k = m2) ∨ (9223372036854775807 ≤ m2 ∧ pcL zs m2 k = 9223372036854775807) := by
          have e : lastM zs k = 9223372036854775807 := by
            unfold lastM
            rw [if_neg (by omega)]
          unfold pcL mnI
          rw [e]
          by_cases c : m2 < 9223372036854775807
          · exact .inl ⟨c, if_pos c⟩
          · exact .inr ⟨by omega, if_neg c⟩
        clear hc hx
        rcases hF with ⟨hF1, hF2⟩ | ⟨hF1, hF2⟩ <;> rcases hL with ⟨hL1, hL2⟩ | ⟨hL1, hL2⟩
        all_goals
          by_cases hfl : pcF zs m1 k ≤ pcL zs m2 k
          · have hlen : (pcs zs m1 m2 k).length < (pcs zs m1 m2 len).length := pcs_lt hlt hfl
            obtain ⟨fn, tmps, assign, body, hy, hR⟩ := hY _ (pcAt zs m1 m2 k) ((wr.alloc (.cells (cellP (pcAt zs m1 m2 k)) 69)).drew) (hA _ _ _ hJs (hgr _)) hlen
            have hnx' : Below n₀ W ((wr.alloc (.cells (cellP (pcAt zs m1 m2 k)) 69)).drew) := hnd _
            rw [← pcs_one hfl] at hR
            simp only [encP, cellP, pcAt, hF2, hL2, beq_self_eq_true] at hy hR hnx' hfl
            clear hlen hF2 hL2 hY hA hgr hnd
            gi_wp2
            gi_region
            gi_wp2
            refine hR.mono ?_
            rintro e W3 (⟨rfl, hJ3, hk3⟩ | ⟨rfl, hJx3⟩)
            · gi_wp2
              go_roundw
              case rel => exact ⟨k + 1, by omega, by simp, hJ3, hnx'.trans hk3⟩
              case measure => simp [intOf]; omega
            · gi_wp2
              refine bodyPost_ret (results_none rfl _ _ _) rfl ?_
              exact ⟨⟨_, rfl⟩, .inr ⟨_, hJx3⟩⟩
          · have hJ3 := hA _ _ _ hJs (hgr (.cells (cellP (pcAt zs m1 m2 k)) 69))
            have hnx' : Below n₀ W ((wr.alloc (.cells (cellP (pcAt zs m1 m2 k)) 69)).drew) := hnd _
            rw [← pcs_same hfl] at hJ3
            simp only [cellP, pcAt, hF2, hL2, beq_self_eq_true] at hJ3 hnx' hfl
            have hfl' := Int.not_le.1 hfl
            clear hF2 hL2 hY hA hgr hnd
            gi_wp2
            gi_region
            gi_wp2
            refine ⟨fun _ h => (by cases h), ?_⟩
            gi_wp2
            go_roundw
            case rel => exact ⟨k + 1, by omega, by simp, hJ3, hnx'⟩
            case measure => simp [intOf]; omega
    · obtain rfl : k = len := by omega
      gi_wp2
      go_end0
      exact ⟨⟨_, rfl⟩, .inl ⟨_, rfl, hJs⟩⟩

end Go.Proofs.Ytfngllcjikmbkaa

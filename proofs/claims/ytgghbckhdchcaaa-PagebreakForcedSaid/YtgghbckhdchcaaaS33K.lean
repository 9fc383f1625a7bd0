/-
  Page breaks: the best way to go on from a system.
-/
import Derived.Test.YtgghbckhdchcaaaS33J
namespace Go.Proofs.Ytgghbckhdchcaaa
open Go Go.Ab
set_option linter.unusedVariables false
set_option linter.unnecessarySimpa false
set_option linter.unusedSimpArgs false
set_option maxRecDepth 100000
variable {H : List (List Row)}

open Path (Ch)

def z0 : Sy := ⟨0, 0, 0, 0⟩
/-- The program looks no further. -/
def stopB (l : List Sy) (ph : Int) (i j : Nat) : Bool := decide (i + 1 < j) && (decide (ph < hgt (sl l i j)) || decide ((l[j - 1]?.getD z0).b = 2))
def stepC (c : Int) (p j : Nat) (o : Ch) : Ch := if c < o.c ∨ (c = o.c ∧ c < inf ∧ p + 1 < o.p) then ⟨c, p + 1, j⟩ else o
def scan (l : List Sy) (ph pt : Int) (F : Nat → Bool → Ch) (i : Nat) (s : Bool) : Nat → Nat → Ch → Ch
  | 0, _, o => o
  | m + 1, j, o => if stopB l ph i j = true then o else scan l ph pt F i s m (j + 1) (stepC (Path.cand (cstF l ph pt) l.length F i s j) (F j (!s)).p j o)

theorem hsum_app : ∀ (a b : List Sy), hsum (a ++ b) = hsum a + hsum b
  | [], b => by simp [hsum]
  | s :: a, b => by simp only [List.cons_append, hsum, hsum_app a b]; omega
theorem sl_snoc {l : List Sy} {a b : Nat} {s : Sy} (h : a ≤ b) (hs : l[b]? = some s) : sl l a (b + 1) = sl l a b ++ [s] := by
  have hb : b < l.length := (List.getElem?_eq_some_iff.1 hs).1
  unfold sl
  rw [List.take_add_one, hs, List.drop_append_of_le_length (by simp; omega)]
  rfl
theorem hgt_snoc {l : List Sy} {a b : Nat} {s : Sy} (h : a < b) (hs : l[b]? = some s) : hgt (sl l a (b + 1)) = hgt (sl l a b) + (s.g + s.h) := by
  have hb : b < l.length := (List.getElem?_eq_some_iff.1 hs).1
  rw [sl_snoc (by omega) hs]
  obtain ⟨x, _, hc⟩ := sl_cons h (show b ≤ l.length by omega)
  rw [hc, List.cons_append]
  simp only [hgt, hsum_app, hsum]
  omega

/-- The table, as the program keeps it. -/
def T6 (F : Nat → Bool → Ch) (n : Nat) : List (List V) := (List.range (n + 1)).map fun j => [.i (F j true).c, .i (F j true).p, .i (F j true).x, .i (F j false).c, .i (F j false).p, .i (F j false).x]
theorem T6_get {F : Nat → Bool → Ch} {n j : Nat} (h : j ≤ n) : (T6 F n)[j]? = some [.i (F j true).c, .i (F j true).p, .i (F j true).x, .i (F j false).c, .i (F j false).p, .i (F j false).x] := by
  unfold T6
  rw [List.getElem?_map, List.getElem?_range (by omega)]
  rfl
theorem T6_len {F : Nat → Bool → Ch} {n : Nat} : (T6 F n).length = n + 1 := by simp [T6]
def inT (F : Nat → Bool → Ch) (n : Nat) : Prop := ∀ j s, j ≤ n → 0 ≤ (F j s).c ∧ (F j s).c ≤ inf ∧ (F j s).p + j ≤ 2 * n + 1 ∧ (F j s).x ≤ n
def sd (s : Bool) : Int := if s = true then 0 else 1

set_option maxHeartbeats 4000000 in
theorem loop28 {k : List KI} {v : V} {l : List Sy} {ph pt : Int} {F : Nat → Bool → Ch} {M : List Row} {ver i : Nat} {s : Bool} {r : Ch → Option V} (he : errC l ph pt = 0) (hv : SlV 4 v (E4 l)) (hi : i < l.length) (hF : inT F l.length)
    (hM : rget M 2 = ⟨ver, 6, T6 F l.length⟩) (hver : 0 < ver)
    (hx : ∀ fr' L' o, Ab.get fr' 10 = .ptr 0 2 1 0 0 → Ab.get fr' 11 = .ptr 0 3 1 0 0 → rget L' 2 = ⟨1, 3, [[.i 0, .i 0, .i 0]]⟩ → rget L' 3 = ⟨1, 3, [[.i o.c, .i (o.p : Nat), .i (o.x : Nat)]]⟩ → Gx tbl (M :: H) [.cell 10 true 3] 0 k fr' L' = r o) :
    ∀ (m j : Nat) (h : Int) (o : Ch) (fr : List V) (L : List Row), j + m = l.length + 1 → i < j → (m ≠ 0 → h + ((l[j - 1]?.getD z0).g + (l[j - 1]?.getD z0).h) = hgt (sl l i j)) → -16777216 ≤ h ∧ h ≤ j * 33554432 → 0 ≤ o.c ∧ o.c ≤ inf → o.p ≤ 2 * l.length + 1 - i →
      Ab.get fr 1 = v → Ab.get fr 2 = .i (i : Nat) → Ab.get fr 3 = .i (sd s) → Ab.get fr 4 = .ref 1 2 ver 6 0 (l.length + 1) → Ab.get fr 5 = .ptr 0 1 1 0 0 → Ab.get fr 10 = .ptr 0 2 1 0 0 → Ab.get fr 11 = .ptr 0 3 1 0 0 → Ab.get fr 12 = .i h → Ab.get fr 13 = .i (j : Nat) →
      rget L 1 = ⟨1, 2, [[.i ph, .i pt]]⟩ → rget L 2 = ⟨1, 3, [[.i 0, .i 0, .i 0]]⟩ → rget L 3 = ⟨1, 3, [[.i o.c, .i (o.p : Nat), .i (o.x : Nat)]]⟩ →
      G tbl (M :: H) [.cell 10 true 3] (.code (.loop ( (.seq ( (.seq ( .region [] [ ⟨some 28, .mv (.t 13), none⟩, ⟨some 29, .mv (.t 1), none⟩, ⟨some 30, .len (.t 29), none⟩, ⟨some 31, .bin .leq (.t 28) (.t 30), none⟩]) ( (.cond (.t 31) ( .skip) ( .exit 0))))) ( (.seq ( (.block 1 ( (.seq ( .region [] [ ⟨some 34, .mv (.t 12), none⟩, ⟨some 35, .mv (.t 1), none⟩, ⟨some 36, .mv (.t 13), none⟩, ⟨some 37, .bin .sub (.t 36) (.c (.int .i64 1)), none⟩, ⟨some 38, .elemAddr 4 (.t 35) (.t 37), none⟩, ⟨some 39, .fieldAddr 1 (.t 38), none⟩, ⟨some 40, .load false 1 (.t 39), none⟩, ⟨some 41, .mv (.t 1), none⟩, ⟨some 42, .mv (.t 13), none⟩, ⟨some 43, .bin .sub (.t 42) (.c (.int .i64 1)), none⟩, ⟨some 44, .elemAddr 4 (.t 41) (.t 43), none⟩, ⟨some 45, .fieldAddr 0 (.t 44), none⟩, ⟨some 46, .load false 1 (.t 45), none⟩, ⟨some 47, .bin .add (.t 40) (.t 46), none⟩, ⟨some 48, .bin .add (.t 34) (.t 47), none⟩, ⟨some 12, .mv (.t 48), none⟩]) ( (.seq ( (.seq ( .region [] [ ⟨some 49, .mv (.t 13), none⟩, ⟨some 50, .mv (.t 2), none⟩, ⟨some 51, .bin .add (.t 50) (.c (.int .i64 1)), none⟩, ⟨some 52, .bin .gtr (.t 49) (.t 51), none⟩, ⟨some 53, .mv (.t 52), none⟩, ⟨some 54, .mv (.t 12), some (53, true)⟩, ⟨some 55, .fieldAddr 0 (.t 5), some (53, true)⟩, ⟨some 56, .load false 1 (.t 55), some (53, true)⟩, ⟨some 57, .bin .gtr (.t 54) (.t 56), some (53, true)⟩, ⟨some 58, .mv (.t 57), some (53, true)⟩, ⟨some 59, .mv (.t 1), some (58, false)⟩, ⟨some 60, .mv (.t 13), some (58, false)⟩, ⟨some 61, .bin .sub (.t 60) (.c (.int .i64 1)), some (58, false)⟩, ⟨some 62, .elemAddr 4 (.t 59) (.t 61), some (58, false)⟩, ⟨some 63, .fieldAddr 3 (.t 62), some (58, false)⟩, ⟨some 64, .load false 1 (.t 63), some (58, false)⟩, ⟨some 65, .bin .eql (.t 64) (.c (.int .i64 2)), some (58, false)⟩, ⟨some 66, .pick (.t 58) (.c (.bool true)) (.t 65), some (53, true)⟩, ⟨some 67, .pick (.t 53) (.t 66) (.c (.bool false)), none⟩]) ( (.cond (.t 67) ( .exit 0) ( .skip))))) ( (.seq ( .region [] [ ⟨some 68, .mv (.t 4), none⟩, ⟨some 69, .mv (.t 13), none⟩, ⟨some 70, .mv (.t 3), none⟩, ⟨some 71, .bin .sub (.c (.int .i64 1)) (.t 70), none⟩, ⟨some 72, .elemAddr 6 (.t 68) (.t 69), none⟩, ⟨some 73, .arrAddr 2 3 (.t 72) (.t 71), none⟩, ⟨some 74, .load true 3 (.t 73), none⟩, ⟨some 14, .alloc 4 [(.int .i64 0), (.int .i64 0), (.int .i64 0)], none⟩, ⟨none, .store 3 (.t 14) (.t 74), none⟩]) ( (.seq ( .region [] [ ⟨some 75, .load true 2 (.t 5), none⟩, ⟨some 76, .mv (.t 1), none⟩, ⟨some 77, .mv (.t 2), none⟩, ⟨some 78, .mv (.t 13), none⟩, ⟨some 79, .sub 4 (.t 76) (some (.t 77)) (some (.t 78)) none, none⟩, ⟨some 80, .mv (.t 12), none⟩, ⟨some 81, .mv (.t 2), none⟩, ⟨some 82, .mv (.t 3), none⟩, ⟨some 83, .bin .eql (.t 82) (.c (.int .i64 0)), none⟩, ⟨some 84, .mv (.t 13), none⟩, ⟨some 85, .mv (.t 1), none⟩, ⟨some 86, .len (.t 85), none⟩, ⟨some 87, .bin .eql (.t 84) (.t 86), none⟩, ⟨some 88, .build [(.int .i64 0), (.bool false), (.bool false)] [(0, 1, (.t 81)), (1, 1, (.t 83)), (2, 1, (.t 87))], none⟩, ⟨some 89, .call 0 (.c (.fn 32 [])) [(.t 75), (.t 79), (.t 80), (.t 88)], none⟩, ⟨some 90, .fieldAddr 0 (.t 14), none⟩, ⟨some 91, .load false 1 (.t 90), none⟩, ⟨some 92, .bin .add (.t 89) (.t 91), none⟩, ⟨some 15, .mv (.t 92), none⟩]) ( (.seq ( .region [] [ ⟨some 93, .mv (.t 15), none⟩, ⟨some 94, .fieldAddr 0 (.t 11), none⟩, ⟨some 95, .load false 1 (.t 94), none⟩, ⟨some 96, .bin .lss (.t 93) (.t 95), none⟩, ⟨some 97, .mv (.t 96), none⟩, ⟨some 98, .mv (.t 15), some (97, false)⟩, ⟨some 99, .fieldAddr 0 (.t 11), some (97, false)⟩, ⟨some 100, .load false 1 (.t 99), some (97, false)⟩, ⟨some 101, .bin .eql (.t 98) (.t 100), some (97, false)⟩, ⟨some 102, .mv (.t 101), some (97, false)⟩, ⟨some 103, .mv (.t 15), some (102, true)⟩, ⟨some 104, .bin .lss (.t 103) (.c (.int .i64 1125899906842624)), some (102, true)⟩, ⟨some 105, .pick (.t 102) (.t 104) (.c (.bool false)), some (97, false)⟩, ⟨some 106, .mv (.t 105), some (97, false)⟩, ⟨some 107, .fieldAddr 1 (.t 14), some (106, true)⟩, ⟨some 108, .load false 1 (.t 107), some (106, true)⟩, ⟨some 109, .bin .add (.t 108) (.c (.int .i64 1)), some (106, true)⟩, ⟨some 110, .fieldAddr 1 (.t 11), some (106, true)⟩, ⟨some 111, .load false 1 (.t 110), some (106, true)⟩, ⟨some 112, .bin .lss (.t 109) (.t 111), some (106, true)⟩, ⟨some 113, .pick (.t 106) (.t 112) (.c (.bool false)), some (97, false)⟩, ⟨some 114, .pick (.t 97) (.c (.bool true)) (.t 113), none⟩]) ( (.cond (.t 114) ( .region [] [ ⟨some 115, .mv (.t 15), none⟩, ⟨some 116, .fieldAddr 1 (.t 14), none⟩, ⟨some 117, .load false 1 (.t 116), none⟩, ⟨some 118, .bin .add (.t 117) (.c (.int .i64 1)), none⟩, ⟨some 119, .mv (.t 13), none⟩, ⟨some 120, .build [(.int .i64 0), (.int .i64 0), (.int .i64 0)] [(0, 1, (.t 115)), (1, 1, (.t 118)), (2, 1, (.t 119))], none⟩, ⟨none, .store 3 (.t 11) (.t 120), none⟩]) ( .skip))))))))))))))) ( .region [] [ ⟨some 32, .mv (.t 13), none⟩, ⟨some 33, .bin .add (.t 32) (.c (.int .i64 1)), none⟩, ⟨some 13, .mv (.t 33), none⟩])))))) :: k) fr L = r (scan l ph pt F i s m j o) := by
  intro m
  have hlv := hv.len
  rw [E4_len] at hlv
  obtain ⟨ho, _⟩ := errC_ok he
  induction m with
  | zero =>
    intro j h o fr L hj hij hh hhb hoc hop h1 h2 h3 h4 h5 h10 h11 h12 h13 r1 r2 r3
    refine G_loop.trans ?_
    unfold scan
    simp (config := { maxSteps := 10000000 }) (disch := omega) only [↓G_seq, ↓G_exit, ↓G_region, ↓G_cond, ↓Gx_code, ↓G_ops_nil, ↓G_op, Gv_some, Gc_false, dec_f, killAll, ↓get_setS, evalOp, ev, b_leq, one, Option.map_some, List.getElem?_cons_zero, List.getElem?_cons_succ, Nat.reduceEqDiff, ↓reduceIte, Nat.succ_ne_self, h1, h13, hlv]
    refine hx _ _ o ?_ ?_ r2 r3
    all_goals simp (config := { maxSteps := 10000000 }) (disch := omega) only [↓get_setS, List.getElem?_cons_zero, List.getElem?_cons_succ, Nat.reduceEqDiff, ↓reduceIte, h10, h11]
  | succ m ih =>
    intro j h o fr L hj hij hh hhb hoc hop h1 h2 h3 h4 h5 h10 h11 h12 h13 r1 r2 r3
    obtain ⟨z, hz⟩ : ∃ z, l[j - 1]? = some z := ⟨_, List.getElem?_eq_getElem (by omega)⟩
    have hE := hv.el (E4_get l (j - 1) z hz)
    have hj1 : ((j : Nat) : Int) - 1 = ((j - 1 : Nat) : Int) := by omega
    obtain ⟨bz1, bz2, bz3⟩ := errC_in he z (List.mem_of_getElem? hz)
    have hh := hh (by omega)
    rw [hz, Option.getD_some] at hh
    have hhg := hgt_in (sl l i j) (fun x hx => errC_in he x (sl_mem hx))
    rw [sl_len (show j ≤ l.length by omega)] at hhg
    obtain ⟨w, hs, hw⟩ := part hv (Nat.le_of_lt hij) (show j ≤ l.length by omega)
    have h32 := fun H => c32' (H := H) (first := (i : Nat)) (turn := s) (fin := decide (j = l.length)) hij (by omega) he hw rfl
    have hfin : decide (((j : Nat) : Int) = (l.length : Nat)) = decide (j = l.length) := by
      by_cases c : j = l.length
      · rw [decide_eq_true c, decide_eq_true (by omega)]
      · rw [decide_eq_false c, decide_eq_false (by omega)]
    have hcb := cst_Bd he i j s (decide (j = l.length))
    have hcb' : 0 ≤ cst l ph pt i j s (decide (j = l.length)) ∧ cst l ph pt i j s (decide (j = l.length)) ≤ 1125899906842624 := by
      have := hinf
      unfold Bd at hcb
      omega
    have hT := T6_get (F := F) (n := l.length) (j := j) (by omega)
    have hb1 := hF j true (by omega)
    have hb2 := hF j false (by omega)
    have hsh := hv.sh
    have hwh := hw.sh
    have next : stopB l ph i j = false → ∀ (o' : Ch) (fr' : List V) (L' : List Row), o' = stepC (Path.cand (cstF l ph pt) l.length F i s j) (F j (!s)).p j o → Ab.get fr' 1 = v → Ab.get fr' 2 = .i (i : Nat) → Ab.get fr' 3 = .i (sd s) → Ab.get fr' 4 = .ref 1 2 ver 6 0 (l.length + 1) → Ab.get fr' 5 = .ptr 0 1 1 0 0 → Ab.get fr' 10 = .ptr 0 2 1 0 0 → Ab.get fr' 11 = .ptr 0 3 1 0 0 → Ab.get fr' 12 = .i (hgt (sl l i j)) → Ab.get fr' 13 = .i ((j : Nat) + 1) →
        rget L' 1 = ⟨1, 2, [[.i ph, .i pt]]⟩ → rget L' 2 = ⟨1, 3, [[.i 0, .i 0, .i 0]]⟩ → rget L' 3 = ⟨1, 3, [[.i o'.c, .i (o'.p : Nat), .i (o'.x : Nat)]]⟩ →
        G tbl (M :: H) [.cell 10 true 3] (.code (.loop ( (.seq ( (.seq ( .region [] [ ⟨some 28, .mv (.t 13), none⟩, ⟨some 29, .mv (.t 1), none⟩, ⟨some 30, .len (.t 29), none⟩, ⟨some 31, .bin .leq (.t 28) (.t 30), none⟩]) ( (.cond (.t 31) ( .skip) ( .exit 0))))) ( (.seq ( (.block 1 ( (.seq ( .region [] [ ⟨some 34, .mv (.t 12), none⟩, ⟨some 35, .mv (.t 1), none⟩, ⟨some 36, .mv (.t 13), none⟩, ⟨some 37, .bin .sub (.t 36) (.c (.int .i64 1)), none⟩, ⟨some 38, .elemAddr 4 (.t 35) (.t 37), none⟩, ⟨some 39, .fieldAddr 1 (.t 38), none⟩, ⟨some 40, .load false 1 (.t 39), none⟩, ⟨some 41, .mv (.t 1), none⟩, ⟨some 42, .mv (.t 13), none⟩, ⟨some 43, .bin .sub (.t 42) (.c (.int .i64 1)), none⟩, ⟨some 44, .elemAddr 4 (.t 41) (.t 43), none⟩, ⟨some 45, .fieldAddr 0 (.t 44), none⟩, ⟨some 46, .load false 1 (.t 45), none⟩, ⟨some 47, .bin .add (.t 40) (.t 46), none⟩, ⟨some 48, .bin .add (.t 34) (.t 47), none⟩, ⟨some 12, .mv (.t 48), none⟩]) ( (.seq ( (.seq ( .region [] [ ⟨some 49, .mv (.t 13), none⟩, ⟨some 50, .mv (.t 2), none⟩, ⟨some 51, .bin .add (.t 50) (.c (.int .i64 1)), none⟩, ⟨some 52, .bin .gtr (.t 49) (.t 51), none⟩, ⟨some 53, .mv (.t 52), none⟩, ⟨some 54, .mv (.t 12), some (53, true)⟩, ⟨some 55, .fieldAddr 0 (.t 5), some (53, true)⟩, ⟨some 56, .load false 1 (.t 55), some (53, true)⟩, ⟨some 57, .bin .gtr (.t 54) (.t 56), some (53, true)⟩, ⟨some 58, .mv (.t 57), some (53, true)⟩, ⟨some 59, .mv (.t 1), some (58, false)⟩, ⟨some 60, .mv (.t 13), some (58, false)⟩, ⟨some 61, .bin .sub (.t 60) (.c (.int .i64 1)), some (58, false)⟩, ⟨some 62, .elemAddr 4 (.t 59) (.t 61), some (58, false)⟩, ⟨some 63, .fieldAddr 3 (.t 62), some (58, false)⟩, ⟨some 64, .load false 1 (.t 63), some (58, false)⟩, ⟨some 65, .bin .eql (.t 64) (.c (.int .i64 2)), some (58, false)⟩, ⟨some 66, .pick (.t 58) (.c (.bool true)) (.t 65), some (53, true)⟩, ⟨some 67, .pick (.t 53) (.t 66) (.c (.bool false)), none⟩]) ( (.cond (.t 67) ( .exit 0) ( .skip))))) ( (.seq ( .region [] [ ⟨some 68, .mv (.t 4), none⟩, ⟨some 69, .mv (.t 13), none⟩, ⟨some 70, .mv (.t 3), none⟩, ⟨some 71, .bin .sub (.c (.int .i64 1)) (.t 70), none⟩, ⟨some 72, .elemAddr 6 (.t 68) (.t 69), none⟩, ⟨some 73, .arrAddr 2 3 (.t 72) (.t 71), none⟩, ⟨some 74, .load true 3 (.t 73), none⟩, ⟨some 14, .alloc 4 [(.int .i64 0), (.int .i64 0), (.int .i64 0)], none⟩, ⟨none, .store 3 (.t 14) (.t 74), none⟩]) ( (.seq ( .region [] [ ⟨some 75, .load true 2 (.t 5), none⟩, ⟨some 76, .mv (.t 1), none⟩, ⟨some 77, .mv (.t 2), none⟩, ⟨some 78, .mv (.t 13), none⟩, ⟨some 79, .sub 4 (.t 76) (some (.t 77)) (some (.t 78)) none, none⟩, ⟨some 80, .mv (.t 12), none⟩, ⟨some 81, .mv (.t 2), none⟩, ⟨some 82, .mv (.t 3), none⟩, ⟨some 83, .bin .eql (.t 82) (.c (.int .i64 0)), none⟩, ⟨some 84, .mv (.t 13), none⟩, ⟨some 85, .mv (.t 1), none⟩, ⟨some 86, .len (.t 85), none⟩, ⟨some 87, .bin .eql (.t 84) (.t 86), none⟩, ⟨some 88, .build [(.int .i64 0), (.bool false), (.bool false)] [(0, 1, (.t 81)), (1, 1, (.t 83)), (2, 1, (.t 87))], none⟩, ⟨some 89, .call 0 (.c (.fn 32 [])) [(.t 75), (.t 79), (.t 80), (.t 88)], none⟩, ⟨some 90, .fieldAddr 0 (.t 14), none⟩, ⟨some 91, .load false 1 (.t 90), none⟩, ⟨some 92, .bin .add (.t 89) (.t 91), none⟩, ⟨some 15, .mv (.t 92), none⟩]) ( (.seq ( .region [] [ ⟨some 93, .mv (.t 15), none⟩, ⟨some 94, .fieldAddr 0 (.t 11), none⟩, ⟨some 95, .load false 1 (.t 94), none⟩, ⟨some 96, .bin .lss (.t 93) (.t 95), none⟩, ⟨some 97, .mv (.t 96), none⟩, ⟨some 98, .mv (.t 15), some (97, false)⟩, ⟨some 99, .fieldAddr 0 (.t 11), some (97, false)⟩, ⟨some 100, .load false 1 (.t 99), some (97, false)⟩, ⟨some 101, .bin .eql (.t 98) (.t 100), some (97, false)⟩, ⟨some 102, .mv (.t 101), some (97, false)⟩, ⟨some 103, .mv (.t 15), some (102, true)⟩, ⟨some 104, .bin .lss (.t 103) (.c (.int .i64 1125899906842624)), some (102, true)⟩, ⟨some 105, .pick (.t 102) (.t 104) (.c (.bool false)), some (97, false)⟩, ⟨some 106, .mv (.t 105), some (97, false)⟩, ⟨some 107, .fieldAddr 1 (.t 14), some (106, true)⟩, ⟨some 108, .load false 1 (.t 107), some (106, true)⟩, ⟨some 109, .bin .add (.t 108) (.c (.int .i64 1)), some (106, true)⟩, ⟨some 110, .fieldAddr 1 (.t 11), some (106, true)⟩, ⟨some 111, .load false 1 (.t 110), some (106, true)⟩, ⟨some 112, .bin .lss (.t 109) (.t 111), some (106, true)⟩, ⟨some 113, .pick (.t 106) (.t 112) (.c (.bool false)), some (97, false)⟩, ⟨some 114, .pick (.t 97) (.c (.bool true)) (.t 113), none⟩]) ( (.cond (.t 114) ( .region [] [ ⟨some 115, .mv (.t 15), none⟩, ⟨some 116, .fieldAddr 1 (.t 14), none⟩, ⟨some 117, .load false 1 (.t 116), none⟩, ⟨some 118, .bin .add (.t 117) (.c (.int .i64 1)), none⟩, ⟨some 119, .mv (.t 13), none⟩, ⟨some 120, .build [(.int .i64 0), (.int .i64 0), (.int .i64 0)] [(0, 1, (.t 115)), (1, 1, (.t 118)), (2, 1, (.t 119))], none⟩, ⟨none, .store 3 (.t 11) (.t 120), none⟩]) ( .skip))))))))))))))) ( .region [] [ ⟨some 32, .mv (.t 13), none⟩, ⟨some 33, .bin .add (.t 32) (.c (.int .i64 1)), none⟩, ⟨some 13, .mv (.t 33), none⟩])))))) :: k) fr' L' = r (scan l ph pt F i s (m + 1) j o) := by
      intro hst o' fr' L' ho' g1 g2 g3 g4 g5 g10 g11 g12 g13 q1 q2 q3
      have hcd : 0 ≤ Path.cand (cstF l ph pt) l.length F i s j := by
        simp only [Path.cand, cstF]
        cases s
        · simp only [Bool.not_false]; omega
        · simp only [Bool.not_true]; omega
      have := ih (j + 1) (hgt (sl l i j)) o' fr' L' (by omega) (by omega) (fun hm => by
          obtain ⟨y, hy⟩ : ∃ y, l[j]? = some y := ⟨_, List.getElem?_eq_getElem (by omega)⟩
          rw [show j + 1 - 1 = j by omega, hy, Option.getD_some]
          exact (hgt_snoc hij hy).symm) (by omega) (by
          rw [ho']
          unfold stepC
          split
          · rename_i hc
            refine ⟨hcd, ?_⟩
            show Path.cand (cstF l ph pt) l.length F i s j ≤ inf
            omega
          · exact hoc) (by
          rw [ho']
          unfold stepC
          split
          · show (F j (!s)).p + 1 ≤ _
            cases s
            · simp only [Bool.not_false]; omega
            · simp only [Bool.not_true]; omega
          · exact hop) g1 g2 g3 g4 g5 g10 g11 g12 (by rw [g13]; congr 1) q1 q2 q3
      rw [this, ho']
      conv => rhs; unfold scan
      rw [hst, if_neg (by decide)]
    have hstop : stopB l ph i j = true → r (scan l ph pt F i s (m + 1) j o) = r o := by
      intro hst
      unfold scan
      rw [if_pos hst]
    unfold Path.cand at next
    have hsb : stopB l ph i j = (decide (i + 1 < j) && (decide (ph < hgt (sl l i j)) || decide (z.b = 2))) := by
      unfold stopB
      rw [hz, Option.getD_some]
    rw [hsb] at next hstop
    have hinf' := hinf
    clear ih hF hv hw hz hsb hcb
    change (_ → ∀ (o' : Ch) (fr' : List V) (L' : List Row), o' = stepC (cst l ph pt i j s (decide (j = l.length)) + (F j (!s)).c) (F j (!s)).p j o → _) at next
    generalize scan l ph pt F i s (m + 1) j o = res at *
    generalize cst l ph pt i j s (decide (j = l.length)) = c at *
    generalize hgt (sl l i j) = h' at *
    refine G_loop.trans ?_
    have hz0 : decide ((0 : Int) = 0) = true := rfl
    have hz1 : decide ((1 : Int) = 0) = false := rfl
    -- whether it looks further
    have cs : (i + 1 < j ∧ h' ≤ ph ∧ ¬ z.b = 2) ∨ ¬ i + 1 < j ∨ (i + 1 < j ∧ ph < h') ∨ (i + 1 < j ∧ h' ≤ ph ∧ z.b = 2) := by omega
    have stp : ∀ {x y w : Bool}, (x && (y || w)) = true → (x && (y || w)) = true := fun h => h
    rcases cs with ⟨c1, c2, c3⟩ | c1 | ⟨c1, c2⟩ | ⟨c1, c2, c3⟩
    case inr.inr.inl =>
      have nx := hstop (by rw [decide_eq_true c1, decide_eq_true c2]; rfl)
      clear next hstop
      rw [nx]
      cases s
      all_goals
        simp only [sd, Bool.not_false, Bool.not_true, if_true, if_false, Bool.false_eq_true] at *
        simp (config := { maxSteps := 10000000 }) (disch := omega) only [↓G_seq, ↓G_skip, ↓G_exit, ↓G_region, ↓G_block, ↓G_cond, ↓Gx_blk, ↓Gx_code, ↓G_ops_nil, ↓G_op, Gv_some, ↓G_gop, Gw_tt, Gw_ft, Gc_true, dec_t, killAll, ↓get_setS, evalOp, ev, b_add, b_sub, b_leq, b_gtr, wrap_i64, one, Option.map_some, Option.bind_some, asB, V.shift, Bool.and_self, List.getElem?_cons_zero, List.getElem?_cons_succ, Nat.reduceEqDiff, ↓reduceIte, Nat.succ_ne_self, Bool.false_eq_true, Nat.zero_ne_one, pick3, addOff, loadV, Ab.rowAt, and_self, List.getD_cons_zero, Nat.zero_add, Nat.add_zero, h1, h2, h5, h12, h13, hlv, hE, hj1, r1, Nat.zero_lt_succ, Nat.zero_add, hh]
        refine hx _ _ o ?_ ?_ ?_ ?_
        all_goals simp (config := { maxSteps := 10000000 }) (disch := omega) only [↓get_setS, List.getElem?_cons_zero, List.getElem?_cons_succ, Nat.reduceEqDiff, ↓reduceIte, Nat.succ_ne_self, h10, h11, r2, r3]
    case inr.inr.inr =>
      have nx := hstop (by rw [decide_eq_true c1, decide_eq_true c3]; simp)
      clear next hstop
      rw [nx]
      cases s
      all_goals
        simp only [sd, Bool.not_false, Bool.not_true, if_true, if_false, Bool.false_eq_true] at *
        simp (config := { maxSteps := 10000000 }) (disch := omega) only [↓G_seq, ↓G_skip, ↓G_exit, ↓G_region, ↓G_block, ↓G_cond, ↓Gx_blk, ↓Gx_code, ↓G_ops_nil, ↓G_op, Gv_some, ↓G_gop, Gw_tt, Gw_ff, Gc_true, dec_t, dec_f, killAll, ↓get_setS, evalOp, ev, b_add, b_sub, b_eql, b_leq, b_gtr, wrap_i64, one, Option.map_some, Option.bind_some, asB, V.shift, Bool.and_self, List.getElem?_cons_zero, List.getElem?_cons_succ, Nat.reduceEqDiff, ↓reduceIte, Nat.succ_ne_self, Bool.false_eq_true, Nat.zero_ne_one, pick3, addOff, loadV, Ab.rowAt, and_self, List.getD_cons_zero, Nat.zero_add, Nat.add_zero, h1, h2, h5, h12, h13, hlv, hE, hj1, r1, Nat.zero_lt_succ, Nat.zero_add, hh]
        refine hx _ _ o ?_ ?_ ?_ ?_
        all_goals simp (config := { maxSteps := 10000000 }) (disch := omega) only [↓get_setS, List.getElem?_cons_zero, List.getElem?_cons_succ, Nat.reduceEqDiff, ↓reduceIte, Nat.succ_ne_self, h10, h11, r2, r3]
    case inl =>
      have next' := next (by rw [decide_eq_true c1, decide_eq_false (show ¬ ph < h' by omega), decide_eq_false c3]; rfl)
      clear next hstop stp
      cases s
      · simp only [sd, Bool.not_false, Bool.not_true, if_true, if_false, Bool.false_eq_true] at *
        generalize hfc : (F j true).c = fc at *
        generalize hfp : (F j true).p = fp at *
        have cu : (c + fc < o.c) ∨ (c + fc = o.c ∧ c + fc < 1125899906842624 ∧ fp + 1 < o.p) ∨ (o.c < c + fc) ∨ (c + fc = o.c ∧ 1125899906842624 ≤ c + fc) ∨ (c + fc = o.c ∧ c + fc < 1125899906842624 ∧ o.p ≤ fp + 1) := by omega
        rcases cu with u | ⟨u1, u2, u3⟩ | u | ⟨u1, u2⟩ | ⟨u1, u2, u3⟩
        · have nx := fun fr' L' => next' ⟨c + fc, fp + 1, j⟩ fr' L' (by unfold stepC; rw [if_pos (by omega)])
          clear next' hx
          simp (config := { maxSteps := 10000000 }) (disch := omega) only [↓G_seq, ↓G_skip, ↓G_blk, ↓G_region, ↓G_block, ↓G_cond, ↓G_ops_nil, ↓G_op, Gv_some, ↓G_gop, Gw_tt, Gw_ff, Gw_ft, Gw_tup, Gc_true, Gc_false, dec_t, dec_f, killAll, ↓get_setS, ↓get_setN, evalOp, ev, evs, rget_rset, b_add, b_sub, b_eql, b_lss, b_leq, b_gtr, wrap_i64, one, Option.map_some, Option.bind_some, Option.map_none, asB, callV, V.shift, V.shifts, List.append_nil, List.nil_append, List.cons_append, List.all_cons, List.all_nil, Bool.true_and, Bool.and_self, List.getElem?_cons_zero, List.getElem?_cons_succ, Nat.reduceEqDiff, ↓reduceIte, Nat.succ_ne_self, decide_false, bne_self_eq_false, Bool.false_eq_true, Int.reduceAdd, Int.reduceSub, Int.reduceLT, Int.reduceLE, Int.reduceEq, pick3, V.cells, fillV, splice, arrV, addOff, loadV, storeV, Ab.rowAt, V.scalar, Int.reduceToNat, Nat.reduceAdd, Nat.reduceSub, Nat.reduceLT, Nat.reduceLeDiff, true_and, and_self, List.length_cons, List.length_nil, List.take_succ_cons, List.take_zero, List.drop_succ_cons, List.drop_zero, Nat.le_refl, List.set_cons_zero, List.getD_cons_zero, List.getD_cons_succ, Int.cast_ofNat_Int, Nat.zero_add, Nat.add_zero, Nat.zero_mul, el_ref, ti_int, nn, ite_ov, Int.toNat_natCast, h1, h2, h3, h4, h5, h11, h12, h13, hlv, hE, hj1, r1, r3, hM, hT, hs, h32, hwh, hfin, Nat.zero_lt_succ, Nat.zero_add, hh, rset_rset]
          refine nx _ _ ?_ ?_ ?_ ?_ ?_ ?_ ?_ ?_ ?_ ?_ ?_ ?_
          all_goals simp (config := { maxSteps := 10000000 }) (disch := omega) only [↓get_setS, ↓get_setN, rget_rset, List.getElem?_cons_zero, List.getElem?_cons_succ, Nat.reduceEqDiff, ↓reduceIte, Nat.succ_ne_self, h1, h2, h3, h4, h5, h10, h11, r1, r2]
          all_goals rfl
        · have nx := fun fr' L' => next' ⟨c + fc, fp + 1, j⟩ fr' L' (by unfold stepC; rw [if_pos (by omega)])
          clear next' hx
          simp (config := { maxSteps := 10000000 }) (disch := omega) only [↓G_seq, ↓G_skip, ↓G_blk, ↓G_region, ↓G_block, ↓G_cond, ↓G_ops_nil, ↓G_op, Gv_some, ↓G_gop, Gw_tt, Gw_ff, Gc_true, Gc_false, dec_t, dec_f, killAll, ↓get_setS, ↓get_setN, evalOp, ev, evs, rget_rset, b_add, b_sub, b_eql, b_lss, b_leq, b_gtr, wrap_i64, one, Option.map_some, Option.bind_some, Option.map_none, asB, callV, V.shift, V.shifts, List.append_nil, List.nil_append, List.cons_append, List.all_cons, List.all_nil, Bool.true_and, Bool.and_self, List.getElem?_cons_zero, List.getElem?_cons_succ, Nat.reduceEqDiff, ↓reduceIte, Nat.succ_ne_self, decide_false, bne_self_eq_false, Bool.false_eq_true, Int.reduceAdd, Int.reduceSub, Int.reduceLT, Int.reduceLE, Int.reduceEq, pick3, V.cells, fillV, splice, arrV, addOff, loadV, storeV, Ab.rowAt, V.scalar, Int.reduceToNat, Nat.reduceAdd, Nat.reduceSub, Nat.reduceLT, Nat.reduceLeDiff, true_and, and_self, List.length_cons, List.length_nil, List.take_succ_cons, List.take_zero, List.drop_succ_cons, List.drop_zero, Nat.le_refl, List.set_cons_zero, List.getD_cons_zero, List.getD_cons_succ, Int.cast_ofNat_Int, Nat.zero_add, Nat.add_zero, Nat.zero_mul, el_ref, ti_int, nn, ite_ov, Int.toNat_natCast, h1, h2, h3, h4, h5, h11, h12, h13, hlv, hE, hj1, r1, r3, hM, hT, hs, h32, hwh, hfin, Nat.zero_lt_succ, Nat.zero_add, hh, rset_rset]
          refine nx _ _ ?_ ?_ ?_ ?_ ?_ ?_ ?_ ?_ ?_ ?_ ?_ ?_
          all_goals simp (config := { maxSteps := 10000000 }) (disch := omega) only [↓get_setS, ↓get_setN, rget_rset, List.getElem?_cons_zero, List.getElem?_cons_succ, Nat.reduceEqDiff, ↓reduceIte, Nat.succ_ne_self, h1, h2, h3, h4, h5, h10, h11, r1, r2]
          all_goals rfl
        · have nx := fun fr' L' => next' o fr' L' (by unfold stepC; rw [if_neg (by omega)])
          clear next' hx
          simp (config := { maxSteps := 10000000 }) (disch := omega) only [↓G_seq, ↓G_skip, ↓G_blk, ↓G_region, ↓G_block, ↓G_cond, ↓G_ops_nil, ↓G_op, Gv_some, ↓G_gop, Gw_tt, Gw_ff, Gw_tf, Gc_true, Gc_false, dec_t, dec_f, killAll, ↓get_setS, ↓get_setN, evalOp, ev, evs, rget_rset, b_add, b_sub, b_eql, b_lss, b_leq, b_gtr, wrap_i64, one, Option.map_some, Option.bind_some, Option.map_none, asB, callV, V.shift, V.shifts, List.append_nil, List.nil_append, List.cons_append, List.all_cons, List.all_nil, Bool.true_and, Bool.and_self, List.getElem?_cons_zero, List.getElem?_cons_succ, Nat.reduceEqDiff, ↓reduceIte, Nat.succ_ne_self, decide_false, bne_self_eq_false, Bool.false_eq_true, Int.reduceAdd, Int.reduceSub, Int.reduceLT, Int.reduceLE, Int.reduceEq, pick3, V.cells, fillV, splice, arrV, addOff, loadV, storeV, Ab.rowAt, V.scalar, Int.reduceToNat, Nat.reduceAdd, Nat.reduceSub, Nat.reduceLT, Nat.reduceLeDiff, true_and, and_self, List.length_cons, List.length_nil, List.take_succ_cons, List.take_zero, List.drop_succ_cons, List.drop_zero, Nat.le_refl, List.set_cons_zero, List.getD_cons_zero, List.getD_cons_succ, Int.cast_ofNat_Int, Nat.zero_add, Nat.add_zero, Nat.zero_mul, el_ref, ti_int, nn, ite_ov, Int.toNat_natCast, h1, h2, h3, h4, h5, h11, h12, h13, hlv, hE, hj1, r1, r3, hM, hT, hs, h32, hwh, hfin, Nat.zero_lt_succ, Nat.zero_add, hh, rset_rset]
          refine nx _ _ ?_ ?_ ?_ ?_ ?_ ?_ ?_ ?_ ?_ ?_ ?_ ?_
          all_goals simp (config := { maxSteps := 10000000 }) (disch := omega) only [↓get_setS, ↓get_setN, rget_rset, List.getElem?_cons_zero, List.getElem?_cons_succ, Nat.reduceEqDiff, ↓reduceIte, Nat.succ_ne_self, h1, h2, h3, h4, h5, h10, h11, r1, r2, r3]
        · have nx := fun fr' L' => next' o fr' L' (by unfold stepC; rw [if_neg (by omega)])
          clear next' hx
          simp (config := { maxSteps := 10000000 }) (disch := omega) only [↓G_seq, ↓G_skip, ↓G_blk, ↓G_region, ↓G_block, ↓G_cond, ↓G_ops_nil, ↓G_op, Gv_some, ↓G_gop, Gw_tt, Gw_ff, Gw_tf, Gc_true, Gc_false, dec_t, dec_f, killAll, ↓get_setS, ↓get_setN, evalOp, ev, evs, rget_rset, b_add, b_sub, b_eql, b_lss, b_leq, b_gtr, wrap_i64, one, Option.map_some, Option.bind_some, Option.map_none, asB, callV, V.shift, V.shifts, List.append_nil, List.nil_append, List.cons_append, List.all_cons, List.all_nil, Bool.true_and, Bool.and_self, List.getElem?_cons_zero, List.getElem?_cons_succ, Nat.reduceEqDiff, ↓reduceIte, Nat.succ_ne_self, decide_false, bne_self_eq_false, Bool.false_eq_true, Int.reduceAdd, Int.reduceSub, Int.reduceLT, Int.reduceLE, Int.reduceEq, pick3, V.cells, fillV, splice, arrV, addOff, loadV, storeV, Ab.rowAt, V.scalar, Int.reduceToNat, Nat.reduceAdd, Nat.reduceSub, Nat.reduceLT, Nat.reduceLeDiff, true_and, and_self, List.length_cons, List.length_nil, List.take_succ_cons, List.take_zero, List.drop_succ_cons, List.drop_zero, Nat.le_refl, List.set_cons_zero, List.getD_cons_zero, List.getD_cons_succ, Int.cast_ofNat_Int, Nat.zero_add, Nat.add_zero, Nat.zero_mul, el_ref, ti_int, nn, ite_ov, Int.toNat_natCast, h1, h2, h3, h4, h5, h11, h12, h13, hlv, hE, hj1, r1, r3, hM, hT, hs, h32, hwh, hfin, Nat.zero_lt_succ, Nat.zero_add, hh, rset_rset]
          refine nx _ _ ?_ ?_ ?_ ?_ ?_ ?_ ?_ ?_ ?_ ?_ ?_ ?_
          all_goals simp (config := { maxSteps := 10000000 }) (disch := omega) only [↓get_setS, ↓get_setN, rget_rset, List.getElem?_cons_zero, List.getElem?_cons_succ, Nat.reduceEqDiff, ↓reduceIte, Nat.succ_ne_self, h1, h2, h3, h4, h5, h10, h11, r1, r2, r3]
        · have nx := fun fr' L' => next' o fr' L' (by unfold stepC; rw [if_neg (by omega)])
          clear next' hx
          simp (config := { maxSteps := 10000000 }) (disch := omega) only [↓G_seq, ↓G_skip, ↓G_blk, ↓G_region, ↓G_block, ↓G_cond, ↓G_ops_nil, ↓G_op, Gv_some, ↓G_gop, Gw_tt, Gw_ff, Gc_true, Gc_false, dec_t, dec_f, killAll, ↓get_setS, ↓get_setN, evalOp, ev, evs, rget_rset, b_add, b_sub, b_eql, b_lss, b_leq, b_gtr, wrap_i64, one, Option.map_some, Option.bind_some, Option.map_none, asB, callV, V.shift, V.shifts, List.append_nil, List.nil_append, List.cons_append, List.all_cons, List.all_nil, Bool.true_and, Bool.and_self, List.getElem?_cons_zero, List.getElem?_cons_succ, Nat.reduceEqDiff, ↓reduceIte, Nat.succ_ne_self, decide_false, bne_self_eq_false, Bool.false_eq_true, Int.reduceAdd, Int.reduceSub, Int.reduceLT, Int.reduceLE, Int.reduceEq, pick3, V.cells, fillV, splice, arrV, addOff, loadV, storeV, Ab.rowAt, V.scalar, Int.reduceToNat, Nat.reduceAdd, Nat.reduceSub, Nat.reduceLT, Nat.reduceLeDiff, true_and, and_self, List.length_cons, List.length_nil, List.take_succ_cons, List.take_zero, List.drop_succ_cons, List.drop_zero, Nat.le_refl, List.set_cons_zero, List.getD_cons_zero, List.getD_cons_succ, Int.cast_ofNat_Int, Nat.zero_add, Nat.add_zero, Nat.zero_mul, el_ref, ti_int, nn, ite_ov, Int.toNat_natCast, h1, h2, h3, h4, h5, h11, h12, h13, hlv, hE, hj1, r1, r3, hM, hT, hs, h32, hwh, hfin, Nat.zero_lt_succ, Nat.zero_add, hh, rset_rset]
          refine nx _ _ ?_ ?_ ?_ ?_ ?_ ?_ ?_ ?_ ?_ ?_ ?_ ?_
          all_goals simp (config := { maxSteps := 10000000 }) (disch := omega) only [↓get_setS, ↓get_setN, rget_rset, List.getElem?_cons_zero, List.getElem?_cons_succ, Nat.reduceEqDiff, ↓reduceIte, Nat.succ_ne_self, h1, h2, h3, h4, h5, h10, h11, r1, r2, r3]
      · simp only [sd, Bool.not_false, Bool.not_true, if_true, if_false, Bool.false_eq_true] at *
        generalize hfc : (F j false).c = fc at *
        generalize hfp : (F j false).p = fp at *
        have cu : (c + fc < o.c) ∨ (c + fc = o.c ∧ c + fc < 1125899906842624 ∧ fp + 1 < o.p) ∨ (o.c < c + fc) ∨ (c + fc = o.c ∧ 1125899906842624 ≤ c + fc) ∨ (c + fc = o.c ∧ c + fc < 1125899906842624 ∧ o.p ≤ fp + 1) := by omega
        rcases cu with u | ⟨u1, u2, u3⟩ | u | ⟨u1, u2⟩ | ⟨u1, u2, u3⟩
        · have nx := fun fr' L' => next' ⟨c + fc, fp + 1, j⟩ fr' L' (by unfold stepC; rw [if_pos (by omega)])
          clear next' hx
          simp (config := { maxSteps := 10000000 }) (disch := omega) only [↓G_seq, ↓G_skip, ↓G_blk, ↓G_region, ↓G_block, ↓G_cond, ↓G_ops_nil, ↓G_op, Gv_some, ↓G_gop, Gw_tt, Gw_ff, Gw_ft, Gw_tup, Gc_true, Gc_false, dec_t, dec_f, killAll, ↓get_setS, ↓get_setN, evalOp, ev, evs, rget_rset, b_add, b_sub, b_eql, b_lss, b_leq, b_gtr, wrap_i64, one, Option.map_some, Option.bind_some, Option.map_none, asB, callV, V.shift, V.shifts, List.append_nil, List.nil_append, List.cons_append, List.all_cons, List.all_nil, Bool.true_and, Bool.and_self, List.getElem?_cons_zero, List.getElem?_cons_succ, Nat.reduceEqDiff, ↓reduceIte, Nat.succ_ne_self, bne_self_eq_false, Bool.false_eq_true, Int.reduceAdd, Int.reduceSub, Int.reduceLT, Int.reduceLE, pick3, V.cells, fillV, splice, arrV, addOff, loadV, storeV, Ab.rowAt, V.scalar, Int.reduceToNat, Nat.reduceAdd, Nat.reduceSub, Nat.reduceLT, Nat.reduceLeDiff, true_and, and_self, List.length_cons, List.length_nil, List.take_succ_cons, List.take_zero, List.drop_succ_cons, List.drop_zero, Nat.le_refl, List.set_cons_zero, List.getD_cons_zero, List.getD_cons_succ, Int.cast_ofNat_Int, Nat.zero_add, Nat.add_zero, Nat.one_mul, el_ref, ti_int, nn, ite_ov, Int.toNat_natCast, h1, h2, h3, h4, h5, h11, h12, h13, hlv, hE, hj1, r1, r3, hM, hT, hs, h32, hwh, hfin, Nat.zero_lt_succ, Nat.zero_add, hh, hz0, rset_rset]
          refine nx _ _ ?_ ?_ ?_ ?_ ?_ ?_ ?_ ?_ ?_ ?_ ?_ ?_
          all_goals simp (config := { maxSteps := 10000000 }) (disch := omega) only [↓get_setS, ↓get_setN, rget_rset, List.getElem?_cons_zero, List.getElem?_cons_succ, Nat.reduceEqDiff, ↓reduceIte, Nat.succ_ne_self, h1, h2, h3, h4, h5, h10, h11, r1, r2]
          all_goals rfl
        · have nx := fun fr' L' => next' ⟨c + fc, fp + 1, j⟩ fr' L' (by unfold stepC; rw [if_pos (by omega)])
          clear next' hx
          simp (config := { maxSteps := 10000000 }) (disch := omega) only [↓G_seq, ↓G_skip, ↓G_blk, ↓G_region, ↓G_block, ↓G_cond, ↓G_ops_nil, ↓G_op, Gv_some, ↓G_gop, Gw_tt, Gw_ff, Gc_true, Gc_false, dec_t, dec_f, killAll, ↓get_setS, ↓get_setN, evalOp, ev, evs, rget_rset, b_add, b_sub, b_eql, b_lss, b_leq, b_gtr, wrap_i64, one, Option.map_some, Option.bind_some, Option.map_none, asB, callV, V.shift, V.shifts, List.append_nil, List.nil_append, List.cons_append, List.all_cons, List.all_nil, Bool.true_and, Bool.and_self, List.getElem?_cons_zero, List.getElem?_cons_succ, Nat.reduceEqDiff, ↓reduceIte, Nat.succ_ne_self, bne_self_eq_false, Bool.false_eq_true, Int.reduceAdd, Int.reduceSub, Int.reduceLT, Int.reduceLE, pick3, V.cells, fillV, splice, arrV, addOff, loadV, storeV, Ab.rowAt, V.scalar, Int.reduceToNat, Nat.reduceAdd, Nat.reduceSub, Nat.reduceLT, Nat.reduceLeDiff, true_and, and_self, List.length_cons, List.length_nil, List.take_succ_cons, List.take_zero, List.drop_succ_cons, List.drop_zero, Nat.le_refl, List.set_cons_zero, List.getD_cons_zero, List.getD_cons_succ, Int.cast_ofNat_Int, Nat.zero_add, Nat.add_zero, Nat.one_mul, el_ref, ti_int, nn, ite_ov, Int.toNat_natCast, h1, h2, h3, h4, h5, h11, h12, h13, hlv, hE, hj1, r1, r3, hM, hT, hs, h32, hwh, hfin, Nat.zero_lt_succ, Nat.zero_add, hh, hz0, rset_rset]
          refine nx _ _ ?_ ?_ ?_ ?_ ?_ ?_ ?_ ?_ ?_ ?_ ?_ ?_
          all_goals simp (config := { maxSteps := 10000000 }) (disch := omega) only [↓get_setS, ↓get_setN, rget_rset, List.getElem?_cons_zero, List.getElem?_cons_succ, Nat.reduceEqDiff, ↓reduceIte, Nat.succ_ne_self, h1, h2, h3, h4, h5, h10, h11, r1, r2]
          all_goals rfl
        · have nx := fun fr' L' => next' o fr' L' (by unfold stepC; rw [if_neg (by omega)])
          clear next' hx
          simp (config := { maxSteps := 10000000 }) (disch := omega) only [↓G_seq, ↓G_skip, ↓G_blk, ↓G_region, ↓G_block, ↓G_cond, ↓G_ops_nil, ↓G_op, Gv_some, ↓G_gop, Gw_tt, Gw_ff, Gw_tf, Gc_true, Gc_false, dec_t, dec_f, killAll, ↓get_setS, ↓get_setN, evalOp, ev, evs, rget_rset, b_add, b_sub, b_eql, b_lss, b_leq, b_gtr, wrap_i64, one, Option.map_some, Option.bind_some, Option.map_none, asB, callV, V.shift, V.shifts, List.append_nil, List.nil_append, List.cons_append, List.all_cons, List.all_nil, Bool.true_and, Bool.and_self, List.getElem?_cons_zero, List.getElem?_cons_succ, Nat.reduceEqDiff, ↓reduceIte, Nat.succ_ne_self, bne_self_eq_false, Bool.false_eq_true, Int.reduceAdd, Int.reduceSub, Int.reduceLT, Int.reduceLE, pick3, V.cells, fillV, splice, arrV, addOff, loadV, storeV, Ab.rowAt, V.scalar, Int.reduceToNat, Nat.reduceAdd, Nat.reduceSub, Nat.reduceLT, Nat.reduceLeDiff, true_and, and_self, List.length_cons, List.length_nil, List.take_succ_cons, List.take_zero, List.drop_succ_cons, List.drop_zero, Nat.le_refl, List.set_cons_zero, List.getD_cons_zero, List.getD_cons_succ, Int.cast_ofNat_Int, Nat.zero_add, Nat.add_zero, Nat.one_mul, el_ref, ti_int, nn, ite_ov, Int.toNat_natCast, h1, h2, h3, h4, h5, h11, h12, h13, hlv, hE, hj1, r1, r3, hM, hT, hs, h32, hwh, hfin, Nat.zero_lt_succ, Nat.zero_add, hh, hz0, rset_rset]
          refine nx _ _ ?_ ?_ ?_ ?_ ?_ ?_ ?_ ?_ ?_ ?_ ?_ ?_
          all_goals simp (config := { maxSteps := 10000000 }) (disch := omega) only [↓get_setS, ↓get_setN, rget_rset, List.getElem?_cons_zero, List.getElem?_cons_succ, Nat.reduceEqDiff, ↓reduceIte, Nat.succ_ne_self, h1, h2, h3, h4, h5, h10, h11, r1, r2, r3]
        · have nx := fun fr' L' => next' o fr' L' (by unfold stepC; rw [if_neg (by omega)])
          clear next' hx
          simp (config := { maxSteps := 10000000 }) (disch := omega) only [↓G_seq, ↓G_skip, ↓G_blk, ↓G_region, ↓G_block, ↓G_cond, ↓G_ops_nil, ↓G_op, Gv_some, ↓G_gop, Gw_tt, Gw_ff, Gw_tf, Gc_true, Gc_false, dec_t, dec_f, killAll, ↓get_setS, ↓get_setN, evalOp, ev, evs, rget_rset, b_add, b_sub, b_eql, b_lss, b_leq, b_gtr, wrap_i64, one, Option.map_some, Option.bind_some, Option.map_none, asB, callV, V.shift, V.shifts, List.append_nil, List.nil_append, List.cons_append, List.all_cons, List.all_nil, Bool.true_and, Bool.and_self, List.getElem?_cons_zero, List.getElem?_cons_succ, Nat.reduceEqDiff, ↓reduceIte, Nat.succ_ne_self, bne_self_eq_false, Bool.false_eq_true, Int.reduceAdd, Int.reduceSub, Int.reduceLT, Int.reduceLE, pick3, V.cells, fillV, splice, arrV, addOff, loadV, storeV, Ab.rowAt, V.scalar, Int.reduceToNat, Nat.reduceAdd, Nat.reduceSub, Nat.reduceLT, Nat.reduceLeDiff, true_and, and_self, List.length_cons, List.length_nil, List.take_succ_cons, List.take_zero, List.drop_succ_cons, List.drop_zero, Nat.le_refl, List.set_cons_zero, List.getD_cons_zero, List.getD_cons_succ, Int.cast_ofNat_Int, Nat.zero_add, Nat.add_zero, Nat.one_mul, el_ref, ti_int, nn, ite_ov, Int.toNat_natCast, h1, h2, h3, h4, h5, h11, h12, h13, hlv, hE, hj1, r1, r3, hM, hT, hs, h32, hwh, hfin, Nat.zero_lt_succ, Nat.zero_add, hh, hz0, rset_rset]
          refine nx _ _ ?_ ?_ ?_ ?_ ?_ ?_ ?_ ?_ ?_ ?_ ?_ ?_
          all_goals simp (config := { maxSteps := 10000000 }) (disch := omega) only [↓get_setS, ↓get_setN, rget_rset, List.getElem?_cons_zero, List.getElem?_cons_succ, Nat.reduceEqDiff, ↓reduceIte, Nat.succ_ne_self, h1, h2, h3, h4, h5, h10, h11, r1, r2, r3]
        · have nx := fun fr' L' => next' o fr' L' (by unfold stepC; rw [if_neg (by omega)])
          clear next' hx
          simp (config := { maxSteps := 10000000 }) (disch := omega) only [↓G_seq, ↓G_skip, ↓G_blk, ↓G_region, ↓G_block, ↓G_cond, ↓G_ops_nil, ↓G_op, Gv_some, ↓G_gop, Gw_tt, Gw_ff, Gc_true, Gc_false, dec_t, dec_f, killAll, ↓get_setS, ↓get_setN, evalOp, ev, evs, rget_rset, b_add, b_sub, b_eql, b_lss, b_leq, b_gtr, wrap_i64, one, Option.map_some, Option.bind_some, Option.map_none, asB, callV, V.shift, V.shifts, List.append_nil, List.nil_append, List.cons_append, List.all_cons, List.all_nil, Bool.true_and, Bool.and_self, List.getElem?_cons_zero, List.getElem?_cons_succ, Nat.reduceEqDiff, ↓reduceIte, Nat.succ_ne_self, bne_self_eq_false, Bool.false_eq_true, Int.reduceAdd, Int.reduceSub, Int.reduceLT, Int.reduceLE, pick3, V.cells, fillV, splice, arrV, addOff, loadV, storeV, Ab.rowAt, V.scalar, Int.reduceToNat, Nat.reduceAdd, Nat.reduceSub, Nat.reduceLT, Nat.reduceLeDiff, true_and, and_self, List.length_cons, List.length_nil, List.take_succ_cons, List.take_zero, List.drop_succ_cons, List.drop_zero, Nat.le_refl, List.set_cons_zero, List.getD_cons_zero, List.getD_cons_succ, Int.cast_ofNat_Int, Nat.zero_add, Nat.add_zero, Nat.one_mul, el_ref, ti_int, nn, ite_ov, Int.toNat_natCast, h1, h2, h3, h4, h5, h11, h12, h13, hlv, hE, hj1, r1, r3, hM, hT, hs, h32, hwh, hfin, Nat.zero_lt_succ, Nat.zero_add, hh, hz0, rset_rset]
          refine nx _ _ ?_ ?_ ?_ ?_ ?_ ?_ ?_ ?_ ?_ ?_ ?_ ?_
          all_goals simp (config := { maxSteps := 10000000 }) (disch := omega) only [↓get_setS, ↓get_setN, rget_rset, List.getElem?_cons_zero, List.getElem?_cons_succ, Nat.reduceEqDiff, ↓reduceIte, Nat.succ_ne_self, h1, h2, h3, h4, h5, h10, h11, r1, r2, r3]
    case inr.inl =>
      have next' := next (by rw [decide_eq_false c1]; rfl)
      clear next hstop stp
      cases s
      · simp only [sd, Bool.not_false, Bool.not_true, if_true, if_false, Bool.false_eq_true] at *
        generalize hfc : (F j true).c = fc at *
        generalize hfp : (F j true).p = fp at *
        have cu : (c + fc < o.c) ∨ (c + fc = o.c ∧ c + fc < 1125899906842624 ∧ fp + 1 < o.p) ∨ (o.c < c + fc) ∨ (c + fc = o.c ∧ 1125899906842624 ≤ c + fc) ∨ (c + fc = o.c ∧ c + fc < 1125899906842624 ∧ o.p ≤ fp + 1) := by omega
        rcases cu with u | ⟨u1, u2, u3⟩ | u | ⟨u1, u2⟩ | ⟨u1, u2, u3⟩
        · have nx := fun fr' L' => next' ⟨c + fc, fp + 1, j⟩ fr' L' (by unfold stepC; rw [if_pos (by omega)])
          clear next' hx
          simp (config := { maxSteps := 10000000 }) (disch := omega) only [↓G_seq, ↓G_skip, ↓G_blk, ↓G_region, ↓G_block, ↓G_cond, ↓G_ops_nil, ↓G_op, Gv_some, ↓G_gop, Gw_tf, Gw_ft, Gw_tup, Gc_true, Gc_false, dec_t, dec_f, killAll, ↓get_setS, ↓get_setN, evalOp, ev, evs, rget_rset, b_add, b_sub, b_eql, b_lss, b_leq, b_gtr, wrap_i64, one, Option.map_some, Option.bind_some, Option.map_none, asB, callV, V.shift, V.shifts, List.append_nil, List.nil_append, List.cons_append, List.all_cons, List.all_nil, Bool.true_and, Bool.and_self, List.getElem?_cons_zero, List.getElem?_cons_succ, Nat.reduceEqDiff, ↓reduceIte, Nat.succ_ne_self, decide_false, bne_self_eq_false, Bool.false_eq_true, Int.reduceAdd, Int.reduceSub, Int.reduceLT, Int.reduceLE, Int.reduceEq, pick3, V.cells, fillV, splice, arrV, addOff, loadV, storeV, Ab.rowAt, V.scalar, Int.reduceToNat, Nat.reduceAdd, Nat.reduceSub, Nat.reduceLT, Nat.reduceLeDiff, true_and, and_self, List.length_cons, List.length_nil, List.take_succ_cons, List.take_zero, List.drop_succ_cons, List.drop_zero, Nat.le_refl, List.set_cons_zero, List.getD_cons_zero, List.getD_cons_succ, Int.cast_ofNat_Int, Nat.zero_add, Nat.add_zero, Nat.zero_mul, el_ref, ti_int, nn, ite_ov, Int.toNat_natCast, h1, h2, h3, h4, h5, h11, h12, h13, hlv, hE, hj1, r1, r3, hM, hT, hs, h32, hwh, hfin, Nat.zero_lt_succ, Nat.zero_add, hh, rset_rset]
          refine nx _ _ ?_ ?_ ?_ ?_ ?_ ?_ ?_ ?_ ?_ ?_ ?_ ?_
          all_goals simp (config := { maxSteps := 10000000 }) (disch := omega) only [↓get_setS, ↓get_setN, rget_rset, List.getElem?_cons_zero, List.getElem?_cons_succ, Nat.reduceEqDiff, ↓reduceIte, Nat.succ_ne_self, h1, h2, h3, h4, h5, h10, h11, r1, r2]
          all_goals rfl
        · have nx := fun fr' L' => next' ⟨c + fc, fp + 1, j⟩ fr' L' (by unfold stepC; rw [if_pos (by omega)])
          clear next' hx
          simp (config := { maxSteps := 10000000 }) (disch := omega) only [↓G_seq, ↓G_skip, ↓G_blk, ↓G_region, ↓G_block, ↓G_cond, ↓G_ops_nil, ↓G_op, Gv_some, ↓G_gop, Gw_tt, Gw_ff, Gw_tf, Gw_tup, Gc_true, Gc_false, dec_t, dec_f, killAll, ↓get_setS, ↓get_setN, evalOp, ev, evs, rget_rset, b_add, b_sub, b_eql, b_lss, b_leq, b_gtr, wrap_i64, one, Option.map_some, Option.bind_some, Option.map_none, asB, callV, V.shift, V.shifts, List.append_nil, List.nil_append, List.cons_append, List.all_cons, List.all_nil, Bool.true_and, Bool.and_self, List.getElem?_cons_zero, List.getElem?_cons_succ, Nat.reduceEqDiff, ↓reduceIte, Nat.succ_ne_self, decide_false, bne_self_eq_false, Bool.false_eq_true, Int.reduceAdd, Int.reduceSub, Int.reduceLT, Int.reduceLE, Int.reduceEq, pick3, V.cells, fillV, splice, arrV, addOff, loadV, storeV, Ab.rowAt, V.scalar, Int.reduceToNat, Nat.reduceAdd, Nat.reduceSub, Nat.reduceLT, Nat.reduceLeDiff, true_and, and_self, List.length_cons, List.length_nil, List.take_succ_cons, List.take_zero, List.drop_succ_cons, List.drop_zero, Nat.le_refl, List.set_cons_zero, List.getD_cons_zero, List.getD_cons_succ, Int.cast_ofNat_Int, Nat.zero_add, Nat.add_zero, Nat.zero_mul, el_ref, ti_int, nn, ite_ov, Int.toNat_natCast, h1, h2, h3, h4, h5, h11, h12, h13, hlv, hE, hj1, r1, r3, hM, hT, hs, h32, hwh, hfin, Nat.zero_lt_succ, Nat.zero_add, hh, rset_rset]
          refine nx _ _ ?_ ?_ ?_ ?_ ?_ ?_ ?_ ?_ ?_ ?_ ?_ ?_
          all_goals simp (config := { maxSteps := 10000000 }) (disch := omega) only [↓get_setS, ↓get_setN, rget_rset, List.getElem?_cons_zero, List.getElem?_cons_succ, Nat.reduceEqDiff, ↓reduceIte, Nat.succ_ne_self, h1, h2, h3, h4, h5, h10, h11, r1, r2]
          all_goals rfl
        · have nx := fun fr' L' => next' o fr' L' (by unfold stepC; rw [if_neg (by omega)])
          clear next' hx
          simp (config := { maxSteps := 10000000 }) (disch := omega) only [↓G_seq, ↓G_skip, ↓G_blk, ↓G_region, ↓G_block, ↓G_cond, ↓G_ops_nil, ↓G_op, Gv_some, ↓G_gop, Gw_ff, Gw_tf, Gw_tup, Gc_true, Gc_false, dec_t, dec_f, killAll, ↓get_setS, ↓get_setN, evalOp, ev, evs, rget_rset, b_add, b_sub, b_eql, b_lss, b_leq, b_gtr, wrap_i64, one, Option.map_some, Option.bind_some, Option.map_none, asB, callV, V.shift, V.shifts, List.append_nil, List.nil_append, List.cons_append, List.all_cons, List.all_nil, Bool.true_and, Bool.and_self, List.getElem?_cons_zero, List.getElem?_cons_succ, Nat.reduceEqDiff, ↓reduceIte, Nat.succ_ne_self, decide_false, bne_self_eq_false, Bool.false_eq_true, Int.reduceAdd, Int.reduceSub, Int.reduceLT, Int.reduceLE, Int.reduceEq, pick3, V.cells, fillV, splice, arrV, addOff, loadV, storeV, Ab.rowAt, V.scalar, Int.reduceToNat, Nat.reduceAdd, Nat.reduceSub, Nat.reduceLT, Nat.reduceLeDiff, true_and, and_self, List.length_cons, List.length_nil, List.take_succ_cons, List.take_zero, List.drop_succ_cons, List.drop_zero, Nat.le_refl, List.set_cons_zero, List.getD_cons_zero, List.getD_cons_succ, Int.cast_ofNat_Int, Nat.zero_add, Nat.add_zero, Nat.zero_mul, el_ref, ti_int, nn, ite_ov, Int.toNat_natCast, h1, h2, h3, h4, h5, h11, h12, h13, hlv, hE, hj1, r1, r3, hM, hT, hs, h32, hwh, hfin, Nat.zero_lt_succ, Nat.zero_add, hh, rset_rset]
          refine nx _ _ ?_ ?_ ?_ ?_ ?_ ?_ ?_ ?_ ?_ ?_ ?_ ?_
          all_goals simp (config := { maxSteps := 10000000 }) (disch := omega) only [↓get_setS, ↓get_setN, rget_rset, List.getElem?_cons_zero, List.getElem?_cons_succ, Nat.reduceEqDiff, ↓reduceIte, Nat.succ_ne_self, h1, h2, h3, h4, h5, h10, h11, r1, r2, r3]
        · have nx := fun fr' L' => next' o fr' L' (by unfold stepC; rw [if_neg (by omega)])
          clear next' hx
          simp (config := { maxSteps := 10000000 }) (disch := omega) only [↓G_seq, ↓G_skip, ↓G_blk, ↓G_region, ↓G_block, ↓G_cond, ↓G_ops_nil, ↓G_op, Gv_some, ↓G_gop, Gw_tt, Gw_ff, Gw_tf, Gw_tup, Gc_true, Gc_false, dec_t, dec_f, killAll, ↓get_setS, ↓get_setN, evalOp, ev, evs, rget_rset, b_add, b_sub, b_eql, b_lss, b_leq, b_gtr, wrap_i64, one, Option.map_some, Option.bind_some, Option.map_none, asB, callV, V.shift, V.shifts, List.append_nil, List.nil_append, List.cons_append, List.all_cons, List.all_nil, Bool.true_and, Bool.and_self, List.getElem?_cons_zero, List.getElem?_cons_succ, Nat.reduceEqDiff, ↓reduceIte, Nat.succ_ne_self, decide_false, bne_self_eq_false, Bool.false_eq_true, Int.reduceAdd, Int.reduceSub, Int.reduceLT, Int.reduceLE, Int.reduceEq, pick3, V.cells, fillV, splice, arrV, addOff, loadV, storeV, Ab.rowAt, V.scalar, Int.reduceToNat, Nat.reduceAdd, Nat.reduceSub, Nat.reduceLT, Nat.reduceLeDiff, true_and, and_self, List.length_cons, List.length_nil, List.take_succ_cons, List.take_zero, List.drop_succ_cons, List.drop_zero, Nat.le_refl, List.set_cons_zero, List.getD_cons_zero, List.getD_cons_succ, Int.cast_ofNat_Int, Nat.zero_add, Nat.add_zero, Nat.zero_mul, el_ref, ti_int, nn, ite_ov, Int.toNat_natCast, h1, h2, h3, h4, h5, h11, h12, h13, hlv, hE, hj1, r1, r3, hM, hT, hs, h32, hwh, hfin, Nat.zero_lt_succ, Nat.zero_add, hh, rset_rset]
          refine nx _ _ ?_ ?_ ?_ ?_ ?_ ?_ ?_ ?_ ?_ ?_ ?_ ?_
          all_goals simp (config := { maxSteps := 10000000 }) (disch := omega) only [↓get_setS, ↓get_setN, rget_rset, List.getElem?_cons_zero, List.getElem?_cons_succ, Nat.reduceEqDiff, ↓reduceIte, Nat.succ_ne_self, h1, h2, h3, h4, h5, h10, h11, r1, r2, r3]
        · have nx := fun fr' L' => next' o fr' L' (by unfold stepC; rw [if_neg (by omega)])
          clear next' hx
          simp (config := { maxSteps := 10000000 }) (disch := omega) only [↓G_seq, ↓G_skip, ↓G_blk, ↓G_region, ↓G_block, ↓G_cond, ↓G_ops_nil, ↓G_op, Gv_some, ↓G_gop, Gw_tt, Gw_ff, Gw_tf, Gw_tup, Gc_true, Gc_false, dec_t, dec_f, killAll, ↓get_setS, ↓get_setN, evalOp, ev, evs, rget_rset, b_add, b_sub, b_eql, b_lss, b_leq, b_gtr, wrap_i64, one, Option.map_some, Option.bind_some, Option.map_none, asB, callV, V.shift, V.shifts, List.append_nil, List.nil_append, List.cons_append, List.all_cons, List.all_nil, Bool.true_and, Bool.and_self, List.getElem?_cons_zero, List.getElem?_cons_succ, Nat.reduceEqDiff, ↓reduceIte, Nat.succ_ne_self, decide_false, bne_self_eq_false, Bool.false_eq_true, Int.reduceAdd, Int.reduceSub, Int.reduceLT, Int.reduceLE, Int.reduceEq, pick3, V.cells, fillV, splice, arrV, addOff, loadV, storeV, Ab.rowAt, V.scalar, Int.reduceToNat, Nat.reduceAdd, Nat.reduceSub, Nat.reduceLT, Nat.reduceLeDiff, true_and, and_self, List.length_cons, List.length_nil, List.take_succ_cons, List.take_zero, List.drop_succ_cons, List.drop_zero, Nat.le_refl, List.set_cons_zero, List.getD_cons_zero, List.getD_cons_succ, Int.cast_ofNat_Int, Nat.zero_add, Nat.add_zero, Nat.zero_mul, el_ref, ti_int, nn, ite_ov, Int.toNat_natCast, h1, h2, h3, h4, h5, h11, h12, h13, hlv, hE, hj1, r1, r3, hM, hT, hs, h32, hwh, hfin, Nat.zero_lt_succ, Nat.zero_add, hh, rset_rset]
          refine nx _ _ ?_ ?_ ?_ ?_ ?_ ?_ ?_ ?_ ?_ ?_ ?_ ?_
          all_goals simp (config := { maxSteps := 10000000 }) (disch := omega) only [↓get_setS, ↓get_setN, rget_rset, List.getElem?_cons_zero, List.getElem?_cons_succ, Nat.reduceEqDiff, ↓reduceIte, Nat.succ_ne_self, h1, h2, h3, h4, h5, h10, h11, r1, r2, r3]
      · simp only [sd, Bool.not_false, Bool.not_true, if_true, if_false, Bool.false_eq_true] at *
        generalize hfc : (F j false).c = fc at *
        generalize hfp : (F j false).p = fp at *
        have cu : (c + fc < o.c) ∨ (c + fc = o.c ∧ c + fc < 1125899906842624 ∧ fp + 1 < o.p) ∨ (o.c < c + fc) ∨ (c + fc = o.c ∧ 1125899906842624 ≤ c + fc) ∨ (c + fc = o.c ∧ c + fc < 1125899906842624 ∧ o.p ≤ fp + 1) := by omega
        rcases cu with u | ⟨u1, u2, u3⟩ | u | ⟨u1, u2⟩ | ⟨u1, u2, u3⟩
        · have nx := fun fr' L' => next' ⟨c + fc, fp + 1, j⟩ fr' L' (by unfold stepC; rw [if_pos (by omega)])
          clear next' hx
          simp (config := { maxSteps := 10000000 }) (disch := omega) only [↓G_seq, ↓G_skip, ↓G_blk, ↓G_region, ↓G_block, ↓G_cond, ↓G_ops_nil, ↓G_op, Gv_some, ↓G_gop, Gw_tf, Gw_ft, Gw_tup, Gc_true, Gc_false, dec_t, dec_f, killAll, ↓get_setS, ↓get_setN, evalOp, ev, evs, rget_rset, b_add, b_sub, b_eql, b_lss, b_leq, b_gtr, wrap_i64, one, Option.map_some, Option.bind_some, Option.map_none, asB, callV, V.shift, V.shifts, List.append_nil, List.nil_append, List.cons_append, List.all_cons, List.all_nil, Bool.true_and, Bool.and_self, List.getElem?_cons_zero, List.getElem?_cons_succ, Nat.reduceEqDiff, ↓reduceIte, Nat.succ_ne_self, bne_self_eq_false, Bool.false_eq_true, Int.reduceAdd, Int.reduceSub, Int.reduceLT, Int.reduceLE, pick3, V.cells, fillV, splice, arrV, addOff, loadV, storeV, Ab.rowAt, V.scalar, Int.reduceToNat, Nat.reduceAdd, Nat.reduceSub, Nat.reduceLT, Nat.reduceLeDiff, true_and, and_self, List.length_cons, List.length_nil, List.take_succ_cons, List.take_zero, List.drop_succ_cons, List.drop_zero, Nat.le_refl, List.set_cons_zero, List.getD_cons_zero, List.getD_cons_succ, Int.cast_ofNat_Int, Nat.zero_add, Nat.add_zero, Nat.one_mul, el_ref, ti_int, nn, ite_ov, Int.toNat_natCast, h1, h2, h3, h4, h5, h11, h12, h13, hlv, hE, hj1, r1, r3, hM, hT, hs, h32, hwh, hfin, Nat.zero_lt_succ, Nat.zero_add, hh, hz0, rset_rset]
          refine nx _ _ ?_ ?_ ?_ ?_ ?_ ?_ ?_ ?_ ?_ ?_ ?_ ?_
          all_goals simp (config := { maxSteps := 10000000 }) (disch := omega) only [↓get_setS, ↓get_setN, rget_rset, List.getElem?_cons_zero, List.getElem?_cons_succ, Nat.reduceEqDiff, ↓reduceIte, Nat.succ_ne_self, h1, h2, h3, h4, h5, h10, h11, r1, r2]
          all_goals rfl
        · have nx := fun fr' L' => next' ⟨c + fc, fp + 1, j⟩ fr' L' (by unfold stepC; rw [if_pos (by omega)])
          clear next' hx
          simp (config := { maxSteps := 10000000 }) (disch := omega) only [↓G_seq, ↓G_skip, ↓G_blk, ↓G_region, ↓G_block, ↓G_cond, ↓G_ops_nil, ↓G_op, Gv_some, ↓G_gop, Gw_tt, Gw_ff, Gw_tf, Gw_tup, Gc_true, Gc_false, dec_t, dec_f, killAll, ↓get_setS, ↓get_setN, evalOp, ev, evs, rget_rset, b_add, b_sub, b_eql, b_lss, b_leq, b_gtr, wrap_i64, one, Option.map_some, Option.bind_some, Option.map_none, asB, callV, V.shift, V.shifts, List.append_nil, List.nil_append, List.cons_append, List.all_cons, List.all_nil, Bool.true_and, Bool.and_self, List.getElem?_cons_zero, List.getElem?_cons_succ, Nat.reduceEqDiff, ↓reduceIte, Nat.succ_ne_self, bne_self_eq_false, Bool.false_eq_true, Int.reduceAdd, Int.reduceSub, Int.reduceLT, Int.reduceLE, pick3, V.cells, fillV, splice, arrV, addOff, loadV, storeV, Ab.rowAt, V.scalar, Int.reduceToNat, Nat.reduceAdd, Nat.reduceSub, Nat.reduceLT, Nat.reduceLeDiff, true_and, and_self, List.length_cons, List.length_nil, List.take_succ_cons, List.take_zero, List.drop_succ_cons, List.drop_zero, Nat.le_refl, List.set_cons_zero, List.getD_cons_zero, List.getD_cons_succ, Int.cast_ofNat_Int, Nat.zero_add, Nat.add_zero, Nat.one_mul, el_ref, ti_int, nn, ite_ov, Int.toNat_natCast, h1, h2, h3, h4, h5, h11, h12, h13, hlv, hE, hj1, r1, r3, hM, hT, hs, h32, hwh, hfin, Nat.zero_lt_succ, Nat.zero_add, hh, hz0, rset_rset]
          refine nx _ _ ?_ ?_ ?_ ?_ ?_ ?_ ?_ ?_ ?_ ?_ ?_ ?_
          all_goals simp (config := { maxSteps := 10000000 }) (disch := omega) only [↓get_setS, ↓get_setN, rget_rset, List.getElem?_cons_zero, List.getElem?_cons_succ, Nat.reduceEqDiff, ↓reduceIte, Nat.succ_ne_self, h1, h2, h3, h4, h5, h10, h11, r1, r2]
          all_goals rfl
        · have nx := fun fr' L' => next' o fr' L' (by unfold stepC; rw [if_neg (by omega)])
          clear next' hx
          simp (config := { maxSteps := 10000000 }) (disch := omega) only [↓G_seq, ↓G_skip, ↓G_blk, ↓G_region, ↓G_block, ↓G_cond, ↓G_ops_nil, ↓G_op, Gv_some, ↓G_gop, Gw_ff, Gw_tf, Gw_tup, Gc_true, Gc_false, dec_t, dec_f, killAll, ↓get_setS, ↓get_setN, evalOp, ev, evs, rget_rset, b_add, b_sub, b_eql, b_lss, b_leq, b_gtr, wrap_i64, one, Option.map_some, Option.bind_some, Option.map_none, asB, callV, V.shift, V.shifts, List.append_nil, List.nil_append, List.cons_append, List.all_cons, List.all_nil, Bool.true_and, Bool.and_self, List.getElem?_cons_zero, List.getElem?_cons_succ, Nat.reduceEqDiff, ↓reduceIte, Nat.succ_ne_self, bne_self_eq_false, Bool.false_eq_true, Int.reduceAdd, Int.reduceSub, Int.reduceLT, Int.reduceLE, pick3, V.cells, fillV, splice, arrV, addOff, loadV, storeV, Ab.rowAt, V.scalar, Int.reduceToNat, Nat.reduceAdd, Nat.reduceSub, Nat.reduceLT, Nat.reduceLeDiff, true_and, and_self, List.length_cons, List.length_nil, List.take_succ_cons, List.take_zero, List.drop_succ_cons, List.drop_zero, Nat.le_refl, List.set_cons_zero, List.getD_cons_zero, List.getD_cons_succ, Int.cast_ofNat_Int, Nat.zero_add, Nat.add_zero, Nat.one_mul, el_ref, ti_int, nn, ite_ov, Int.toNat_natCast, h1, h2, h3, h4, h5, h11, h12, h13, hlv, hE, hj1, r1, r3, hM, hT, hs, h32, hwh, hfin, Nat.zero_lt_succ, Nat.zero_add, hh, hz0, rset_rset]
          refine nx _ _ ?_ ?_ ?_ ?_ ?_ ?_ ?_ ?_ ?_ ?_ ?_ ?_
          all_goals simp (config := { maxSteps := 10000000 }) (disch := omega) only [↓get_setS, ↓get_setN, rget_rset, List.getElem?_cons_zero, List.getElem?_cons_succ, Nat.reduceEqDiff, ↓reduceIte, Nat.succ_ne_self, h1, h2, h3, h4, h5, h10, h11, r1, r2, r3]
        · have nx := fun fr' L' => next' o fr' L' (by unfold stepC; rw [if_neg (by omega)])
          clear next' hx
          simp (config := { maxSteps := 10000000 }) (disch := omega) only [↓G_seq, ↓G_skip, ↓G_blk, ↓G_region, ↓G_block, ↓G_cond, ↓G_ops_nil, ↓G_op, Gv_some, ↓G_gop, Gw_tt, Gw_ff, Gw_tf, Gw_tup, Gc_true, Gc_false, dec_t, dec_f, killAll, ↓get_setS, ↓get_setN, evalOp, ev, evs, rget_rset, b_add, b_sub, b_eql, b_lss, b_leq, b_gtr, wrap_i64, one, Option.map_some, Option.bind_some, Option.map_none, asB, callV, V.shift, V.shifts, List.append_nil, List.nil_append, List.cons_append, List.all_cons, List.all_nil, Bool.true_and, Bool.and_self, List.getElem?_cons_zero, List.getElem?_cons_succ, Nat.reduceEqDiff, ↓reduceIte, Nat.succ_ne_self, bne_self_eq_false, Bool.false_eq_true, Int.reduceAdd, Int.reduceSub, Int.reduceLT, Int.reduceLE, pick3, V.cells, fillV, splice, arrV, addOff, loadV, storeV, Ab.rowAt, V.scalar, Int.reduceToNat, Nat.reduceAdd, Nat.reduceSub, Nat.reduceLT, Nat.reduceLeDiff, true_and, and_self, List.length_cons, List.length_nil, List.take_succ_cons, List.take_zero, List.drop_succ_cons, List.drop_zero, Nat.le_refl, List.set_cons_zero, List.getD_cons_zero, List.getD_cons_succ, Int.cast_ofNat_Int, Nat.zero_add, Nat.add_zero, Nat.one_mul, el_ref, ti_int, nn, ite_ov, Int.toNat_natCast, h1, h2, h3, h4, h5, h11, h12, h13, hlv, hE, hj1, r1, r3, hM, hT, hs, h32, hwh, hfin, Nat.zero_lt_succ, Nat.zero_add, hh, hz0, rset_rset]
          refine nx _ _ ?_ ?_ ?_ ?_ ?_ ?_ ?_ ?_ ?_ ?_ ?_ ?_
          all_goals simp (config := { maxSteps := 10000000 }) (disch := omega) only [↓get_setS, ↓get_setN, rget_rset, List.getElem?_cons_zero, List.getElem?_cons_succ, Nat.reduceEqDiff, ↓reduceIte, Nat.succ_ne_self, h1, h2, h3, h4, h5, h10, h11, r1, r2, r3]
        · have nx := fun fr' L' => next' o fr' L' (by unfold stepC; rw [if_neg (by omega)])
          clear next' hx
          simp (config := { maxSteps := 10000000 }) (disch := omega) only [↓G_seq, ↓G_skip, ↓G_blk, ↓G_region, ↓G_block, ↓G_cond, ↓G_ops_nil, ↓G_op, Gv_some, ↓G_gop, Gw_tt, Gw_ff, Gw_tf, Gw_tup, Gc_true, Gc_false, dec_t, dec_f, killAll, ↓get_setS, ↓get_setN, evalOp, ev, evs, rget_rset, b_add, b_sub, b_eql, b_lss, b_leq, b_gtr, wrap_i64, one, Option.map_some, Option.bind_some, Option.map_none, asB, callV, V.shift, V.shifts, List.append_nil, List.nil_append, List.cons_append, List.all_cons, List.all_nil, Bool.true_and, Bool.and_self, List.getElem?_cons_zero, List.getElem?_cons_succ, Nat.reduceEqDiff, ↓reduceIte, Nat.succ_ne_self, bne_self_eq_false, Bool.false_eq_true, Int.reduceAdd, Int.reduceSub, Int.reduceLT, Int.reduceLE, pick3, V.cells, fillV, splice, arrV, addOff, loadV, storeV, Ab.rowAt, V.scalar, Int.reduceToNat, Nat.reduceAdd, Nat.reduceSub, Nat.reduceLT, Nat.reduceLeDiff, true_and, and_self, List.length_cons, List.length_nil, List.take_succ_cons, List.take_zero, List.drop_succ_cons, List.drop_zero, Nat.le_refl, List.set_cons_zero, List.getD_cons_zero, List.getD_cons_succ, Int.cast_ofNat_Int, Nat.zero_add, Nat.add_zero, Nat.one_mul, el_ref, ti_int, nn, ite_ov, Int.toNat_natCast, h1, h2, h3, h4, h5, h11, h12, h13, hlv, hE, hj1, r1, r3, hM, hT, hs, h32, hwh, hfin, Nat.zero_lt_succ, Nat.zero_add, hh, hz0, rset_rset]
          refine nx _ _ ?_ ?_ ?_ ?_ ?_ ?_ ?_ ?_ ?_ ?_ ?_ ?_
          all_goals simp (config := { maxSteps := 10000000 }) (disch := omega) only [↓get_setS, ↓get_setN, rget_rset, List.getElem?_cons_zero, List.getElem?_cons_succ, Nat.reduceEqDiff, ↓reduceIte, Nat.succ_ne_self, h1, h2, h3, h4, h5, h10, h11, r1, r2, r3]

end Go.Proofs.Ytgghbckhdchcaaa

/-
  Page breaks: the law PagebreakLeast.
-/
import Derived.Test.YtgghbckhdchcaaaS33R
namespace Go.Proofs.Ytgghbckhdchcaaa
open Go Go.Ab
set_option linter.unusedVariables false
set_option linter.unnecessarySimpa false
set_option linter.unusedSimpArgs false
set_option maxRecDepth 100000
variable {H : List (List Row)}
open Path (Ch)

/-- A list that is built up in one of several rows. -/
def AccW (ss : List Nat) (L : List Row) (v : V) (acc : List (List V)) : Prop :=
  (acc = [] ∧ v = .nilsl) ∨ (acc ≠ [] ∧ ∃ s, s ∈ ss ∧ ∃ ver, 0 < ver ∧ v = .ref 0 s ver 1 0 acc.length ∧ rget L s = ⟨ver, 1, acc⟩)
theorem AccW.app {ss : List Nat} {site : Nat} {L : List Row} {v : V} {acc : List (List V)} (h : AccW ss L v acc) (hs : site ∈ ss) (x : V) (hx : V.scalar x = true) (hl : acc.length < 4294967296) :
    ∃ v' L', (∀ H, appV (L :: H) site 1 8 v (.sl .full 1 [[x]]) = some (v', L')) ∧ AccW ss L' v' (acc ++ [[x]]) ∧ ∀ t, t ∉ ss → rget L' t = rget L t := by
  rcases h with ⟨rfl, rfl⟩ | ⟨ha, s, hs', ver, hv, rfl, hr⟩
  · refine ⟨.ref 0 site ((rget L site).ver + 1) 1 0 1, rset L site ⟨(rget L site).ver + 1, 1, [[x]]⟩, fun H => ?_, .inr ⟨by simp, site, hs, (rget L site).ver + 1, by omega, rfl, by rw [rget_rset, if_pos rfl]; rfl⟩, fun t ht => by rw [rget_rset, if_neg (by rintro rfl; exact ht hs)]⟩
    simp [appV, elsOf, roomy, hx]
  · refine ⟨.ref 0 s (ver + 1) 1 0 (acc.length + 1), rset L s ⟨ver + 1, 1, acc ++ [[x]]⟩, fun H => ?_, .inr ⟨by simp, s, hs', ver + 1, by omega, by simp, by rw [rget_rset, if_pos rfl]⟩, fun t ht => by rw [rget_rset, if_neg (by rintro rfl; exact ht hs')]⟩
    simp only [appV, elsOf, Option.bind_some, List.getD_cons_zero, hr, List.length_cons, List.length_nil]
    rw [if_neg (by simp)]
    simp only [Option.bind_some]
    rw [if_pos ⟨trivial, hv, trivial, trivial, trivial, by simp [roomy]; omega, by simp [hx]⟩]
    simp
theorem AccW.mono {ss : List Nat} {L L' : List Row} {v : V} {acc : List (List V)} (h : AccW ss L v acc) (k : ∀ s ∈ ss, rget L' s = rget L s) : AccW ss L' v acc := by
  rcases h with h | ⟨ha, s, hs, ver, hv, h1, h2⟩
  · exact .inl h
  · exact .inr ⟨ha, s, hs, ver, hv, h1, (k s hs).trans h2⟩
theorem AccW.nil {ss : List Nat} {L : List Row} : AccW ss L .nilsl [] := .inl ⟨rfl, rfl⟩

/-- With and without i: what is added from the place behind p on, and whether i was met. -/
def wz (i : Nat) : Nat → Bool → List Nat → List Nat × List Nat × Bool
  | _, is, [] => ([], [], is)
  | p, is, a :: t =>
    if a = i then (i :: (wz i a true t).1, (wz i a true t).2.1, (wz i a true t).2.2)
    else if i < a ∧ is = false ∧ p < i then (i :: a :: (wz i a is t).1, a :: (wz i a is t).2.1, (wz i a is t).2.2)
    else (a :: (wz i a is t).1, a :: (wz i a is t).2.1, (wz i a is t).2.2)
theorem wz_hi {n i : Nat} : ∀ (t : List Nat) (p : Nat) (is : Bool), i ≤ p → Path.isD n (p :: t) → wz i p is t = (t, t, is)
  | [], p, is, h, hd => rfl
  | a :: t, p, is, h, hd => by
    have h1 := hd.1
    have h2 := wz_hi (i := i) t a is (by omega) hd.2
    unfold wz
    rw [if_neg (show ¬ a = i by omega), if_neg (show ¬ (i < a ∧ is = false ∧ p < i) by omega), h2]
/-- The last one, behind p. -/
def lastP : Nat → List Nat → Nat
  | p, [] => p
  | _, a :: t => lastP a t
theorem lastP_ge {n : Nat} : ∀ (t : List Nat) (p : Nat), Path.isD n (p :: t) → p ≤ lastP p t
  | [], p, h => Nat.le_refl _
  | a :: t, p, h => by
    have := lastP_ge t a h.2
    have := h.1
    unfold lastP
    omega
def endW (i : Nat) (r : List Nat × List Nat × Bool) (q : Nat) : List Nat := if r.2.2 = false ∧ q < i then r.1 ++ [i] else r.1
theorem wz_D {n i : Nat} (hi : i < n) : ∀ (t : List Nat) (p : Nat), p < i → Path.isD n (p :: t) → Path.isD n (p :: endW i (wz i p false t) (lastP p t)) ∧ Path.isD n (p :: (wz i p false t).2.1)
  | [], p, h, hd => by
    unfold endW wz lastP
    rw [if_pos ⟨rfl, h⟩]
    exact ⟨⟨h, hi⟩, hd⟩
  | a :: t, p, h, hd => by
    have h1 := hd.1
    rcases Nat.lt_trichotomy a i with c | c | c
    · have ih := wz_D hi t a c hd.2
      unfold wz lastP
      rw [if_neg (by omega), if_neg (by omega)]
      refine ⟨?_, ⟨h1, ih.2⟩⟩
      have e : endW i (a :: (wz i a false t).1, a :: (wz i a false t).2.1, (wz i a false t).2.2) (lastP a t) = a :: endW i (wz i a false t) (lastP a t) := by
        unfold endW
        split <;> rfl
      rw [e]
      exact ⟨h1, ih.1⟩
    · subst c
      unfold wz lastP
      rw [if_pos rfl, wz_hi t a true (Nat.le_refl _) hd.2]
      refine ⟨?_, ?_⟩
      · unfold endW
        rw [if_neg (by simp)]
        exact ⟨h1, hd.2⟩
      · cases t with
        | nil =>
          have : a < n := hd.2
          exact (by omega : p < n)
        | cons b t => exact ⟨Nat.lt_trans h1 hd.2.1, hd.2.2⟩
    · unfold wz lastP
      rw [if_neg (by omega), if_pos ⟨c, rfl, h⟩, wz_hi t a false (by omega) hd.2]
      refine ⟨?_, hd⟩
      unfold endW
      have := lastP_ge t a hd.2
      rw [if_neg (by simp only [true_and]; omega)]
      exact ⟨h, c, hd.2⟩
theorem lastP_get : ∀ (t : List Nat) (p : Nat), (p :: t)[t.length]? = some (lastP p t)
  | [], p => rfl
  | a :: t, p => by
    rw [List.length_cons, List.getElem?_cons_succ]
    exact lastP_get t a
theorem wz_len {i : Nat} : ∀ (t : List Nat) (p : Nat) (is : Bool), (wz i p is t).1.length ≤ 2 * t.length ∧ (wz i p is t).2.1.length ≤ t.length
  | [], p, is => by simp [wz]
  | a :: t, p, is => by
    have h1 := wz_len (i := i) t a is
    have h2 := wz_len (i := i) t a true
    unfold wz
    split
    · simp only [List.length_cons]; omega
    · split
      · simp only [List.length_cons]; omega
      · simp only [List.length_cons]; omega

abbrev sW : List Nat := [2, 3, 5, 6]
theorem zs_app (a : List Nat) (x : Nat) : I1 (zs a) ++ [[V.i (x : Nat)]] = I1 (zs (a ++ [x])) := by simp [I1, zs]

set_option maxHeartbeats 4000000 in
theorem loop6b {k : List KI} {v w : V} {d : List Nat} {i least : Int} {i0 : Nat} {r : Option V} {row : Row} (hi : i = (i0 : Nat)) (hw : SlV 1 w (I1 (zs d))) (hdl : d.length ≤ 1024) (hel : ∀ a ∈ d, a ≤ 1024) (hi0 : i0 ≤ 1024) {W' U' : List Nat} {is' : Bool}
    (hx : ∀ fr' L', Ab.get fr' 0 = v → Ab.get fr' 3 = .ptr 0 1 1 0 0 → Ab.get fr' 5 = w → Ab.get fr' 7 = .i least → Ab.get fr' 8 = .i i → rget L' 1 = row → Ab.get fr' 11 = .bool is' → AccW sW L' (Ab.get fr' 10) (I1 (zs W')) → AccW [4] L' (Ab.get fr' 9) (I1 (zs U')) → Gx tbl H [.tmp 4] 2 k fr' L' = r) :
    ∀ (t : List Nat) (j p : Nat) (is : Bool) (W U : List Nat) (fr : List V) (L : List Row), d.drop (j + 1) = t → j + 1 ≤ d.length → d[j]? = some p → W.length + 2 * t.length ≤ 100000 → U.length + 2 * t.length ≤ 100000 → W' = W ++ (wz i0 p is t).1 → U' = U ++ (wz i0 p is t).2.1 → is' = (wz i0 p is t).2.2 →
      Ab.get fr 0 = v → Ab.get fr 3 = .ptr 0 1 1 0 0 → Ab.get fr 5 = w → Ab.get fr 7 = .i least → Ab.get fr 8 = .i i → rget L 1 = row → Ab.get fr 11 = .bool is → Ab.get fr 12 = .i ((j : Nat) + 1) → AccW sW L (Ab.get fr 10) (I1 (zs W)) → AccW [4] L (Ab.get fr 9) (I1 (zs U)) →
      G tbl H [.tmp 4] (.code (.loop ( (.seq ( (.seq ( .region [] [ ⟨some 63, .mv (.t 12), none⟩, ⟨some 64, .mv (.t 5), none⟩, ⟨some 65, .len (.t 64), none⟩, ⟨some 66, .bin .lss (.t 63) (.t 65), none⟩]) ( (.cond (.t 66) ( .skip) ( .exit 2))))) ( (.seq ( (.block 3 ( (.seq ( (.seq ( .region [] [ ⟨some 69, .mv (.t 5), none⟩, ⟨some 70, .mv (.t 12), none⟩, ⟨some 71, .elemAddr 1 (.t 69) (.t 70), none⟩, ⟨some 72, .load false 1 (.t 71), none⟩, ⟨some 73, .mv (.t 8), none⟩, ⟨some 74, .bin .eql (.t 72) (.t 73), none⟩]) ( (.cond (.t 74) ( (.seq ( .region [] [ ⟨some 11, .mv (.c (.bool true)), none⟩]) ( (.seq ( .region [] [ ⟨some 75, .mv (.t 10), none⟩, ⟨some 76, .mv (.t 8), none⟩, ⟨some 77, .lit 1 [(.int .i64 0)] 1 [(0, 1, (.t 76))], none⟩, ⟨some 78, .app 2 1 8 (.t 75) (.t 77), none⟩, ⟨some 10, .mv (.t 78), none⟩]) ( .exit 3))))) ( .skip))))) ( (.seq ( (.seq ( .region [] [ ⟨some 79, .mv (.t 5), none⟩, ⟨some 80, .mv (.t 12), none⟩, ⟨some 81, .elemAddr 1 (.t 79) (.t 80), none⟩, ⟨some 82, .load false 1 (.t 81), none⟩, ⟨some 83, .mv (.t 8), none⟩, ⟨some 84, .bin .gtr (.t 82) (.t 83), none⟩, ⟨some 85, .mv (.t 84), none⟩, ⟨some 86, .mv (.t 11), some (85, true)⟩, ⟨some 87, .not (.t 86), some (85, true)⟩, ⟨some 88, .pick (.t 85) (.t 87) (.c (.bool false)), none⟩, ⟨some 89, .mv (.t 88), none⟩, ⟨some 90, .mv (.t 12), some (89, true)⟩, ⟨some 91, .bin .eql (.t 90) (.c (.int .i64 0)), some (89, true)⟩, ⟨some 92, .mv (.t 91), some (89, true)⟩, ⟨some 93, .mv (.t 5), some (92, false)⟩, ⟨some 94, .mv (.t 12), some (92, false)⟩, ⟨some 95, .bin .sub (.t 94) (.c (.int .i64 1)), some (92, false)⟩, ⟨some 96, .elemAddr 1 (.t 93) (.t 95), some (92, false)⟩, ⟨some 97, .load false 1 (.t 96), some (92, false)⟩, ⟨some 98, .mv (.t 8), some (92, false)⟩, ⟨some 99, .bin .lss (.t 97) (.t 98), some (92, false)⟩, ⟨some 100, .pick (.t 92) (.c (.bool true)) (.t 99), some (89, true)⟩, ⟨some 101, .pick (.t 89) (.t 100) (.c (.bool false)), none⟩]) ( (.cond (.t 101) ( .region [] [ ⟨some 102, .mv (.t 10), none⟩, ⟨some 103, .mv (.t 8), none⟩, ⟨some 104, .lit 1 [(.int .i64 0)] 1 [(0, 1, (.t 103))], none⟩, ⟨some 105, .app 3 1 8 (.t 102) (.t 104), none⟩, ⟨some 10, .mv (.t 105), none⟩]) ( .skip))))) ( .region [] [ ⟨some 106, .mv (.t 9), none⟩, ⟨some 107, .mv (.t 5), none⟩, ⟨some 108, .mv (.t 12), none⟩, ⟨some 109, .elemAddr 1 (.t 107) (.t 108), none⟩, ⟨some 110, .load false 1 (.t 109), none⟩, ⟨some 111, .lit 1 [(.int .i64 0)] 1 [(0, 1, (.t 110))], none⟩, ⟨some 112, .app 4 1 8 (.t 106) (.t 111), none⟩, ⟨some 113, .mv (.t 10), none⟩, ⟨some 114, .mv (.t 5), none⟩, ⟨some 115, .mv (.t 12), none⟩, ⟨some 116, .elemAddr 1 (.t 114) (.t 115), none⟩, ⟨some 117, .loadi false 1 (.t 116), none⟩, ⟨some 118, .lit 1 [(.int .i64 0)] 1 [(0, 1, (.t 117))], none⟩, ⟨some 119, .app 5 1 8 (.t 113) (.t 118), none⟩, ⟨some 9, .mv (.t 112), none⟩, ⟨some 10, .mv (.t 119), none⟩]))))))) ( .region [] [ ⟨some 67, .mv (.t 12), none⟩, ⟨some 68, .bin .add (.t 67) (.c (.int .i64 1)), none⟩, ⟨some 12, .mv (.t 68), none⟩])))))) :: k) fr L = r := by
  intro t
  have hlw := hw.len
  rw [I1_len, zs_len] at hlw
  induction t with
  | nil =>
    intro j p is W U fr L ht hj hp hWl hUl hW hU hIs g0 g3 g5 g7 g8 hrow g11 g12 g10 g9
    have := drop_nil ht
    simp only [wz, List.append_nil] at hW hU hIs
    subst hW hU hIs
    refine G_loop.trans ?_
    simp (config := { maxSteps := 10000000 }) (disch := omega) only [↓G_seq, ↓G_exit, ↓G_region, ↓G_cond, ↓Gx_code, ↓G_ops_nil, ↓G_op, Gv_some, Gc_false, dec_f, killAll, ↓get_setS, evalOp, ev, b_lss, one, Option.map_some, List.getElem?_cons_zero, List.getElem?_cons_succ, Nat.reduceEqDiff, ↓reduceIte, Nat.succ_ne_self, g5, g12, hlw]
    refine hx _ _ ?_ ?_ ?_ ?_ ?_ hrow ?_ ?_ ?_
    all_goals simp (config := { maxSteps := 10000000 }) (disch := omega) only [↓get_setS, List.getElem?_cons_zero, List.getElem?_cons_succ, Nat.reduceEqDiff, reduceCtorEq, ↓reduceIte, g0, g3, g5, g7, g8, g11]
    · exact g10
    · exact g9
  | cons a t ih =>
    intro j p is W U fr L ht hj hp hWl hUl hW hU hIs g0 g3 g5 g7 g8 hrow g11 g12 g10 g9
    obtain ⟨e1, e2, e3⟩ := drop_cons ht
    have hE := hw.el (I1_get _ (j + 1) _ (zs_get e1))
    rw [show ((j + 1 : Nat) : Int) = (j : Nat) + 1 from rfl] at hE
    have hEp := hw.el (I1_get _ j _ (zs_get hp))
    have hj1 : ((j : Nat) : Int) + 1 - 1 = (j : Nat) := by omega
    have hal := hel a (List.mem_of_getElem? e1)
    simp only [List.length_cons] at hWl hUl
    have hlI : ∀ q : List Nat, (I1 (zs q)).length = q.length := fun q => by rw [I1_len, zs_len]
    have nx : ∀ (is1 : Bool) (W1 U1 : List Nat) (fr' : List V) (L' : List Row), W1.length ≤ W.length + 2 → U1.length ≤ U.length + 1 → W' = W1 ++ (wz i0 a is1 t).1 → U' = U1 ++ (wz i0 a is1 t).2.1 → is' = (wz i0 a is1 t).2.2 →
        Ab.get fr' 0 = v → Ab.get fr' 3 = .ptr 0 1 1 0 0 → Ab.get fr' 5 = w → Ab.get fr' 7 = .i least → Ab.get fr' 8 = .i i → rget L' 1 = row → Ab.get fr' 11 = .bool is1 → Ab.get fr' 12 = .i ((j : Nat) + 1 + 1) → AccW sW L' (Ab.get fr' 10) (I1 (zs W1)) → AccW [4] L' (Ab.get fr' 9) (I1 (zs U1)) →
        G tbl H [.tmp 4] (.code (.loop ( (.seq ( (.seq ( .region [] [ ⟨some 63, .mv (.t 12), none⟩, ⟨some 64, .mv (.t 5), none⟩, ⟨some 65, .len (.t 64), none⟩, ⟨some 66, .bin .lss (.t 63) (.t 65), none⟩]) ( (.cond (.t 66) ( .skip) ( .exit 2))))) ( (.seq ( (.block 3 ( (.seq ( (.seq ( .region [] [ ⟨some 69, .mv (.t 5), none⟩, ⟨some 70, .mv (.t 12), none⟩, ⟨some 71, .elemAddr 1 (.t 69) (.t 70), none⟩, ⟨some 72, .load false 1 (.t 71), none⟩, ⟨some 73, .mv (.t 8), none⟩, ⟨some 74, .bin .eql (.t 72) (.t 73), none⟩]) ( (.cond (.t 74) ( (.seq ( .region [] [ ⟨some 11, .mv (.c (.bool true)), none⟩]) ( (.seq ( .region [] [ ⟨some 75, .mv (.t 10), none⟩, ⟨some 76, .mv (.t 8), none⟩, ⟨some 77, .lit 1 [(.int .i64 0)] 1 [(0, 1, (.t 76))], none⟩, ⟨some 78, .app 2 1 8 (.t 75) (.t 77), none⟩, ⟨some 10, .mv (.t 78), none⟩]) ( .exit 3))))) ( .skip))))) ( (.seq ( (.seq ( .region [] [ ⟨some 79, .mv (.t 5), none⟩, ⟨some 80, .mv (.t 12), none⟩, ⟨some 81, .elemAddr 1 (.t 79) (.t 80), none⟩, ⟨some 82, .load false 1 (.t 81), none⟩, ⟨some 83, .mv (.t 8), none⟩, ⟨some 84, .bin .gtr (.t 82) (.t 83), none⟩, ⟨some 85, .mv (.t 84), none⟩, ⟨some 86, .mv (.t 11), some (85, true)⟩, ⟨some 87, .not (.t 86), some (85, true)⟩, ⟨some 88, .pick (.t 85) (.t 87) (.c (.bool false)), none⟩, ⟨some 89, .mv (.t 88), none⟩, ⟨some 90, .mv (.t 12), some (89, true)⟩, ⟨some 91, .bin .eql (.t 90) (.c (.int .i64 0)), some (89, true)⟩, ⟨some 92, .mv (.t 91), some (89, true)⟩, ⟨some 93, .mv (.t 5), some (92, false)⟩, ⟨some 94, .mv (.t 12), some (92, false)⟩, ⟨some 95, .bin .sub (.t 94) (.c (.int .i64 1)), some (92, false)⟩, ⟨some 96, .elemAddr 1 (.t 93) (.t 95), some (92, false)⟩, ⟨some 97, .load false 1 (.t 96), some (92, false)⟩, ⟨some 98, .mv (.t 8), some (92, false)⟩, ⟨some 99, .bin .lss (.t 97) (.t 98), some (92, false)⟩, ⟨some 100, .pick (.t 92) (.c (.bool true)) (.t 99), some (89, true)⟩, ⟨some 101, .pick (.t 89) (.t 100) (.c (.bool false)), none⟩]) ( (.cond (.t 101) ( .region [] [ ⟨some 102, .mv (.t 10), none⟩, ⟨some 103, .mv (.t 8), none⟩, ⟨some 104, .lit 1 [(.int .i64 0)] 1 [(0, 1, (.t 103))], none⟩, ⟨some 105, .app 3 1 8 (.t 102) (.t 104), none⟩, ⟨some 10, .mv (.t 105), none⟩]) ( .skip))))) ( .region [] [ ⟨some 106, .mv (.t 9), none⟩, ⟨some 107, .mv (.t 5), none⟩, ⟨some 108, .mv (.t 12), none⟩, ⟨some 109, .elemAddr 1 (.t 107) (.t 108), none⟩, ⟨some 110, .load false 1 (.t 109), none⟩, ⟨some 111, .lit 1 [(.int .i64 0)] 1 [(0, 1, (.t 110))], none⟩, ⟨some 112, .app 4 1 8 (.t 106) (.t 111), none⟩, ⟨some 113, .mv (.t 10), none⟩, ⟨some 114, .mv (.t 5), none⟩, ⟨some 115, .mv (.t 12), none⟩, ⟨some 116, .elemAddr 1 (.t 114) (.t 115), none⟩, ⟨some 117, .loadi false 1 (.t 116), none⟩, ⟨some 118, .lit 1 [(.int .i64 0)] 1 [(0, 1, (.t 117))], none⟩, ⟨some 119, .app 5 1 8 (.t 113) (.t 118), none⟩, ⟨some 9, .mv (.t 112), none⟩, ⟨some 10, .mv (.t 119), none⟩]))))))) ( .region [] [ ⟨some 67, .mv (.t 12), none⟩, ⟨some 68, .bin .add (.t 67) (.c (.int .i64 1)), none⟩, ⟨some 12, .mv (.t 68), none⟩])))))) :: k) fr' L' = r := by
      intro is1 W1 U1 fr' L' b1 b2 c1 c2 c3 q0 q3 q5 q7 q8 q1 q11 q12 q10 q9
      exact ih (j + 1) a is1 W1 U1 fr' L' e2 (by omega) e1 (by omega) (by omega) c1 c2 c3 q0 q3 q5 q7 q8 q1 q11 (by rw [q12]; congr 1) q10 q9
    generalize hv9 : Ab.get fr 9 = v9 at *
    generalize hv10 : Ab.get fr 10 = v10 at *
    unfold wz at hW hU hIs
    clear ih hx hw hel ht e2 hj
    subst hi
    by_cases c1 : a = i0
    · rw [if_pos c1] at hW hU hIs
      subst c1
      obtain ⟨v1, L1, a1, a2, a3⟩ := g10.app (site := 2) (by simp) (.i (a : Nat)) rfl (by rw [hlI]; omega)
      rw [zs_app] at a2
      have nx' := fun fr' L' => nx true (W ++ [a]) U fr' L' (by simp) (by omega) (by rw [hW]; simp) hU hIs
      have b1 := a3 1 (by simp)
      have b4 := g9.mono (L' := L1) (fun s hs => a3 s (by simp at hs; subst hs; simp))
      clear nx hW hU hIs a3 g9 g10
      refine G_loop.trans ?_
      simp (config := { maxSteps := 10000000 }) (disch := omega) only [↓G_seq, ↓G_skip, ↓G_exit, ↓G_region, ↓G_block, ↓G_cond, ↓Gx_blk, ↓Gx_code, ↓G_ops_nil, ↓G_op, Gv_some, Gc_true, dec_t, killAll, ↓get_setS, evalOp, ev, b_add, b_eql, b_lss, wrap_i64, one, Option.map_some, Option.bind_some, List.append_nil, List.nil_append, List.all_cons, List.all_nil, Bool.true_and, Bool.and_self, List.getElem?_cons_zero, List.getElem?_cons_succ, Nat.reduceEqDiff, ↓reduceIte, Nat.succ_ne_self, decide_true, Bool.false_eq_true, Int.reduceLT, pick3, V.cells, fillV, splice, chop, loadV, V.scalar, V.pure, Nat.reduceLT, true_and, and_self, List.length_cons, List.length_nil, List.take_succ_cons, List.take_zero, List.drop_succ_cons, List.drop_zero, Nat.le_refl, List.replicate, List.flatten_cons, List.flatten_nil, Nat.zero_add, g5, g8, g12, hlw, hE, hv10, a1]
      refine nx' _ _ ?_ ?_ ?_ ?_ ?_ (b1.trans hrow) ?_ ?_ ?_ ?_
      all_goals simp (config := { maxSteps := 10000000 }) (disch := omega) only [↓get_setS, List.getElem?_cons_zero, List.getElem?_cons_succ, Nat.reduceEqDiff, reduceCtorEq, ↓reduceIte, Nat.succ_ne_self, g0, g3, g5, g7, g8, hv9]
      · exact a2
      · exact b4
    rw [if_neg c1] at hW hU hIs
    have c1' : ¬ ((a : Nat) : Int) = (i0 : Nat) := by omega
    by_cases c2 : i0 < a ∧ is = false ∧ p < i0
    · rw [if_pos c2] at hW hU hIs
      obtain ⟨c2a, c2b, c2c⟩ := c2
      subst c2b
      obtain ⟨v1, L1, a1, a2, a3⟩ := g10.app (site := 3) (by simp) (.i (i0 : Nat)) rfl (by rw [hlI]; omega)
      rw [zs_app] at a2
      have b4 := g9.mono (L' := L1) (fun s hs => a3 s (by simp at hs; subst hs; simp))
      obtain ⟨v2, L2, d1, d2, d3⟩ := b4.app (site := 4) (by simp) (.i (a : Nat)) rfl (by rw [hlI]; omega)
      rw [zs_app] at d2
      have b10 := a2.mono (L' := L2) (fun s hs => d3 s (by simp at hs ⊢; omega))
      obtain ⟨v3, L3, f1, f2, f3⟩ := b10.app (site := 5) (by simp) (.i (a : Nat)) rfl (by rw [hlI]; simp; omega)
      rw [zs_app] at f2
      have b9 := d2.mono (L' := L3) (fun s hs => f3 s (by simp at hs; subst hs; simp))
      have b1 : rget L3 1 = row := by rw [f3 1 (by simp), d3 1 (by simp), a3 1 (by simp), hrow]
      have nx' := fun fr' L' => nx false (W ++ [i0] ++ [a]) (U ++ [a]) fr' L' (by simp) (by simp) (by rw [hW]; simp) (by rw [hU]; simp) hIs
      clear nx hW hU hIs a3 d3 f3 g9 g10 a2 b4 d2 b10
      refine G_loop.trans ?_
      simp (config := { maxSteps := 10000000 }) (disch := omega) only [↓G_seq, ↓G_skip, ↓G_blk, ↓G_region, ↓G_block, ↓G_cond, ↓G_ops_nil, ↓G_op, Gv_some, ↓G_gop, Gw_tt, Gw_ff, Gc_true, Gc_false, dec_t, dec_f, killAll, ↓get_setS, evalOp, ev, b_add, b_sub, b_eql, b_lss, b_gtr, wrap_i64, one, Option.map_some, Option.bind_some, asB, List.append_nil, List.nil_append, List.all_cons, List.all_nil, Bool.true_and, Bool.and_self, List.getElem?_cons_zero, List.getElem?_cons_succ, Nat.reduceEqDiff, ↓reduceIte, Nat.succ_ne_self, Bool.not_false, Bool.false_eq_true, Int.reduceLT, pick3, V.cells, fillV, splice, chop, loadV, V.scalar, V.pure, Nat.reduceLT, true_and, and_self, List.length_cons, List.length_nil, List.take_succ_cons, List.take_zero, List.drop_succ_cons, List.drop_zero, Nat.le_refl, List.replicate, List.flatten_cons, List.flatten_nil, Nat.zero_add, g5, g8, g11, g12, hlw, hE, hEp, hj1, hv9, hv10, a1, d1, f1, loadiV]
      refine nx' _ _ ?_ ?_ ?_ ?_ ?_ b1 ?_ ?_ ?_ ?_
      all_goals simp (config := { maxSteps := 10000000 }) (disch := omega) only [↓get_setS, List.getElem?_cons_zero, List.getElem?_cons_succ, Nat.reduceEqDiff, reduceCtorEq, ↓reduceIte, Nat.succ_ne_self, g0, g3, g5, g7, g8, g11]
      · exact f2
      · exact b9
    · rw [if_neg c2] at hW hU hIs
      obtain ⟨v2, L2, d1, d2, d3⟩ := g9.app (site := 4) (by simp) (.i (a : Nat)) rfl (by rw [hlI]; omega)
      rw [zs_app] at d2
      have b10 := g10.mono (L' := L2) (fun s hs => d3 s (by simp at hs ⊢; omega))
      obtain ⟨v3, L3, f1, f2, f3⟩ := b10.app (site := 5) (by simp) (.i (a : Nat)) rfl (by rw [hlI]; omega)
      rw [zs_app] at f2
      have b9 := d2.mono (L' := L3) (fun s hs => f3 s (by simp at hs; subst hs; simp))
      have b1 : rget L3 1 = row := by rw [f3 1 (by simp), d3 1 (by simp), hrow]
      have nx' := fun fr' L' => nx is (W ++ [a]) (U ++ [a]) fr' L' (by simp) (by simp) (by rw [hW]; simp) (by rw [hU]; simp) hIs
      have cs : a < i0 ∨ (i0 < a ∧ is = true) ∨ (i0 < a ∧ is = false ∧ i0 ≤ p) := by
        cases is
        · simp only [true_and, Bool.false_eq_true, and_false, false_or] at c2 ⊢
          omega
        · simp only [Bool.true_eq_false, false_and, and_false, or_false, and_true] at c2 ⊢
          omega
      clear nx hW hU hIs d3 f3 g9 g10 d2 b10 c2
      refine G_loop.trans ?_
      rcases cs with c | ⟨c, rfl⟩ | ⟨c, rfl, c'⟩
      all_goals
        simp (config := { maxSteps := 10000000 }) (disch := omega) only [↓G_seq, ↓G_skip, ↓G_blk, ↓G_region, ↓G_block, ↓G_cond, ↓G_ops_nil, ↓G_op, Gv_some, ↓G_gop, Gw_tt, Gw_ff, Gw_tf, Gw_tup, Gc_true, Gc_false, dec_t, dec_f, killAll, ↓get_setS, evalOp, ev, b_add, b_sub, b_eql, b_lss, b_gtr, wrap_i64, one, Option.map_some, Option.bind_some, asB, List.append_nil, List.nil_append, List.all_cons, List.all_nil, Bool.true_and, Bool.and_self, List.getElem?_cons_zero, List.getElem?_cons_succ, Nat.reduceEqDiff, ↓reduceIte, Nat.succ_ne_self, Bool.not_true, Bool.not_false, Bool.false_eq_true, Int.reduceLT, pick3, V.cells, fillV, splice, chop, loadV, V.scalar, V.pure, Nat.reduceLT, true_and, and_self, List.length_cons, List.length_nil, List.take_succ_cons, List.take_zero, List.drop_succ_cons, List.drop_zero, Nat.le_refl, List.replicate, List.flatten_cons, List.flatten_nil, Nat.zero_add, g5, g8, g11, g12, hlw, hE, hEp, hj1, hv9, hv10, d1, f1, loadiV]
        refine nx' _ _ ?_ ?_ ?_ ?_ ?_ b1 ?_ ?_ ?_ ?_
        all_goals simp (config := { maxSteps := 10000000 }) (disch := omega) only [↓get_setS, List.getElem?_cons_zero, List.getElem?_cons_succ, Nat.reduceEqDiff, reduceCtorEq, ↓reduceIte, Nat.succ_ne_self, g0, g3, g5, g7, g8, g11]
        · exact f2
        · exact b9

end Go.Proofs.Ytgghbckhdchcaaa

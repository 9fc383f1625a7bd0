/-
  Page breaks: the law PagebreakForced.
-/
import Derived.Test.YtgghbckhdchcaaaS33R
namespace Go.Proofs.Ytgghbckhdchcaaa
open Go Go.Ab
set_option linter.unusedVariables false
set_option linter.unnecessarySimpa false
set_option linter.unusedSimpArgs false
set_option maxRecDepth 100000
variable {H : List (List Row)}
open Path (Ch)

/-! Maps that are sets of numbers. -/
def MI (d : List Int) : List (List V) := d.map fun x => [V.i x, V.bool true]
theorem MI_len (d : List Int) : (MI d).length = d.length := by simp [MI]
theorem find_MI (x : Int) : ∀ (d : List Int) (i : Nat), ∃ r, findV .int (.i x) (MI d) i = some r ∧ (x ∉ d → r = none) ∧ (x ∈ d → ∃ j, r = some (j, .bool true))
  | [], i => ⟨none, rfl, fun _ => rfl, fun h => by cases h⟩
  | y :: d, i => by
    obtain ⟨r, h1, h2, h3⟩ := find_MI x d (i + 1)
    by_cases c : x = y
    · refine ⟨some (i, .bool true), ?_, fun h => absurd (by simp [c]) h, fun _ => ⟨i, rfl⟩⟩
      simp [MI, findV, keyEq, c]
    · refine ⟨r, ?_, fun h => h2 (fun h' => h (List.mem_cons_of_mem _ h')), fun h => h3 ?_⟩
      · have e : (x == y) = false := by simpa using c
        show findV .int (.i x) ([V.i y, V.bool true] :: MI d) i = some r
        simp only [findV, keyEq, if_true, e, h1]
      · cases h with
        | head => exact absurd rfl c
        | tail _ h => exact h
theorem mget_MI {M : List (List Row)} {s ver : Nat} {d : List Int} (hL : Ab.rowAt M 0 s = ⟨ver, 0, MI d⟩) (h0 : 0 < ver) (x : Int) : mgetV M .int false (.bool false) (.mp 0 s ver) (.i x) = some (.bool (decide (x ∈ d))) := by
  obtain ⟨r, h1, h2, h3⟩ := find_MI x d 0
  unfold mgetV
  simp only [hL, h0, and_self, if_true, h1, Option.map_some]
  by_cases c : x ∈ d
  · obtain ⟨j, hj⟩ := h3 c
    simp [hj, c, V.shift]
  · simp [h2 c, c]
theorem mput_MI {L : List Row} {s ver : Nat} {d : List Int} (hL : rget L s = ⟨ver, 0, MI d⟩) (h0 : 0 < ver) {x : Int} (hx : x ∉ d) : mputV L .int (.mp 0 s ver) (.i x) (.bool true) = some (rset L s ⟨ver, 0, MI (d ++ [x])⟩) := by
  obtain ⟨r, h1, h2, h3⟩ := find_MI x d 0
  unfold mputV
  simp only [hL, h0, and_self, if_true, h1, Option.map_some, h2 hx]
  simp [MI]

/-! What a division of less than infinite cost is like. -/
theorem cst_lt {l : List Sy} {ph pt : Int} {a b : Nat} {s f : Bool} (h : cst l ph pt a b s f < inf) (hb : b ≤ l.length) : (0 < a → (l[a]?.getD z0).b ≠ 3) ∧ ∀ i, a < i → i < b → (l[i]?.getD z0).b ≠ 2 := by
  unfold cst costN at h
  split at h
  · omega
  · rename_i hc
    refine ⟨fun h0 h3 => hc ?_, fun i h1 h2 h3 => hc ?_⟩
    · have : (decide (0 < (a : Int)) && decide ((l[a]?.getD ⟨0, 0, 0, 0⟩).b = 3)) = true := by
        rw [decide_eq_true (show (0 : Int) < a by omega), decide_eq_true (show (l[a]?.getD ⟨0, 0, 0, 0⟩).b = 3 from h3)]
        rfl
      rw [this]
      rfl
    · obtain ⟨y, hy⟩ : ∃ y, l[i]? = some y := ⟨_, List.getElem?_eq_getElem (by omega)⟩
      have hm : y ∈ sl l (a + 1) b := sl_has (show a + 1 ≤ i from h1) h2 hb hy
      have : (sl l (a + 1) b).any isBrk = true := by
        rw [List.any_eq_true]
        refine ⟨y, hm, ?_⟩
        unfold isBrk
        rw [hy, Option.getD_some] at h3
        exact decide_eq_true h3
      rw [this]
      simp

theorem forced_D {l : List Sy} {ph pt : Int} (he : errC l ph pt = 0) : ∀ (d : List Nat) (a : Nat) (s : Bool), (a :: d).length ≤ 2000 → Path.isD l.length (a :: d) → tt l ph pt s (a :: d) < inf →
    (0 < a → (l[a]?.getD z0).b ≠ 3) ∧ ∀ i, a < i → i < l.length → ((l[i]?.getD z0).b = 2 → i ∈ d) ∧ ((l[i]?.getD z0).b = 3 → i ∉ d)
  | [], a, s, _, hd, ht => by
    have e : tt l ph pt s [a] = cst l ph pt a l.length s true := rfl
    rw [e] at ht
    obtain ⟨h1, h2⟩ := cst_lt ht (Nat.le_refl _)
    exact ⟨h1, fun i h3 h4 => ⟨fun h5 => absurd h5 (h2 i h3 h4), fun _ h => by cases h⟩⟩
  | b :: t, a, s, hl, hd, ht => by
    have e : tt l ph pt s (a :: b :: t) = Path.addI inf (cst l ph pt a b s false) (tt l ph pt (!s) (b :: t)) := rfl
    rw [e] at ht
    have hc := cst_pos he a b s false
    have hbd := tt_Bd he (b :: t) (!s) (by simp only [List.length_cons] at hl ⊢; omega)
    have hinf' := hinf
    have h5 : cst l ph pt a b s false < inf ∧ tt l ph pt (!s) (b :: t) < inf := by
      unfold Path.addI at ht
      split at ht
      · omega
      · rename_i h4
        omega
    have hbl := isD_hd t b hd.2
    obtain ⟨h1, h2⟩ := cst_lt h5.1 (Nat.le_of_lt hbl)
    obtain ⟨h6, h7⟩ := forced_D he t b (!s) (by simp only [List.length_cons] at hl ⊢; omega) hd.2 h5.2
    have hge : ∀ x ∈ b :: t, b ≤ x := by
      intro x hx
      obtain ⟨j, hj⟩ := List.mem_iff_getElem?.1 hx
      have := isD_ge t b j x hd.2 hj
      omega
    refine ⟨h1, fun i h3 h4 => ?_⟩
    rcases Nat.lt_trichotomy i b with h8 | h8 | h8
    · exact ⟨fun h9 => absurd h9 (h2 i h3 h8), fun _ hm => by have := hge i hm; omega⟩
    · subst h8
      refine ⟨fun _ => by simp, fun h9 _ => absurd h9 (h6 (by omega))⟩
    · obtain ⟨h10, h11⟩ := h7 i h8 h4
      refine ⟨fun h9 => List.mem_cons_of_mem _ (h10 h9), fun h9 hm => ?_⟩
      cases hm with
      | head => omega
      | tail _ hm => exact h11 h9 hm

theorem isD_nodup {n : Nat} {t : List Nat} {a : Nat} (h : Path.isD n (a :: t)) {i j x : Nat} : (a :: t)[i]? = some x → (a :: t)[j]? = some x → i = j := by
  have : ∀ (t : List Nat) (a : Nat), Path.isD n (a :: t) → ∀ (i j x : Nat), (a :: t)[i]? = some x → (a :: t)[j]? = some x → i = j := by
    intro t
    induction t with
    | nil =>
      intro a h i j x hi hj
      have h1 := (List.getElem?_eq_some_iff.1 hi).1
      have h2 := (List.getElem?_eq_some_iff.1 hj).1
      simp at h1 h2
      omega
    | cons b t ih =>
      intro a h i j x hi hj
      have hb := h.2
      cases i with
      | zero =>
        cases j with
        | zero => rfl
        | succ j =>
          simp only [List.getElem?_cons_zero, Option.some.injEq] at hi
          simp only [List.getElem?_cons_succ] at hj
          have := isD_ge t b j x hb hj
          have := h.1
          omega
      | succ i =>
        cases j with
        | zero =>
          simp only [List.getElem?_cons_zero, Option.some.injEq] at hj
          simp only [List.getElem?_cons_succ] at hi
          have := isD_ge t b i x hb hi
          have := h.1
          omega
        | succ j =>
          simp only [List.getElem?_cons_succ] at hi hj
          rw [ih b hb i j x hi hj]
  exact this t a h _ _ _

theorem loop7a {k : List KI} {v w : V} {d : List Nat} {n : Nat} {r : Option V} {r0 r1 : Row} (hw : SlV 1 w (I1 (zs d))) (hd : d = [] ∨ Path.isD n d) (hl : d.length ≤ 1024)
    (hx : ∀ fr', Ab.get fr' 0 = v → Ab.get fr' 7 = .mp 0 2 1 → Gx tbl H [.tmp 4] 0 k fr' [r0, r1, ⟨1, 0, MI (zs d)⟩] = r) :
    ∀ (q i : Nat) (fr : List V), i + q = d.length → Ab.get fr 0 = v → Ab.get fr 5 = w → Ab.get fr 7 = .mp 0 2 1 → Ab.get fr 8 = .i (i : Nat) →
      G tbl H [.tmp 4] (.code (.loop ( (.seq ( (.seq ( .region [] [ ⟨some 29, .mv (.t 8), none⟩, ⟨some 30, .mv (.t 5), none⟩, ⟨some 31, .len (.t 30), none⟩, ⟨some 32, .bin .lss (.t 29) (.t 31), none⟩]) ( (.cond (.t 32) ( .skip) ( .exit 0))))) ( (.seq ( (.block 1 ( .region [] [ ⟨some 35, .mv (.t 7), none⟩, ⟨some 36, .mv (.t 5), none⟩, ⟨some 37, .mv (.t 8), none⟩, ⟨some 38, .elemAddr 1 (.t 36) (.t 37), none⟩, ⟨some 39, .load false 1 (.t 38), none⟩, ⟨none, .mput .int (.t 35) (.t 39) (.c (.bool true)), none⟩]))) ( .region [] [ ⟨some 33, .mv (.t 8), none⟩, ⟨some 34, .bin .add (.t 33) (.c (.int .i64 1)), none⟩, ⟨some 8, .mv (.t 34), none⟩])))))) :: k) fr [r0, r1, ⟨1, 0, MI (zs (d.take i))⟩] = r := by
  intro q
  have hlw := hw.len
  rw [I1_len, zs_len] at hlw
  induction q with
  | zero =>
    intro i fr hi g0 g5 g7 g8
    obtain rfl : i = d.length := by omega
    rw [List.take_length]
    refine G_loop.trans ?_
    simp (config := { maxSteps := 10000000 }) (disch := omega) only [↓G_seq, ↓G_exit, ↓G_region, ↓G_cond, ↓Gx_code, ↓G_ops_nil, ↓G_op, Gv_some, Gc_false, dec_f, killAll, ↓get_setS, evalOp, ev, b_lss, one, Option.map_some, List.getElem?_cons_zero, List.getElem?_cons_succ, Nat.reduceEqDiff, ↓reduceIte, Nat.succ_ne_self, g5, g8, hlw]
    refine hx _ ?_ ?_
    all_goals simp (config := { maxSteps := 10000000 }) (disch := omega) only [↓get_setS, List.getElem?_cons_zero, List.getElem?_cons_succ, Nat.reduceEqDiff, reduceCtorEq, ↓reduceIte, g0, g7]
  | succ q ih =>
    intro i fr hi g0 g5 g7 g8
    obtain ⟨b, hb⟩ : ∃ b, d[i]? = some b := ⟨_, List.getElem?_eq_getElem (by omega)⟩
    have hE := hw.el (I1_get _ i _ (zs_get hb))
    have hnm : (b : Int) ∉ zs (d.take i) := by
      intro hm
      simp only [zs, List.mem_map] at hm
      obtain ⟨x, hm, hxb⟩ := hm
      obtain rfl : x = b := by omega
      obtain ⟨j, hj⟩ := List.mem_iff_getElem?.1 hm
      have hji : j < i := by
        have := (List.getElem?_eq_some_iff.1 hj).1
        simp only [List.length_take] at this
        omega
      rw [List.getElem?_take_of_lt hji] at hj
      rcases hd with rfl | hd
      · simp at hb
      · cases d with
        | nil => simp at hb
        | cons a t =>
          have := isD_nodup hd hj hb
          omega
    have hput := mput_MI (L := [r0, r1, ⟨1, 0, MI (zs (d.take i))⟩]) (s := 2) (ver := 1) rfl (by omega) hnm
    have htk : zs (d.take i) ++ [(b : Int)] = zs (d.take (i + 1)) := by
      rw [List.take_add_one, hb]
      simp [zs]
    rw [htk] at hput
    have nx := fun fr' => ih (i + 1) fr' (by omega)
    clear ih hx hd hw htk hnm
    generalize MI (zs (d.take i)) = X at *
    generalize MI (zs (d.take (i + 1))) = Y at *
    refine G_loop.trans ?_
    simp (config := { maxSteps := 10000000 }) (disch := omega) only [↓G_seq, ↓G_skip, ↓G_blk, ↓G_region, ↓G_block, ↓G_cond, ↓G_ops_nil, ↓G_op, Gv_some, Gc_true, dec_t, killAll, ↓get_setS, ↓get_setN, evalOp, ev, b_add, b_lss, wrap_i64, one, Option.map_some, List.getElem?_cons_zero, List.getElem?_cons_succ, Nat.reduceEqDiff, ↓reduceIte, Nat.succ_ne_self, Bool.false_eq_true, pick3, loadV, rset, g5, g7, g8, hlw, hE, hput]
    refine nx _ ?_ ?_ ?_ ?_
    all_goals simp (config := { maxSteps := 10000000 }) (disch := omega) only [↓get_setS, ↓get_setN, List.getElem?_cons_zero, List.getElem?_cons_succ, Nat.reduceEqDiff, reduceCtorEq, ↓reduceIte, Nat.succ_ne_self, g0, g5, g7]
    congr 1

theorem loop7b {k : List KI} {v : V} {l : List Sy} {d : List Nat} {r0 r1 : Row} (hml : l.length ≤ 1024) (hv : SlV 4 v (E4 l))
    (hF : ∀ i, 0 < i → i < l.length → ((l[i]?.getD z0).b = 2 → i ∈ d) ∧ ((l[i]?.getD z0).b = 3 → i ∉ d))
    (hx : ∀ fr', Gx tbl H [.tmp 4] 2 k fr' [r0, r1, ⟨1, 0, MI (zs d)⟩] = some (.bool true)) :
    ∀ (q i : Nat) (fr : List V), i + q = max l.length 1 → 0 < i → Ab.get fr 0 = v → Ab.get fr 7 = .mp 0 2 1 → Ab.get fr 9 = .i (i : Nat) →
      G tbl H [.tmp 4] (.code (.loop ( (.seq ( (.seq ( .region [] [ ⟨some 40, .mv (.t 9), none⟩, ⟨some 41, .mv (.t 0), none⟩, ⟨some 42, .len (.t 41), none⟩, ⟨some 43, .bin .lss (.t 40) (.t 42), none⟩]) ( (.cond (.t 43) ( .skip) ( .exit 2))))) ( (.seq ( (.block 3 ( (.seq ( .region [] [ ⟨some 46, .mv (.t 0), none⟩, ⟨some 47, .mv (.t 9), none⟩, ⟨some 48, .elemAddr 4 (.t 46) (.t 47), none⟩, ⟨some 49, .fieldAddr 3 (.t 48), none⟩, ⟨some 50, .load false 1 (.t 49), none⟩, ⟨some 51, .bin .eql (.t 50) (.c (.int .i64 2)), none⟩, ⟨some 52, .mv (.t 51), none⟩, ⟨some 53, .mv (.t 7), some (52, true)⟩, ⟨some 54, .mv (.t 9), some (52, true)⟩, ⟨some 55, .mget .int false (.bool false) (.t 53) (.t 54), some (52, true)⟩, ⟨some 56, .not (.t 55), some (52, true)⟩, ⟨some 57, .pick (.t 52) (.t 56) (.c (.bool false)), none⟩, ⟨some 58, .mv (.t 57), none⟩, ⟨some 59, .mv (.t 0), some (58, false)⟩, ⟨some 60, .mv (.t 9), some (58, false)⟩, ⟨some 61, .elemAddr 4 (.t 59) (.t 60), some (58, false)⟩, ⟨some 62, .fieldAddr 3 (.t 61), some (58, false)⟩, ⟨some 63, .load false 1 (.t 62), some (58, false)⟩, ⟨some 64, .bin .eql (.t 63) (.c (.int .i64 3)), some (58, false)⟩, ⟨some 65, .mv (.t 64), some (58, false)⟩, ⟨some 66, .mv (.t 7), some (65, true)⟩, ⟨some 67, .mv (.t 9), some (65, true)⟩, ⟨some 68, .mget .int false (.bool false) (.t 66) (.t 67), some (65, true)⟩, ⟨some 69, .pick (.t 65) (.t 68) (.c (.bool false)), some (58, false)⟩, ⟨some 70, .pick (.t 58) (.c (.bool true)) (.t 69), none⟩]) ( (.cond (.t 70) ( (.seq ( .region [] [ ⟨some 4, .mv (.c (.bool false)), none⟩]) ( .ret))) ( .skip))))))) ( .region [] [ ⟨some 44, .mv (.t 9), none⟩, ⟨some 45, .bin .add (.t 44) (.c (.int .i64 1)), none⟩, ⟨some 9, .mv (.t 45), none⟩])))))) :: k) fr [r0, r1, ⟨1, 0, MI (zs d)⟩] = some (.bool true) := by
  intro q
  have hlv := hv.len
  rw [E4_len] at hlv
  induction q with
  | zero =>
    intro i fr hi h0 g0 g7 g9
    refine G_loop.trans ?_
    have : l.length ≤ i := by omega
    clear hi
    simp (config := { maxSteps := 10000000 }) (disch := omega) only [↓G_seq, ↓G_exit, ↓G_region, ↓G_cond, ↓Gx_code, ↓G_ops_nil, ↓G_op, Gv_some, Gc_false, dec_f, killAll, ↓get_setS, evalOp, ev, b_lss, one, Option.map_some, List.getElem?_cons_zero, List.getElem?_cons_succ, Nat.reduceEqDiff, reduceCtorEq, ↓reduceIte, Nat.succ_ne_self, g0, g9, hlv]
    refine hx _
  | succ q ih =>
    intro i fr hi h0 g0 g7 g9
    have hil : i < l.length := by omega
    obtain ⟨y, hy⟩ : ∃ y, l[i]? = some y := ⟨_, List.getElem?_eq_getElem (by omega)⟩
    have hE := hv.el (E4_get l i y hy)
    have hget := fun M => mget_MI (M := [r0, r1, ⟨1, 0, MI (zs d)⟩] :: M) (s := 2) (ver := 1) (d := zs d) rfl (by omega) (i : Int)
    have hmem : ((i : Int) ∈ zs d) ↔ i ∈ d := by
      simp only [zs, List.mem_map]
      exact ⟨fun ⟨x, h, e⟩ => by obtain rfl : x = i := by omega
                                 exact h, fun h => ⟨i, h, rfl⟩⟩
    have hf := hF i h0 hil
    rw [hy, Option.getD_some] at hf
    have nx := fun fr' => ih (i + 1) fr' (by omega) (by omega)
    have hile : i + 1 ≤ 1024 := by omega
    clear ih hx hF hv hi
    generalize MI (zs d) = X at *
    refine G_loop.trans ?_
    by_cases c2 : y.b = 2
    · have hin := hf.1 c2
      rw [decide_eq_true (hmem.2 hin)] at hget
      clear hf hmem hin
      simp (config := { maxSteps := 10000000 }) (disch := omega) only [↓G_seq, ↓G_skip, ↓G_blk, ↓G_region, ↓G_block, ↓G_cond, ↓G_ops_nil, ↓G_op, Gv_some, ↓G_gop, Gw_tt, Gw_ff, Gw_tf, Gc_true, Gc_false, dec_t, killAll, ↓get_setS, evalOp, ev, b_add, b_eql, b_lss, wrap_i64, one, Option.map_some, asB, List.getElem?_cons_zero, List.getElem?_cons_succ, Nat.reduceEqDiff, reduceCtorEq, ↓reduceIte, Nat.succ_ne_self, decide_true, decide_false, Bool.not_true, Bool.false_eq_true, Int.reduceEq, pick3, addOff, loadV, Nat.zero_add, g0, g7, g9, hlv, hE, hget, c2]
      refine nx _ ?_ ?_ ?_
      all_goals simp (config := { maxSteps := 10000000 }) (disch := omega) only [↓get_setS, List.getElem?_cons_zero, List.getElem?_cons_succ, Nat.reduceEqDiff, reduceCtorEq, ↓reduceIte, g0, g7]
      congr 1
    · by_cases c3 : y.b = 3
      · have hin := hf.2 c3
        rw [decide_eq_false (fun h => hin (hmem.1 h))] at hget
        clear hf hmem hin
        simp (config := { maxSteps := 10000000 }) (disch := omega) only [↓G_seq, ↓G_skip, ↓G_blk, ↓G_region, ↓G_block, ↓G_cond, ↓G_ops_nil, ↓G_op, Gv_some, ↓G_gop, Gw_tt, Gw_ff, Gw_tf, Gc_true, Gc_false, dec_t, killAll, ↓get_setS, evalOp, ev, b_add, b_eql, b_lss, wrap_i64, one, Option.map_some, asB, List.getElem?_cons_zero, List.getElem?_cons_succ, Nat.reduceEqDiff, reduceCtorEq, ↓reduceIte, Nat.succ_ne_self, decide_true, decide_false, Bool.false_eq_true, Int.reduceEq, pick3, addOff, loadV, Nat.zero_add, g0, g7, g9, hlv, hE, hget, c3]
        refine nx _ ?_ ?_ ?_
        all_goals simp (config := { maxSteps := 10000000 }) (disch := omega) only [↓get_setS, List.getElem?_cons_zero, List.getElem?_cons_succ, Nat.reduceEqDiff, reduceCtorEq, ↓reduceIte, g0, g7]
        congr 1
      · clear hf hmem hget
        simp (config := { maxSteps := 10000000 }) (disch := omega) only [↓G_seq, ↓G_skip, ↓G_blk, ↓G_region, ↓G_block, ↓G_cond, ↓G_ops_nil, ↓G_op, Gv_some, ↓G_gop, Gw_ff, Gw_tf, Gc_true, Gc_false, dec_t, dec_f, killAll, ↓get_setS, evalOp, ev, b_add, b_eql, b_lss, wrap_i64, one, Option.map_some, asB, List.getElem?_cons_zero, List.getElem?_cons_succ, Nat.reduceEqDiff, reduceCtorEq, ↓reduceIte, Nat.succ_ne_self, Bool.false_eq_true, pick3, addOff, loadV, Nat.zero_add, g0, g9, hlv, hE]
        refine nx _ ?_ ?_ ?_
        all_goals simp (config := { maxSteps := 10000000 }) (disch := omega) only [↓get_setS, List.getElem?_cons_zero, List.getElem?_cons_succ, Nat.reduceEqDiff, reduceCtorEq, ↓reduceIte, g0, g7]
        congr 1

theorem gD_tt {l : List Sy} {ph pt : Int} (he : errC l ph pt = 0) (h : ¬ noneR l ph pt) (h0 : 0 < l.length) : tt l ph pt true (gD l ph pt) < inf := by
  unfold gD
  rw [if_neg (by omega)]
  have h1 := Int.not_le.1 (fun e => h ⟨h0, e⟩)
  obtain ⟨_, _, a3, _⟩ := (bestD_ok he h0).2 h1
  omega

set_option maxHeartbeats 4000000 in
theorem l7 {v : V} {l : List Sy} {ph pt : Int} (hm : l.length ≤ 9223372036854775807) (hv : SlV 4 v (E4 l)) : call tbl 7 [v, .agg [.i ph, .i pt]] H = some (.bool true) := by
  refine (call_start (show tbl 7 = some a7 from rfl)).trans ?_
  have hlen := hv.len
  rw [E4_len] at hlen
  obtain ⟨v', m, hs, hv', hml, _⟩ := cut hv 60
  simp only [Int.cast_ofNat_Int] at hs
  have hlen' := hv'.len
  rw [E4_len] at hlen'
  have hm' : m.length ≤ 9223372036854775807 := by omega
  have hsh := hv'.sh
  by_cases he : errC m ph pt = 0
  case neg =>
    have h14 := fun H => c14e (H := H) hm' he hv'
    generalize errC m ph pt = e at *
    unfold a7
    simp (config := { maxSteps := 10000000 }) (disch := omega) only [↓G_seq, ↓G_ret, ↓G_region, ↓G_cond, ↓G_ops_nil, ↓G_op, Gv_some, ↓G_gop, Gw_ff, Gc_true, dec_f, killAll, ↓get_setS, evalOp, ev, evs, Ab.get, b_neq, one, Option.map_some, Option.bind_some, Option.map_none, asB, finish, resVs, resV, outVs, ownsLast, tupOf, callV, V.shift, V.shifts, List.append_nil, List.map_cons, List.map_nil, List.all_cons, List.all_nil, Bool.and_self, List.getElem?_cons_zero, List.getElem?_cons_succ, Nat.reduceEqDiff, reduceCtorEq, ↓reduceIte, Nat.succ_ne_self, Bool.not_true, Bool.not_false, bne_self_eq_false, Bool.false_eq_true, Int.reduceAdd, pick3, V.cells, loadV, Ab.rowAt, rget, rset, V.scalar, mmV, Nat.reduceAdd, and_self, List.length_cons, List.length_nil, List.take_succ_cons, List.take_zero, List.drop_zero, Nat.le_refl, List.getD_cons_zero, Nat.zero_add, ti_bool, ti_tup_nilsl, st_int, st_nilsl, ov_bool, fn_some, hlen, hs, c11, h14, hsh, Nat.zero_lt_succ]
    done
  have h14 := fun H => c14 (H := H) hm' he hv'
  by_cases hn : noneR m ph pt
  · simp only [brk_none hn] at h14
    unfold a7
    simp (config := { maxSteps := 10000000 }) (disch := omega) only [↓G_seq, ↓G_ret, ↓G_region, ↓G_cond, ↓G_ops_nil, ↓G_op, Gv_some, ↓G_gop, Gw_ff, Gc_true, killAll, ↓get_setS, evalOp, ev, evs, Ab.get, b_neq, one, Option.map_some, Option.bind_some, Option.map_none, asB, finish, resVs, resV, outVs, ownsLast, tupOf, callV, V.shift, V.shifts, List.append_nil, List.map_cons, List.map_nil, List.all_cons, List.all_nil, Bool.and_self, List.getElem?_cons_zero, List.getElem?_cons_succ, Nat.reduceEqDiff, reduceCtorEq, ↓reduceIte, Nat.succ_ne_self, decide_false, Bool.not_true, Bool.not_false, bne_self_eq_false, Bool.false_eq_true, Int.reduceAdd, Int.reduceEq, pick3, V.cells, loadV, Ab.rowAt, rget, rset, V.scalar, mmV, Nat.reduceAdd, and_self, List.length_cons, List.length_nil, List.take_succ_cons, List.take_zero, List.drop_zero, Nat.le_refl, List.getD_cons_zero, Nat.zero_add, ti_bool, ti_tup_nilsl, st_int, st_nilsl, ov_bool, fn_some, hlen, hs, c11, h14, hsh, Nat.zero_lt_succ]
    done
  have hgd := gD_Dv he hn
  simp only [brk_ok hn] at h14
  have hgl := Dv_len hgd
  have hF : ∀ i, 0 < i → i < m.length → ((m[i]?.getD z0).b = 2 → i ∈ gD m ph pt) ∧ ((m[i]?.getD z0).b = 3 → i ∉ gD m ph pt) := by
    intro i h0 hi
    have ht := gD_tt he hn (by omega)
    rcases hgd with ⟨h, _⟩ | ⟨t, h, h'⟩
    · omega
    · rw [h] at ht h' hgl ⊢
      obtain ⟨_, h2⟩ := forced_D he t 0 true (by omega) h' ht
      obtain ⟨h3, h4⟩ := h2 i h0 hi
      refine ⟨fun a => List.mem_cons_of_mem _ (h3 a), fun a hmm => ?_⟩
      cases hmm with
      | head => omega
      | tail _ hmm => exact h4 a hmm
  have hw := svE_ok 1 (I1 (zs (gD m ph pt)))
  have hdd := Dv_or hgd
  have hA := fun k r r0 r1 hx => loop7a (H := H) (k := k) (v := v') (n := m.length) (r := r) (r0 := r0) (r1 := r1) hw hdd (by omega) hx (gD m ph pt).length 0
  have hB := fun k r0 r1 hx => loop7b (H := H) (k := k) (r0 := r0) (r1 := r1) (by omega) hv' hF hx (max m.length 1 - 1) 1
  have h0 : List.take 0 (gD m ph pt) = [] := rfl
  rw [h0] at hA
  have hmi : MI (zs []) = [] := rfl
  rw [hmi] at hA
  clear hF hdd hgd hn he hw
  unfold a7
  simp (config := { maxSteps := 10000000 }) (disch := omega) only [↓G_seq, ↓G_skip, ↓G_region, ↓G_block, ↓G_cond, ↓G_ops_nil, ↓G_op, Gv_some, ↓G_gop, Gw_ff, Gc_false, killAll, ↓get_setS, evalOp, ev, evs, Ab.get, b_neq, one, Option.map_some, Option.bind_some, Option.map_none, asB, callV, V.shift, V.shifts, List.append_nil, List.map_cons, List.map_nil, List.all_cons, List.all_nil, Bool.and_self, List.getElem?_cons_zero, List.getElem?_cons_succ, Nat.reduceEqDiff, reduceCtorEq, ↓reduceIte, Nat.succ_ne_self, decide_true, Bool.not_true, bne_self_eq_false, Bool.false_eq_true, Int.reduceAdd, pick3, V.cells, loadV, Ab.rowAt, rget, rset, V.scalar, mmV, Nat.reduceAdd, and_self, List.length_cons, List.length_nil, List.take_succ_cons, List.take_zero, List.drop_zero, Nat.le_refl, List.getD_cons_zero, Nat.zero_add, ti_bool, st_int, hlen, hs, c11, h14, hsh, out_take_tup, Nat.zero_lt_succ]
  refine hA _ _ _ _ (fun fr' g0 g7 => ?_) _ (by omega) ?_ ?_ ?_ ?_
  · clear hA
    simp (config := { maxSteps := 10000000 }) (disch := omega) only [↓G_seq, ↓G_region, ↓G_block, ↓Gx_blk, ↓G_ops_nil, ↓G_op, Gv_some, killAll, evalOp, ev, List.getElem?_cons_zero, List.getElem?_cons_succ, ↓reduceIte]
    refine hB _ _ _ (fun fr'' => ?_) _ (by omega) (by omega) ?_ ?_ ?_
    all_goals simp (config := { maxSteps := 10000000 }) (disch := omega) only [↓G_seq, ↓G_ret, ↓G_region, ↓Gx_blk, ↓G_ops_nil, ↓G_op, Gv_some, killAll, ↓get_setS, evalOp, ev, Option.map_some, Option.bind_some, finish, resVs, resV, outVs, ownsLast, tupOf, List.all_nil, List.getElem?_cons_zero, List.getElem?_cons_succ, Nat.reduceEqDiff, reduceCtorEq, ↓reduceIte, Int.cast_ofNat_Int, ov_bool, fn_some, g0, g7]
  all_goals simp (config := { maxSteps := 10000000 }) (disch := omega) only [↓get_setS, List.getElem?_cons_zero, List.getElem?_cons_succ, Nat.reduceEqDiff, reduceCtorEq, ↓reduceIte, Nat.succ_ne_self, Int.cast_ofNat_Int]

end Go.Proofs.Ytgghbckhdchcaaa

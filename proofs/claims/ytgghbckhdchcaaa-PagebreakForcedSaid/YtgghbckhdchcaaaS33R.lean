/-
  Page breaks: the law PagebreakTurns.
-/
import Derived.Test.YtgghbckhdchcaaaS33Q
namespace Go.Proofs.Ytgghbckhdchcaaa
open Go Go.Ab
set_option linter.unusedVariables false
set_option linter.unnecessarySimpa false
set_option linter.unusedSimpArgs false
set_option maxRecDepth 100000
variable {H : List (List Row)}
open Path (Ch)

theorem c21e {v w : V} {l : List Sy} {ph pt : Int} (hm : l.length ≤ 9223372036854775807) (he : errC l ph pt ≠ 0) (hv : SlV 4 v (E4 l)) (hwh : ∀ d, V.shift d w = w) : call tbl 21 [v, .agg [.i ph, .i pt], w] H = some (.tup [.nilsl, .nilsl, .i (errC l ph pt)]) := by
  refine (call_start (show tbl 21 = some a21 from rfl)).trans ?_
  have h12 := fun H => c12 (H := H) (ph := ph) (pt := pt) hm hv
  have hsh := hv.sh
  generalize errC l ph pt = e at *
  unfold a21
  simp (config := { maxSteps := 10000000 }) (disch := omega) only [↓G_seq, ↓G_ret, ↓G_region, ↓G_block, ↓G_cond, ↓G_ops_nil, ↓G_op, Gv_some, Gc_true, dec_f, killAll, ↓get_setS, evalOp, ev, evs, Ab.get, b_neq, one, Option.map_some, Option.bind_some, finish, resVs, resV, outVs, ownsLast, tupOf, callV, V.shift, V.shifts, List.append_nil, List.all_cons, List.all_nil, Bool.and_self, List.getElem?_cons_zero, List.getElem?_cons_succ, Nat.reduceEqDiff, reduceCtorEq, ↓reduceIte, Nat.succ_ne_self, Bool.not_false, bne_self_eq_false, Int.reduceAdd, pick3, V.cells, loadV, Ab.rowAt, rget, rset, V.scalar, Nat.reduceAdd, and_self, List.length_cons, List.length_nil, List.take_succ_cons, List.take_zero, List.drop_zero, Nat.le_refl, List.getD_cons_zero, Nat.zero_add, ti_int, ov_int, ov_nilsl, fn_some, hsh, h12, Nat.zero_lt_succ]

theorem c21n {v w : V} {l : List Sy} {ph pt : Int} {s : List Int} (hm : l.length ≤ 9223372036854775807) (hs : s.length ≤ 9223372036854775807) (he : errC l ph pt = 0) (hv : SlV 4 v (E4 l)) (hw : SlV 1 w (I1 s)) (hd : divR l.length s = false) :
    call tbl 21 [v, .agg [.i ph, .i pt], w] H = some (.tup [.nilsl, .nilsl, .i 25]) := by
  refine (call_start (show tbl 21 = some a21 from rfl)).trans ?_
  have hlv := hv.len
  rw [E4_len] at hlv
  have h12 := fun H => c12 (H := H) (ph := ph) (pt := pt) hm hv
  simp only [he] at h12
  have h30 := fun H => c30 (H := H) (n := (l.length : Nat)) (l := s) hs hw
  simp only [hd] at h30
  have hsh := hv.sh
  have hwh := hw.sh
  unfold a21
  simp (config := { maxSteps := 10000000 }) (disch := omega) only [↓G_seq, ↓G_ret, ↓G_region, ↓G_block, ↓G_cond, ↓G_ops_nil, ↓G_op, Gv_some, Gc_true, Gc_false, killAll, ↓get_setS, evalOp, ev, evs, Ab.get, b_neq, one, Option.map_some, Option.bind_some, asB, finish, resVs, resV, outVs, ownsLast, tupOf, callV, V.shift, V.shifts, List.append_nil, List.all_cons, List.all_nil, Bool.and_self, List.getElem?_cons_zero, List.getElem?_cons_succ, Nat.reduceEqDiff, reduceCtorEq, ↓reduceIte, Nat.succ_ne_self, decide_true, Bool.not_true, Bool.not_false, bne_self_eq_false, Int.reduceAdd, pick3, V.cells, loadV, Ab.rowAt, rget, rset, V.scalar, Nat.reduceAdd, and_self, List.length_cons, List.length_nil, List.take_succ_cons, List.take_zero, List.drop_zero, Nat.le_refl, List.getD_cons_zero, Nat.zero_add, ti_bool, ti_int, ov_int, ov_nilsl, fn_some, hlv, hsh, hwh, h12, h30, Nat.zero_lt_succ]

theorem page_le {l : List Sy} {ph pt : Int} (he : errC l ph pt = 0) : ∀ (d : List Nat) (s : Bool) (j a b : Nat), d.length ≤ 2000 → d[j]? = some a → d[j + 1]? = some b → tt l ph pt s d < inf → cst l ph pt a b (if j % 2 = 0 then s else !s) false ≤ tt l ph pt s d
  | [], s, j, a, b, _, h, _, _ => by simp at h
  | [x], s, j, a, b, _, _, h, _ => by simp at h
  | x :: y :: t, s, 0, a, b, hl, h1, h2, h3 => by
    simp only [List.getElem?_cons_zero, Option.some.injEq] at h1
    simp only [Nat.zero_add, List.getElem?_cons_succ, List.getElem?_cons_zero, Option.some.injEq] at h2
    subst h1 h2
    have e : tt l ph pt s (x :: y :: t) = Path.addI inf (cst l ph pt x y s false) (tt l ph pt (!s) (y :: t)) := rfl
    rw [e] at h3 ⊢
    have hb := tt_Bd he (y :: t) (!s) (by simp only [List.length_cons] at hl ⊢; omega)
    have := hinf
    unfold Bd at hb
    rw [if_pos (by omega)]
    unfold Path.addI at h3 ⊢
    split
    · rename_i h4
      rw [if_pos h4] at h3
      omega
    · rename_i h4
      omega
  | x :: y :: t, s, j + 1, a, b, hl, h1, h2, h3 => by
    have e : tt l ph pt s (x :: y :: t) = Path.addI inf (cst l ph pt x y s false) (tt l ph pt (!s) (y :: t)) := rfl
    rw [e] at h3 ⊢
    have hc := cst_pos he x y s false
    have h5 : Path.addI inf (cst l ph pt x y s false) (tt l ph pt (!s) (y :: t)) = cst l ph pt x y s false + tt l ph pt (!s) (y :: t) ∧ tt l ph pt (!s) (y :: t) < inf := by
      unfold Path.addI at h3 ⊢
      split
      · rename_i h4
        rw [if_pos h4] at h3
        omega
      · rename_i h4
        exact ⟨rfl, by omega⟩
    rw [h5.1]
    have := page_le he (y :: t) (!s) j a b (by simp only [List.length_cons] at hl ⊢; omega) (by simpa using h1) (by simpa using h2) h5.2
    have e2 : (if (j + 1) % 2 = 0 then s else !s) = (if j % 2 = 0 then !s else !(!s)) := by
      by_cases c : j % 2 = 0
      · rw [if_pos c, if_neg (by omega)]
      · rw [if_neg c, if_pos (by omega), Bool.not_not]
    rw [e2]
    omega

theorem rested {l : List Sy} {ph pt : Int} {d : List Nat} (he : errC l ph pt = 0) (hl : d.length ≤ 2000) (ht : tt l ph pt true d < 1048576) (hp : pt ≠ 0) {i : Nat} (hi : i < d.length / 2) : pt ≤ rsT l d (2 * i + 1) := by
  obtain ⟨a, ha⟩ : ∃ a, d[2 * i]? = some a := ⟨_, List.getElem?_eq_getElem (by omega)⟩
  obtain ⟨b, hb⟩ : ∃ b, d[2 * i + 1]? = some b := ⟨_, List.getElem?_eq_getElem (by omega)⟩
  have hinf' := hinf
  have h1 := page_le he d true (2 * i) a b hl ha hb (by omega)
  rw [if_pos (by omega)] at h1
  obtain ⟨_, h2, _⟩ := errC_ok he
  have hh := hgt_in (sl l a b) (fun x hx => errC_in he x (sl_mem hx))
  unfold rsT
  rw [hb, Option.getD_some]
  unfold cst costN at h1
  change _ ≤ _ at h1
  by_cases c : pt ≤ (l[b - 1]?.getD z0).r
  · exact c
  · exfalso
    have c' : (decide (0 < pt) && true && !false && decide ((l[b - 1]?.getD ⟨0, 0, 0, 0⟩).r < pt)) = true := by
      have h3 := h2.2.1
      rw [decide_eq_true (show 0 < pt by omega), decide_eq_true (show (l[b - 1]?.getD ⟨0, 0, 0, 0⟩).r < pt from by show (l[b - 1]?.getD z0).r < pt; omega)]
      rfl
    rw [c'] at h1
    split at h1
    · omega
    · by_cases c2 : ph < hgt (sl l a b)
      · rw [if_pos (decide_eq_true c2)] at h1
        simp only [if_true] at h1
        omega
      · rw [if_neg (by simpa using c2)] at h1
        have h3 := sq_in (left_in h2.1.1 (h := hgt (sl l a b)) (by omega) (by omega))
        simp only [if_true, Bool.false_eq_true, if_false] at h1
        omega

/-- The turns are where they should be. -/
theorem loop8a {k : List KI} {v w w7 w8 : V} {l : List Sy} {ph pt : Int} {d : List Nat} {r : Option V} {L : List Row} (hml : l.length ≤ 1024) (hv : SlV 4 v (E4 l)) (hw : SlV 1 w (I1 (zs d))) (hd : Dv l.length d) (h7 : SlV 1 w7 (I1 (zs (trT (d.length / 2))))) (h8 : SlV 1 w8 (B1 (trR l pt d (d.length / 2))))
    (hL : rget L 1 = ⟨1, 2, [[.i ph, .i pt]]⟩)
    (hx : ∀ fr', Ab.get fr' 0 = v → Ab.get fr' 4 = .ptr 0 1 1 0 0 → Gx tbl H [.tmp 6] 0 k fr' L = r) :
    ∀ (q i : Nat) (fr : List V), i + q = d.length / 2 → Ab.get fr 0 = v → Ab.get fr 2 = w → Ab.get fr 4 = .ptr 0 1 1 0 0 → Ab.get fr 7 = w7 → Ab.get fr 8 = w8 → Ab.get fr 11 = .i (i : Nat) →
      G tbl H [.tmp 6] (.code (.loop ( (.seq ( (.seq ( .region [] [ ⟨some 90, .mv (.t 11), none⟩, ⟨some 91, .mv (.t 7), none⟩, ⟨some 92, .len (.t 91), none⟩, ⟨some 93, .bin .lss (.t 90) (.t 92), none⟩]) ( (.cond (.t 93) ( .skip) ( .exit 0))))) ( (.seq ( (.block 1 ( (.seq ( .region [] [ ⟨some 96, .mv (.t 7), none⟩, ⟨some 97, .mv (.t 11), none⟩, ⟨some 98, .elemAddr 1 (.t 96) (.t 97), none⟩, ⟨some 99, .load false 1 (.t 98), none⟩, ⟨some 100, .mv (.t 11), none⟩, ⟨some 101, .bin .mul (.c (.int .i64 2)) (.t 100), none⟩, ⟨some 102, .bin .neq (.t 99) (.t 101), none⟩, ⟨some 103, .mv (.t 102), none⟩, ⟨some 104, .mv (.t 8), some (103, false)⟩, ⟨some 105, .mv (.t 11), some (103, false)⟩, ⟨some 106, .elemAddr 1 (.t 104) (.t 105), some (103, false)⟩, ⟨some 107, .load false 1 (.t 106), some (103, false)⟩, ⟨some 108, .mv (.t 0), some (103, false)⟩, ⟨some 109, .mv (.t 2), some (103, false)⟩, ⟨some 110, .mv (.t 11), some (103, false)⟩, ⟨some 111, .bin .mul (.c (.int .i64 2)) (.t 110), some (103, false)⟩, ⟨some 112, .bin .add (.t 111) (.c (.int .i64 1)), some (103, false)⟩, ⟨some 113, .elemAddr 1 (.t 109) (.t 112), some (103, false)⟩, ⟨some 114, .load false 1 (.t 113), some (103, false)⟩, ⟨some 115, .bin .sub (.t 114) (.c (.int .i64 1)), some (103, false)⟩, ⟨some 116, .elemAddr 4 (.t 108) (.t 115), some (103, false)⟩, ⟨some 117, .fieldAddr 2 (.t 116), some (103, false)⟩, ⟨some 118, .load false 1 (.t 117), some (103, false)⟩, ⟨some 119, .fieldAddr 1 (.t 4), some (103, false)⟩, ⟨some 120, .load false 1 (.t 119), some (103, false)⟩, ⟨some 121, .bin .geq (.t 118) (.t 120), some (103, false)⟩, ⟨some 122, .eqb true (.t 107) (.t 121), some (103, false)⟩, ⟨some 123, .pick (.t 103) (.c (.bool true)) (.t 122), none⟩]) ( (.cond (.t 123) ( (.seq ( .region [] [ ⟨some 6, .mv (.c (.bool false)), none⟩]) ( .ret))) ( .skip))))))) ( .region [] [ ⟨some 94, .mv (.t 11), none⟩, ⟨some 95, .bin .add (.t 94) (.c (.int .i64 1)), none⟩, ⟨some 11, .mv (.t 95), none⟩])))))) :: k) fr L = r := by
  intro q
  have hl7 := h7.len
  rw [I1_len, zs_len, trT_len] at hl7
  have hdl := Dv_len hd
  induction q with
  | zero =>
    intro i fr hi g0 g2 g4 g7 g8 g11
    obtain rfl : i = d.length / 2 := by omega
    refine G_loop.trans ?_
    simp (config := { maxSteps := 10000000 }) (disch := omega) only [↓G_seq, ↓G_exit, ↓G_region, ↓G_cond, ↓Gx_code, ↓G_ops_nil, ↓G_op, Gv_some, Gc_false, dec_f, killAll, ↓get_setS, evalOp, ev, b_lss, one, Option.map_some, List.getElem?_cons_zero, List.getElem?_cons_succ, Nat.reduceEqDiff, ↓reduceIte, Nat.succ_ne_self, g7, g11, hl7]
    refine hx _ ?_ ?_
    all_goals simp (config := { maxSteps := 10000000 }) (disch := omega) only [↓get_setS, List.getElem?_cons_zero, List.getElem?_cons_succ, Nat.reduceEqDiff, reduceCtorEq, ↓reduceIte, g0, g4]
  | succ q ih =>
    intro i fr hi g0 g2 g4 g7 g8 g11
    obtain ⟨b, hb⟩ : ∃ b, d[2 * i + 1]? = some b := ⟨_, List.getElem?_eq_getElem (by omega)⟩
    have hbb : 1 ≤ b ∧ b < l.length := by
      rcases hd with ⟨_, h⟩ | ⟨t, h, h'⟩
      · rw [h] at hb
        simp at hb
      · rw [h] at hb h'
        have := isD_ge t 0 (2 * i + 1) b h' hb
        omega
    obtain ⟨z, hz⟩ : ∃ z, l[b - 1]? = some z := ⟨_, List.getElem?_eq_getElem (by omega)⟩
    have hE := hw.el (I1_get _ (2 * i + 1) _ (zs_get hb))
    rw [show ((2 * i + 1 : Nat) : Int) = 2 * (i : Nat) + 1 by omega] at hE
    have hE2 := hv.el (E4_get l (b - 1) z hz)
    rw [show ((b - 1 : Nat) : Int) = (b : Nat) - 1 by omega] at hE2
    have hr : rsT l d (2 * i + 1) = z.r := by
      unfold rsT
      rw [hb, Option.getD_some, hz, Option.getD_some]
    have hE7 := h7.el (I1_get _ i _ (zs_get (trT_get (m := d.length / 2) (i := i) (by omega))))
    rw [show ((2 * i : Nat) : Int) = 2 * (i : Nat) by omega] at hE7
    have hE8 := h8.el (B1_get (trR_get (l := l) (pt := pt) (d := d) (m := d.length / 2) (i := i) (by omega)))
    rw [hr] at hE8
    have nx := fun fr' => ih (i + 1) fr' (by omega)
    clear ih hx hd hv hw h7 h8
    refine G_loop.trans ?_
    by_cases c : pt ≤ z.r
    · rw [decide_eq_true c] at hE8
      simp (config := { maxSteps := 10000000 }) (disch := omega) only [beq_self_eq_true, ↓G_seq, ↓G_skip, ↓G_blk, ↓G_region, ↓G_block, ↓G_cond, ↓G_ops_nil, ↓G_op, Gv_some, ↓G_gop, Gw_ff, Gc_true, Gc_false, dec_t, killAll, ↓get_setS, evalOp, ev, b_add, b_sub, b_mul, b_neq, b_lss, b_geq, wrap_i64, one, Option.map_some, Option.bind_some, asB, V.shift, Bool.and_self, List.getElem?_cons_zero, List.getElem?_cons_succ, Nat.reduceEqDiff, reduceCtorEq, ↓reduceIte, Nat.succ_ne_self, decide_true, Bool.not_true, Bool.false_eq_true, pick3, addOff, loadV, Ab.rowAt, and_self, List.getD_cons_zero, Nat.zero_add, g0, g2, g4, g7, g8, g11, hl7, hE, hE2, hE7, hE8, hL, Nat.zero_lt_succ]
      refine nx _ ?_ ?_ ?_ ?_ ?_ ?_
      all_goals simp (config := { maxSteps := 10000000 }) (disch := omega) only [↓get_setS, List.getElem?_cons_zero, List.getElem?_cons_succ, Nat.reduceEqDiff, reduceCtorEq, ↓reduceIte, g0, g2, g4, g7, g8]
      congr 1
    · rw [decide_eq_false c] at hE8
      simp (config := { maxSteps := 10000000 }) (disch := omega) only [beq_self_eq_true, ↓G_seq, ↓G_skip, ↓G_blk, ↓G_region, ↓G_block, ↓G_cond, ↓G_ops_nil, ↓G_op, Gv_some, ↓G_gop, Gw_ff, Gc_true, Gc_false, dec_t, dec_f, killAll, ↓get_setS, evalOp, ev, b_add, b_sub, b_mul, b_neq, b_lss, b_geq, wrap_i64, one, Option.map_some, Option.bind_some, asB, V.shift, Bool.and_self, List.getElem?_cons_zero, List.getElem?_cons_succ, Nat.reduceEqDiff, reduceCtorEq, ↓reduceIte, Nat.succ_ne_self, decide_true, Bool.not_true, Bool.false_eq_true, pick3, addOff, loadV, Ab.rowAt, and_self, List.getD_cons_zero, Nat.zero_add, g0, g2, g4, g7, g8, g11, hl7, hE, hE2, hE7, hE8, hL, Nat.zero_lt_succ]
      refine nx _ ?_ ?_ ?_ ?_ ?_ ?_
      all_goals simp (config := { maxSteps := 10000000 }) (disch := omega) only [↓get_setS, List.getElem?_cons_zero, List.getElem?_cons_succ, Nat.reduceEqDiff, reduceCtorEq, ↓reduceIte, g0, g2, g4, g7, g8]
      congr 1

theorem loop8b {k : List KI} {w : V} {B : List Bool} {r : Option V} {L : List Row} (hw : SlV 1 w (B1 B)) (hB : ∀ i, i < B.length → B[i]? = some true) (hl : B.length ≤ 1024)
    (hx : ∀ fr', Ab.get fr' 16 = .i 0 → Gx tbl H [.tmp 6] 2 k fr' L = r) :
    ∀ (q i : Nat) (fr : List V), i + q = B.length → Ab.get fr 15 = w → Ab.get fr 16 = .i 0 → Ab.get fr 17 = .i (i : Nat) →
      G tbl H [.tmp 6] (.code (.loop ( (.seq ( (.seq ( .region [] [ ⟨some 167, .mv (.t 17), none⟩, ⟨some 168, .mv (.t 15), none⟩, ⟨some 169, .len (.t 168), none⟩, ⟨some 170, .bin .lss (.t 167) (.t 169), none⟩]) ( (.cond (.t 170) ( .skip) ( .exit 2))))) ( (.seq ( (.block 3 ( (.seq ( .region [] [ ⟨some 173, .mv (.t 15), none⟩, ⟨some 174, .mv (.t 17), none⟩, ⟨some 175, .elemAddr 1 (.t 173) (.t 174), none⟩, ⟨some 176, .load false 1 (.t 175), none⟩, ⟨some 177, .not (.t 176), none⟩]) ( (.cond (.t 177) ( (.seq ( .region [] [ ⟨some 6, .mv (.c (.bool false)), none⟩]) ( .ret))) ( .skip))))))) ( .region [] [ ⟨some 171, .mv (.t 17), none⟩, ⟨some 172, .bin .add (.t 171) (.c (.int .i64 1)), none⟩, ⟨some 17, .mv (.t 172), none⟩])))))) :: k) fr L = r := by
  intro q
  have hlw := hw.len
  rw [B1_len] at hlw
  induction q with
  | zero =>
    intro i fr hi g15 g16 g17
    obtain rfl : i = B.length := by omega
    refine G_loop.trans ?_
    simp (config := { maxSteps := 10000000 }) (disch := omega) only [↓G_seq, ↓G_exit, ↓G_region, ↓G_cond, ↓Gx_code, ↓G_ops_nil, ↓G_op, Gv_some, Gc_false, dec_f, killAll, ↓get_setS, evalOp, ev, b_lss, one, Option.map_some, List.getElem?_cons_zero, List.getElem?_cons_succ, Nat.reduceEqDiff, ↓reduceIte, Nat.succ_ne_self, g15, g17, hlw]
    refine hx _ ?_
    simp (config := { maxSteps := 10000000 }) (disch := omega) only [↓get_setS, List.getElem?_cons_zero, List.getElem?_cons_succ, Nat.reduceEqDiff, ↓reduceIte, g16]
  | succ q ih =>
    intro i fr hi g15 g16 g17
    have hE := hw.el (B1_get (hB i (by omega)))
    have nx := fun fr' => ih (i + 1) fr' (by omega)
    clear ih hx hw hB
    refine G_loop.trans ?_
    simp (config := { maxSteps := 10000000 }) (disch := omega) only [↓G_seq, ↓G_skip, ↓G_blk, ↓G_region, ↓G_block, ↓G_cond, ↓G_ops_nil, ↓G_op, Gv_some, Gc_true, Gc_false, dec_t, killAll, ↓get_setS, evalOp, ev, b_add, b_lss, wrap_i64, one, Option.map_some, asB, List.getElem?_cons_zero, List.getElem?_cons_succ, Nat.reduceEqDiff, ↓reduceIte, Nat.succ_ne_self, Bool.not_true, Bool.false_eq_true, pick3, loadV, g15, g17, hlw, hE]
    refine nx _ ?_ ?_ ?_
    all_goals simp (config := { maxSteps := 10000000 }) (disch := omega) only [↓get_setS, List.getElem?_cons_zero, List.getElem?_cons_succ, Nat.reduceEqDiff, ↓reduceIte, Nat.succ_ne_self, g15, g16]
    congr 1

/-- What Break returns, in two cases. -/
def noneR (l : List Sy) (ph pt : Int) : Prop := 0 < l.length ∧ inf ≤ (tabN l ph pt 0 true).c
def gD (l : List Sy) (ph pt : Int) : List Nat := if l.length = 0 then [] else bestD l ph pt
theorem brk_none {l : List Sy} {ph pt : Int} (h : noneR l ph pt) : brkR l ph pt = .tup [.nilsl, .i 28] := by
  unfold brkR
  rw [if_neg (by have := h.1; omega), if_pos h.2]
theorem brk_ok {l : List Sy} {ph pt : Int} (h : ¬ noneR l ph pt) : brkR l ph pt = .tup [outAcc 1 (I1 (zs (gD l ph pt))), .i 0] := by
  unfold brkR gD
  by_cases h0 : l.length = 0
  · rw [if_pos h0, if_pos h0]
    rfl
  · rw [if_neg h0, if_neg h0, if_neg (fun e => h ⟨by omega, e⟩)]
theorem gD_Dv {l : List Sy} {ph pt : Int} (he : errC l ph pt = 0) (h : ¬ noneR l ph pt) : Dv l.length (gD l ph pt) := by
  unfold gD
  by_cases h0 : l.length = 0
  · rw [if_pos h0]
    exact .inl ⟨h0, rfl⟩
  · rw [if_neg h0]
    obtain ⟨⟨q, a1⟩, a2, _⟩ := (bestD_ok he (by omega)).2 (Int.not_le.1 (fun e => h ⟨by omega, e⟩))
    exact .inr ⟨q, a1, a2⟩

set_option maxHeartbeats 4000000 in
theorem l8 {v w : V} {l : List Sy} {ph pt : Int} {s : List Int} (hm : l.length ≤ 9223372036854775807) (hsm : s.length ≤ 9223372036854775807) (hv : SlV 4 v (E4 l)) (hw : SlV 1 w (I1 s)) : call tbl 8 [v, .agg [.i ph, .i pt], w] H = some (.bool true) := by
  refine (call_start (show tbl 8 = some a8 from rfl)).trans ?_
  have hlen := hv.len
  rw [E4_len] at hlen
  have hlenw := hw.len
  rw [I1_len] at hlenw
  obtain ⟨v', m, hs, hv', hml, _⟩ := cut hv 9
  obtain ⟨w', q, hsw, hw', hql, _⟩ := cut1 hw 9
  simp only [Int.cast_ofNat_Int] at hs hsw
  have hlen' := hv'.len
  rw [E4_len] at hlen'
  have hm' : m.length ≤ 9223372036854775807 := by omega
  have hq' : q.length ≤ 9223372036854775807 := by omega
  have h13 := fun H => c13 (H := H) (ph := ph) (pt := pt) hm' hv'
  have h18 := fun H => c18 (H := H) (n := (m.length : Nat)) hq' (by omega) hw'
  have hsh := hv'.sh
  have hwh := hw'.sh
  by_cases he : errC m ph pt = 0
  case neg =>
    have h21 := fun H => c21e (H := H) hm' he hv' hwh
    generalize errC m ph pt = e at *
    clear h18
    unfold a8
    simp (config := { maxSteps := 10000000 }) (disch := omega) only [↓G_seq, ↓G_skip, ↓G_ret, ↓G_region, ↓G_cond, ↓G_ops_nil, ↓G_op, Gv_some, ↓G_gop, Gw_tt, Gc_true, Gc_false, dec_f, killAll, ↓get_setS, evalOp, ev, evs, Ab.get, b_eql, b_neq, one, Option.map_some, Option.bind_some, Option.map_none, asB, finish, resVs, resV, outVs, ownsLast, tupOf, callV, V.shift, V.shifts, List.append_nil, List.map_cons, List.map_nil, List.all_cons, List.all_nil, Bool.and_self, List.getElem?_cons_zero, List.getElem?_cons_succ, Nat.reduceEqDiff, reduceCtorEq, ↓reduceIte, Nat.succ_ne_self, decide_true, Bool.not_true, Bool.not_false, bne_self_eq_false, Bool.false_eq_true, Int.reduceAdd, pick3, V.cells, loadV, Ab.rowAt, rget, rset, V.scalar, mmV, Nat.reduceAdd, and_self, List.length_cons, List.length_nil, List.take_succ_cons, List.take_zero, List.drop_zero, Nat.le_refl, List.getD_cons_zero, Nat.zero_add, len_nil, ti_bool, ti_int, ti_tup_nilsl, st_int, st_nilsl, ov_bool, fn_some, hlen, hlenw, hs, hsw, c11, h13, h21, hsh, hwh, Nat.zero_lt_succ]
    done
  simp only [he] at h13
  by_cases hd : divR m.length q = true
  case neg =>
    simp only [Bool.not_eq_true] at hd
    have h21 := fun H => c21n (H := H) hm' hq' he hv' hw' hd
    rw [hd] at h18
    unfold a8
    simp (config := { maxSteps := 10000000 }) (disch := omega) only [↓G_seq, ↓G_skip, ↓G_ret, ↓G_region, ↓G_cond, ↓G_ops_nil, ↓G_op, Gv_some, ↓G_gop, Gw_tt, Gc_true, Gc_false, killAll, ↓get_setS, evalOp, ev, evs, Ab.get, b_eql, b_neq, one, Option.map_some, Option.bind_some, Option.map_none, asB, finish, resVs, resV, outVs, ownsLast, tupOf, callV, V.shift, V.shifts, List.append_nil, List.map_cons, List.map_nil, List.all_cons, List.all_nil, Bool.and_self, List.getElem?_cons_zero, List.getElem?_cons_succ, Nat.reduceEqDiff, reduceCtorEq, ↓reduceIte, Nat.succ_ne_self, decide_true, Bool.not_true, Bool.not_false, bne_self_eq_false, Bool.false_eq_true, Int.reduceAdd, pick3, V.cells, loadV, Ab.rowAt, rget, rset, V.scalar, mmV, Nat.reduceAdd, and_self, List.length_cons, List.length_nil, List.take_succ_cons, List.take_zero, List.drop_zero, Nat.le_refl, List.getD_cons_zero, Nat.zero_add, len_nil, ti_bool, ti_int, ti_tup_nilsl, st_int, st_nilsl, ov_bool, fn_some, hlen, hlenw, hs, hsw, c11, h13, h21, h18, hsh, hwh, hlen', Nat.zero_lt_succ]
    done
  rw [hd] at h18
  obtain ⟨d, hqd, hdv⟩ := divR_Dv hd
  subst hqd
  have h21 := fun H => c21 (H := H) hm' he hv' hw' hdv
  have hlw' := hw'.len
  rw [I1_len, zs_len] at hlw'
  have hzl := zs_len d
  have hl7 := (svE_ok 1 (I1 (zs (trT (d.length / 2))))).len
  rw [I1_len, zs_len, trT_len] at hl7
  have hl8 := (svE_ok 1 (B1 (trR m pt d (d.length / 2)))).len
  rw [B1_len, trR_len] at hl8
  have ht7 := fun keep L s vs => (svE_ok 1 (I1 (zs (trT (d.length / 2))))).ti_tup keep L s vs
  have ht8 := (svE_ok 1 (B1 (trR m pt d (d.length / 2)))).st
  have hq2 : ((d.length : Nat) : Int).tdiv 2 = ((d.length / 2 : Nat) : Int) := by rw [tdiv_pos (by omega)]; omega
  have h14 := fun H => c14 (H := H) hm' he hv'
  have hmain := fun k r hx => loop8a (H := H) (k := k) (r := r) (ph := ph) (L := [⟨0, 0, []⟩, ⟨1, 2, [[.i ph, .i pt]]⟩]) (show m.length ≤ 1024 by omega) hv' hw' hdv (svE_ok 1 (I1 (zs (trT (d.length / 2))))) (svE_ok 1 (B1 (trR m pt d (d.length / 2)))) rfl hx (d.length / 2) 0
  generalize svE 1 (I1 (zs (trT (d.length / 2)))) = x7 at *
  generalize svE 1 (B1 (trR m pt d (d.length / 2))) = x8 at *
  unfold a8
  simp (config := { maxSteps := 10000000 }) (disch := omega) only [↓G_seq, ↓G_skip, ↓G_region, ↓G_block, ↓G_cond, ↓G_ops_nil, ↓G_op, Gv_some, ↓G_gop, Gw_ff, Gc_false, killAll, ↓get_setS, evalOp, ev, evs, Ab.get, b_neq, b_quo, wrap_i64, one, Option.map_some, Option.bind_some, Option.map_none, asB, callV, V.shift, V.shifts, List.append_nil, List.map_cons, List.map_nil, List.all_cons, List.all_nil, Bool.and_self, List.getElem?_cons_zero, List.getElem?_cons_succ, Nat.reduceEqDiff, reduceCtorEq, ↓reduceIte, Nat.succ_ne_self, decide_true, Bool.not_true, bne_self_eq_false, Bool.false_eq_true, Int.reduceAdd, pick3, V.cells, loadV, Ab.rowAt, rget, rset, V.scalar, mmV, Nat.reduceAdd, and_self, List.length_cons, List.length_nil, List.take_succ_cons, List.take_zero, List.drop_zero, Nat.le_refl, List.getD_cons_zero, Nat.zero_add, ti_bool, ti_int, st_int, hlen, hlenw, hs, hsw, c11, h13, h21, h18, hsh, hwh, hlen', hlw', hl7, hl8, ht7, ht8, hq2, Nat.zero_lt_succ]
  refine hmain _ _ (fun fr' g0 g4 => ?_) _ (by omega) ?_ ?_ ?_ ?_ ?_ ?_
  · clear hmain
    by_cases hn : noneR m ph pt
    · simp only [brk_none hn] at h14
      simp (config := { maxSteps := 10000000 }) (disch := omega) only [↓G_seq, ↓G_ret, ↓G_region, ↓G_cond, ↓Gx_blk, ↓G_ops_nil, ↓G_op, Gv_some, ↓G_gop, Gw_ft, Gc_true, killAll, ↓get_setS, evalOp, ev, evs, b_neq, one, Option.map_some, Option.bind_some, asB, finish, resVs, resV, outVs, ownsLast, tupOf, callV, V.shift, V.shifts, List.append_nil, List.map_cons, List.map_nil, List.all_nil, Bool.and_self, List.getElem?_cons_zero, List.getElem?_cons_succ, Nat.reduceEqDiff, ↓reduceIte, Nat.succ_ne_self, decide_false, Bool.not_false, bne_self_eq_false, Int.reduceAdd, Int.reduceEq, pick3, loadV, Ab.rowAt, rget, Nat.reduceAdd, and_self, List.length_cons, List.length_nil, List.take_succ_cons, List.take_zero, List.drop_zero, Nat.le_refl, List.getD_cons_zero, Nat.zero_add, ti_tup_nilsl, st_int, st_nilsl, ov_bool, fn_some, g0, g4, h14, hsh, Nat.zero_lt_succ]
      done
    have hgd := gD_Dv he hn
    simp only [brk_ok hn] at h14
    have hgl := Dv_len hgd
    have hgz := zs_len (gD m ph pt)
    have h18g := fun H => c18 (H := H) (l := zs (gD m ph pt)) (n := (m.length : Nat)) (by omega) (by omega) (svE_ok 1 (I1 (zs (gD m ph pt))))
    simp only [Dv_divR hgd] at h18g
    have h19g := fun H => c19 (H := H) he hv' (svE_ok 1 (I1 (zs (gD m ph pt)))) hgd
    have h21g := fun H => c21 (H := H) hm' he hv' (svE_ok 1 (I1 (zs (gD m ph pt)))) hgd
    have hgs := (svE_ok 1 (I1 (zs (gD m ph pt)))).sh
    have hrest := fun ht hp (i : Nat) hi => rested (d := gD m ph pt) he (by omega) ht hp (i := i) hi
    by_cases hbig : 1048576 ≤ tt m ph pt true (gD m ph pt)
    · clear hrest h21g
      generalize tt m ph pt true (gD m ph pt) = T at *
      simp (config := { maxSteps := 10000000 }) (disch := omega) only [↓G_seq, ↓G_ret, ↓G_region, ↓G_cond, ↓Gx_blk, ↓G_ops_nil, ↓G_op, Gv_some, ↓G_gop, Gw_ff, Gw_ft, Gc_true, dec_t, killAll, ↓get_setS, evalOp, ev, evs, b_neq, b_geq, one, Option.map_some, Option.bind_some, asB, finish, resVs, resV, outVs, ownsLast, tupOf, callV, V.shift, V.shifts, List.append_nil, List.map_cons, List.map_nil, List.all_nil, Bool.and_self, List.getElem?_cons_zero, List.getElem?_cons_succ, Nat.reduceEqDiff, reduceCtorEq, ↓reduceIte, Nat.succ_ne_self, decide_true, Bool.not_true, bne_self_eq_false, Bool.false_eq_true, Int.reduceAdd, pick3, loadV, Ab.rowAt, rget, Nat.reduceAdd, and_self, List.length_cons, List.length_nil, List.take_succ_cons, List.take_zero, List.drop_zero, Nat.le_refl, List.getD_cons_zero, Nat.zero_add, ti_bool, ti_int, st_int, ov_bool, fn_some, g0, g4, h14, h18g, h19g, hgs, hsh, hlen', out_take_tup, Nat.zero_lt_succ]
      done
    by_cases hp0 : pt = 0
    · subst hp0
      clear hrest h21g
      generalize tt m ph 0 true (gD m ph 0) = T at *
      simp (config := { maxSteps := 10000000 }) (disch := omega) only [↓G_seq, ↓G_ret, ↓G_region, ↓G_cond, ↓Gx_blk, ↓G_ops_nil, ↓G_op, Gv_some, ↓G_gop, Gw_ff, Gc_true, dec_f, killAll, ↓get_setS, evalOp, ev, evs, b_eql, b_neq, b_geq, one, Option.map_some, Option.bind_some, asB, finish, resVs, resV, outVs, ownsLast, tupOf, callV, V.shift, V.shifts, List.append_nil, List.map_cons, List.map_nil, List.all_nil, Bool.and_self, List.getElem?_cons_zero, List.getElem?_cons_succ, Nat.reduceEqDiff, reduceCtorEq, ↓reduceIte, Nat.succ_ne_self, decide_true, Bool.not_true, bne_self_eq_false, Bool.false_eq_true, Int.reduceAdd, pick3, addOff, loadV, Ab.rowAt, rget, Nat.reduceAdd, and_self, List.length_cons, List.length_nil, List.take_succ_cons, List.take_zero, List.drop_zero, Nat.le_refl, List.getD_cons_zero, Nat.zero_add, ti_bool, ti_int, st_int, ov_bool, fn_some, g0, g4, h14, h18g, h19g, hgs, hsh, hlen', out_take_tup, Nat.zero_lt_succ]
      done
    have hrt := hrest (by omega) hp0
    have hl8g : ∀ i, i < (trR m pt (gD m ph pt) ((gD m ph pt).length / 2)).length → (trR m pt (gD m ph pt) ((gD m ph pt).length / 2))[i]? = some true := by
      intro i hi
      rw [trR_len] at hi
      rw [trR_get hi, decide_eq_true (hrt i hi)]
    have hfin := fun k r hx => loop8b (H := H) (k := k) (r := r) (L := [⟨0, 0, []⟩, ⟨1, 2, [[.i ph, .i pt]]⟩]) (svE_ok 1 (B1 (trR m pt (gD m ph pt) ((gD m ph pt).length / 2)))) hl8g (by rw [trR_len]; omega) hx ((trR m pt (gD m ph pt) ((gD m ph pt).length / 2)).length) 0
    have ht7g := fun keep L s vs => (svE_ok 1 (I1 (zs (trT ((gD m ph pt).length / 2))))).ti_tup keep L s vs
    have ht8g := (svE_ok 1 (B1 (trR m pt (gD m ph pt) ((gD m ph pt).length / 2)))).st
    clear hrest hl8g hrt
    generalize tt m ph pt true (gD m ph pt) = T at *
    generalize svE 1 (I1 (zs (trT ((gD m ph pt).length / 2)))) = y7 at *
    generalize svE 1 (B1 (trR m pt (gD m ph pt) ((gD m ph pt).length / 2))) = y8 at *
    simp (config := { maxSteps := 10000000 }) (disch := omega) only [↓G_seq, ↓G_skip, ↓G_region, ↓G_block, ↓G_cond, ↓Gx_blk, ↓G_ops_nil, ↓G_op, Gv_some, ↓G_gop, Gw_ff, Gc_false, dec_f, killAll, ↓get_setS, evalOp, ev, evs, b_eql, b_neq, b_geq, one, Option.map_some, Option.bind_some, asB, callV, V.shift, V.shifts, List.append_nil, List.map_cons, List.map_nil, Bool.and_self, List.getElem?_cons_zero, List.getElem?_cons_succ, Nat.reduceEqDiff, reduceCtorEq, ↓reduceIte, Nat.succ_ne_self, decide_true, Bool.not_true, bne_self_eq_false, Bool.false_eq_true, Int.reduceAdd, pick3, addOff, loadV, Ab.rowAt, rget, Nat.reduceAdd, and_self, List.length_cons, List.length_nil, List.take_succ_cons, List.take_zero, List.drop_zero, Nat.le_refl, List.getD_cons_zero, Nat.zero_add, ti_bool, ti_int, st_int, g0, g4, h14, h18g, h19g, h21g, ht7g, ht8g, hgs, hsh, hlen', out_take_tup, Nat.zero_lt_succ]
    refine hfin _ _ (fun fr'' g16 => ?_) _ (by omega) ?_ ?_ ?_
    · simp (config := { maxSteps := 10000000 }) (disch := omega) only [↓G_seq, ↓G_ret, ↓G_region, ↓Gx_blk, ↓G_ops_nil, ↓G_op, Gv_some, killAll, ↓get_setS, evalOp, ev, b_eql, one, Option.map_some, Option.bind_some, finish, resVs, resV, outVs, ownsLast, tupOf, List.all_nil, List.getElem?_cons_zero, List.getElem?_cons_succ, ↓reduceIte, decide_true, ov_bool, fn_some, g16]
    all_goals simp (config := { maxSteps := 10000000 }) (disch := omega) only [↓get_setS, List.getElem?_cons_zero, List.getElem?_cons_succ, Nat.reduceEqDiff, ↓reduceIte, Nat.succ_ne_self, Int.cast_ofNat_Int]
  all_goals simp (config := { maxSteps := 10000000 }) (disch := omega) only [↓get_setS, List.getElem?_cons_zero, List.getElem?_cons_succ, Nat.reduceEqDiff, reduceCtorEq, ↓reduceIte, Nat.succ_ne_self, Int.cast_ofNat_Int]

end Go.Proofs.Ytgghbckhdchcaaa

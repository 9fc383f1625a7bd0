/-
  Line breaks: the laws Fits and Forced.
-/
import Derived.Test.YtdgifbmimfnmlaaS32G
namespace Go.Proofs.Ytdgifbmimfnmlaa
open Go Go.Ab
set_option linter.unusedVariables false
set_option linter.unnecessarySimpa false
set_option linter.unusedSimpArgs false
set_option maxRecDepth 100000
variable {H : List (List Row)}
open Path (Ch)

theorem c21 {v : V} {l : List Me} {a b : Nat} (he : errL l = 0) (hab : a < b) (hb : b ≤ l.length) (hv : SlV 5 v (E5 l)) : call tbl 21 [v, .i (a : Nat), .i ((b : Nat) - 1 : Int)] H = some (.tup [.i (mn l a b), .i (nt l a b), .i 0]) := by
  obtain ⟨hl0, hl1, _⟩ := errL_ok he
  have hlv := hv.len
  rw [E5_len] at hlv
  have hsh := hv.sh
  have h33 : ∀ H, call tbl 33 [v, .i (a : Nat), .i ((b : Nat) - 1 : Int)] H = some (.i 0) := by
    intro H
    refine (call_start (show tbl 33 = some a33 from rfl)).trans ?_
    have h35 := fun H => c35 (H := H) (by omega) hv
    simp only [he] at h35
    unfold a33
    simp (config := { maxSteps := 10000000 }) (disch := omega) only [↓G_seq, ↓G_skip, ↓G_ret, ↓G_region, ↓G_cond, ↓G_ops_nil, ↓G_op, Gv_some, ↓G_gop, Gw_ff, Gc_false, dec_f, killAll, ↓get_setS, evalOp, ev, evs, Ab.get, b_neq, b_lss, b_geq, one, Option.map_some, Option.bind_some, asB, finish, resVs, resV, outVs, ownsLast, tupOf, callV, V.shifts, List.append_nil, List.all_nil, List.getElem?_cons_zero, List.getElem?_cons_succ, Nat.reduceEqDiff, reduceCtorEq, ↓reduceIte, Nat.succ_ne_self, decide_true, Bool.not_true, bne_self_eq_false, Bool.false_eq_true, ti_int, ov_int, fn_some, h35, hlv, hsh]
  refine (call_start (show tbl 21 = some a21 from rfl)).trans ?_
  have h30 := fun H => c30 (H := H) he hab hb hv
  unfold a21
  simp (config := { maxSteps := 10000000 }) (disch := omega) only [↓G_seq, ↓G_skip, ↓G_ret, ↓G_region, ↓G_cond, ↓G_ops_nil, ↓G_op, Gv_some, Gc_false, killAll, ↓get_setS, evalOp, ev, evs, Ab.get, b_neq, one, Option.map_some, Option.bind_some, finish, resVs, resV, outVs, ownsLast, tupOf, callV, V.shift, V.shifts, List.append_nil, List.map_cons, List.map_nil, List.all_cons, List.all_nil, Bool.and_self, List.getElem?_cons_zero, List.getElem?_cons_succ, Nat.reduceEqDiff, reduceCtorEq, ↓reduceIte, Nat.succ_ne_self, decide_true, Bool.not_true, bne_self_eq_false, and_self, ti_int, ti_tup_int, st_int, ov_int, fn_some, h30, h33, hsh]
theorem c21' {v : V} {l : List Me} {a : Nat} (he : errL l = 0) (ha : a < l.length) (hv : SlV 5 v (E5 l)) : call tbl 21 [v, .i (a : Nat), .i (a : Nat)] H = some (.tup [.i (mn l a (a + 1)), .i (nt l a (a + 1)), .i 0]) := by
  have h := c21 (H := H) he (Nat.lt_succ_self a) ha hv
  rw [show ((a + 1 : Nat) : Int) - 1 = (a : Nat) by omega] at h
  exact h

/-- Every measure on a line alone. -/
theorem ups {l : List Me} {w d : Int} (he : errL l = 0) (hp : inP w d) (hfit : ∀ i s, l[i]? = some s → mn l i (i + 1) ≤ w - d ∧ ¬ s.b = 3) :
    ∀ (k i : Nat), i + k + 1 = l.length → ∃ D, Path.isD l.length (i :: D) ∧ D.length = k ∧ 0 ≤ tt l w d true (i :: D) ∧ tt l w d true (i :: D) ≤ (k + 1) * 100000100 := by
  have one : ∀ i, i < l.length → 0 ≤ cst l (room w d i) i (i + 1) ∧ cst l (room w d i) i (i + 1) ≤ 100000100 := by
    intro i hi
    obtain ⟨s, hs⟩ : ∃ s, l[i]? = some s := ⟨_, List.getElem?_eq_getElem hi⟩
    obtain ⟨f1, f2⟩ := hfit i s hs
    have hwid := wid_in he (show i < i + 1 by omega) hi
    have hr : w - d ≤ room w d i ∧ room w d i ≤ 16777216 := by
      unfold inP at hp
      unfold room
      split <;> omega
    unfold cst
    rw [if_neg (by
      unfold pos
      rw [hs, Option.getD_some, decide_eq_false f2, sl_nil (Nat.le_refl _)]
      simp)]
    split
    · omega
    · have hB : inB (room w d i) (mn l i (i + 1)) (nt l i (i + 1)) := by unfold inB; omega
      rw [if_pos hB]
      have := badN_in hB
      omega
  intro k
  have hinf' := hinf
  obtain ⟨_, hl1, _⟩ := errL_ok he
  induction k with
  | zero =>
    intro i hi
    have o := one i (by omega)
    refine ⟨[], show i < l.length by omega, rfl, ?_, ?_⟩
    all_goals
      rw [show tt l w d true [i] = cst l (room w d i) i l.length from rfl, ← show i + 1 = l.length by omega]
      omega
  | succ k ih =>
    intro i hi
    obtain ⟨D, q1, q2, q3, q4⟩ := ih (i + 1) (by omega)
    have o := one i (by omega)
    have e : tt l w d true (i :: (i + 1) :: D) = cst l (room w d i) i (i + 1) + tt l w d true ((i + 1) :: D) := by
      show Path.addI inf _ _ = _
      rw [show Path.tot (cF l w d) l.length inf (!true) ((i + 1) :: D) = tt l w d true ((i + 1) :: D) from tt_s l w d _ (!true)]
      unfold Path.addI
      rw [if_neg]
      have : ((k : Int) + 1) * 100000100 ≤ 1024 * 100000100 := by omega
      show ¬ (inf ≤ cst l (room w d i) i (i + 1) ∨ _)
      omega
    refine ⟨(i + 1) :: D, ⟨Nat.lt_succ_self i, q1⟩, by simp [q2], ?_, ?_⟩
    · rw [e]; omega
    · rw [e]; omega

theorem loop7 {k : List KI} {v : V} {l : List Me} {w d : Int} {L : List Row} (he : errL l = 0) (hp : inP w d) (hv : SlV 5 v (E5 l)) (hL : rget L 1 = ⟨1, 3, [[v, .i w, .i d]]⟩)
    (hx : ∀ fr', (∀ i s, l[i]? = some s → mn l i (i + 1) ≤ w - d ∧ ¬ s.b = 3) → Ab.get fr' 1 = .ptr 0 1 1 0 0 → Gx tbl H [.tmp 2] 0 k fr' L = some (.bool true)) :
    ∀ (n i : Nat) (fr : List V), i + n = l.length → (∀ j s, j < i → l[j]? = some s → mn l j (j + 1) ≤ w - d ∧ ¬ s.b = 3) → Ab.get fr 1 = .ptr 0 1 1 0 0 → Ab.get fr 3 = .i (i : Nat) →
    G tbl H [.tmp 2] (.code (.loop ( (.seq ( (.seq ( .region [] [ ⟨some 29, .mv (.t 3), none⟩, ⟨some 30, .fieldAddr 0 (.t 1), none⟩, ⟨some 31, .load false 1 (.t 30), none⟩, ⟨some 32, .len (.t 31), none⟩, ⟨some 33, .bin .lss (.t 29) (.t 32), none⟩]) ( (.cond (.t 33) ( .skip) ( .exit 0))))) ( (.seq ( (.block 1 ( (.seq ( .region [] [ ⟨some 37, .fieldAddr 0 (.t 1), none⟩, ⟨some 38, .load false 1 (.t 37), none⟩, ⟨some 39, .mv (.t 3), none⟩, ⟨some 40, .mv (.t 3), none⟩, ⟨some 41, .call 0 (.c (.fn 21 [])) [(.t 38), (.t 39), (.t 40)], none⟩, ⟨some 36, .mv (.t 41), none⟩, ⟨some 42, .ext (.t 36) 0, none⟩, ⟨some 43, .ext (.t 36) 1, none⟩, ⟨some 44, .ext (.t 36) 2, none⟩, ⟨some 4, .mv (.t 42), none⟩, ⟨some 5, .mv (.t 43), none⟩, ⟨some 6, .mv (.t 44), none⟩]) ( (.seq ( .region [] [ ⟨some 45, .mv (.t 6), none⟩, ⟨some 46, .bin .neq (.t 45) (.c (.int .i64 0)), none⟩, ⟨some 47, .mv (.t 46), none⟩, ⟨some 48, .mv (.t 4), some (47, false)⟩, ⟨some 49, .fieldAddr 1 (.t 1), some (47, false)⟩, ⟨some 50, .load false 1 (.t 49), some (47, false)⟩, ⟨some 51, .fieldAddr 2 (.t 1), some (47, false)⟩, ⟨some 52, .load false 1 (.t 51), some (47, false)⟩, ⟨some 53, .bin .sub (.t 50) (.t 52), some (47, false)⟩, ⟨some 54, .bin .gtr (.t 48) (.t 53), some (47, false)⟩, ⟨some 55, .pick (.t 47) (.c (.bool true)) (.t 54), none⟩, ⟨some 56, .mv (.t 55), none⟩, ⟨some 57, .fieldAddr 0 (.t 1), some (56, false)⟩, ⟨some 58, .load false 1 (.t 57), some (56, false)⟩, ⟨some 59, .mv (.t 3), some (56, false)⟩, ⟨some 60, .elemAddr 5 (.t 58) (.t 59), some (56, false)⟩, ⟨some 61, .fieldAddr 4 (.t 60), some (56, false)⟩, ⟨some 62, .load false 1 (.t 61), some (56, false)⟩, ⟨some 63, .bin .eql (.t 62) (.c (.int .i64 3)), some (56, false)⟩, ⟨some 64, .pick (.t 56) (.c (.bool true)) (.t 63), none⟩]) ( (.cond (.t 64) ( (.seq ( .region [] [ ⟨some 65, .mv (.t 6), none⟩, ⟨some 66, .bin .eql (.t 65) (.c (.int .i64 0)), none⟩, ⟨some 2, .mv (.t 66), none⟩]) ( .ret))) ( .skip))))))))) ( .region [] [ ⟨some 34, .mv (.t 3), none⟩, ⟨some 35, .bin .add (.t 34) (.c (.int .i64 1)), none⟩, ⟨some 3, .mv (.t 35), none⟩])))))) :: k) fr L = some (.bool true) := by
  intro n
  have hlv := hv.len
  rw [E5_len] at hlv
  have hsh := hv.sh
  obtain ⟨hl0, hl1, _⟩ := errL_ok he
  unfold inP at hp
  obtain ⟨hp1, hp2⟩ := hp
  induction n with
  | zero =>
    intro i fr hi hall h1 h3
    have hx := fun fr' => hx fr' (fun j s hs => hall j s (by have := (List.getElem?_eq_some_iff.1 hs).1; omega) hs)
    refine G_loop.trans ?_
    clear hall
    simp (config := { maxSteps := 10000000 }) (disch := omega) only [↓G_seq, ↓G_exit, ↓G_region, ↓G_cond, ↓Gx_code, ↓G_ops_nil, ↓G_op, Gv_some, Gc_false, dec_f, killAll, ↓get_setS, evalOp, ev, b_lss, one, Option.map_some, Option.bind_some, Bool.and_self, List.getElem?_cons_zero, List.getElem?_cons_succ, Nat.reduceEqDiff, ↓reduceIte, Nat.succ_ne_self, Bool.false_eq_true, pick3, addOff, loadV, Ab.rowAt, and_self, List.getD_cons_zero, Nat.add_zero, h1, h3, hL, hlv, hsh, Nat.zero_lt_succ]
    refine hx _ ?_
    simp (config := { maxSteps := 10000000 }) (disch := omega) only [↓get_setS, List.getElem?_cons_zero, List.getElem?_cons_succ, Nat.reduceEqDiff, ↓reduceIte, h1]
  | succ n ih =>
    intro i fr hi hall h1 h3
    obtain ⟨s, hs⟩ : ∃ s, l[i]? = some s := ⟨_, List.getElem?_eq_getElem (by omega)⟩
    have hE := hv.el (E5_get l i s hs)
    have h21 := fun H => c21' (H := H) (a := i) he (by omega) hv
    have hwid := wid_in he (show i < i + 1 by omega) (show i + 1 ≤ l.length by omega)
    have nx := fun (hf : mn l i (i + 1) ≤ w - d ∧ ¬ s.b = 3) fr' => ih (i + 1) fr' (by omega) (fun j s' hj hs' => by
      rcases Nat.lt_or_ge j i with q | q
      · exact hall j s' q hs'
      · obtain rfl : j = i := by omega
        rw [hs] at hs'
        injection hs' with e
        subst e
        exact hf)
    clear ih hx hall hv he
    generalize mn l i (i + 1) = M at *
    generalize nt l i (i + 1) = N at *
    have cs : w - d < M ∨ (M ≤ w - d ∧ s.b = 3) ∨ (M ≤ w - d ∧ ¬ s.b = 3) := by omega
    refine G_loop.trans ?_
    rcases cs with c | ⟨c1, c2⟩ | ⟨c1, c2⟩
    · clear nx
      simp (config := { maxSteps := 10000000 }) (disch := omega) only [↓G_seq, ↓G_skip, ↓G_ret, ↓G_region, ↓G_block, ↓G_cond, ↓G_ops_nil, ↓G_op, Gv_some, ↓G_gop, Gw_ff, Gw_ft, Gc_true, dec_t, killAll, ↓get_setS, evalOp, ev, evs, b_sub, b_eql, b_neq, b_lss, b_gtr, wrap_i64, one, Option.map_some, Option.bind_some, asB, finish, resVs, resV, outVs, ownsLast, tupOf, callV, V.shift, V.shifts, List.append_nil, List.map_cons, List.map_nil, List.all_nil, Bool.and_self, List.getElem?_cons_zero, List.getElem?_cons_succ, Nat.reduceEqDiff, ↓reduceIte, Nat.succ_ne_self, decide_true, Bool.not_true, bne_self_eq_false, Bool.false_eq_true, pick3, addOff, loadV, Ab.rowAt, and_self, List.getD_cons_zero, Nat.zero_add, Nat.add_zero, ti_tup_int, st_int, ov_bool, fn_some, h1, h3, hL, hlv, hsh, h21, Nat.zero_lt_succ]
    · clear nx
      simp (config := { maxSteps := 10000000 }) (disch := omega) only [↓G_seq, ↓G_skip, ↓G_ret, ↓G_region, ↓G_block, ↓G_cond, ↓G_ops_nil, ↓G_op, Gv_some, ↓G_gop, Gw_ff, Gc_true, dec_t, dec_f, killAll, ↓get_setS, evalOp, ev, evs, b_sub, b_eql, b_neq, b_lss, b_gtr, wrap_i64, one, Option.map_some, Option.bind_some, asB, finish, resVs, resV, outVs, ownsLast, tupOf, callV, V.shift, V.shifts, List.append_nil, List.map_cons, List.map_nil, List.all_nil, Bool.and_self, List.getElem?_cons_zero, List.getElem?_cons_succ, Nat.reduceEqDiff, ↓reduceIte, Nat.succ_ne_self, decide_true, Bool.not_true, bne_self_eq_false, Bool.false_eq_true, pick3, addOff, loadV, Ab.rowAt, and_self, List.getD_cons_zero, Nat.zero_add, Nat.add_zero, ti_tup_int, st_int, ov_bool, fn_some, h1, h3, hL, hlv, hsh, hE, h21, Nat.zero_lt_succ]
    · have nx := nx ⟨c1, c2⟩
      simp (config := { maxSteps := 10000000 }) (disch := omega) only [↓G_seq, ↓G_skip, ↓G_blk, ↓G_region, ↓G_block, ↓G_cond, ↓G_ops_nil, ↓G_op, Gv_some, ↓G_gop, Gw_ff, Gc_true, Gc_false, dec_t, dec_f, killAll, ↓get_setS, evalOp, ev, evs, b_add, b_sub, b_eql, b_neq, b_lss, b_gtr, wrap_i64, one, Option.map_some, Option.bind_some, asB, callV, V.shift, V.shifts, List.append_nil, List.map_cons, List.map_nil, Bool.and_self, List.getElem?_cons_zero, List.getElem?_cons_succ, Nat.reduceEqDiff, ↓reduceIte, Nat.succ_ne_self, decide_true, Bool.not_true, bne_self_eq_false, Bool.false_eq_true, pick3, addOff, loadV, Ab.rowAt, and_self, List.getD_cons_zero, Nat.zero_add, Nat.add_zero, ti_tup_int, st_int, h1, h3, hL, hlv, hsh, hE, h21, Nat.zero_lt_succ]
      refine nx _ ?_ ?_
      all_goals simp (config := { maxSteps := 10000000 }) (disch := omega) only [↓get_setS, List.getElem?_cons_zero, List.getElem?_cons_succ, Nat.reduceEqDiff, ↓reduceIte, h1]
      congr 1

theorem brk_take {l : List Me} {w d : Int} (L : List Row) (s : Nat) (vs : List V) : takeIn false L s (.tup (outAcc 1 (I1 (zs (bestD l w d))) :: vs)) = (.tup (svE 1 (I1 (zs (bestD l w d))) :: vs.map Ab.settle), L) := out_take_tup _ _

theorem l7 {v : V} {l : List Me} {w d : Int} (hm : l.length ≤ 9223372036854775807) (hv : SlV 5 v (E5 l)) : call tbl 7 [.agg [v, .i w, .i d]] H = some (.bool true) := by
  refine (call_start (show tbl 7 = some a7 from rfl)).trans ?_
  have hsc := hv.scalar
  unfold V.scalar at hsc
  have hlv := hv.len
  rw [E5_len] at hlv
  have h13 := fun H => c13 (H := H) hm hv
  have hsh := hv.sh
  by_cases g1 : 40 < l.length
  · unfold a7
    simp (config := { maxSteps := 10000000 }) (disch := omega) only [↓G_seq, ↓G_ret, ↓G_region, ↓G_cond, ↓G_ops_nil, ↓G_op, Gv_some, ↓G_gop, Gw_ff, Gw_ft, Gc_true, dec_t, killAll, ↓get_setS, evalOp, ev, evs, Ab.get, b_gtr, one, Option.map_some, Option.bind_some, asB, finish, resVs, resV, outVs, ownsLast, tupOf, callV, V.shifts, List.append_nil, List.all_cons, List.all_nil, Bool.and_self, List.getElem?_cons_zero, List.getElem?_cons_succ, Nat.reduceEqDiff, ↓reduceIte, Nat.succ_ne_self, Bool.not_true, bne_self_eq_false, Bool.false_eq_true, Int.reduceAdd, pick3, V.cells, addOff, loadV, Ab.rowAt, rget, rset, V.scalar, Nat.reduceAdd, and_self, List.length_cons, List.length_nil, List.getD_cons_zero, Nat.zero_add, Nat.add_zero, ti_bool, ov_bool, fn_some, hsc, hlv, hsh, c10, Nat.zero_lt_succ]
    done
  by_cases he : errL l = 0
  case neg =>
    have : errL l < 0 ∨ 0 < errL l := by omega
    generalize errL l = e at *
    unfold a7
    simp (config := { maxSteps := 10000000 }) (disch := omega) only [↓G_seq, ↓G_ret, ↓G_region, ↓G_cond, ↓G_ops_nil, ↓G_op, Gv_some, ↓G_gop, Gw_ff, Gw_ft, Gc_true, dec_f, killAll, ↓get_setS, evalOp, ev, evs, Ab.get, b_neq, b_gtr, one, Option.map_some, Option.bind_some, asB, finish, resVs, resV, outVs, ownsLast, tupOf, callV, V.shifts, List.append_nil, List.all_cons, List.all_nil, Bool.and_self, List.getElem?_cons_zero, List.getElem?_cons_succ, Nat.reduceEqDiff, ↓reduceIte, Nat.succ_ne_self, Bool.not_true, Bool.not_false, bne_self_eq_false, Bool.false_eq_true, Int.reduceAdd, pick3, V.cells, addOff, loadV, Ab.rowAt, rget, rset, V.scalar, Nat.reduceAdd, and_self, List.length_cons, List.length_nil, List.getD_cons_zero, Nat.zero_add, Nat.add_zero, ti_bool, ti_int, ov_bool, fn_some, hsc, hlv, h13, hsh, c10, Nat.zero_lt_succ]
    done
  simp only [he] at h13
  obtain ⟨hl0, hl1, _⟩ := errL_ok he
  have h15 := fun H => c15 (H := H) (w := w) (d := d) hv
  by_cases hp : inP w d
  case neg =>
    rw [show errP w d = 2 by unfold errP; rw [if_neg hp]] at h15
    unfold a7
    simp (config := { maxSteps := 10000000 }) (disch := omega) only [↓G_seq, ↓G_ret, ↓G_region, ↓G_cond, ↓G_ops_nil, ↓G_op, Gv_some, ↓G_gop, Gw_ff, Gc_true, dec_f, killAll, ↓get_setS, evalOp, ev, evs, Ab.get, b_neq, b_gtr, one, Option.map_some, Option.bind_some, asB, finish, resVs, resV, outVs, ownsLast, tupOf, callV, V.shift, V.shifts, List.append_nil, List.all_cons, List.all_nil, Bool.and_self, List.getElem?_cons_zero, List.getElem?_cons_succ, Nat.reduceEqDiff, ↓reduceIte, Nat.succ_ne_self, decide_true, decide_false, Bool.not_true, Bool.not_false, bne_self_eq_false, Bool.false_eq_true, Int.reduceAdd, Int.reduceEq, pick3, V.cells, addOff, loadV, Ab.rowAt, rget, rset, V.scalar, Nat.reduceAdd, and_self, List.length_cons, List.length_nil, List.take_succ_cons, List.take_zero, List.drop_zero, Nat.le_refl, List.getD_cons_zero, Nat.zero_add, Nat.add_zero, ti_bool, ti_int, ov_bool, fn_some, hsc, hlv, h13, h15, hsh, c10, Nat.zero_lt_succ]
    done
  rw [show errP w d = 0 by unfold errP; rw [if_pos hp]] at h15
  have fin := fun k L hL hx => loop7 (H := H) (k := k) (L := L) he hp hv hL hx l.length 0
  unfold a7
  simp (config := { maxSteps := 10000000 }) (disch := omega) only [↓G_seq, ↓G_skip, ↓G_region, ↓G_block, ↓G_cond, ↓G_ops_nil, ↓G_op, Gv_some, ↓G_gop, Gw_ff, Gc_false, dec_f, killAll, ↓get_setS, evalOp, ev, evs, Ab.get, b_neq, b_gtr, one, Option.map_some, Option.bind_some, asB, callV, V.shift, V.shifts, List.append_nil, List.all_cons, List.all_nil, Bool.and_self, List.getElem?_cons_zero, List.getElem?_cons_succ, Nat.reduceEqDiff, ↓reduceIte, Nat.succ_ne_self, decide_true, Bool.not_true, bne_self_eq_false, Bool.false_eq_true, Int.reduceAdd, pick3, V.cells, addOff, loadV, Ab.rowAt, rget, rset, V.scalar, Nat.reduceAdd, and_self, List.length_cons, List.length_nil, List.take_succ_cons, List.take_zero, List.drop_zero, Nat.le_refl, List.getD_cons_zero, Nat.zero_add, Nat.add_zero, ti_bool, ti_int, hsc, hlv, h13, h15, hsh, c10, Nat.zero_lt_succ]
  refine fin _ _ ?_ (fun fr' hfit g1 => ?_) _ (by omega) (fun j s hj => by omega) ?_ ?_
  · rfl
  · clear fin
    obtain ⟨D, q1, q2, q3, q4⟩ := ups he hp hfit (l.length - 1) 0 (by omega)
    have hb := bestD_ok (w := w) (d := d) he
    have hinf' := hinf
    have hlt : (tabN l w d 0).c < inf := by
      rcases Int.lt_or_le (tabN l w d 0).c inf with h | h
      · exact h
      · have := hb.1 h D q1
        have : ((l.length - 1 : Nat) : Int) + 1 ≤ 1024 := by omega
        omega
    have h18 := fun H => c18 (H := H) he hp hv
    unfold brkR at h18
    simp only [if_neg (show ¬ inf ≤ (tabN l w d 0).c by omega)] at h18
    obtain ⟨⟨q, a1⟩, _⟩ := hb.2 hlt
    have hBl := (svE_ok 1 (I1 (zs (bestD l w d)))).len
    rw [I1_len, zs_len] at hBl
    have hB0 : 0 < (bestD l w d).length := by rw [a1]; simp
    have out := brk_take (l := l) (w := w) (d := d)
    generalize svE 1 (I1 (zs (bestD l w d))) = B at *
    generalize outAcc 1 (I1 (zs (bestD l w d))) = O at *
    clear hb hv hfit
    simp (config := { maxSteps := 10000000 }) (disch := omega) only [↓G_seq, ↓G_ret, ↓G_region, ↓Gx_blk, ↓G_ops_nil, ↓G_op, Gv_some, ↓G_gop, Gw_tt, dec_t, killAll, ↓get_setS, evalOp, ev, evs, b_eql, b_gtr, one, Option.map_some, Option.bind_some, asB, finish, resVs, resV, outVs, ownsLast, tupOf, callV, V.shift, V.shifts, List.append_nil, List.map_cons, List.map_nil, List.all_nil, Bool.and_self, List.getElem?_cons_zero, List.getElem?_cons_succ, Nat.reduceEqDiff, ↓reduceIte, Nat.succ_ne_self, decide_true, bne_self_eq_false, Bool.false_eq_true, pick3, addOff, loadV, Ab.rowAt, rget, and_self, List.getD_cons_zero, Nat.zero_add, Nat.add_zero, st_int, ov_bool, fn_some, g1, h18, hsh, out, hBl, Nat.zero_lt_succ]
  all_goals clear fin
  all_goals simp (config := { maxSteps := 10000000 }) (disch := omega) only [↓get_setS, List.getElem?_cons_zero, List.getElem?_cons_succ, Nat.reduceEqDiff, ↓reduceIte, Nat.succ_ne_self, Int.cast_ofNat_Int]

end Go.Proofs.Ytdgifbmimfnmlaa

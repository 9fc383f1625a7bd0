/-
  Page breaks: the reference's cost of a page; lists that are divisions; lists compared.
-/
import Derived.Test.YtgghbckhdchcaaaS33C
namespace Go.Proofs.Ytgghbckhdchcaaa
open Go Go.Ab
set_option linter.unusedVariables false
set_option linter.unnecessarySimpa false
set_option linter.unusedSimpArgs false
set_option maxRecDepth 100000
variable {H : List (List Row)}

theorem loop25 {k : List KI} {v n4 n5 : V} {l : List Sy} {a b : Nat} {r : Option V} {L : List Row} (hl : l.length ≤ 1024) (hb : b ≤ l.length) (hv : SlV 4 v (E4 l)) (hr1 : (sl l (a + 1) b).any isBrk = true → r = some (.i inf))
    (hx : (sl l (a + 1) b).any isBrk = false → ∀ fr', Ab.get fr' 0 = v → Ab.get fr' 2 = .i (a : Nat) → Ab.get fr' 3 = .i ((b : Nat) - 1 : Int) → Ab.get fr' 4 = n4 → Ab.get fr' 5 = n5 → Ab.get fr' 7 = .ptr 0 1 1 0 0 → Gx tbl H [.tmp 12] 0 k fr' L = r) :
    ∀ (n i : Nat) (fr : List V), i + n = b → a < i → (sl l (a + 1) b).any isBrk = (sl l i b).any isBrk → Ab.get fr 0 = v → Ab.get fr 2 = .i (a : Nat) → Ab.get fr 3 = .i ((b : Nat) - 1 : Int) → Ab.get fr 4 = n4 → Ab.get fr 5 = n5 → Ab.get fr 7 = .ptr 0 1 1 0 0 → Ab.get fr 13 = .i (i : Nat) →
    G tbl H [.tmp 12] (.code (.loop ( (.seq ( (.seq ( .region [] [ ⟨some 19, .mv (.t 13), none⟩, ⟨some 20, .mv (.t 3), none⟩, ⟨some 21, .bin .leq (.t 19) (.t 20), none⟩]) ( (.cond (.t 21) ( .skip) ( .exit 0))))) ( (.seq ( (.block 1 ( (.seq ( .region [] [ ⟨some 24, .mv (.t 0), none⟩, ⟨some 25, .mv (.t 13), none⟩, ⟨some 26, .elemAddr 4 (.t 24) (.t 25), none⟩, ⟨some 27, .fieldAddr 3 (.t 26), none⟩, ⟨some 28, .load false 1 (.t 27), none⟩, ⟨some 29, .bin .eql (.t 28) (.c (.int .i64 2)), none⟩]) ( (.cond (.t 29) ( (.seq ( .region [] [ ⟨some 12, .mv (.c (.int .i64 1125899906842624)), none⟩]) ( .ret))) ( .skip))))))) ( .region [] [ ⟨some 22, .mv (.t 13), none⟩, ⟨some 23, .bin .add (.t 22) (.c (.int .i64 1)), none⟩, ⟨some 13, .mv (.t 23), none⟩])))))) :: k) fr L = r := by
  intro n
  induction n with
  | zero =>
    intro i fr hi ha he h0 h2 h3 h4 h5 h7 h13
    rw [sl_nil (show b ≤ i by omega), List.any_nil] at he
    have hx' := hx he
    refine G_loop.trans ?_
    simp (config := { maxSteps := 10000000 }) (disch := omega) only [↓G_seq, ↓G_exit, ↓G_region, ↓G_cond, ↓Gx_code, ↓G_ops_nil, ↓G_op, Gv_some, Gc_false, dec_f, killAll, ↓get_setS, evalOp, ev, b_leq, one, Option.map_some, List.getElem?_cons_zero, List.getElem?_cons_succ, Nat.reduceEqDiff, ↓reduceIte, Nat.succ_ne_self, h3, h13]
    refine hx' _ ?_ ?_ ?_ ?_ ?_ ?_
    all_goals simp (config := { maxSteps := 10000000 }) (disch := omega) only [↓get_setS, List.getElem?_cons_zero, List.getElem?_cons_succ, Nat.reduceEqDiff, reduceCtorEq, ↓reduceIte, h0, h2, h3, h4, h5, h7]
  | succ n ih =>
    intro i fr hi ha he h0 h2 h3 h4 h5 h7 h13
    obtain ⟨s, hs, hc⟩ := sl_cons (l := l) (a := i) (b := b) (by omega) hb
    have hE := hv.el (E4_get l i s hs)
    rw [hc, List.any_cons] at he
    have next : isBrk s = false → ∀ fr', Ab.get fr' 0 = v → Ab.get fr' 2 = .i (a : Nat) → Ab.get fr' 3 = .i ((b : Nat) - 1 : Int) → Ab.get fr' 4 = n4 → Ab.get fr' 5 = n5 → Ab.get fr' 7 = .ptr 0 1 1 0 0 → Ab.get fr' 13 = .i ((i : Nat) + 1) → G tbl H [.tmp 12] (.code (.loop ( (.seq ( (.seq ( .region [] [ ⟨some 19, .mv (.t 13), none⟩, ⟨some 20, .mv (.t 3), none⟩, ⟨some 21, .bin .leq (.t 19) (.t 20), none⟩]) ( (.cond (.t 21) ( .skip) ( .exit 0))))) ( (.seq ( (.block 1 ( (.seq ( .region [] [ ⟨some 24, .mv (.t 0), none⟩, ⟨some 25, .mv (.t 13), none⟩, ⟨some 26, .elemAddr 4 (.t 24) (.t 25), none⟩, ⟨some 27, .fieldAddr 3 (.t 26), none⟩, ⟨some 28, .load false 1 (.t 27), none⟩, ⟨some 29, .bin .eql (.t 28) (.c (.int .i64 2)), none⟩]) ( (.cond (.t 29) ( (.seq ( .region [] [ ⟨some 12, .mv (.c (.int .i64 1125899906842624)), none⟩]) ( .ret))) ( .skip))))))) ( .region [] [ ⟨some 22, .mv (.t 13), none⟩, ⟨some 23, .bin .add (.t 22) (.c (.int .i64 1)), none⟩, ⟨some 13, .mv (.t 23), none⟩])))))) :: k) fr' L = r := by
      intro z fr' g0 g2 g3 g4 g5 g7 g13
      rw [z, Bool.false_or] at he
      exact ih (i + 1) fr' (by omega) (by omega) he g0 g2 g3 g4 g5 g7 (by rw [g13]; congr 1)
    clear ih hx
    refine G_loop.trans ?_
    by_cases c : s.b = 2
    · have z : isBrk s = true := by simp [isBrk, c]
      rw [z, Bool.true_or] at he
      rw [hr1 he]
      clear next
      simp (config := { maxSteps := 10000000 }) (disch := omega) only [↓G_seq, ↓G_skip, ↓G_ret, ↓G_region, ↓G_block, ↓G_cond, ↓G_ops_nil, ↓G_op, Gv_some, Gc_true, dec_t, killAll, ↓get_setS, evalOp, ev, b_eql, b_leq, one, Option.map_some, Option.bind_some, finish, resVs, resV, outVs, ownsLast, tupOf, List.all_nil, List.getElem?_cons_zero, List.getElem?_cons_succ, Nat.reduceEqDiff, reduceCtorEq, ↓reduceIte, Nat.succ_ne_self, Bool.false_eq_true, pick3, addOff, loadV, Nat.zero_add, ov_int, fn_some, h0, h3, h13, hE]
      rfl
    · have z : isBrk s = false := by simp [isBrk, c]
      have nx := next z
      clear next
      simp (config := { maxSteps := 10000000 }) (disch := omega) only [↓G_seq, ↓G_skip, ↓G_blk, ↓G_region, ↓G_block, ↓G_cond, ↓G_ops_nil, ↓G_op, Gv_some, Gc_true, Gc_false, dec_t, dec_f, killAll, ↓get_setS, evalOp, ev, b_add, b_eql, b_leq, wrap_i64, one, Option.map_some, List.getElem?_cons_zero, List.getElem?_cons_succ, Nat.reduceEqDiff, reduceCtorEq, ↓reduceIte, Nat.succ_ne_self, Bool.false_eq_true, pick3, addOff, loadV, Nat.zero_add, h0, h3, h13, hE]
      refine nx _ ?_ ?_ ?_ ?_ ?_ ?_ ?_
      all_goals simp (config := { maxSteps := 10000000 }) (disch := omega) only [↓get_setS, List.getElem?_cons_zero, List.getElem?_cons_succ, Nat.reduceEqDiff, reduceCtorEq, ↓reduceIte, h0, h2, h3, h4, h5, h7]

set_option maxHeartbeats 4000000 in
theorem c25 {v : V} {l : List Sy} {s z : Sy} {a b : Nat} {ph pt num : Int} {fin : Bool} (hl : l.length ≤ 1024) (hpg : inPg ph pt) (hab : a < b) (hb : b ≤ l.length) (hin : ∀ x ∈ l, inS x) (hv : SlV 4 v (E4 l)) (hs : l[a]? = some s) (hz : l[b - 1]? = some z) (hn : 0 ≤ num) :
    call tbl 25 [v, .agg [.i ph, .i pt], .i (a : Nat), .i ((b : Nat) - 1 : Int), .i num, .bool fin] H = some (.i (costN ph pt s.b (decide (0 < b - a - 1)) ((sl l (a + 1) b).any isBrk) z.r (hgt (sl l a b)) (decide (0 < (a : Int))) (decide (num % 2 = 0)) fin)) := by
  refine (call_start (show tbl 25 = some a25 from rfl)).trans ?_
  have h24 := fun H => c24 (H := H) hl hab hb hin hv
  have hh := hgt_in (sl l a b) (fun x hx => hin x (sl_mem hx))
  have hsll := sl_len (a := a) hb
  have hsh := hv.sh
  have hE := hv.el (E4_get l a s hs)
  have hE2 := hv.el' (n := ((b : Nat) - 1 : Int)) (by omega) (E4_get l (((b : Nat) - 1 : Int)).toNat z (by rw [show (((b : Nat) - 1 : Int)).toNat = b - 1 by omega]; exact hz))
  obtain ⟨hph, hpt⟩ := hpg
  generalize hgt (sl l a b) = h at *
  unfold a25
  simp (config := { maxSteps := 10000000 }) (disch := omega) only [↓G_seq, ↓G_region, ↓G_block, ↓G_ops_nil, ↓G_op, Gv_some, killAll, ↓get_setS, evalOp, ev, Ab.get, b_add, wrap_i64, one, Option.map_some, List.all_cons, List.all_nil, Bool.and_self, List.getElem?_cons_zero, List.getElem?_cons_succ, Nat.reduceEqDiff, ↓reduceIte, Int.reduceAdd, V.cells, rget, rset, V.scalar, Nat.reduceAdd, and_self, List.length_cons, List.length_nil, Nat.zero_add]
  refine loop25 (l := l) (a := a) (b := b) (n4 := .i num) (n5 := .bool fin) hl hb hv ?_ (fun hB fr' g0 g2 g3 g4 g5 g7 => ?_) (b - (a + 1)) (a + 1) _ (by omega) (by omega) rfl ?_ ?_ ?_ ?_ ?_ ?_ ?_
  · intro z
    rw [z]
    simp [costN]
  · rw [hB]
    have hm : num.tmod 2 = num % 2 := tmod_pos hn
    have hinf : inf = 1125899906842624 := rfl
    have hdef : (100 * (ph - h)).tdiv ph = leftR ph h := rfl
    have hq : ph < h ∨ (h ≤ ph ∧ 0 ≤ leftR ph h ∧ leftR ph h ≤ 100 ∧ 0 ≤ leftR ph h * leftR ph h ∧ leftR ph h * leftR ph h ≤ 10000) := by
      by_cases c : ph < h
      · exact .inl c
      · have h1 := left_in hph.1 (h := h) (by omega) (by omega)
        have h2 := sq_in h1
        exact .inr ⟨by omega, h1.1, h1.2, h2.1, h2.2⟩
    have leaf_pos : (¬ 0 < (a : Int)) ∨ (0 < (a : Int) ∧ ¬ s.b = 3) ∨ (0 < (a : Int) ∧ s.b = 3) := by omega
    unfold costN
    clear hv hin hB
    generalize leftR ph h = le at *
    generalize hqq : le * le = q at *
    rcases leaf_pos with p1 | ⟨p1, p1b⟩ | ⟨p1, p1b⟩
    case inr.inr =>
      clear hq
      simp (config := { maxSteps := 10000000 }) (disch := omega) only [↓G_seq, ↓G_ret, ↓G_region, ↓G_cond, ↓Gx_blk, ↓G_ops_nil, ↓G_op, Gv_some, ↓G_gop, Gw_tt, Gw_ft, Gw_tup, Gc_true, dec_t, killAll, ↓get_setS, evalOp, ev, evs, b_eql, b_gtr, one, Option.map_some, Option.bind_some, asB, finish, resVs, resV, outVs, ownsLast, tupOf, callV, V.shift, V.shifts, List.append_nil, List.all_nil, Bool.and_self, List.getElem?_cons_zero, List.getElem?_cons_succ, Nat.reduceEqDiff, reduceCtorEq, ↓reduceIte, Nat.succ_ne_self, true_or, or_false, bne_self_eq_false, Bool.false_eq_true, pick3, addOff, loadV, and_self, Bool.or_false, Bool.true_or, Nat.zero_add, ti_int, ov_int, fn_some, g0, g2, g3, h24, hsh, hE, Int.zero_add, hinf]
      done
    all_goals
      rcases hq with p2 | ⟨p2, p2a, p2b, p2c, p2d⟩
      · by_cases p3 : 0 < b - a - 1
        · simp (config := { maxSteps := 10000000 }) (disch := omega) only [↓G_seq, ↓G_ret, ↓G_region, ↓G_cond, ↓Gx_blk, ↓G_ops_nil, ↓G_op, Gv_some, ↓G_gop, Gw_tt, Gw_ff, Gw_tf, Gc_true, dec_t, dec_f, killAll, ↓get_setS, evalOp, ev, evs, b_eql, b_gtr, one, Option.map_some, Option.bind_some, asB, finish, resVs, resV, outVs, ownsLast, tupOf, callV, V.shift, V.shifts, List.append_nil, List.all_nil, Bool.and_self, Bool.false_and, Bool.and_false, List.getElem?_cons_zero, List.getElem?_cons_succ, Nat.reduceEqDiff, reduceCtorEq, ↓reduceIte, Nat.succ_ne_self, or_true, or_false, bne_self_eq_false, Bool.false_eq_true, pick3, addOff, loadV, Ab.rowAt, rget, and_self, and_false, false_and, Bool.or_true, Bool.or_false, List.getD_cons_zero, Nat.zero_add, Nat.add_zero, ti_int, ov_int, fn_some, g0, g2, g3, g7, h24, hsh, hE, Nat.zero_lt_succ, Int.zero_add, Int.add_zero, hinf]
          done
        · by_cases p4 : pt = 0
          · cases fin
            · simp (config := { maxSteps := 10000000 }) (disch := omega) only [↓G_seq, ↓G_skip, ↓G_ret, ↓G_region, ↓G_cond, ↓Gx_blk, ↓G_ops_nil, ↓G_op, Gv_some, ↓G_gop, Gw_tt, Gw_ff, Gw_tf, Gc_true, Gc_false, dec_t, dec_f, killAll, ↓get_setS, evalOp, ev, evs, b_eql, b_neq, b_leq, b_gtr, one, Option.map_some, Option.bind_some, asB, finish, resVs, resV, outVs, ownsLast, tupOf, callV, V.shift, V.shifts, List.append_nil, List.all_nil, Bool.and_true, Bool.and_self, Bool.false_and, Bool.and_false, List.getElem?_cons_zero, List.getElem?_cons_succ, Nat.reduceEqDiff, reduceCtorEq, ↓reduceIte, Nat.succ_ne_self, or_false, Bool.not_true, Bool.not_false, bne_self_eq_false, Bool.false_eq_true, pick3, addOff, loadV, Ab.rowAt, rget, and_true, and_self, and_false, false_and, Bool.or_false, List.getD_cons_zero, Nat.zero_add, Nat.add_zero, ti_int, ov_int, fn_some, g0, g2, g3, g5, g7, h24, hsh, hE, Nat.zero_lt_succ, Int.zero_add, Int.add_zero]
              done
            · simp (config := { maxSteps := 10000000 }) (disch := omega) only [↓G_seq, ↓G_skip, ↓G_ret, ↓G_region, ↓G_cond, ↓Gx_blk, ↓G_ops_nil, ↓G_op, Gv_some, ↓G_gop, Gw_tt, Gw_ff, Gw_tf, Gc_true, Gc_false, dec_t, dec_f, killAll, ↓get_setS, evalOp, ev, evs, b_eql, b_neq, b_gtr, one, Option.map_some, Option.bind_some, asB, finish, resVs, resV, outVs, ownsLast, tupOf, callV, V.shift, V.shifts, List.append_nil, List.all_nil, Bool.and_self, Bool.false_and, Bool.and_false, List.getElem?_cons_zero, List.getElem?_cons_succ, Nat.reduceEqDiff, reduceCtorEq, ↓reduceIte, Nat.succ_ne_self, or_false, Bool.not_true, bne_self_eq_false, Bool.false_eq_true, pick3, addOff, loadV, Ab.rowAt, rget, and_self, and_false, false_and, Bool.or_false, List.getD_cons_zero, Nat.zero_add, Nat.add_zero, ti_int, ov_int, fn_some, g0, g2, g3, g5, g7, h24, hsh, hE, Nat.zero_lt_succ, Int.zero_add, Int.add_zero]
              done
          by_cases p6 : num % 2 = 0
          case neg =>
            cases fin
            · simp (config := { maxSteps := 10000000 }) (disch := omega) only [↓G_seq, ↓G_skip, ↓G_ret, ↓G_region, ↓G_cond, ↓Gx_blk, ↓G_ops_nil, ↓G_op, Gv_some, ↓G_gop, Gw_tt, Gw_ff, Gw_tf, Gc_true, Gc_false, dec_t, dec_f, killAll, ↓get_setS, evalOp, ev, evs, b_eql, b_neq, b_leq, b_gtr, b_rem, one, Option.map_some, Option.bind_some, asB, finish, resVs, resV, outVs, ownsLast, tupOf, callV, V.shift, V.shifts, List.append_nil, List.all_nil, Bool.and_true, Bool.and_self, Bool.false_and, Bool.and_false, List.getElem?_cons_zero, List.getElem?_cons_succ, Nat.reduceEqDiff, reduceCtorEq, ↓reduceIte, Nat.succ_ne_self, or_false, Bool.not_false, bne_self_eq_false, Bool.false_eq_true, pick3, addOff, loadV, Ab.rowAt, rget, and_true, and_self, and_false, false_and, Bool.or_false, List.getD_cons_zero, Nat.zero_add, Nat.add_zero, ti_int, ov_int, fn_some, g0, g2, g3, g4, g5, g7, h24, hsh, hE, hm, Nat.zero_lt_succ, Int.zero_add, Int.add_zero]
              done
            · simp (config := { maxSteps := 10000000 }) (disch := omega) only [↓G_seq, ↓G_skip, ↓G_ret, ↓G_region, ↓G_cond, ↓Gx_blk, ↓G_ops_nil, ↓G_op, Gv_some, ↓G_gop, Gw_tt, Gw_ff, Gw_tf, Gc_true, Gc_false, dec_t, dec_f, killAll, ↓get_setS, evalOp, ev, evs, b_eql, b_neq, b_gtr, b_rem, one, Option.map_some, Option.bind_some, asB, finish, resVs, resV, outVs, ownsLast, tupOf, callV, V.shift, V.shifts, List.append_nil, List.all_nil, Bool.and_self, Bool.false_and, Bool.and_false, List.getElem?_cons_zero, List.getElem?_cons_succ, Nat.reduceEqDiff, reduceCtorEq, ↓reduceIte, Nat.succ_ne_self, or_false, Bool.not_true, Bool.not_false, bne_self_eq_false, Bool.false_eq_true, pick3, addOff, loadV, Ab.rowAt, rget, and_self, and_false, false_and, Bool.or_false, List.getD_cons_zero, Nat.zero_add, Nat.add_zero, ti_int, ov_int, fn_some, g0, g2, g3, g4, g5, g7, h24, hsh, hE, hm, Nat.zero_lt_succ, Int.zero_add, Int.add_zero]
              done
          cases fin
          · by_cases p5 : z.r < pt
            · simp (config := { maxSteps := 10000000 }) (disch := omega) only [↓G_seq, ↓G_skip, ↓G_ret, ↓G_region, ↓G_cond, ↓Gx_blk, ↓G_ops_nil, ↓G_op, Gv_some, ↓G_gop, Gw_tt, Gw_ff, Gw_tf, Gc_true, Gc_false, dec_t, dec_f, killAll, ↓get_setS, evalOp, ev, evs, b_add, b_eql, b_neq, b_lss, b_leq, b_gtr, b_rem, wrap_i64, one, Option.map_some, Option.bind_some, asB, finish, resVs, resV, outVs, ownsLast, tupOf, callV, V.shift, V.shifts, List.append_nil, List.all_nil, Bool.and_self, Bool.false_and, Bool.and_false, List.getElem?_cons_zero, List.getElem?_cons_succ, Nat.reduceEqDiff, reduceCtorEq, ↓reduceIte, Nat.succ_ne_self, or_false, Bool.not_false, bne_self_eq_false, Bool.false_eq_true, Int.reduceAdd, pick3, addOff, loadV, Ab.rowAt, rget, Nat.reduceAdd, and_self, and_false, false_and, Bool.or_false, List.getD_cons_zero, Nat.zero_add, Nat.add_zero, ti_int, ov_int, fn_some, g0, g2, g3, g4, g5, g7, h24, hsh, hE, hE2, hm, Nat.zero_lt_succ, Int.zero_add, Int.add_zero]
              done
            · simp (config := { maxSteps := 10000000 }) (disch := omega) only [↓G_seq, ↓G_skip, ↓G_ret, ↓G_region, ↓G_cond, ↓Gx_blk, ↓G_ops_nil, ↓G_op, Gv_some, ↓G_gop, Gw_tt, Gw_ff, Gw_tf, Gc_true, Gc_false, dec_t, dec_f, killAll, ↓get_setS, evalOp, ev, evs, b_eql, b_neq, b_lss, b_leq, b_gtr, b_rem, one, Option.map_some, Option.bind_some, asB, finish, resVs, resV, outVs, ownsLast, tupOf, callV, V.shift, V.shifts, List.append_nil, List.all_nil, Bool.and_self, Bool.false_and, Bool.and_false, List.getElem?_cons_zero, List.getElem?_cons_succ, Nat.reduceEqDiff, reduceCtorEq, ↓reduceIte, Nat.succ_ne_self, or_false, Bool.not_false, bne_self_eq_false, Bool.false_eq_true, pick3, addOff, loadV, Ab.rowAt, rget, and_self, and_false, false_and, Bool.or_false, List.getD_cons_zero, Nat.zero_add, Nat.add_zero, ti_int, ov_int, fn_some, g0, g2, g3, g4, g5, g7, h24, hsh, hE, hE2, hm, Nat.zero_lt_succ, Int.zero_add, Int.add_zero]
              done
          · simp (config := { maxSteps := 10000000 }) (disch := omega) only [↓G_seq, ↓G_skip, ↓G_ret, ↓G_region, ↓G_cond, ↓Gx_blk, ↓G_ops_nil, ↓G_op, Gv_some, ↓G_gop, Gw_tt, Gw_ff, Gw_tf, Gc_true, Gc_false, dec_t, dec_f, killAll, ↓get_setS, evalOp, ev, evs, b_eql, b_neq, b_gtr, b_rem, one, Option.map_some, Option.bind_some, asB, finish, resVs, resV, outVs, ownsLast, tupOf, callV, V.shift, V.shifts, List.append_nil, List.all_nil, Bool.and_self, Bool.false_and, Bool.and_false, List.getElem?_cons_zero, List.getElem?_cons_succ, Nat.reduceEqDiff, reduceCtorEq, ↓reduceIte, Nat.succ_ne_self, or_false, Bool.not_true, Bool.not_false, bne_self_eq_false, Bool.false_eq_true, pick3, addOff, loadV, Ab.rowAt, rget, and_self, and_false, false_and, Bool.or_false, List.getD_cons_zero, Nat.zero_add, Nat.add_zero, ti_int, ov_int, fn_some, g0, g2, g3, g4, g5, g7, h24, hsh, hE, hm, Nat.zero_lt_succ, Int.zero_add, Int.add_zero]
            done
      · by_cases p4 : pt = 0
        · cases fin
          · simp (config := { maxSteps := 10000000 }) (disch := omega) only [↓G_seq, ↓G_skip, ↓G_ret, ↓G_region, ↓G_cond, ↓Gx_blk, ↓G_ops_nil, ↓G_op, Gv_some, ↓G_gop, Gw_tt, Gw_ff, Gw_tf, Gc_true, Gc_false, dec_t, dec_f, killAll, ↓get_setS, evalOp, ev, evs, b_add, b_sub, b_mul, b_eql, b_neq, b_leq, b_gtr, b_quo, wrap_i64, one, Option.map_some, Option.bind_some, asB, finish, resVs, resV, outVs, ownsLast, tupOf, callV, V.shift, V.shifts, List.append_nil, List.all_nil, Bool.and_true, Bool.and_self, Bool.false_and, Bool.and_false, List.getElem?_cons_zero, List.getElem?_cons_succ, Nat.reduceEqDiff, reduceCtorEq, ↓reduceIte, Nat.succ_ne_self, or_false, Bool.not_true, Bool.not_false, bne_self_eq_false, Bool.false_eq_true, pick3, addOff, loadV, Ab.rowAt, rget, and_true, and_self, and_false, false_and, Bool.or_false, List.getD_cons_zero, Nat.zero_add, Nat.add_zero, ti_int, ov_int, fn_some, g0, g2, g3, g5, g7, h24, hsh, hE, hdef, hqq, Nat.zero_lt_succ, Int.zero_add, Int.add_zero]
            done
          · simp (config := { maxSteps := 10000000 }) (disch := omega) only [↓G_seq, ↓G_skip, ↓G_ret, ↓G_region, ↓G_cond, ↓Gx_blk, ↓G_ops_nil, ↓G_op, Gv_some, ↓G_gop, Gw_tt, Gw_ff, Gw_tf, Gc_false, dec_t, dec_f, killAll, ↓get_setS, evalOp, ev, evs, b_eql, b_neq, b_gtr, one, Option.map_some, Option.bind_some, asB, finish, resVs, resV, outVs, ownsLast, tupOf, callV, V.shift, V.shifts, List.append_nil, List.all_nil, Bool.and_self, Bool.false_and, Bool.and_false, List.getElem?_cons_zero, List.getElem?_cons_succ, Nat.reduceEqDiff, reduceCtorEq, ↓reduceIte, Nat.succ_ne_self, or_false, Bool.not_true, bne_self_eq_false, Bool.false_eq_true, pick3, addOff, loadV, Ab.rowAt, rget, and_self, and_false, false_and, Bool.or_false, List.getD_cons_zero, Nat.zero_add, Nat.add_zero, ti_int, ov_int, fn_some, g0, g2, g3, g5, g7, h24, hsh, hE, Nat.zero_lt_succ, Int.zero_add, Int.add_zero]
            done
        by_cases p6 : num % 2 = 0
        case neg =>
          cases fin
          · simp (config := { maxSteps := 10000000 }) (disch := omega) only [↓G_seq, ↓G_skip, ↓G_ret, ↓G_region, ↓G_cond, ↓Gx_blk, ↓G_ops_nil, ↓G_op, Gv_some, ↓G_gop, Gw_tt, Gw_ff, Gw_tf, Gc_true, Gc_false, dec_t, dec_f, killAll, ↓get_setS, evalOp, ev, evs, b_add, b_sub, b_mul, b_eql, b_neq, b_leq, b_gtr, b_rem, b_quo, wrap_i64, one, Option.map_some, Option.bind_some, asB, finish, resVs, resV, outVs, ownsLast, tupOf, callV, V.shift, V.shifts, List.append_nil, List.all_nil, Bool.and_true, Bool.and_self, Bool.false_and, Bool.and_false, List.getElem?_cons_zero, List.getElem?_cons_succ, Nat.reduceEqDiff, reduceCtorEq, ↓reduceIte, Nat.succ_ne_self, or_false, Bool.not_false, bne_self_eq_false, Bool.false_eq_true, pick3, addOff, loadV, Ab.rowAt, rget, and_true, and_self, and_false, false_and, Bool.or_false, List.getD_cons_zero, Nat.zero_add, Nat.add_zero, ti_int, ov_int, fn_some, g0, g2, g3, g4, g5, g7, h24, hsh, hE, hm, hdef, hqq, Nat.zero_lt_succ, Int.zero_add, Int.add_zero]
            done
          · simp (config := { maxSteps := 10000000 }) (disch := omega) only [↓G_seq, ↓G_skip, ↓G_ret, ↓G_region, ↓G_cond, ↓Gx_blk, ↓G_ops_nil, ↓G_op, Gv_some, ↓G_gop, Gw_tt, Gw_ff, Gw_tf, Gc_false, dec_t, dec_f, killAll, ↓get_setS, evalOp, ev, evs, b_eql, b_neq, b_gtr, b_rem, one, Option.map_some, Option.bind_some, asB, finish, resVs, resV, outVs, ownsLast, tupOf, callV, V.shift, V.shifts, List.append_nil, List.all_nil, Bool.and_self, Bool.false_and, Bool.and_false, List.getElem?_cons_zero, List.getElem?_cons_succ, Nat.reduceEqDiff, reduceCtorEq, ↓reduceIte, Nat.succ_ne_self, or_false, Bool.not_true, Bool.not_false, bne_self_eq_false, Bool.false_eq_true, pick3, addOff, loadV, Ab.rowAt, rget, and_self, and_false, false_and, Bool.or_false, List.getD_cons_zero, Nat.zero_add, Nat.add_zero, ti_int, ov_int, fn_some, g0, g2, g3, g4, g5, g7, h24, hsh, hE, hm, Nat.zero_lt_succ, Int.zero_add, Int.add_zero]
            done
        cases fin
        · by_cases p5 : z.r < pt
          · simp (config := { maxSteps := 10000000 }) (disch := omega) only [↓G_seq, ↓G_skip, ↓G_ret, ↓G_region, ↓G_cond, ↓Gx_blk, ↓G_ops_nil, ↓G_op, Gv_some, ↓G_gop, Gw_tt, Gw_ff, Gw_tf, Gc_true, Gc_false, dec_t, dec_f, killAll, ↓get_setS, evalOp, ev, evs, b_add, b_sub, b_mul, b_eql, b_neq, b_lss, b_leq, b_gtr, b_rem, b_quo, wrap_i64, one, Option.map_some, Option.bind_some, asB, finish, resVs, resV, outVs, ownsLast, tupOf, callV, V.shift, V.shifts, List.append_nil, List.all_nil, Bool.and_self, Bool.false_and, Bool.and_false, List.getElem?_cons_zero, List.getElem?_cons_succ, Nat.reduceEqDiff, reduceCtorEq, ↓reduceIte, Nat.succ_ne_self, or_false, Bool.not_false, bne_self_eq_false, Bool.false_eq_true, pick3, addOff, loadV, Ab.rowAt, rget, and_self, and_false, false_and, Bool.or_false, List.getD_cons_zero, Nat.zero_add, Nat.add_zero, ti_int, ov_int, fn_some, g0, g2, g3, g4, g5, g7, h24, hsh, hE, hE2, hm, hdef, hqq, Nat.zero_lt_succ, Int.zero_add, Int.add_zero]
            done
          · simp (config := { maxSteps := 10000000 }) (disch := omega) only [↓G_seq, ↓G_skip, ↓G_ret, ↓G_region, ↓G_cond, ↓Gx_blk, ↓G_ops_nil, ↓G_op, Gv_some, ↓G_gop, Gw_tt, Gw_ff, Gw_tf, Gc_true, Gc_false, dec_t, dec_f, killAll, ↓get_setS, evalOp, ev, evs, b_add, b_sub, b_mul, b_eql, b_neq, b_lss, b_leq, b_gtr, b_rem, b_quo, wrap_i64, one, Option.map_some, Option.bind_some, asB, finish, resVs, resV, outVs, ownsLast, tupOf, callV, V.shift, V.shifts, List.append_nil, List.all_nil, Bool.and_self, Bool.false_and, Bool.and_false, List.getElem?_cons_zero, List.getElem?_cons_succ, Nat.reduceEqDiff, reduceCtorEq, ↓reduceIte, Nat.succ_ne_self, or_false, Bool.not_false, bne_self_eq_false, Bool.false_eq_true, pick3, addOff, loadV, Ab.rowAt, rget, and_self, and_false, false_and, Bool.or_false, List.getD_cons_zero, Nat.zero_add, Nat.add_zero, ti_int, ov_int, fn_some, g0, g2, g3, g4, g5, g7, h24, hsh, hE, hE2, hm, hdef, hqq, Nat.zero_lt_succ, Int.zero_add, Int.add_zero]
            done
        · simp (config := { maxSteps := 10000000 }) (disch := omega) only [↓G_seq, ↓G_skip, ↓G_ret, ↓G_region, ↓G_cond, ↓Gx_blk, ↓G_ops_nil, ↓G_op, Gv_some, ↓G_gop, Gw_tt, Gw_ff, Gw_tf, Gc_false, dec_t, dec_f, killAll, ↓get_setS, evalOp, ev, evs, b_eql, b_neq, b_gtr, b_rem, one, Option.map_some, Option.bind_some, asB, finish, resVs, resV, outVs, ownsLast, tupOf, callV, V.shift, V.shifts, List.append_nil, List.all_nil, Bool.and_self, Bool.false_and, Bool.and_false, List.getElem?_cons_zero, List.getElem?_cons_succ, Nat.reduceEqDiff, reduceCtorEq, ↓reduceIte, Nat.succ_ne_self, or_false, Bool.not_true, Bool.not_false, bne_self_eq_false, Bool.false_eq_true, pick3, addOff, loadV, Ab.rowAt, rget, and_self, and_false, false_and, Bool.or_false, List.getD_cons_zero, Nat.zero_add, Nat.add_zero, ti_int, ov_int, fn_some, g0, g2, g3, g4, g5, g7, h24, hsh, hE, hm, Nat.zero_lt_succ, Int.zero_add, Int.add_zero]
          done
  all_goals simp (config := { maxSteps := 10000000 }) (disch := omega) only [↓get_setS, Ab.get, List.getElem?_cons_zero, List.getElem?_cons_succ, Nat.reduceEqDiff, reduceCtorEq, ↓reduceIte]
  all_goals congr 1

/-! ### Lists of starts -/

/-- A division of n systems. -/
def divB (n : Int) : Option Int → List Int → Bool
  | _, [] => true
  | p, x :: t => (match p with | none => decide (x = 0) | some y => decide (y < x)) && decide (x < n) && divB n (some x) t
def divR (n : Int) (l : List Int) : Bool := divB n none l && (decide (n = 0) == decide (l = []))

/-- What stands before the i-th. -/
def pre (l : List Int) (i : Nat) : Option Int := match i with | 0 => none | i + 1 => l[i]?

theorem loop30 {k : List KI} {v : V} {l : List Int} {n : Int} {Z : Bool} (hl : l.length ≤ 9223372036854775807) (hv : SlV 1 v (I1 l))
    (hx : ∀ fr' L', Ab.get fr' 0 = .i n → Ab.get fr' 1 = v → Gx tbl H [.tmp 4] 0 k fr' L' = some (.bool Z)) :
    ∀ (t : List Int) (i : Nat) (fr : List V) (L : List Row), l.drop i = t → i ≤ l.length → Ab.get fr 0 = .i n → Ab.get fr 1 = v → Ab.get fr 7 = v → Ab.get fr 8 = .i (l.length : Nat) → Ab.get fr 9 = .i (i : Nat) →
    G tbl H [.tmp 4] (.code (.loop ( (.seq ( .region [] [ ⟨some 10, .bin .lss (.t 9) (.t 8), none⟩]) ( (.seq ( (.cond (.t 10) ( .skip) ( .exit 0))) ( (.seq ( (.block 1 ( (.seq ( .region [] [ ⟨some 11, .mv (.t 9), none⟩, ⟨some 12, .elemAddr 1 (.t 7) (.t 9), none⟩, ⟨some 13, .load false 1 (.t 12), none⟩, ⟨some 5, .mv (.t 11), none⟩, ⟨some 6, .mv (.t 13), none⟩]) ( (.seq ( .region [] [ ⟨some 14, .mv (.t 5), none⟩, ⟨some 15, .bin .eql (.t 14) (.c (.int .i64 0)), none⟩, ⟨some 16, .mv (.t 15), none⟩, ⟨some 17, .mv (.t 6), some (16, true)⟩, ⟨some 18, .bin .neq (.t 17) (.c (.int .i64 0)), some (16, true)⟩, ⟨some 19, .pick (.t 16) (.t 18) (.c (.bool false)), none⟩, ⟨some 20, .mv (.t 19), none⟩, ⟨some 21, .mv (.t 5), some (20, false)⟩, ⟨some 22, .bin .gtr (.t 21) (.c (.int .i64 0)), some (20, false)⟩, ⟨some 23, .mv (.t 22), some (20, false)⟩, ⟨some 24, .mv (.t 6), some (23, true)⟩, ⟨some 25, .mv (.t 1), some (23, true)⟩, ⟨some 26, .mv (.t 5), some (23, true)⟩, ⟨some 27, .bin .sub (.t 26) (.c (.int .i64 1)), some (23, true)⟩, ⟨some 28, .elemAddr 1 (.t 25) (.t 27), some (23, true)⟩, ⟨some 29, .load false 1 (.t 28), some (23, true)⟩, ⟨some 30, .bin .leq (.t 24) (.t 29), some (23, true)⟩, ⟨some 31, .pick (.t 23) (.t 30) (.c (.bool false)), some (20, false)⟩, ⟨some 32, .pick (.t 20) (.c (.bool true)) (.t 31), none⟩, ⟨some 33, .mv (.t 32), none⟩, ⟨some 34, .mv (.t 6), some (33, false)⟩, ⟨some 35, .mv (.t 0), some (33, false)⟩, ⟨some 36, .bin .geq (.t 34) (.t 35), some (33, false)⟩, ⟨some 37, .pick (.t 33) (.c (.bool true)) (.t 36), none⟩]) ( (.cond (.t 37) ( (.seq ( .region [] [ ⟨some 4, .mv (.c (.bool false)), none⟩]) ( .ret))) ( .skip))))))))) ( .region [] [ ⟨some 38, .bin .add (.t 9) (.c (.int .i64 1)), none⟩, ⟨some 9, .mv (.t 38), none⟩])))))))) :: k) fr L = some (.bool (divB n (pre l i) t && Z)) := by
  intro t
  induction t with
  | nil =>
    intro i fr L ht hi h0 h1 h7 h8 h9
    have := drop_nil ht
    rw [divB, Bool.true_and]
    refine G_loop.trans ?_
    simp (config := { maxSteps := 10000000 }) (disch := omega) only [↓G_seq, ↓G_exit, ↓G_region, ↓G_cond, ↓Gx_code, ↓G_ops_nil, ↓G_op, Gv_some, Gc_false, dec_f, killAll, ↓get_setS, evalOp, ev, b_lss, one, Option.map_some, List.getElem?_cons_zero, List.getElem?_cons_succ, ↓reduceIte, h8, h9]
    refine hx _ _ ?_ ?_
    all_goals simp (config := { maxSteps := 10000000 }) (disch := omega) only [↓get_setS, List.getElem?_cons_zero, List.getElem?_cons_succ, Nat.reduceEqDiff, reduceCtorEq, ↓reduceIte, h0, h1]
  | cons x t ih =>
    intro i fr L ht hi h0 h1 h7 h8 h9
    obtain ⟨e1, e2, e3⟩ := drop_cons ht
    have hE := hv.el (I1_get l i x e1)
    have hpn : pre l (i + 1) = some x := e1
    have next : ∀ fr' L', Ab.get fr' 0 = .i n → Ab.get fr' 1 = v → Ab.get fr' 7 = v → Ab.get fr' 8 = .i (l.length : Nat) → Ab.get fr' 9 = .i ((i : Nat) + 1) → G tbl H [.tmp 4] (.code (.loop ( (.seq ( .region [] [ ⟨some 10, .bin .lss (.t 9) (.t 8), none⟩]) ( (.seq ( (.cond (.t 10) ( .skip) ( .exit 0))) ( (.seq ( (.block 1 ( (.seq ( .region [] [ ⟨some 11, .mv (.t 9), none⟩, ⟨some 12, .elemAddr 1 (.t 7) (.t 9), none⟩, ⟨some 13, .load false 1 (.t 12), none⟩, ⟨some 5, .mv (.t 11), none⟩, ⟨some 6, .mv (.t 13), none⟩]) ( (.seq ( .region [] [ ⟨some 14, .mv (.t 5), none⟩, ⟨some 15, .bin .eql (.t 14) (.c (.int .i64 0)), none⟩, ⟨some 16, .mv (.t 15), none⟩, ⟨some 17, .mv (.t 6), some (16, true)⟩, ⟨some 18, .bin .neq (.t 17) (.c (.int .i64 0)), some (16, true)⟩, ⟨some 19, .pick (.t 16) (.t 18) (.c (.bool false)), none⟩, ⟨some 20, .mv (.t 19), none⟩, ⟨some 21, .mv (.t 5), some (20, false)⟩, ⟨some 22, .bin .gtr (.t 21) (.c (.int .i64 0)), some (20, false)⟩, ⟨some 23, .mv (.t 22), some (20, false)⟩, ⟨some 24, .mv (.t 6), some (23, true)⟩, ⟨some 25, .mv (.t 1), some (23, true)⟩, ⟨some 26, .mv (.t 5), some (23, true)⟩, ⟨some 27, .bin .sub (.t 26) (.c (.int .i64 1)), some (23, true)⟩, ⟨some 28, .elemAddr 1 (.t 25) (.t 27), some (23, true)⟩, ⟨some 29, .load false 1 (.t 28), some (23, true)⟩, ⟨some 30, .bin .leq (.t 24) (.t 29), some (23, true)⟩, ⟨some 31, .pick (.t 23) (.t 30) (.c (.bool false)), some (20, false)⟩, ⟨some 32, .pick (.t 20) (.c (.bool true)) (.t 31), none⟩, ⟨some 33, .mv (.t 32), none⟩, ⟨some 34, .mv (.t 6), some (33, false)⟩, ⟨some 35, .mv (.t 0), some (33, false)⟩, ⟨some 36, .bin .geq (.t 34) (.t 35), some (33, false)⟩, ⟨some 37, .pick (.t 33) (.c (.bool true)) (.t 36), none⟩]) ( (.cond (.t 37) ( (.seq ( .region [] [ ⟨some 4, .mv (.c (.bool false)), none⟩]) ( .ret))) ( .skip))))))))) ( .region [] [ ⟨some 38, .bin .add (.t 9) (.c (.int .i64 1)), none⟩, ⟨some 9, .mv (.t 38), none⟩])))))))) :: k) fr' L' = some (.bool (divB n (some x) t && Z)) := by
      intro fr' L' g0 g1 g7 g8 g9
      rw [← hpn]
      exact ih (i + 1) fr' L' e2 (by omega) g0 g1 g7 g8 (by rw [g9]; congr 1)
    clear ih hx
    refine G_loop.trans ?_
    cases i with
    | zero =>
      simp only [pre, divB]
      simp only [Int.ofNat_zero, Int.cast_ofNat_Int, Int.zero_add] at h9 hE next
      by_cases c1 : x = 0
      · by_cases c2 : x < n
        · simp only [decide_eq_true c1, decide_eq_true c2, Bool.true_and]
          simp (config := { maxSteps := 10000000 }) (disch := omega) only [↓G_seq, ↓G_skip, ↓G_blk, ↓G_region, ↓G_block, ↓G_cond, ↓G_ops_nil, ↓G_op, Gv_some, ↓G_gop, Gw_tt, Gw_ff, Gw_tf, Gc_true, Gc_false, dec_t, dec_f, killAll, ↓get_setS, evalOp, ev, b_add, b_eql, b_neq, b_lss, b_gtr, b_geq, wrap_i64, one, Option.map_some, asB, List.getElem?_cons_zero, List.getElem?_cons_succ, Nat.reduceEqDiff, reduceCtorEq, ↓reduceIte, Nat.succ_ne_self, decide_true, decide_false, Bool.not_true, Bool.false_eq_true, Int.reduceAdd, Int.reduceLT, pick3, loadV, Nat.reduceAdd, Nat.reduceLT, h0, h7, h8, h9, hE]
          refine next _ _ ?_ ?_ ?_ ?_ ?_
          all_goals simp (config := { maxSteps := 10000000 }) (disch := omega) only [↓get_setS, List.getElem?_cons_zero, List.getElem?_cons_succ, Nat.reduceEqDiff, reduceCtorEq, ↓reduceIte, Nat.succ_ne_self, h0, h1, h7, h8]
        · simp only [decide_eq_false c2, Bool.and_false, Bool.false_and]
          clear next
          simp (config := { maxSteps := 10000000 }) (disch := omega) only [↓G_seq, ↓G_skip, ↓G_ret, ↓G_region, ↓G_block, ↓G_cond, ↓G_ops_nil, ↓G_op, Gv_some, ↓G_gop, Gw_tt, Gw_ff, Gw_tf, Gc_true, dec_t, killAll, ↓get_setS, evalOp, ev, b_eql, b_neq, b_lss, b_gtr, b_geq, one, Option.map_some, Option.bind_some, asB, finish, resVs, resV, outVs, ownsLast, tupOf, List.all_nil, List.getElem?_cons_zero, List.getElem?_cons_succ, Nat.reduceEqDiff, reduceCtorEq, ↓reduceIte, Nat.succ_ne_self, decide_true, decide_false, Bool.not_true, Bool.false_eq_true, Int.reduceLT, pick3, loadV, Nat.reduceLT, ov_bool, fn_some, h0, h7, h8, h9, hE]
      · simp only [decide_eq_false c1, Bool.false_and]
        clear next
        simp (config := { maxSteps := 10000000 }) (disch := omega) only [↓G_seq, ↓G_skip, ↓G_ret, ↓G_region, ↓G_block, ↓G_cond, ↓G_ops_nil, ↓G_op, Gv_some, ↓G_gop, Gw_tt, Gw_ft, Gw_tup, Gc_true, dec_t, dec_f, killAll, ↓get_setS, evalOp, ev, b_eql, b_neq, b_lss, one, Option.map_some, Option.bind_some, asB, finish, resVs, resV, outVs, ownsLast, tupOf, List.all_nil, List.getElem?_cons_zero, List.getElem?_cons_succ, Nat.reduceEqDiff, ↓reduceIte, Nat.succ_ne_self, decide_true, Bool.not_false, Bool.false_eq_true, pick3, loadV, ov_bool, fn_some, h7, h8, h9, hE]
    | succ j =>
      obtain ⟨y, hy⟩ : ∃ y, l[j]? = some y := ⟨_, List.getElem?_eq_getElem (by omega)⟩
      have hE2 := hv.el (I1_get l j y hy)
      have hj : (((j + 1 : Nat) : Int)) - 1 = (j : Nat) := by omega
      simp only [pre, hy, divB]
      by_cases c1 : y < x
      · by_cases c2 : x < n
        · simp only [decide_eq_true c1, decide_eq_true c2, Bool.true_and]
          simp (config := { maxSteps := 10000000 }) (disch := omega) only [↓G_seq, ↓G_skip, ↓G_blk, ↓G_region, ↓G_block, ↓G_cond, ↓G_ops_nil, ↓G_op, Gv_some, ↓G_gop, Gw_tt, Gw_ff, Gw_tf, Gc_true, Gc_false, dec_t, dec_f, killAll, ↓get_setS, evalOp, ev, b_add, b_sub, b_eql, b_lss, b_leq, b_gtr, b_geq, wrap_i64, one, Option.map_some, asB, List.getElem?_cons_zero, List.getElem?_cons_succ, Nat.reduceEqDiff, reduceCtorEq, ↓reduceIte, Nat.succ_ne_self, Bool.false_eq_true, pick3, loadV, h0, h1, h7, h8, h9, hE, hE2, hj]
          refine next _ _ ?_ ?_ ?_ ?_ ?_
          all_goals simp (config := { maxSteps := 10000000 }) (disch := omega) only [↓get_setS, List.getElem?_cons_zero, List.getElem?_cons_succ, Nat.reduceEqDiff, reduceCtorEq, ↓reduceIte, Nat.succ_ne_self, h0, h1, h7, h8]
        · simp only [decide_eq_false c2, Bool.and_false, Bool.false_and]
          clear next
          simp (config := { maxSteps := 10000000 }) (disch := omega) only [↓G_seq, ↓G_skip, ↓G_ret, ↓G_region, ↓G_block, ↓G_cond, ↓G_ops_nil, ↓G_op, Gv_some, ↓G_gop, Gw_tt, Gw_ff, Gw_tf, Gc_true, dec_t, dec_f, killAll, ↓get_setS, evalOp, ev, b_sub, b_eql, b_lss, b_leq, b_gtr, b_geq, wrap_i64, one, Option.map_some, Option.bind_some, asB, finish, resVs, resV, outVs, ownsLast, tupOf, List.all_nil, List.getElem?_cons_zero, List.getElem?_cons_succ, Nat.reduceEqDiff, reduceCtorEq, ↓reduceIte, Nat.succ_ne_self, Bool.false_eq_true, pick3, loadV, ov_bool, fn_some, h0, h1, h7, h8, h9, hE, hE2, hj]
      · simp only [decide_eq_false c1, Bool.false_and]
        clear next
        simp (config := { maxSteps := 10000000 }) (disch := omega) only [↓G_seq, ↓G_skip, ↓G_ret, ↓G_region, ↓G_block, ↓G_cond, ↓G_ops_nil, ↓G_op, Gv_some, ↓G_gop, Gw_tt, Gw_ff, Gw_tf, Gw_ft, Gc_true, dec_t, dec_f, killAll, ↓get_setS, evalOp, ev, b_sub, b_eql, b_lss, b_leq, b_gtr, wrap_i64, one, Option.map_some, Option.bind_some, asB, finish, resVs, resV, outVs, ownsLast, tupOf, List.all_nil, List.getElem?_cons_zero, List.getElem?_cons_succ, Nat.reduceEqDiff, ↓reduceIte, Nat.succ_ne_self, Bool.false_eq_true, pick3, loadV, ov_bool, fn_some, h1, h7, h8, h9, hE, hE2, hj]

theorem c30 {v : V} {l : List Int} {n : Int} (hm : l.length ≤ 9223372036854775807) (hv : SlV 1 v (I1 l)) : call tbl 30 [.i n, v] H = some (.bool (divR n l)) := by
  refine (call_start (show tbl 30 = some a30 from rfl)).trans ?_
  have hlen := hv.len
  rw [I1_len] at hlen
  unfold a30 divR
  simp (config := { maxSteps := 10000000 }) (disch := omega) only [↓G_seq, ↓G_region, ↓G_block, ↓G_ops_nil, ↓G_op, Gv_some, killAll, ↓get_setS, evalOp, ev, Ab.get, one, Option.map_some, List.getElem?_cons_zero, List.getElem?_cons_succ, Nat.reduceEqDiff, ↓reduceIte, hlen]
  refine loop30 (l := l) (n := n) (Z := decide (n = 0) == decide (l = [])) hm hv (fun fr' L' g0 g1 => ?_) l 0 _ _ rfl (by omega) ?_ ?_ ?_ ?_ ?_
  · by_cases h1 : n = 0
    · by_cases h2 : l = []
      · subst h2
        simp only [List.length_nil, Int.ofNat_zero, Int.cast_ofNat_Int] at hlen
        simp (config := { maxSteps := 10000000 }) (disch := omega) only [beq_self_eq_true, ↓G_seq, ↓G_ret, ↓G_region, ↓Gx_blk, ↓G_ops_nil, ↓G_op, Gv_some, dec_t, killAll, ↓get_setS, evalOp, ev, b_eql, one, Option.map_some, Option.bind_some, finish, resVs, resV, outVs, ownsLast, tupOf, List.all_nil, List.getElem?_cons_zero, List.getElem?_cons_succ, Nat.reduceEqDiff, ↓reduceIte, Nat.succ_ne_self, decide_true, Bool.false_eq_true, ov_bool, fn_some, g0, g1, hlen, decide_eq_true h1]
      · have : 0 < l.length := List.length_pos_iff.2 h2
        simp only [decide_eq_false h2]
        simp (config := { maxSteps := 10000000 }) (disch := omega) only [Bool.true_beq, ↓G_seq, ↓G_ret, ↓G_region, ↓Gx_blk, ↓G_ops_nil, ↓G_op, Gv_some, dec_t, dec_f, killAll, ↓get_setS, evalOp, ev, b_eql, one, Option.map_some, Option.bind_some, finish, resVs, resV, outVs, ownsLast, tupOf, List.all_nil, List.getElem?_cons_zero, List.getElem?_cons_succ, Nat.reduceEqDiff, ↓reduceIte, Nat.succ_ne_self, Bool.false_eq_true, ov_bool, fn_some, g0, g1, hlen]
    · by_cases h2 : l = []
      · subst h2
        simp only [List.length_nil, Int.ofNat_zero, Int.cast_ofNat_Int] at hlen
        simp (config := { maxSteps := 10000000 }) (disch := omega) only [Bool.false_beq, ↓G_seq, ↓G_ret, ↓G_region, ↓Gx_blk, ↓G_ops_nil, ↓G_op, Gv_some, dec_f, killAll, ↓get_setS, evalOp, ev, b_eql, one, Option.map_some, Option.bind_some, finish, resVs, resV, outVs, ownsLast, tupOf, List.all_nil, List.getElem?_cons_zero, List.getElem?_cons_succ, Nat.reduceEqDiff, ↓reduceIte, Nat.succ_ne_self, decide_true, Bool.not_true, Bool.false_eq_true, ov_bool, fn_some, g0, g1, hlen]
      · have : 0 < l.length := List.length_pos_iff.2 h2
        simp only [decide_eq_false h2]
        simp (config := { maxSteps := 10000000 }) (disch := omega) only [beq_self_eq_true, ↓G_seq, ↓G_ret, ↓G_region, ↓Gx_blk, ↓G_ops_nil, ↓G_op, Gv_some, dec_f, killAll, ↓get_setS, evalOp, ev, b_eql, one, Option.map_some, Option.bind_some, finish, resVs, resV, outVs, ownsLast, tupOf, List.all_nil, List.getElem?_cons_zero, List.getElem?_cons_succ, Nat.reduceEqDiff, ↓reduceIte, Nat.succ_ne_self, Bool.false_eq_true, ov_bool, fn_some, g0, g1, hlen]
  all_goals simp (config := { maxSteps := 10000000 }) (disch := omega) only [↓get_setS, Ab.get, List.getElem?_cons_zero, List.getElem?_cons_succ, Nat.reduceEqDiff, reduceCtorEq, ↓reduceIte, Nat.succ_ne_self, Int.cast_ofNat_Int]

end Go.Proofs.Ytgghbckhdchcaaa

/-
  The law of tonics, as an equation.
-/
import Derived.Test.YtfpkelnakagdfaaS07K
namespace Go.Proofs.Ytfpkelnakagdfaa
open Go Go.Ab
set_option linter.unusedVariables false
set_option linter.unnecessarySimpa false
set_option linter.unusedSimpArgs false
set_option maxRecDepth 100000
variable {H : List (List Row)}

def okR (s a : Int) : Prop := (0 ≤ s ∧ s ≤ 6) ∧ (-2 ≤ a ∧ a ≤ 2)
def ofX (s a : Int) (m : Bool) : Int := placeR s + 7 * a - mn m

theorem mn_in (m : Bool) : mn m = 0 ∨ mn m = 3 := by cases m <;> simp [mn]

theorem c27_bad (s a : Int) (m : Bool) (h : ¬ okR s a) : call tbl 27 [.i s, .i a, .bool m] H = some (.tup [.i 0, .i 18]) := by
  refine (call_start (show tbl 27 = some a27 from rfl)).trans ?_
  unfold okR at h
  unfold a27
  by_cases k : 0 ≤ s ∧ s ≤ 6
  · by_cases h1 : a < -2
    · simp (config := { maxSteps := 10000000 }) (disch := omega) only [fin2, ↓G_seq, ↓G_ret, ↓G_region, ↓G_cond, ↓G_ops_nil, ↓G_op, Gv_some, ↓G_gop, Gw_ff, Gw_ft, Gc_true, dec_t, killAll, ↓get_setS, evalOp, ev, evs, Ab.get, b_lss, one, Option.map_some, Option.bind_some, asB, finish, resVs, resV, outVs, outV, ownsLast, tupOf, callV, takeIn, V.shift, V.shifts, List.append_nil, List.all_cons, List.all_nil, Bool.and_self, List.getElem?_cons_zero, List.getElem?_cons_succ, Nat.reduceEqDiff, reduceCtorEq, ↓reduceIte, Nat.succ_ne_self, Bool.not_true, bne_self_eq_false, Bool.false_eq_true, Int.reduceNeg, and_self, c38, step_t s k]
    · simp (config := { maxSteps := 10000000 }) (disch := omega) only [fin2, ↓G_seq, ↓G_ret, ↓G_region, ↓G_cond, ↓G_ops_nil, ↓G_op, Gv_some, ↓G_gop, Gw_ff, Gc_true, dec_t, dec_f, killAll, ↓get_setS, evalOp, ev, evs, Ab.get, b_lss, b_gtr, one, Option.map_some, Option.bind_some, asB, finish, resVs, resV, outVs, outV, ownsLast, tupOf, callV, takeIn, V.shift, V.shifts, List.append_nil, List.all_cons, List.all_nil, Bool.and_self, List.getElem?_cons_zero, List.getElem?_cons_succ, Nat.reduceEqDiff, reduceCtorEq, ↓reduceIte, Nat.succ_ne_self, Bool.not_true, bne_self_eq_false, Bool.false_eq_true, Int.reduceNeg, and_self, c38, step_t s k]
  · simp (config := { maxSteps := 10000000 }) (disch := omega) only [fin2, ↓G_seq, ↓G_ret, ↓G_region, ↓G_cond, ↓G_ops_nil, ↓G_op, Gv_some, ↓G_gop, Gw_ft, Gc_true, killAll, ↓get_setS, evalOp, ev, evs, Ab.get, Option.map_some, Option.bind_some, asB, finish, resVs, resV, outVs, outV, ownsLast, tupOf, callV, takeIn, V.shift, V.shifts, List.append_nil, List.all_cons, List.all_nil, Bool.and_self, List.getElem?_cons_zero, List.getElem?_cons_succ, Nat.reduceEqDiff, reduceCtorEq, ↓reduceIte, Nat.succ_ne_self, Bool.not_false, bne_self_eq_false, Int.reduceNeg, and_self, c38, step_f s k]

theorem c27_out (s a : Int) (m : Bool) (h : okR s a) (k : ¬ (-7 ≤ ofX s a m ∧ ofX s a m ≤ 7)) : call tbl 27 [.i s, .i a, .bool m] H = some (.tup [.i 0, .i 2]) := by
  refine (call_start (show tbl 27 = some a27 from rfl)).trans ?_
  unfold okR at h
  have hp := place_in s
  have hm := mn_in m
  have hc : checkR (placeR s + 7 * a - mn m) = 2 := by unfold checkR; rw [if_pos (by unfold ofX at k; omega)]
  have h42 : ∀ (H : List (List Row)), call tbl 42 [.bool m] H = some (.i (mn m)) := fun H => c42 m
  unfold a27
  simp (config := { maxSteps := 10000000 }) (disch := omega) only [fin2, ↓G_seq, ↓G_skip, ↓G_ret, ↓G_region, ↓G_cond, ↓G_ops_nil, ↓G_op, Gv_some, ↓G_gop, Gw_ff, Gc_true, Gc_false, dec_t, dec_f, killAll, ↓get_setS, evalOp, ev, evs, Ab.get, b_add, b_sub, b_mul, b_neq, b_lss, b_gtr, wrap_i64, one, Option.map_some, Option.bind_some, asB, finish, resVs, resV, outVs, outV, ownsLast, tupOf, callV, takeIn, V.shift, V.shifts, List.append_nil, List.all_cons, List.all_nil, Bool.and_self, List.getElem?_cons_zero, List.getElem?_cons_succ, Nat.reduceEqDiff, reduceCtorEq, ↓reduceIte, Nat.succ_ne_self, decide_false, Bool.not_true, Bool.not_false, bne_self_eq_false, Bool.false_eq_true, Int.reduceNeg, Int.reduceEq, and_self, c38, step_t s h.1, c43, h42, c22, hc]

theorem c27 (s a : Int) (m : Bool) (h : okR s a) (k : -7 ≤ ofX s a m ∧ ofX s a m ≤ 7) : call tbl 27 [.i s, .i a, .bool m] H = some (.tup [.i (ofX s a m), .i 0]) := by
  refine (call_start (show tbl 27 = some a27 from rfl)).trans ?_
  unfold okR at h
  have hp := place_in s
  have hm := mn_in m
  have hc : checkR (placeR s + 7 * a - mn m) = 0 := by unfold checkR; rw [if_neg (by unfold ofX at k; omega)]
  have h42 : ∀ (H : List (List Row)), call tbl 42 [.bool m] H = some (.i (mn m)) := fun H => c42 m
  unfold a27
  simp (config := { maxSteps := 10000000 }) (disch := omega) only [fin2, ↓G_seq, ↓G_skip, ↓G_ret, ↓G_region, ↓G_cond, ↓G_ops_nil, ↓G_op, Gv_some, ↓G_gop, Gw_ff, Gc_false, dec_t, dec_f, killAll, ↓get_setS, evalOp, ev, evs, Ab.get, b_add, b_sub, b_mul, b_neq, b_lss, b_gtr, wrap_i64, one, Option.map_some, Option.bind_some, asB, finish, resVs, resV, outVs, outV, ownsLast, tupOf, callV, takeIn, V.shift, V.shifts, List.append_nil, List.all_cons, List.all_nil, Bool.and_self, List.getElem?_cons_zero, List.getElem?_cons_succ, Nat.reduceEqDiff, reduceCtorEq, ↓reduceIte, Nat.succ_ne_self, decide_true, Bool.not_true, bne_self_eq_false, Bool.false_eq_true, Int.reduceNeg, and_self, c38, step_t s h.1, c43, h42, c22, hc]
  try rfl

def findR (s a : Int) (m : Bool) : Nat → Int × Int
  | 0 => (0, 2)
  | n + 1 => if tonS (7 - n + mn m) = s ∧ tonA (7 - n + mn m) = a then (7 - n, 0) else findR s a m n

theorem loop28 {s a : Int} {m : Bool} {k : List KI} {L : List Row} (hx : ∀ fr', Gx tbl H [.tmp 6, .tmp 7] 0 k fr' L = some (.tup [.i 0, .i 2])) :
    ∀ (n : Nat), n ≤ 15 → ∀ (fr : List V), Ab.get fr 8 = .i (8 - n) → Ab.get fr 0 = .i s → Ab.get fr 1 = .i a → Ab.get fr 2 = .bool m →
    G tbl H [.tmp 6, .tmp 7] (.code (.loop ( (.seq ( (.seq ( .region [] [ ⟨some 25, .mv (.t 8), none⟩, ⟨some 26, .bin .leq (.t 25) (.c (.int .i64 7)), none⟩]) ( (.cond (.t 26) ( .skip) ( .exit 0))))) ( (.seq ( (.block 1 ( (.seq ( .region [] [ ⟨some 30, .mv (.t 8), none⟩, ⟨some 31, .mv (.t 2), none⟩, ⟨some 32, .call 0 (.c (.fn 29 [])) [(.t 30), (.t 31)], none⟩, ⟨some 29, .mv (.t 32), none⟩, ⟨some 33, .ext (.t 29) 0, none⟩, ⟨some 34, .ext (.t 29) 1, none⟩, ⟨some 9, .mv (.t 33), none⟩, ⟨some 10, .mv (.t 34), none⟩]) ( (.seq ( .region [] [ ⟨some 35, .mv (.t 9), none⟩, ⟨some 36, .mv (.t 0), none⟩, ⟨some 37, .bin .eql (.t 35) (.t 36), none⟩, ⟨some 38, .mv (.t 37), none⟩, ⟨some 39, .mv (.t 10), some (38, true)⟩, ⟨some 40, .mv (.t 1), some (38, true)⟩, ⟨some 41, .bin .eql (.t 39) (.t 40), some (38, true)⟩, ⟨some 42, .pick (.t 38) (.t 41) (.c (.bool false)), none⟩]) ( (.cond (.t 42) ( (.seq ( .region [] [ ⟨some 43, .mv (.t 8), none⟩, ⟨some 6, .mv (.t 43), none⟩, ⟨some 7, .mv (.c (.int .i64 0)), none⟩]) ( .ret))) ( .skip))))))))) ( .region [] [ ⟨some 27, .mv (.t 8), none⟩, ⟨some 28, .bin .add (.t 27) (.c (.int .i64 1)), none⟩, ⟨some 8, .mv (.t 28), none⟩])))))) :: k) fr L = some (.tup [.i (findR s a m n).1, .i (findR s a m n).2]) := by
  intro n
  induction n with
  | zero =>
    intro hn fr h8 h0 h1 h2
    refine G_loop.trans ?_
    have e : (8 - ((0 : Nat) : Int)) = 8 := rfl
    rw [e] at h8
    simp (config := { maxSteps := 10000000 }) (disch := omega) only [↓G_seq, ↓G_exit, ↓G_region, ↓G_cond, ↓Gx_code, ↓G_ops_nil, ↓G_op, Gv_some, Gc_false, killAll, ↓get_setS, evalOp, ev, b_leq, one, Option.map_some, List.getElem?_cons_zero, List.getElem?_cons_succ, ↓reduceIte, decide_false, Int.reduceLE, h8]
    exact hx _
  | succ n ih =>
    intro hn fr h8 h0 h1 h2
    refine G_loop.trans ?_
    have e : (8 - ((n + 1 : Nat) : Int)) = 7 - n := by omega
    rw [e] at h8
    have h29 : ∀ (H : List (List Row)), call tbl 29 [.i (7 - n), .bool m] H = some (.tup [.i (tonS (7 - n + mn m)), .i (tonA (7 - n + mn m))]) := fun H => c29 (7 - n) m (by omega)
    unfold findR
    by_cases q : tonS (7 - n + mn m) = s
    · by_cases r : tonA (7 - n + mn m) = a
      · simp (config := { maxSteps := 10000000 }) (disch := omega) only [fin2, ↓G_seq, ↓G_skip, ↓G_ret, ↓G_region, ↓G_block, ↓G_cond, ↓G_ops_nil, ↓G_op, Gv_some, ↓G_gop, Gw_tt, Gc_true, dec_t, killAll, ↓get_setS, evalOp, ev, evs, b_eql, b_leq, one, Option.map_some, Option.bind_some, asB, finish, resVs, resV, outVs, outV, ownsLast, tupOf, callV, takeIn, Ab.settle, V.shift, V.shifts, List.append_nil, List.map_cons, List.map_nil, List.all_cons, List.all_nil, Bool.and_self, List.getElem?_cons_zero, List.getElem?_cons_succ, Nat.reduceEqDiff, reduceCtorEq, ↓reduceIte, Nat.succ_ne_self, bne_self_eq_false, and_self, h8, h0, h1, h2, h29]
        try rw [if_pos ⟨q, r⟩]
      · simp (config := { maxSteps := 10000000 }) (disch := omega) only [↓G_seq, ↓G_skip, ↓G_blk, ↓G_region, ↓G_block, ↓G_cond, ↓G_ops_nil, ↓G_op, Gv_some, ↓G_gop, Gw_tt, Gc_true, Gc_false, dec_t, dec_f, killAll, ↓get_setS, evalOp, ev, evs, b_add, b_eql, b_leq, wrap_i64, one, Option.map_some, asB, callV, takeIn, Ab.settle, V.shift, V.shifts, List.append_nil, List.map_cons, List.map_nil, List.getElem?_cons_zero, List.getElem?_cons_succ, Nat.reduceEqDiff, reduceCtorEq, ↓reduceIte, Nat.succ_ne_self, bne_self_eq_false, h8, h0, h1, h2, h29]
        try rw [if_neg (fun z => r z.2)]
        refine ih (by omega) _ ?_ ?_ ?_ ?_
        · simp (config := { maxSteps := 10000000 }) (disch := omega) only [↓get_setS, List.getElem?_cons_zero, List.getElem?_cons_succ, ↓reduceIte]
          try congr 1
          try omega
        · simp (config := { maxSteps := 10000000 }) (disch := omega) only [↓get_setS, List.getElem?_cons_zero, List.getElem?_cons_succ, reduceCtorEq, ↓reduceIte, h0]
        · simp (config := { maxSteps := 10000000 }) (disch := omega) only [↓get_setS, List.getElem?_cons_zero, List.getElem?_cons_succ, Nat.reduceEqDiff, ↓reduceIte, h1]
        · simp (config := { maxSteps := 10000000 }) (disch := omega) only [↓get_setS, List.getElem?_cons_zero, List.getElem?_cons_succ, Nat.reduceEqDiff, ↓reduceIte, h2]
    · simp (config := { maxSteps := 10000000 }) (disch := omega) only [↓G_seq, ↓G_skip, ↓G_blk, ↓G_region, ↓G_block, ↓G_cond, ↓G_ops_nil, ↓G_op, Gv_some, ↓G_gop, Gw_tf, Gc_true, Gc_false, dec_t, dec_f, killAll, ↓get_setS, evalOp, ev, evs, b_add, b_eql, b_leq, wrap_i64, one, Option.map_some, asB, callV, takeIn, Ab.settle, V.shift, V.shifts, List.append_nil, List.map_cons, List.map_nil, List.getElem?_cons_zero, List.getElem?_cons_succ, Nat.reduceEqDiff, reduceCtorEq, ↓reduceIte, Nat.succ_ne_self, bne_self_eq_false, Bool.false_eq_true, h8, h0, h2, h29]
      try rw [if_neg (fun z => q z.1)]
      refine ih (by omega) _ ?_ ?_ ?_ ?_
      · simp (config := { maxSteps := 10000000 }) (disch := omega) only [↓get_setS, List.getElem?_cons_zero, List.getElem?_cons_succ, ↓reduceIte]
        try congr 1
        try omega
      · simp (config := { maxSteps := 10000000 }) (disch := omega) only [↓get_setS, List.getElem?_cons_zero, List.getElem?_cons_succ, reduceCtorEq, ↓reduceIte, h0]
      · simp (config := { maxSteps := 10000000 }) (disch := omega) only [↓get_setS, List.getElem?_cons_zero, List.getElem?_cons_succ, Nat.reduceEqDiff, ↓reduceIte, h1]
      · simp (config := { maxSteps := 10000000 }) (disch := omega) only [↓get_setS, List.getElem?_cons_zero, List.getElem?_cons_succ, Nat.reduceEqDiff, ↓reduceIte, h2]

theorem c28_bad (s a : Int) (m : Bool) (h : ¬ okR s a) : call tbl 28 [.i s, .i a, .bool m] H = some (.tup [.i 0, .i 18]) := by
  refine (call_start (show tbl 28 = some a28 from rfl)).trans ?_
  unfold okR at h
  unfold a28
  by_cases k : s < 0
  · simp (config := { maxSteps := 10000000 }) (disch := omega) only [fin2, ↓G_seq, ↓G_ret, ↓G_region, ↓G_cond, ↓G_ops_nil, ↓G_op, Gv_some, ↓G_gop, Gw_ft, Gc_true, dec_t, killAll, ↓get_setS, evalOp, ev, Ab.get, b_lss, one, Option.map_some, Option.bind_some, asB, finish, resVs, resV, outVs, outV, ownsLast, tupOf, List.all_cons, List.all_nil, Bool.and_self, List.getElem?_cons_zero, List.getElem?_cons_succ, Nat.reduceEqDiff, reduceCtorEq, ↓reduceIte, Nat.succ_ne_self, Int.reduceNeg, and_self]
  by_cases k1 : 6 < s
  · simp (config := { maxSteps := 10000000 }) (disch := omega) only [fin2, ↓G_seq, ↓G_ret, ↓G_region, ↓G_cond, ↓G_ops_nil, ↓G_op, Gv_some, ↓G_gop, Gw_ff, Gw_ft, Gc_true, dec_t, dec_f, killAll, ↓get_setS, evalOp, ev, Ab.get, b_lss, b_gtr, one, Option.map_some, Option.bind_some, asB, finish, resVs, resV, outVs, outV, ownsLast, tupOf, List.all_cons, List.all_nil, Bool.and_self, List.getElem?_cons_zero, List.getElem?_cons_succ, Nat.reduceEqDiff, reduceCtorEq, ↓reduceIte, Nat.succ_ne_self, Bool.false_eq_true, Int.reduceNeg, and_self]
  by_cases k2 : a < -2
  · simp (config := { maxSteps := 10000000 }) (disch := omega) only [fin2, ↓G_seq, ↓G_ret, ↓G_region, ↓G_cond, ↓G_ops_nil, ↓G_op, Gv_some, ↓G_gop, Gw_ff, Gw_ft, Gc_true, dec_t, dec_f, killAll, ↓get_setS, evalOp, ev, Ab.get, b_lss, b_gtr, one, Option.map_some, Option.bind_some, asB, finish, resVs, resV, outVs, outV, ownsLast, tupOf, List.all_cons, List.all_nil, Bool.and_self, List.getElem?_cons_zero, List.getElem?_cons_succ, Nat.reduceEqDiff, reduceCtorEq, ↓reduceIte, Nat.succ_ne_self, Bool.false_eq_true, Int.reduceNeg, and_self]
  · simp (config := { maxSteps := 10000000 }) (disch := omega) only [fin2, ↓G_seq, ↓G_ret, ↓G_region, ↓G_cond, ↓G_ops_nil, ↓G_op, Gv_some, ↓G_gop, Gw_ff, Gc_true, dec_t, dec_f, killAll, ↓get_setS, evalOp, ev, Ab.get, b_lss, b_gtr, one, Option.map_some, Option.bind_some, asB, finish, resVs, resV, outVs, outV, ownsLast, tupOf, List.all_cons, List.all_nil, Bool.and_self, List.getElem?_cons_zero, List.getElem?_cons_succ, Nat.reduceEqDiff, reduceCtorEq, ↓reduceIte, Nat.succ_ne_self, Bool.false_eq_true, Int.reduceNeg, and_self]

theorem c28' (s a : Int) (m : Bool) (h : okR s a) : call tbl 28 [.i s, .i a, .bool m] H = some (.tup [.i (findR s a m 15).1, .i (findR s a m 15).2]) := by
  refine (call_start (show tbl 28 = some a28 from rfl)).trans ?_
  unfold okR at h
  unfold a28
  simp (config := { maxSteps := 10000000 }) (disch := omega) only [↓G_seq, ↓G_skip, ↓G_region, ↓G_block, ↓G_cond, ↓G_ops_nil, ↓G_op, Gv_some, ↓G_gop, Gw_ff, Gc_false, dec_f, killAll, ↓get_setS, evalOp, ev, Ab.get, b_lss, b_gtr, one, Option.map_some, asB, List.getElem?_cons_zero, List.getElem?_cons_succ, Nat.reduceEqDiff, reduceCtorEq, ↓reduceIte, Nat.succ_ne_self, Bool.false_eq_true, Int.reduceNeg]
  refine loop28 (fun fr' => ?_) 15 (by omega) _ ?_ ?_ ?_ ?_
  · simp (config := { maxSteps := 10000000 }) (disch := omega) only [fin2, ↓G_seq, ↓G_ret, ↓G_region, ↓Gx_blk, ↓G_ops_nil, ↓G_op, Gv_some, killAll, ↓get_setS, evalOp, ev, Option.map_some, Option.bind_some, finish, resVs, resV, outVs, outV, ownsLast, tupOf, List.all_cons, List.all_nil, Bool.and_self, List.getElem?_cons_zero, List.getElem?_cons_succ, ↓reduceIte, Nat.succ_ne_self, and_self]
  · simp (config := { maxSteps := 10000000 }) (disch := omega) only [↓get_setS, List.getElem?_cons_zero, List.getElem?_cons_succ, ↓reduceIte, Int.reduceNeg, Int.reduceSub, Nat.reduceSub, Int.cast_ofNat_Int]
  · simp (config := { maxSteps := 10000000 }) (disch := omega) only [↓get_setS, Ab.get, List.getElem?_cons_zero, List.getElem?_cons_succ, reduceCtorEq, ↓reduceIte]
  · simp (config := { maxSteps := 10000000 }) (disch := omega) only [↓get_setS, Ab.get, List.getElem?_cons_zero, List.getElem?_cons_succ, Nat.reduceEqDiff, ↓reduceIte]
  · simp (config := { maxSteps := 10000000 }) (disch := omega) only [↓get_setS, Ab.get, List.getElem?_cons_zero, List.getElem?_cons_succ, Nat.reduceEqDiff, ↓reduceIte]

theorem cases5 (f : Int) (h : -2 ≤ f ∧ f ≤ 2) : f = -2 ∨ f = -1 ∨ f = 0 ∨ f = 1 ∨ f = 2 := by omega

theorem find_eq (s a : Int) (m : Bool) (h : okR s a) : findR s a m 15 = if -7 ≤ ofX s a m ∧ ofX s a m ≤ 7 then (ofX s a m, 0) else (0, 2) := by
  rcases cases7 s h.1 with rfl | rfl | rfl | rfl | rfl | rfl | rfl
  all_goals rcases cases5 a h.2 with rfl | rfl | rfl | rfl | rfl
  all_goals cases m
  all_goals decide

theorem back (f : Int) (m : Bool) (h : -7 ≤ f ∧ f ≤ 7) : okR (tonS (f + mn m)) (tonA (f + mn m)) ∧ ofX (tonS (f + mn m)) (tonA (f + mn m)) m = f := by
  unfold okR
  rcases cases15 f h with rfl | rfl | rfl | rfl | rfl | rfl | rfl | rfl | rfl | rfl | rfl | rfl | rfl | rfl | rfl
  all_goals cases m
  all_goals decide

theorem l7 (f s a : Int) (m : Bool) : call tbl 7 [.i f, .bool m, .agg [.i s, .i a]] H = some (.bool true) := by
  refine (call_start (show tbl 7 = some a7 from rfl)).trans ?_
  obtain ⟨n, e, h27, h28⟩ : ∃ n e : Int, (∀ H, call tbl 27 [.i s, .i a, .bool m] H = some (.tup [.i n, .i e])) ∧ (∀ H, call tbl 28 [.i s, .i a, .bool m] H = some (.tup [.i n, .i e])) := by
    by_cases h : okR s a
    · have hf := find_eq s a m h
      by_cases k : -7 ≤ ofX s a m ∧ ofX s a m ≤ 7
      · rw [if_pos k] at hf
        exact ⟨_, _, fun H => c27 s a m h k, fun H => (c28' s a m h).trans (by rw [hf])⟩
      · rw [if_neg k] at hf
        exact ⟨_, _, fun H => c27_out s a m h k, fun H => (c28' s a m h).trans (by rw [hf])⟩
    · exact ⟨_, _, fun H => c27_bad s a m h, fun H => c28_bad s a m h⟩
  by_cases h : -7 ≤ f ∧ f ≤ 7
  · obtain ⟨hb, hx⟩ := back f m h
    have hq : ∀ H, call tbl 27 [.i (tonS (f + mn m)), .i (tonA (f + mn m)), .bool m] H = some (.tup [.i f, .i 0]) := fun H => (c27 _ _ m hb (by rw [hx]; exact h)).trans (by rw [hx])
    unfold a7
    simp (config := { maxSteps := 10000000 }) (disch := omega) only [fin2, ↓G_seq, ↓G_skip, ↓G_ret, ↓G_region, ↓G_cond, ↓G_ops_nil, ↓G_op, Gv_some, ↓G_gop, Gw_tt, Gw_ff, Gc_false, dec_t, killAll, ↓get_setS, evalOp, ev, evs, Ab.get, b_eql, b_neq, one, Option.map_some, Option.bind_some, asB, finish, resVs, resV, outVs, outV, ownsLast, tupOf, callV, takeIn, Ab.settle, V.shift, V.shifts, List.append_nil, List.map_cons, List.map_nil, List.all_cons, List.all_nil, Bool.and_self, List.getElem?_cons_zero, List.getElem?_cons_succ, Nat.reduceEqDiff, reduceCtorEq, ↓reduceIte, Nat.succ_ne_self, decide_true, Bool.not_true, bne_self_eq_false, Bool.false_eq_true, Int.reduceNeg, Int.reduceAdd, Int.reduceLT, Int.reduceLE, pick3, V.cells, arrV, loadV, Ab.rowAt, rget, rset, V.scalar, Int.reduceToNat, Nat.reduceAdd, Nat.reduceLT, and_self, List.length_cons, List.length_nil, List.getD_cons_zero, Int.cast_ofNat_Int, Nat.zero_add, Nat.add_zero, Nat.mul_one, c26 f m h, h27, h28, c14, c15, is_t f h, c29 f m h, hq]
  · unfold a7
    simp (config := { maxSteps := 10000000 }) (disch := omega) only [fin2, ↓G_seq, ↓G_skip, ↓G_ret, ↓G_region, ↓G_cond, ↓G_ops_nil, ↓G_op, Gv_some, ↓G_gop, Gw_tt, Gw_ff, Gc_true, Gc_false, killAll, ↓get_setS, evalOp, ev, evs, Ab.get, b_eql, b_neq, one, Option.map_some, Option.bind_some, asB, finish, resVs, resV, outVs, outV, ownsLast, tupOf, callV, takeIn, Ab.settle, V.shift, V.shifts, List.append_nil, List.map_cons, List.map_nil, List.all_cons, List.all_nil, Bool.and_self, List.getElem?_cons_zero, List.getElem?_cons_succ, Nat.reduceEqDiff, reduceCtorEq, ↓reduceIte, Nat.succ_ne_self, decide_true, Bool.not_true, Bool.not_false, bne_self_eq_false, Bool.false_eq_true, Int.reduceNeg, Int.reduceAdd, Int.reduceLT, Int.reduceLE, pick3, V.cells, arrV, loadV, Ab.rowAt, rget, rset, V.scalar, Int.reduceToNat, Nat.reduceAdd, Nat.reduceLT, and_self, List.length_cons, List.length_nil, List.getD_cons_zero, Int.cast_ofNat_Int, Nat.zero_add, Nat.add_zero, Nat.mul_one, c26' f m h, h27, h28, c14, c15, is_f f h]

end Go.Proofs.Ytfpkelnakagdfaa

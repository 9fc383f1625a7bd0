/-
  The reference's Read, and the law AccidentalReads as an equation.
-/
import Derived.Test.YthnjcaioeaepjaaS10R
namespace Go.Proofs.Ythnjcaioeaepjaa
open Go Go.Ab
set_option linter.unusedVariables false
set_option linter.unnecessarySimpa false
set_option linter.unusedSimpArgs false
set_option maxRecDepth 100000
variable {H : List (List Row)}

def prevP (l : List Pl) (i : Nat) : Int := match i with | 0 => 0 | i + 1 => match l[i]? with | some n => n.at_ | none => 0

def errV (e : Int) : V := .tup [.nilsl, .i e]

set_option maxHeartbeats 4000000 in
theorem body24 {k : List KI} {r : Option V} {v : V} {l : List Pl} {p : Pl} {i v1 : Nat} {F acc : List Int} {fr : List V} {L : List Row} (hl : l.length ≤ 4096) (hlen : lenV v = some (.i (l.length : Nat))) (hi : i < l.length) (hal : acc.length = i) (hF : F.length = 77)
    (hE : elemV 7 v (.i (i : Nat)) = some (.eptr [.i p.at_, .i p.s, .i p.o, .i p.kd, .bool p.pr, .bool p.h, .i p.be] 0)) (hv1 : 0 < v1) (z : ¬ p.at_ < 0) (y : ((i : Int) ≤ 0) ∨ (0 < (i : Int) ∧ ∃ q : Pl, elemV 7 v (.i ((i : Int) - 1)) = some (.eptr [.i q.at_, .i q.s, .i q.o, .i q.kd, .bool q.pr, .bool q.h, .i q.be] 0) ∧ ¬ p.at_ < q.at_))
    (h1 : Ab.get fr 1 = v) (h6 : Ab.get fr 6 = .ref 0 1 v1 1 0 77) (h8 : Ab.get fr 8 = .i (i : Nat)) (r1 : rget L 1 = ⟨v1, 1, I1 F⟩) (hacc : Acc 4 1 L (Ab.get fr 7) (I1 acc))
    (hr : okP p.at_ p = 0 → ∀ fr' L', Ab.get fr' 1 = v → Ab.get fr' 6 = .ref 0 1 v1 1 0 77 → Ab.get fr' 8 = .i ((i : Nat) + 1) → rget L' 1 = ⟨v1, 1, I1 (stepQ F p).2⟩ → Ab.get fr' 7 = .ref 0 4 ((rget L 4).ver + 1) 1 0 (acc.length + 1) →
      rget L' 4 = ⟨(rget L 4).ver + 1, 1, I1 acc ++ [[.i (stepQ F p).1]]⟩ → G tbl H [.tmp 4, .tmp 5] k fr' L' = r) :
    G tbl H [.tmp 4, .tmp 5] (.code ( (.seq ( (.seq ( .region [] [ ⟨some 23, .mv (.t 8), none⟩, ⟨some 24, .mv (.t 1), none⟩, ⟨some 25, .len (.t 24), none⟩, ⟨some 26, .bin .lss (.t 23) (.t 25), none⟩]) ( (.cond (.t 26) ( .skip) ( .exit 0))))) ( (.seq ( (.block 1 ( (.seq ( .region [] [ ⟨some 29, .mv (.t 1), none⟩, ⟨some 30, .mv (.t 8), none⟩, ⟨some 31, .elemAddr 7 (.t 29) (.t 30), none⟩, ⟨some 32, .load true 7 (.t 31), none⟩, ⟨some 9, .alloc 2 [(.int .i64 0), (.int .i64 0), (.int .i64 0), (.int .i64 0), (.bool false), (.bool false), (.int .i64 0)], none⟩, ⟨none, .store 7 (.t 9) (.t 32), none⟩]) ( (.seq ( (.seq ( .region [] [ ⟨some 33, .fieldAddr 0 (.t 9), none⟩, ⟨some 34, .load false 1 (.t 33), none⟩, ⟨some 35, .bin .lss (.t 34) (.c (.int .i64 0)), none⟩, ⟨some 36, .mv (.t 35), none⟩, ⟨some 37, .mv (.t 8), some (36, false)⟩, ⟨some 38, .bin .gtr (.t 37) (.c (.int .i64 0)), some (36, false)⟩, ⟨some 39, .mv (.t 38), some (36, false)⟩, ⟨some 40, .fieldAddr 0 (.t 9), some (39, true)⟩, ⟨some 41, .load false 1 (.t 40), some (39, true)⟩, ⟨some 42, .mv (.t 1), some (39, true)⟩, ⟨some 43, .mv (.t 8), some (39, true)⟩, ⟨some 44, .bin .sub (.t 43) (.c (.int .i64 1)), some (39, true)⟩, ⟨some 45, .elemAddr 7 (.t 42) (.t 44), some (39, true)⟩, ⟨some 46, .fieldAddr 0 (.t 45), some (39, true)⟩, ⟨some 47, .load false 1 (.t 46), some (39, true)⟩, ⟨some 48, .bin .lss (.t 41) (.t 47), some (39, true)⟩, ⟨some 49, .pick (.t 39) (.t 48) (.c (.bool false)), some (36, false)⟩, ⟨some 50, .pick (.t 36) (.c (.bool true)) (.t 49), none⟩]) ( (.cond (.t 50) ( (.seq ( .region [] [ ⟨some 4, .mv (.c .nilsl), none⟩, ⟨some 5, .mv (.c (.int .i64 25)), none⟩]) ( .ret))) ( .skip))))) ( (.seq ( (.seq ( .region [] [ ⟨some 51, .fieldAddr 1 (.t 9), none⟩, ⟨some 52, .load false 1 (.t 51), none⟩, ⟨some 53, .bin .lss (.t 52) (.c (.int .i64 0)), none⟩, ⟨some 54, .mv (.t 53), none⟩, ⟨some 55, .fieldAddr 1 (.t 9), some (54, false)⟩, ⟨some 56, .load false 1 (.t 55), some (54, false)⟩, ⟨some 57, .bin .gtr (.t 56) (.c (.int .i64 6)), some (54, false)⟩, ⟨some 58, .pick (.t 54) (.c (.bool true)) (.t 57), none⟩, ⟨some 59, .mv (.t 58), none⟩, ⟨some 60, .fieldAddr 2 (.t 9), some (59, false)⟩, ⟨some 61, .load false 1 (.t 60), some (59, false)⟩, ⟨some 62, .bin .lss (.t 61) (.c (.int .i64 (-1))), some (59, false)⟩, ⟨some 63, .pick (.t 59) (.c (.bool true)) (.t 62), none⟩, ⟨some 64, .mv (.t 63), none⟩, ⟨some 65, .fieldAddr 2 (.t 9), some (64, false)⟩, ⟨some 66, .load false 1 (.t 65), some (64, false)⟩, ⟨some 67, .bin .gtr (.t 66) (.c (.int .i64 9)), some (64, false)⟩, ⟨some 68, .pick (.t 64) (.c (.bool true)) (.t 67), none⟩]) ( (.cond (.t 68) ( (.seq ( .region [] [ ⟨some 4, .mv (.c .nilsl), none⟩, ⟨some 5, .mv (.c (.int .i64 18)), none⟩]) ( .ret))) ( .skip))))) ( (.seq ( (.seq ( .region [] [ ⟨some 69, .fieldAddr 3 (.t 9), none⟩, ⟨some 70, .fieldAddr 0 (.t 69), none⟩, ⟨some 71, .load false 1 (.t 70), none⟩, ⟨some 72, .bin .lss (.t 71) (.c (.int .i64 0)), none⟩, ⟨some 73, .mv (.t 72), none⟩, ⟨some 74, .fieldAddr 3 (.t 9), some (73, false)⟩, ⟨some 75, .fieldAddr 0 (.t 74), some (73, false)⟩, ⟨some 76, .load false 1 (.t 75), some (73, false)⟩, ⟨some 77, .bin .gtr (.t 76) (.c (.int .i64 5)), some (73, false)⟩, ⟨some 78, .pick (.t 73) (.c (.bool true)) (.t 77), none⟩]) ( (.cond (.t 78) ( (.seq ( .region [] [ ⟨some 4, .mv (.c .nilsl), none⟩, ⟨some 5, .mv (.c (.int .i64 11)), none⟩]) ( .ret))) ( .skip))))) ( (.seq ( (.seq ( .region [] [ ⟨some 79, .fieldAddr 5 (.t 9), none⟩, ⟨some 80, .load false 1 (.t 79), none⟩, ⟨some 81, .mv (.t 80), none⟩, ⟨some 82, .fieldAddr 6 (.t 9), some (81, true)⟩, ⟨some 83, .load false 1 (.t 82), some (81, true)⟩, ⟨some 84, .bin .lss (.t 83) (.c (.int .i64 (-2))), some (81, true)⟩, ⟨some 85, .mv (.t 84), some (81, true)⟩, ⟨some 86, .fieldAddr 6 (.t 9), some (85, false)⟩, ⟨some 87, .load false 1 (.t 86), some (85, false)⟩, ⟨some 88, .bin .gtr (.t 87) (.c (.int .i64 2)), some (85, false)⟩, ⟨some 89, .pick (.t 85) (.c (.bool true)) (.t 88), some (81, true)⟩, ⟨some 90, .pick (.t 81) (.t 89) (.c (.bool false)), none⟩]) ( (.cond (.t 90) ( (.seq ( .region [] [ ⟨some 4, .mv (.c .nilsl), none⟩, ⟨some 5, .mv (.c (.int .i64 2)), none⟩]) ( .ret))) ( .skip))))) ( (.seq ( .region [] [ ⟨some 91, .fieldAddr 1 (.t 9), none⟩, ⟨some 92, .load false 1 (.t 91), none⟩, ⟨some 93, .fieldAddr 2 (.t 9), none⟩, ⟨some 94, .load false 1 (.t 93), none⟩, ⟨some 95, .callf 3 (.c (.fn 30 [])) [(.t 92), (.t 94)], none⟩, ⟨some 10, .mv (.t 95), none⟩]) ( (.seq ( .region [] [ ⟨some 96, .mv (.t 6), none⟩, ⟨some 97, .mv (.t 10), none⟩, ⟨some 98, .elemAddr 1 (.t 96) (.t 97), none⟩, ⟨some 99, .load false 1 (.t 98), none⟩, ⟨some 11, .mv (.t 99), none⟩]) ( (.seq ( (.seq ( .region [] [ ⟨some 100, .fieldAddr 3 (.t 9), none⟩, ⟨some 101, .fieldAddr 0 (.t 100), none⟩, ⟨some 102, .load false 1 (.t 101), none⟩, ⟨some 103, .bin .gtr (.t 102) (.c (.int .i64 0)), none⟩]) ( (.cond (.t 103) ( (.seq ( .region [] [ ⟨some 104, .fieldAddr 3 (.t 9), none⟩, ⟨some 105, .fieldAddr 0 (.t 104), none⟩, ⟨some 106, .load false 1 (.t 105), none⟩, ⟨some 107, .bin .sub (.t 106) (.c (.int .i64 3)), none⟩, ⟨some 11, .mv (.t 107), none⟩]) ( .region [] [ ⟨some 108, .mv (.t 6), none⟩, ⟨some 109, .mv (.t 10), none⟩, ⟨some 110, .mv (.t 11), none⟩, ⟨some 111, .elemAddr 1 (.t 108) (.t 109), none⟩, ⟨none, .store 1 (.t 111) (.t 110), none⟩]))) ( (.seq ( .region [] [ ⟨some 112, .fieldAddr 5 (.t 9), none⟩, ⟨some 113, .load false 1 (.t 112), none⟩]) ( (.cond (.t 113) ( .region [] [ ⟨some 114, .fieldAddr 6 (.t 9), none⟩, ⟨some 115, .load false 1 (.t 114), none⟩, ⟨some 11, .mv (.t 115), none⟩]) ( .skip))))))))) ( .region [] [ ⟨some 116, .mv (.t 7), none⟩, ⟨some 117, .mv (.t 11), none⟩, ⟨some 118, .lit 1 [(.int .i64 0)] 1 [(0, 1, (.t 117))], none⟩, ⟨some 119, .app 4 1 8 (.t 116) (.t 118), none⟩, ⟨some 7, .mv (.t 119), none⟩]))))))))))))))))))) ( .region [] [ ⟨some 27, .mv (.t 8), none⟩, ⟨some 28, .bin .add (.t 27) (.c (.int .i64 1)), none⟩, ⟨some 8, .mv (.t 28), none⟩]))))) :: k) fr L = if okP p.at_ p = 0 then r else some (errV (okP p.at_ p)) := by
  have hap : ∀ (m : Int) (L1 : List Row), rget L1 4 = rget L 4 → appV (L1 :: H) 4 1 8 (Ab.get fr 7) (.sl .full 1 [[.i m]]) = some (.ref 0 4 ((rget L 4).ver + 1) 1 0 (acc.length + 1), rset L1 4 ⟨(rget L 4).ver + 1, 1, I1 acc ++ [[.i m]]⟩) := by
    intro m L1 h1
    have := (acc_app (H := H) (bytes := 8) (y := .sl .full 1 [[.i m]]) (new := [[.i m]]) (hacc.mono h1) rfl (by simp) (by omega) (by rw [I1_len]; simp; omega) (by simp [V.scalar])).1
    rw [this, h1, I1_len]
    rfl
  generalize hv7 : Ab.get fr 7 = v7 at hacc hap
  have hap2 := fun m r2 r1 => hap m (rset (rset L 2 r2) 1 r1) (by simp [rget_rset])
  have hap1 := fun m r2 => hap m (rset L 2 r2) (by simp [rget_rset])
  clear hap hacc
  have hz : ¬ p.at_ < p.at_ := by omega
  by_cases c2 : inP p
  case neg =>
    rw [if_neg (by rw [okP_p hz c2]; decide), okP_p hz c2]
    have w : (p.s < 0 ∨ 6 < p.s) ∨ ((0 ≤ p.s ∧ p.s ≤ 6) ∧ (p.o < -1 ∨ 9 < p.o)) := by unfold inP at c2; omega
    clear hr c2
    rcases y with y | ⟨y, q, hq1, hq2⟩
    · rcases w with (w | w) | ⟨w1, w | w⟩
      all_goals simp (config := { maxSteps := 10000000 }) (disch := omega) only [↓G_seq, ↓G_skip, ↓G_ret, ↓G_region, ↓G_block, ↓G_cond, ↓G_ops_nil, ↓G_op, Gv_some, ↓G_gop, Gw_ff, Gw_tf, Gw_ft, Gc_true, Gc_false, dec_t, dec_f, killAll, ↓get_setS, ↓get_setN, evalOp, ev, rget_rset, b_lss, b_gtr, one, Option.map_some, Option.bind_some, asB, finish, resVs, resV, outVs, ownsLast, tupOf, V.shift, List.nil_append, List.cons_append, List.all_cons, List.all_nil, Bool.and_self, List.getElem?_cons_zero, List.getElem?_cons_succ, Nat.reduceEqDiff, ↓reduceIte, Nat.succ_ne_self, Bool.false_eq_true, Int.reduceNeg, Int.reduceAdd, pick3, V.cells, splice, addOff, loadV, storeV, Ab.rowAt, V.scalar, Nat.reduceAdd, and_self, List.length_cons, List.length_nil, List.take_succ_cons, List.take_zero, List.drop_succ_cons, List.drop_zero, Nat.le_refl, List.set_cons_zero, List.getD_cons_zero, Nat.zero_add, Nat.add_zero, ov_int, ov_nilsl, fn_some, h1, h8, hlen, hE, rset_rset, Nat.zero_lt_succ, errV]
    · rcases w with (w | w) | ⟨w1, w | w⟩
      all_goals simp (config := { maxSteps := 10000000 }) (disch := omega) only [↓G_seq, ↓G_skip, ↓G_ret, ↓G_region, ↓G_block, ↓G_cond, ↓G_ops_nil, ↓G_op, Gv_some, ↓G_gop, Gw_tt, Gw_ff, Gw_ft, Gc_true, Gc_false, dec_t, dec_f, killAll, ↓get_setS, ↓get_setN, evalOp, ev, rget_rset, b_sub, b_lss, b_gtr, wrap_i64, one, Option.map_some, Option.bind_some, asB, finish, resVs, resV, outVs, ownsLast, tupOf, V.shift, List.nil_append, List.cons_append, List.all_cons, List.all_nil, Bool.and_self, List.getElem?_cons_zero, List.getElem?_cons_succ, Nat.reduceEqDiff, ↓reduceIte, Nat.succ_ne_self, Bool.false_eq_true, Int.reduceNeg, Int.reduceAdd, pick3, V.cells, splice, addOff, loadV, storeV, Ab.rowAt, V.scalar, Nat.reduceAdd, and_self, List.length_cons, List.length_nil, List.take_succ_cons, List.take_zero, List.drop_succ_cons, List.drop_zero, Nat.le_refl, List.set_cons_zero, List.getD_cons_zero, Nat.zero_add, Nat.add_zero, ov_int, ov_nilsl, fn_some, h1, h8, hlen, hE, hq1, rset_rset, Nat.zero_lt_succ, errV]
  by_cases c3 : 0 ≤ p.kd ∧ p.kd ≤ 5
  case neg =>
    rw [if_neg (by rw [okP_k hz c2 c3]; decide), okP_k hz c2 c3]
    obtain ⟨c2a, c2b⟩ := c2
    have w : p.kd < 0 ∨ 5 < p.kd := by omega
    clear hr c3
    rcases y with y | ⟨y, q, hq1, hq2⟩
    · rcases w with w | w
      all_goals simp (config := { maxSteps := 10000000 }) (disch := omega) only [↓G_seq, ↓G_skip, ↓G_ret, ↓G_region, ↓G_block, ↓G_cond, ↓G_ops_nil, ↓G_op, Gv_some, ↓G_gop, Gw_ff, Gw_tf, Gw_ft, Gc_true, Gc_false, dec_t, dec_f, killAll, ↓get_setS, ↓get_setN, evalOp, ev, rget_rset, b_lss, b_gtr, one, Option.map_some, Option.bind_some, asB, finish, resVs, resV, outVs, ownsLast, tupOf, V.shift, List.nil_append, List.cons_append, List.all_cons, List.all_nil, Bool.and_self, List.getElem?_cons_zero, List.getElem?_cons_succ, Nat.reduceEqDiff, ↓reduceIte, Nat.succ_ne_self, Bool.false_eq_true, Int.reduceNeg, Int.reduceAdd, pick3, V.cells, splice, addOff, loadV, storeV, Ab.rowAt, V.scalar, Nat.reduceAdd, and_self, List.length_cons, List.length_nil, List.take_succ_cons, List.take_zero, List.drop_succ_cons, List.drop_zero, Nat.le_refl, List.set_cons_zero, List.getD_cons_zero, Nat.zero_add, Nat.add_zero, ov_int, ov_nilsl, fn_some, h1, h8, hlen, hE, rset_rset, Nat.zero_lt_succ, errV]
    · rcases w with w | w
      all_goals simp (config := { maxSteps := 10000000 }) (disch := omega) only [↓G_seq, ↓G_skip, ↓G_ret, ↓G_region, ↓G_block, ↓G_cond, ↓G_ops_nil, ↓G_op, Gv_some, ↓G_gop, Gw_tt, Gw_ff, Gw_ft, Gc_true, Gc_false, dec_t, dec_f, killAll, ↓get_setS, ↓get_setN, evalOp, ev, rget_rset, b_sub, b_lss, b_gtr, wrap_i64, one, Option.map_some, Option.bind_some, asB, finish, resVs, resV, outVs, ownsLast, tupOf, V.shift, List.nil_append, List.cons_append, List.all_cons, List.all_nil, Bool.and_self, List.getElem?_cons_zero, List.getElem?_cons_succ, Nat.reduceEqDiff, ↓reduceIte, Nat.succ_ne_self, Bool.false_eq_true, Int.reduceNeg, Int.reduceAdd, pick3, V.cells, splice, addOff, loadV, storeV, Ab.rowAt, V.scalar, Nat.reduceAdd, and_self, List.length_cons, List.length_nil, List.take_succ_cons, List.take_zero, List.drop_succ_cons, List.drop_zero, Nat.le_refl, List.set_cons_zero, List.getD_cons_zero, Nat.zero_add, Nat.add_zero, ov_int, ov_nilsl, fn_some, h1, h8, hlen, hE, hq1, rset_rset, Nat.zero_lt_succ, errV]
  by_cases c4 : p.h = true ∧ ¬ (-2 ≤ p.be ∧ p.be ≤ 2)
  · rw [if_neg (by rw [okP_b hz c2 c3 c4]; decide), okP_b hz c2 c3 c4]
    obtain ⟨c2a, c2b⟩ := c2
    obtain ⟨c4a, c4b⟩ := c4
    have w : p.be < -2 ∨ 2 < p.be := by omega
    clear hr c4b
    rcases y with y | ⟨y, q, hq1, hq2⟩
    · rcases w with w | w
      all_goals simp (config := { maxSteps := 10000000 }) (disch := omega) only [↓G_seq, ↓G_skip, ↓G_ret, ↓G_region, ↓G_block, ↓G_cond, ↓G_ops_nil, ↓G_op, Gv_some, ↓G_gop, Gw_tt, Gw_ff, Gw_tf, Gw_ft, Gc_true, Gc_false, dec_t, dec_f, killAll, ↓get_setS, ↓get_setN, evalOp, ev, rget_rset, b_lss, b_gtr, one, Option.map_some, Option.bind_some, asB, finish, resVs, resV, outVs, ownsLast, tupOf, V.shift, List.nil_append, List.cons_append, List.all_cons, List.all_nil, Bool.and_self, List.getElem?_cons_zero, List.getElem?_cons_succ, Nat.reduceEqDiff, ↓reduceIte, Nat.succ_ne_self, Bool.false_eq_true, Int.reduceNeg, Int.reduceAdd, pick3, V.cells, splice, addOff, loadV, storeV, Ab.rowAt, V.scalar, Nat.reduceAdd, and_self, List.length_cons, List.length_nil, List.take_succ_cons, List.take_zero, List.drop_succ_cons, List.drop_zero, Nat.le_refl, List.set_cons_zero, List.getD_cons_zero, Nat.zero_add, Nat.add_zero, ov_int, ov_nilsl, fn_some, h1, h8, hlen, hE, rset_rset, Nat.zero_lt_succ, c4a, errV]
    · rcases w with w | w
      all_goals simp (config := { maxSteps := 10000000 }) (disch := omega) only [↓G_seq, ↓G_skip, ↓G_ret, ↓G_region, ↓G_block, ↓G_cond, ↓G_ops_nil, ↓G_op, Gv_some, ↓G_gop, Gw_tt, Gw_ff, Gw_ft, Gc_true, Gc_false, dec_t, dec_f, killAll, ↓get_setS, ↓get_setN, evalOp, ev, rget_rset, b_sub, b_lss, b_gtr, wrap_i64, one, Option.map_some, Option.bind_some, asB, finish, resVs, resV, outVs, ownsLast, tupOf, V.shift, List.nil_append, List.cons_append, List.all_cons, List.all_nil, Bool.and_self, List.getElem?_cons_zero, List.getElem?_cons_succ, Nat.reduceEqDiff, ↓reduceIte, Nat.succ_ne_self, Bool.false_eq_true, Int.reduceNeg, Int.reduceAdd, pick3, V.cells, splice, addOff, loadV, storeV, Ab.rowAt, V.scalar, Nat.reduceAdd, and_self, List.length_cons, List.length_nil, List.take_succ_cons, List.take_zero, List.drop_succ_cons, List.drop_zero, Nat.le_refl, List.set_cons_zero, List.getD_cons_zero, Nat.zero_add, Nat.add_zero, ov_int, ov_nilsl, fn_some, h1, h8, hlen, hE, hq1, rset_rset, Nat.zero_lt_succ, c4a, errV]
  have hok := okP_ok hz c2 c3 c4
  rw [if_pos hok]
  have hr' := hr hok
  clear hr
  obtain ⟨hq, hq77⟩ := ixP_eq c2
  obtain ⟨c2a, c2b⟩ := c2
  have h30 := fun H => (c30 (H := H) p.s p.o c2a c2b).trans (by rw [← hq])
  obtain ⟨x, hx⟩ : ∃ x, F[ixP p]? = some x := ⟨_, List.getElem?_eq_getElem (by omega)⟩
  have hFx := I1_get F (ixP p) x hx
  have hFs := I1_set F (ixP p) (p.kd - 3)
  cases hh : p.h
  · by_cases c1 : p.kd = 0
    · have hs : stepQ F p = (x, F) := by simp [stepQ, c1, hh, hx]
      rw [hs] at hr'
      clear c4
      rcases y with y | ⟨y, q, hq1, hq2⟩
      · simp (config := { maxSteps := 10000000 }) (disch := omega) only [↓G_seq, ↓G_skip, ↓G_blk, ↓G_region, ↓G_block, ↓G_cond, ↓G_ops_nil, ↓G_op, Gv_some, ↓G_gop, Gw_ff, Gw_tf, Gw_tup, Gc_true, Gc_false, dec_t, dec_f, killAll, ↓get_setS, ↓get_setN, evalOp, ev, evs, rget_rset, b_add, b_lss, b_gtr, wrap_i64, one, Option.map_some, Option.bind_some, asB, callV, V.shift, V.shifts, List.append_nil, List.nil_append, List.cons_append, List.all_cons, List.all_nil, Bool.true_and, Bool.and_self, List.getElem?_cons_zero, List.getElem?_cons_succ, Nat.reduceEqDiff, ↓reduceIte, Nat.succ_ne_self, Nat.reduceBNe, Bool.false_eq_true, Int.reduceNeg, Int.reduceAdd, pick3, V.cells, fillV, splice, chop, addOff, loadV, storeV, Ab.rowAt, V.scalar, V.pure, Nat.reduceAdd, true_and, and_self, List.length_cons, List.length_nil, List.take_succ_cons, List.take_zero, List.drop_succ_cons, List.drop_zero, Nat.le_refl, List.set_cons_zero, List.getD_cons_zero, List.replicate, List.flatten_cons, List.flatten_nil, Int.cast_ofNat_Int, Nat.zero_add, Nat.add_zero, el_ref, ti_int, fz_nil, fz_cons, fz_int, nn, ite_ov, Int.toNat_natCast, h1, h6, h8, hlen, hE, r1, hFx, hv7, h30, hap1, rset_rset, Nat.zero_lt_succ, hh]
        refine hr' _ _ ?_ ?_ ?_ ?_ ?_ ?_
        all_goals simp (config := { maxSteps := 10000000 }) (disch := omega) only [↓get_setS, ↓get_setN, rget_rset, List.getElem?_cons_zero, List.getElem?_cons_succ, Nat.reduceEqDiff, ↓reduceIte, Nat.succ_ne_self, h1, h6, r1]
      · simp (config := { maxSteps := 10000000 }) (disch := omega) only [↓G_seq, ↓G_skip, ↓G_blk, ↓G_region, ↓G_block, ↓G_cond, ↓G_ops_nil, ↓G_op, Gv_some, ↓G_gop, Gw_tt, Gw_ff, Gw_tf, Gw_tup, Gc_true, Gc_false, dec_t, dec_f, killAll, ↓get_setS, ↓get_setN, evalOp, ev, evs, rget_rset, b_add, b_sub, b_lss, b_gtr, wrap_i64, one, Option.map_some, Option.bind_some, asB, callV, V.shift, V.shifts, List.append_nil, List.nil_append, List.cons_append, List.all_cons, List.all_nil, Bool.true_and, Bool.and_self, List.getElem?_cons_zero, List.getElem?_cons_succ, Nat.reduceEqDiff, ↓reduceIte, Nat.succ_ne_self, Nat.reduceBNe, Bool.false_eq_true, Int.reduceNeg, Int.reduceAdd, pick3, V.cells, fillV, splice, chop, addOff, loadV, storeV, Ab.rowAt, V.scalar, V.pure, Nat.reduceAdd, true_and, and_self, List.length_cons, List.length_nil, List.take_succ_cons, List.take_zero, List.drop_succ_cons, List.drop_zero, Nat.le_refl, List.set_cons_zero, List.getD_cons_zero, List.replicate, List.flatten_cons, List.flatten_nil, Int.cast_ofNat_Int, Nat.zero_add, Nat.add_zero, el_ref, ti_int, fz_nil, fz_cons, fz_int, nn, ite_ov, Int.toNat_natCast, h1, h6, h8, hlen, hE, hq1, r1, hFx, hv7, h30, hap1, rset_rset, Nat.zero_lt_succ, hh]
        refine hr' _ _ ?_ ?_ ?_ ?_ ?_ ?_
        all_goals simp (config := { maxSteps := 10000000 }) (disch := omega) only [↓get_setS, ↓get_setN, rget_rset, List.getElem?_cons_zero, List.getElem?_cons_succ, Nat.reduceEqDiff, ↓reduceIte, Nat.succ_ne_self, h1, h6, r1]
    · have hs : stepQ F p = (p.kd - 3, F.set (ixP p) (p.kd - 3)) := by simp [stepQ, c1]
      rw [hs] at hr'
      clear c4
      rcases y with y | ⟨y, q, hq1, hq2⟩
      · simp (config := { maxSteps := 10000000 }) (disch := omega) only [↓G_seq, ↓G_skip, ↓G_blk, ↓G_region, ↓G_block, ↓G_cond, ↓G_ops_nil, ↓G_op, Gv_some, ↓G_gop, Gw_ff, Gw_tf, Gw_tup, Gc_true, Gc_false, dec_t, dec_f, killAll, ↓get_setS, ↓get_setN, evalOp, ev, evs, rget_rset, b_add, b_sub, b_lss, b_gtr, wrap_i64, one, Option.map_some, Option.bind_some, asB, callV, V.shift, V.shifts, List.append_nil, List.nil_append, List.cons_append, List.all_cons, List.all_nil, Bool.and_true, Bool.true_and, Bool.and_self, List.getElem?_cons_zero, List.getElem?_cons_succ, Nat.reduceEqDiff, ↓reduceIte, Nat.succ_ne_self, Nat.reduceBNe, Bool.false_eq_true, Int.reduceNeg, Int.reduceAdd, pick3, V.cells, fillV, splice, chop, addOff, loadV, storeV, Ab.rowAt, V.scalar, V.pure, Nat.reduceAdd, and_true, true_and, and_self, List.length_cons, List.length_nil, List.take_succ_cons, List.take_zero, List.drop_succ_cons, List.drop_zero, Nat.le_refl, List.set_cons_zero, List.getD_cons_zero, List.replicate, List.flatten_cons, List.flatten_nil, Int.cast_ofNat_Int, Nat.zero_add, Nat.add_zero, el_ref, ti_int, fz_nil, fz_cons, fz_int, nn, ite_ov, Int.toNat_natCast, h1, h6, h8, hlen, hE, r1, hFx, hFs, hv7, h30, hap2, rset_rset, Nat.zero_lt_succ, hh]
        refine hr' _ _ ?_ ?_ ?_ ?_ ?_ ?_
        all_goals simp (config := { maxSteps := 10000000 }) (disch := omega) only [↓get_setS, ↓get_setN, rget_rset, List.getElem?_cons_zero, List.getElem?_cons_succ, Nat.reduceEqDiff, ↓reduceIte, Nat.succ_ne_self, h1, h6]
      · simp (config := { maxSteps := 10000000 }) (disch := omega) only [↓G_seq, ↓G_skip, ↓G_blk, ↓G_region, ↓G_block, ↓G_cond, ↓G_ops_nil, ↓G_op, Gv_some, ↓G_gop, Gw_tt, Gw_ff, Gw_tf, Gw_tup, Gc_true, Gc_false, dec_t, dec_f, killAll, ↓get_setS, ↓get_setN, evalOp, ev, evs, rget_rset, b_add, b_sub, b_lss, b_gtr, wrap_i64, one, Option.map_some, Option.bind_some, asB, callV, V.shift, V.shifts, List.append_nil, List.nil_append, List.cons_append, List.all_cons, List.all_nil, Bool.and_true, Bool.true_and, Bool.and_self, List.getElem?_cons_zero, List.getElem?_cons_succ, Nat.reduceEqDiff, ↓reduceIte, Nat.succ_ne_self, Nat.reduceBNe, Bool.false_eq_true, Int.reduceNeg, Int.reduceAdd, pick3, V.cells, fillV, splice, chop, addOff, loadV, storeV, Ab.rowAt, V.scalar, V.pure, Nat.reduceAdd, and_true, true_and, and_self, List.length_cons, List.length_nil, List.take_succ_cons, List.take_zero, List.drop_succ_cons, List.drop_zero, Nat.le_refl, List.set_cons_zero, List.getD_cons_zero, List.replicate, List.flatten_cons, List.flatten_nil, Int.cast_ofNat_Int, Nat.zero_add, Nat.add_zero, el_ref, ti_int, fz_nil, fz_cons, fz_int, nn, ite_ov, Int.toNat_natCast, h1, h6, h8, hlen, hE, hq1, r1, hFx, hFs, hv7, h30, hap2, rset_rset, Nat.zero_lt_succ, hh]
        refine hr' _ _ ?_ ?_ ?_ ?_ ?_ ?_
        all_goals simp (config := { maxSteps := 10000000 }) (disch := omega) only [↓get_setS, ↓get_setN, rget_rset, List.getElem?_cons_zero, List.getElem?_cons_succ, Nat.reduceEqDiff, ↓reduceIte, Nat.succ_ne_self, h1, h6]
  · have hb : -2 ≤ p.be ∧ p.be ≤ 2 := Classical.not_not.1 (fun w => c4 ⟨hh, w⟩)
    clear c4
    by_cases c1 : p.kd = 0
    · have hs : stepQ F p = (p.be, F) := by simp [stepQ, c1, hh]
      rw [hs] at hr'
      rcases y with y | ⟨y, q, hq1, hq2⟩
      · simp (config := { maxSteps := 10000000 }) (disch := omega) only [↓G_seq, ↓G_skip, ↓G_blk, ↓G_region, ↓G_block, ↓G_cond, ↓G_ops_nil, ↓G_op, Gv_some, ↓G_gop, Gw_tt, Gw_ff, Gw_tf, Gc_true, Gc_false, dec_t, dec_f, killAll, ↓get_setS, ↓get_setN, evalOp, ev, evs, rget_rset, b_add, b_lss, b_gtr, wrap_i64, one, Option.map_some, Option.bind_some, asB, callV, V.shift, V.shifts, List.append_nil, List.nil_append, List.cons_append, List.all_cons, List.all_nil, Bool.true_and, Bool.and_self, List.getElem?_cons_zero, List.getElem?_cons_succ, Nat.reduceEqDiff, ↓reduceIte, Nat.succ_ne_self, Nat.reduceBNe, Bool.false_eq_true, Int.reduceNeg, Int.reduceAdd, pick3, V.cells, fillV, splice, chop, addOff, loadV, storeV, Ab.rowAt, V.scalar, V.pure, Nat.reduceAdd, true_and, and_self, List.length_cons, List.length_nil, List.take_succ_cons, List.take_zero, List.drop_succ_cons, List.drop_zero, Nat.le_refl, List.set_cons_zero, List.getD_cons_zero, List.replicate, List.flatten_cons, List.flatten_nil, Int.cast_ofNat_Int, Nat.zero_add, Nat.add_zero, el_ref, ti_int, fz_nil, fz_cons, fz_int, nn, ite_ov, Int.toNat_natCast, h1, h6, h8, hlen, hE, r1, hFx, hv7, h30, hap1, rset_rset, Nat.zero_lt_succ, hh]
        refine hr' _ _ ?_ ?_ ?_ ?_ ?_ ?_
        all_goals simp (config := { maxSteps := 10000000 }) (disch := omega) only [↓get_setS, ↓get_setN, rget_rset, List.getElem?_cons_zero, List.getElem?_cons_succ, Nat.reduceEqDiff, ↓reduceIte, Nat.succ_ne_self, h1, h6, r1]
      · simp (config := { maxSteps := 10000000 }) (disch := omega) only [↓G_seq, ↓G_skip, ↓G_blk, ↓G_region, ↓G_block, ↓G_cond, ↓G_ops_nil, ↓G_op, Gv_some, ↓G_gop, Gw_tt, Gw_ff, Gc_true, Gc_false, dec_t, dec_f, killAll, ↓get_setS, ↓get_setN, evalOp, ev, evs, rget_rset, b_add, b_sub, b_lss, b_gtr, wrap_i64, one, Option.map_some, Option.bind_some, asB, callV, V.shift, V.shifts, List.append_nil, List.nil_append, List.cons_append, List.all_cons, List.all_nil, Bool.true_and, Bool.and_self, List.getElem?_cons_zero, List.getElem?_cons_succ, Nat.reduceEqDiff, ↓reduceIte, Nat.succ_ne_self, Nat.reduceBNe, Bool.false_eq_true, Int.reduceNeg, Int.reduceAdd, pick3, V.cells, fillV, splice, chop, addOff, loadV, storeV, Ab.rowAt, V.scalar, V.pure, Nat.reduceAdd, true_and, and_self, List.length_cons, List.length_nil, List.take_succ_cons, List.take_zero, List.drop_succ_cons, List.drop_zero, Nat.le_refl, List.set_cons_zero, List.getD_cons_zero, List.replicate, List.flatten_cons, List.flatten_nil, Int.cast_ofNat_Int, Nat.zero_add, Nat.add_zero, el_ref, ti_int, fz_nil, fz_cons, fz_int, nn, ite_ov, Int.toNat_natCast, h1, h6, h8, hlen, hE, hq1, r1, hFx, hv7, h30, hap1, rset_rset, Nat.zero_lt_succ, hh]
        refine hr' _ _ ?_ ?_ ?_ ?_ ?_ ?_
        all_goals simp (config := { maxSteps := 10000000 }) (disch := omega) only [↓get_setS, ↓get_setN, rget_rset, List.getElem?_cons_zero, List.getElem?_cons_succ, Nat.reduceEqDiff, ↓reduceIte, Nat.succ_ne_self, h1, h6, r1]
    · have hs : stepQ F p = (p.kd - 3, F.set (ixP p) (p.kd - 3)) := by simp [stepQ, c1]
      rw [hs] at hr'
      rcases y with y | ⟨y, q, hq1, hq2⟩
      · simp (config := { maxSteps := 10000000 }) (disch := omega) only [↓G_seq, ↓G_skip, ↓G_blk, ↓G_region, ↓G_block, ↓G_cond, ↓G_ops_nil, ↓G_op, Gv_some, ↓G_gop, Gw_tt, Gw_ff, Gw_tf, Gc_true, Gc_false, dec_t, dec_f, killAll, ↓get_setS, ↓get_setN, evalOp, ev, evs, rget_rset, b_add, b_sub, b_lss, b_gtr, wrap_i64, one, Option.map_some, Option.bind_some, asB, callV, V.shift, V.shifts, List.append_nil, List.nil_append, List.cons_append, List.all_cons, List.all_nil, Bool.and_true, Bool.true_and, Bool.and_self, List.getElem?_cons_zero, List.getElem?_cons_succ, Nat.reduceEqDiff, ↓reduceIte, Nat.succ_ne_self, Nat.reduceBNe, Bool.false_eq_true, Int.reduceNeg, Int.reduceAdd, pick3, V.cells, fillV, splice, chop, addOff, loadV, storeV, Ab.rowAt, V.scalar, V.pure, Nat.reduceAdd, and_true, true_and, and_self, List.length_cons, List.length_nil, List.take_succ_cons, List.take_zero, List.drop_succ_cons, List.drop_zero, Nat.le_refl, List.set_cons_zero, List.getD_cons_zero, List.replicate, List.flatten_cons, List.flatten_nil, Int.cast_ofNat_Int, Nat.zero_add, Nat.add_zero, el_ref, ti_int, fz_nil, fz_cons, fz_int, nn, ite_ov, Int.toNat_natCast, h1, h6, h8, hlen, hE, r1, hFx, hFs, hv7, h30, hap2, rset_rset, Nat.zero_lt_succ, hh]
        refine hr' _ _ ?_ ?_ ?_ ?_ ?_ ?_
        all_goals simp (config := { maxSteps := 10000000 }) (disch := omega) only [↓get_setS, ↓get_setN, rget_rset, List.getElem?_cons_zero, List.getElem?_cons_succ, Nat.reduceEqDiff, ↓reduceIte, Nat.succ_ne_self, h1, h6]
      · simp (config := { maxSteps := 10000000 }) (disch := omega) only [↓G_seq, ↓G_skip, ↓G_blk, ↓G_region, ↓G_block, ↓G_cond, ↓G_ops_nil, ↓G_op, Gv_some, ↓G_gop, Gw_tt, Gw_ff, Gc_true, Gc_false, dec_t, dec_f, killAll, ↓get_setS, ↓get_setN, evalOp, ev, evs, rget_rset, b_add, b_sub, b_lss, b_gtr, wrap_i64, one, Option.map_some, Option.bind_some, asB, callV, V.shift, V.shifts, List.append_nil, List.nil_append, List.cons_append, List.all_cons, List.all_nil, Bool.and_true, Bool.true_and, Bool.and_self, List.getElem?_cons_zero, List.getElem?_cons_succ, Nat.reduceEqDiff, ↓reduceIte, Nat.succ_ne_self, Nat.reduceBNe, Bool.false_eq_true, Int.reduceNeg, Int.reduceAdd, pick3, V.cells, fillV, splice, chop, addOff, loadV, storeV, Ab.rowAt, V.scalar, V.pure, Nat.reduceAdd, and_true, true_and, and_self, List.length_cons, List.length_nil, List.take_succ_cons, List.take_zero, List.drop_succ_cons, List.drop_zero, Nat.le_refl, List.set_cons_zero, List.getD_cons_zero, List.replicate, List.flatten_cons, List.flatten_nil, Int.cast_ofNat_Int, Nat.zero_add, Nat.add_zero, el_ref, ti_int, fz_nil, fz_cons, fz_int, nn, ite_ov, Int.toNat_natCast, h1, h6, h8, hlen, hE, hq1, r1, hFx, hFs, hv7, h30, hap2, rset_rset, Nat.zero_lt_succ, hh]
        refine hr' _ _ ?_ ?_ ?_ ?_ ?_ ?_
        all_goals simp (config := { maxSteps := 10000000 }) (disch := omega) only [↓get_setS, ↓get_setN, rget_rset, List.getElem?_cons_zero, List.getElem?_cons_succ, Nat.reduceEqDiff, ↓reduceIte, Nat.succ_ne_self, h1, h6]

theorem okP_b' {b : Int} {p : Pl} (h : ¬ p.at_ < b) : okP b p = okP p.at_ p := by
  have h2 : ¬ p.at_ < p.at_ := by omega
  unfold okP
  rw [if_neg h, if_neg h2]

theorem loop24 {k : List KI} {v : V} {l : List Pl} {v1 : Nat} (hl : l.length ≤ 4096) (hv : SlV 7 v (E7 l)) (hv1 : 0 < v1)
    (hx : ∀ fr' L' R, Acc 4 1 L' (Ab.get fr' 7) (I1 R) → Gx tbl H [.tmp 4, .tmp 5] 0 k fr' L' = some (.tup [outAcc 1 (I1 R), .i 0])) :
    ∀ (t : List Pl) (i : Nat) (F acc : List Int) (fr : List V) (L : List Row), l.drop i = t → i ≤ l.length → 0 ≤ prevP l i → acc.length = i → F.length = 77 →
    Ab.get fr 1 = v → Ab.get fr 6 = .ref 0 1 v1 1 0 77 → Ab.get fr 8 = .i (i : Nat) → rget L 1 = ⟨v1, 1, I1 F⟩ → Acc 4 1 L (Ab.get fr 7) (I1 acc) →
    G tbl H [.tmp 4, .tmp 5] (.code (.loop ( (.seq ( (.seq ( .region [] [ ⟨some 23, .mv (.t 8), none⟩, ⟨some 24, .mv (.t 1), none⟩, ⟨some 25, .len (.t 24), none⟩, ⟨some 26, .bin .lss (.t 23) (.t 25), none⟩]) ( (.cond (.t 26) ( .skip) ( .exit 0))))) ( (.seq ( (.block 1 ( (.seq ( .region [] [ ⟨some 29, .mv (.t 1), none⟩, ⟨some 30, .mv (.t 8), none⟩, ⟨some 31, .elemAddr 7 (.t 29) (.t 30), none⟩, ⟨some 32, .load true 7 (.t 31), none⟩, ⟨some 9, .alloc 2 [(.int .i64 0), (.int .i64 0), (.int .i64 0), (.int .i64 0), (.bool false), (.bool false), (.int .i64 0)], none⟩, ⟨none, .store 7 (.t 9) (.t 32), none⟩]) ( (.seq ( (.seq ( .region [] [ ⟨some 33, .fieldAddr 0 (.t 9), none⟩, ⟨some 34, .load false 1 (.t 33), none⟩, ⟨some 35, .bin .lss (.t 34) (.c (.int .i64 0)), none⟩, ⟨some 36, .mv (.t 35), none⟩, ⟨some 37, .mv (.t 8), some (36, false)⟩, ⟨some 38, .bin .gtr (.t 37) (.c (.int .i64 0)), some (36, false)⟩, ⟨some 39, .mv (.t 38), some (36, false)⟩, ⟨some 40, .fieldAddr 0 (.t 9), some (39, true)⟩, ⟨some 41, .load false 1 (.t 40), some (39, true)⟩, ⟨some 42, .mv (.t 1), some (39, true)⟩, ⟨some 43, .mv (.t 8), some (39, true)⟩, ⟨some 44, .bin .sub (.t 43) (.c (.int .i64 1)), some (39, true)⟩, ⟨some 45, .elemAddr 7 (.t 42) (.t 44), some (39, true)⟩, ⟨some 46, .fieldAddr 0 (.t 45), some (39, true)⟩, ⟨some 47, .load false 1 (.t 46), some (39, true)⟩, ⟨some 48, .bin .lss (.t 41) (.t 47), some (39, true)⟩, ⟨some 49, .pick (.t 39) (.t 48) (.c (.bool false)), some (36, false)⟩, ⟨some 50, .pick (.t 36) (.c (.bool true)) (.t 49), none⟩]) ( (.cond (.t 50) ( (.seq ( .region [] [ ⟨some 4, .mv (.c .nilsl), none⟩, ⟨some 5, .mv (.c (.int .i64 25)), none⟩]) ( .ret))) ( .skip))))) ( (.seq ( (.seq ( .region [] [ ⟨some 51, .fieldAddr 1 (.t 9), none⟩, ⟨some 52, .load false 1 (.t 51), none⟩, ⟨some 53, .bin .lss (.t 52) (.c (.int .i64 0)), none⟩, ⟨some 54, .mv (.t 53), none⟩, ⟨some 55, .fieldAddr 1 (.t 9), some (54, false)⟩, ⟨some 56, .load false 1 (.t 55), some (54, false)⟩, ⟨some 57, .bin .gtr (.t 56) (.c (.int .i64 6)), some (54, false)⟩, ⟨some 58, .pick (.t 54) (.c (.bool true)) (.t 57), none⟩, ⟨some 59, .mv (.t 58), none⟩, ⟨some 60, .fieldAddr 2 (.t 9), some (59, false)⟩, ⟨some 61, .load false 1 (.t 60), some (59, false)⟩, ⟨some 62, .bin .lss (.t 61) (.c (.int .i64 (-1))), some (59, false)⟩, ⟨some 63, .pick (.t 59) (.c (.bool true)) (.t 62), none⟩, ⟨some 64, .mv (.t 63), none⟩, ⟨some 65, .fieldAddr 2 (.t 9), some (64, false)⟩, ⟨some 66, .load false 1 (.t 65), some (64, false)⟩, ⟨some 67, .bin .gtr (.t 66) (.c (.int .i64 9)), some (64, false)⟩, ⟨some 68, .pick (.t 64) (.c (.bool true)) (.t 67), none⟩]) ( (.cond (.t 68) ( (.seq ( .region [] [ ⟨some 4, .mv (.c .nilsl), none⟩, ⟨some 5, .mv (.c (.int .i64 18)), none⟩]) ( .ret))) ( .skip))))) ( (.seq ( (.seq ( .region [] [ ⟨some 69, .fieldAddr 3 (.t 9), none⟩, ⟨some 70, .fieldAddr 0 (.t 69), none⟩, ⟨some 71, .load false 1 (.t 70), none⟩, ⟨some 72, .bin .lss (.t 71) (.c (.int .i64 0)), none⟩, ⟨some 73, .mv (.t 72), none⟩, ⟨some 74, .fieldAddr 3 (.t 9), some (73, false)⟩, ⟨some 75, .fieldAddr 0 (.t 74), some (73, false)⟩, ⟨some 76, .load false 1 (.t 75), some (73, false)⟩, ⟨some 77, .bin .gtr (.t 76) (.c (.int .i64 5)), some (73, false)⟩, ⟨some 78, .pick (.t 73) (.c (.bool true)) (.t 77), none⟩]) ( (.cond (.t 78) ( (.seq ( .region [] [ ⟨some 4, .mv (.c .nilsl), none⟩, ⟨some 5, .mv (.c (.int .i64 11)), none⟩]) ( .ret))) ( .skip))))) ( (.seq ( (.seq ( .region [] [ ⟨some 79, .fieldAddr 5 (.t 9), none⟩, ⟨some 80, .load false 1 (.t 79), none⟩, ⟨some 81, .mv (.t 80), none⟩, ⟨some 82, .fieldAddr 6 (.t 9), some (81, true)⟩, ⟨some 83, .load false 1 (.t 82), some (81, true)⟩, ⟨some 84, .bin .lss (.t 83) (.c (.int .i64 (-2))), some (81, true)⟩, ⟨some 85, .mv (.t 84), some (81, true)⟩, ⟨some 86, .fieldAddr 6 (.t 9), some (85, false)⟩, ⟨some 87, .load false 1 (.t 86), some (85, false)⟩, ⟨some 88, .bin .gtr (.t 87) (.c (.int .i64 2)), some (85, false)⟩, ⟨some 89, .pick (.t 85) (.c (.bool true)) (.t 88), some (81, true)⟩, ⟨some 90, .pick (.t 81) (.t 89) (.c (.bool false)), none⟩]) ( (.cond (.t 90) ( (.seq ( .region [] [ ⟨some 4, .mv (.c .nilsl), none⟩, ⟨some 5, .mv (.c (.int .i64 2)), none⟩]) ( .ret))) ( .skip))))) ( (.seq ( .region [] [ ⟨some 91, .fieldAddr 1 (.t 9), none⟩, ⟨some 92, .load false 1 (.t 91), none⟩, ⟨some 93, .fieldAddr 2 (.t 9), none⟩, ⟨some 94, .load false 1 (.t 93), none⟩, ⟨some 95, .callf 3 (.c (.fn 30 [])) [(.t 92), (.t 94)], none⟩, ⟨some 10, .mv (.t 95), none⟩]) ( (.seq ( .region [] [ ⟨some 96, .mv (.t 6), none⟩, ⟨some 97, .mv (.t 10), none⟩, ⟨some 98, .elemAddr 1 (.t 96) (.t 97), none⟩, ⟨some 99, .load false 1 (.t 98), none⟩, ⟨some 11, .mv (.t 99), none⟩]) ( (.seq ( (.seq ( .region [] [ ⟨some 100, .fieldAddr 3 (.t 9), none⟩, ⟨some 101, .fieldAddr 0 (.t 100), none⟩, ⟨some 102, .load false 1 (.t 101), none⟩, ⟨some 103, .bin .gtr (.t 102) (.c (.int .i64 0)), none⟩]) ( (.cond (.t 103) ( (.seq ( .region [] [ ⟨some 104, .fieldAddr 3 (.t 9), none⟩, ⟨some 105, .fieldAddr 0 (.t 104), none⟩, ⟨some 106, .load false 1 (.t 105), none⟩, ⟨some 107, .bin .sub (.t 106) (.c (.int .i64 3)), none⟩, ⟨some 11, .mv (.t 107), none⟩]) ( .region [] [ ⟨some 108, .mv (.t 6), none⟩, ⟨some 109, .mv (.t 10), none⟩, ⟨some 110, .mv (.t 11), none⟩, ⟨some 111, .elemAddr 1 (.t 108) (.t 109), none⟩, ⟨none, .store 1 (.t 111) (.t 110), none⟩]))) ( (.seq ( .region [] [ ⟨some 112, .fieldAddr 5 (.t 9), none⟩, ⟨some 113, .load false 1 (.t 112), none⟩]) ( (.cond (.t 113) ( .region [] [ ⟨some 114, .fieldAddr 6 (.t 9), none⟩, ⟨some 115, .load false 1 (.t 114), none⟩, ⟨some 11, .mv (.t 115), none⟩]) ( .skip))))))))) ( .region [] [ ⟨some 116, .mv (.t 7), none⟩, ⟨some 117, .mv (.t 11), none⟩, ⟨some 118, .lit 1 [(.int .i64 0)] 1 [(0, 1, (.t 117))], none⟩, ⟨some 119, .app 4 1 8 (.t 116) (.t 118), none⟩, ⟨some 7, .mv (.t 119), none⟩]))))))))))))))))))) ( .region [] [ ⟨some 27, .mv (.t 8), none⟩, ⟨some 28, .bin .add (.t 27) (.c (.int .i64 1)), none⟩, ⟨some 8, .mv (.t 28), none⟩])))))) :: k) fr L = some (if errP (prevP l i) t = 0 then .tup [outAcc 1 (I1 (acc ++ readR t F)), .i 0] else errV (errP (prevP l i) t)) := by
  intro t
  have hlen := hv.len
  rw [E7_len] at hlen
  induction t with
  | nil =>
    intro i F acc fr L ht hi hp ha hF h1 h6 h8 r1 hacc
    have := drop_nil ht
    rw [if_pos (show errP (prevP l i) [] = 0 from rfl)]
    simp only [readR, List.append_nil]
    refine G_loop.trans ?_
    simp (config := { maxSteps := 10000000 }) (disch := omega) only [↓G_seq, ↓G_exit, ↓G_region, ↓G_cond, ↓Gx_code, ↓G_ops_nil, ↓G_op, Gv_some, Gc_false, dec_f, killAll, ↓get_setS, evalOp, ev, b_lss, one, Option.map_some, List.getElem?_cons_zero, List.getElem?_cons_succ, Nat.reduceEqDiff, ↓reduceIte, Nat.succ_ne_self, Int.reduceNeg, h1, h8, hlen]
    refine hx _ _ acc ?_
    simp (config := { maxSteps := 10000000 }) (disch := omega) only [↓get_setS, List.getElem?_cons_zero, List.getElem?_cons_succ, Nat.reduceEqDiff, ↓reduceIte]
    exact hacc
  | cons p t ih =>
    intro i F acc fr L ht hi hp ha hF h1 h6 h8 r1 hacc
    obtain ⟨e1, e2, e3⟩ := drop_cons ht
    have hE := hv.el (E7_get l i p e1)
    have hpn : prevP l (i + 1) = p.at_ := by simp [prevP, e1]
    have hat : (p.at_ < 0 ∧ p.at_ < prevP l i) ∨ (¬ p.at_ < 0 ∧ (i : Int) ≤ 0 ∧ prevP l i = 0) ∨ (¬ p.at_ < 0 ∧ 0 < (i : Int) ∧ ∃ q : Pl, elemV 7 v (.i ((i : Int) - 1)) = some (.eptr [.i q.at_, .i q.s, .i q.o, .i q.kd, .bool q.pr, .bool q.h, .i q.be] 0) ∧ prevP l i = q.at_) := by
      by_cases z : p.at_ < 0
      · exact .inl ⟨z, by omega⟩
      · cases i with
        | zero => exact .inr (.inl ⟨z, by simp, rfl⟩)
        | succ j =>
          obtain ⟨q, hq'⟩ : ∃ q, l[j]? = some q := ⟨_, List.getElem?_eq_getElem (by omega)⟩
          refine .inr (.inr ⟨z, by omega, q, ?_, by simp [prevP, hq']⟩)
          have := hv.el (E7_get l j q hq')
          rw [show ((j + 1 : Nat) : Int) - 1 = (j : Int) by omega]
          exact this
    have done : ¬ p.at_ < prevP l i → ∀ x : Option V, x = (if okP p.at_ p = 0 then some (if errP p.at_ t = 0 then .tup [outAcc 1 (I1 (acc ++ readR (p :: t) F)), .i 0] else errV (errP p.at_ t)) else some (errV (okP p.at_ p))) →
        x = some (if errP (prevP l i) (p :: t) = 0 then .tup [outAcc 1 (I1 (acc ++ readR (p :: t) F)), .i 0] else errV (errP (prevP l i) (p :: t))) := by
      intro c1 x hx'
      rw [hx']
      have hb := okP_b' c1
      by_cases q : okP p.at_ p = 0
      · rw [if_pos q, errP_0 (hb.trans q)]
      · rw [if_neg q, errP_e hb q, if_neg q]
    have go : ¬ p.at_ < 0 → okP p.at_ p = 0 → ∀ fr' L', Ab.get fr' 1 = v → Ab.get fr' 6 = .ref 0 1 v1 1 0 77 → Ab.get fr' 8 = .i ((i : Nat) + 1) → rget L' 1 = ⟨v1, 1, I1 (stepQ F p).2⟩ → Ab.get fr' 7 = .ref 0 4 ((rget L 4).ver + 1) 1 0 (acc.length + 1) →
        rget L' 4 = ⟨(rget L 4).ver + 1, 1, I1 acc ++ [[.i (stepQ F p).1]]⟩ → G tbl H [.tmp 4, .tmp 5] (.code (.loop ( (.seq ( (.seq ( .region [] [ ⟨some 23, .mv (.t 8), none⟩, ⟨some 24, .mv (.t 1), none⟩, ⟨some 25, .len (.t 24), none⟩, ⟨some 26, .bin .lss (.t 23) (.t 25), none⟩]) ( (.cond (.t 26) ( .skip) ( .exit 0))))) ( (.seq ( (.block 1 ( (.seq ( .region [] [ ⟨some 29, .mv (.t 1), none⟩, ⟨some 30, .mv (.t 8), none⟩, ⟨some 31, .elemAddr 7 (.t 29) (.t 30), none⟩, ⟨some 32, .load true 7 (.t 31), none⟩, ⟨some 9, .alloc 2 [(.int .i64 0), (.int .i64 0), (.int .i64 0), (.int .i64 0), (.bool false), (.bool false), (.int .i64 0)], none⟩, ⟨none, .store 7 (.t 9) (.t 32), none⟩]) ( (.seq ( (.seq ( .region [] [ ⟨some 33, .fieldAddr 0 (.t 9), none⟩, ⟨some 34, .load false 1 (.t 33), none⟩, ⟨some 35, .bin .lss (.t 34) (.c (.int .i64 0)), none⟩, ⟨some 36, .mv (.t 35), none⟩, ⟨some 37, .mv (.t 8), some (36, false)⟩, ⟨some 38, .bin .gtr (.t 37) (.c (.int .i64 0)), some (36, false)⟩, ⟨some 39, .mv (.t 38), some (36, false)⟩, ⟨some 40, .fieldAddr 0 (.t 9), some (39, true)⟩, ⟨some 41, .load false 1 (.t 40), some (39, true)⟩, ⟨some 42, .mv (.t 1), some (39, true)⟩, ⟨some 43, .mv (.t 8), some (39, true)⟩, ⟨some 44, .bin .sub (.t 43) (.c (.int .i64 1)), some (39, true)⟩, ⟨some 45, .elemAddr 7 (.t 42) (.t 44), some (39, true)⟩, ⟨some 46, .fieldAddr 0 (.t 45), some (39, true)⟩, ⟨some 47, .load false 1 (.t 46), some (39, true)⟩, ⟨some 48, .bin .lss (.t 41) (.t 47), some (39, true)⟩, ⟨some 49, .pick (.t 39) (.t 48) (.c (.bool false)), some (36, false)⟩, ⟨some 50, .pick (.t 36) (.c (.bool true)) (.t 49), none⟩]) ( (.cond (.t 50) ( (.seq ( .region [] [ ⟨some 4, .mv (.c .nilsl), none⟩, ⟨some 5, .mv (.c (.int .i64 25)), none⟩]) ( .ret))) ( .skip))))) ( (.seq ( (.seq ( .region [] [ ⟨some 51, .fieldAddr 1 (.t 9), none⟩, ⟨some 52, .load false 1 (.t 51), none⟩, ⟨some 53, .bin .lss (.t 52) (.c (.int .i64 0)), none⟩, ⟨some 54, .mv (.t 53), none⟩, ⟨some 55, .fieldAddr 1 (.t 9), some (54, false)⟩, ⟨some 56, .load false 1 (.t 55), some (54, false)⟩, ⟨some 57, .bin .gtr (.t 56) (.c (.int .i64 6)), some (54, false)⟩, ⟨some 58, .pick (.t 54) (.c (.bool true)) (.t 57), none⟩, ⟨some 59, .mv (.t 58), none⟩, ⟨some 60, .fieldAddr 2 (.t 9), some (59, false)⟩, ⟨some 61, .load false 1 (.t 60), some (59, false)⟩, ⟨some 62, .bin .lss (.t 61) (.c (.int .i64 (-1))), some (59, false)⟩, ⟨some 63, .pick (.t 59) (.c (.bool true)) (.t 62), none⟩, ⟨some 64, .mv (.t 63), none⟩, ⟨some 65, .fieldAddr 2 (.t 9), some (64, false)⟩, ⟨some 66, .load false 1 (.t 65), some (64, false)⟩, ⟨some 67, .bin .gtr (.t 66) (.c (.int .i64 9)), some (64, false)⟩, ⟨some 68, .pick (.t 64) (.c (.bool true)) (.t 67), none⟩]) ( (.cond (.t 68) ( (.seq ( .region [] [ ⟨some 4, .mv (.c .nilsl), none⟩, ⟨some 5, .mv (.c (.int .i64 18)), none⟩]) ( .ret))) ( .skip))))) ( (.seq ( (.seq ( .region [] [ ⟨some 69, .fieldAddr 3 (.t 9), none⟩, ⟨some 70, .fieldAddr 0 (.t 69), none⟩, ⟨some 71, .load false 1 (.t 70), none⟩, ⟨some 72, .bin .lss (.t 71) (.c (.int .i64 0)), none⟩, ⟨some 73, .mv (.t 72), none⟩, ⟨some 74, .fieldAddr 3 (.t 9), some (73, false)⟩, ⟨some 75, .fieldAddr 0 (.t 74), some (73, false)⟩, ⟨some 76, .load false 1 (.t 75), some (73, false)⟩, ⟨some 77, .bin .gtr (.t 76) (.c (.int .i64 5)), some (73, false)⟩, ⟨some 78, .pick (.t 73) (.c (.bool true)) (.t 77), none⟩]) ( (.cond (.t 78) ( (.seq ( .region [] [ ⟨some 4, .mv (.c .nilsl), none⟩, ⟨some 5, .mv (.c (.int .i64 11)), none⟩]) ( .ret))) ( .skip))))) ( (.seq ( (.seq ( .region [] [ ⟨some 79, .fieldAddr 5 (.t 9), none⟩, ⟨some 80, .load false 1 (.t 79), none⟩, ⟨some 81, .mv (.t 80), none⟩, ⟨some 82, .fieldAddr 6 (.t 9), some (81, true)⟩, ⟨some 83, .load false 1 (.t 82), some (81, true)⟩, ⟨some 84, .bin .lss (.t 83) (.c (.int .i64 (-2))), some (81, true)⟩, ⟨some 85, .mv (.t 84), some (81, true)⟩, ⟨some 86, .fieldAddr 6 (.t 9), some (85, false)⟩, ⟨some 87, .load false 1 (.t 86), some (85, false)⟩, ⟨some 88, .bin .gtr (.t 87) (.c (.int .i64 2)), some (85, false)⟩, ⟨some 89, .pick (.t 85) (.c (.bool true)) (.t 88), some (81, true)⟩, ⟨some 90, .pick (.t 81) (.t 89) (.c (.bool false)), none⟩]) ( (.cond (.t 90) ( (.seq ( .region [] [ ⟨some 4, .mv (.c .nilsl), none⟩, ⟨some 5, .mv (.c (.int .i64 2)), none⟩]) ( .ret))) ( .skip))))) ( (.seq ( .region [] [ ⟨some 91, .fieldAddr 1 (.t 9), none⟩, ⟨some 92, .load false 1 (.t 91), none⟩, ⟨some 93, .fieldAddr 2 (.t 9), none⟩, ⟨some 94, .load false 1 (.t 93), none⟩, ⟨some 95, .callf 3 (.c (.fn 30 [])) [(.t 92), (.t 94)], none⟩, ⟨some 10, .mv (.t 95), none⟩]) ( (.seq ( .region [] [ ⟨some 96, .mv (.t 6), none⟩, ⟨some 97, .mv (.t 10), none⟩, ⟨some 98, .elemAddr 1 (.t 96) (.t 97), none⟩, ⟨some 99, .load false 1 (.t 98), none⟩, ⟨some 11, .mv (.t 99), none⟩]) ( (.seq ( (.seq ( .region [] [ ⟨some 100, .fieldAddr 3 (.t 9), none⟩, ⟨some 101, .fieldAddr 0 (.t 100), none⟩, ⟨some 102, .load false 1 (.t 101), none⟩, ⟨some 103, .bin .gtr (.t 102) (.c (.int .i64 0)), none⟩]) ( (.cond (.t 103) ( (.seq ( .region [] [ ⟨some 104, .fieldAddr 3 (.t 9), none⟩, ⟨some 105, .fieldAddr 0 (.t 104), none⟩, ⟨some 106, .load false 1 (.t 105), none⟩, ⟨some 107, .bin .sub (.t 106) (.c (.int .i64 3)), none⟩, ⟨some 11, .mv (.t 107), none⟩]) ( .region [] [ ⟨some 108, .mv (.t 6), none⟩, ⟨some 109, .mv (.t 10), none⟩, ⟨some 110, .mv (.t 11), none⟩, ⟨some 111, .elemAddr 1 (.t 108) (.t 109), none⟩, ⟨none, .store 1 (.t 111) (.t 110), none⟩]))) ( (.seq ( .region [] [ ⟨some 112, .fieldAddr 5 (.t 9), none⟩, ⟨some 113, .load false 1 (.t 112), none⟩]) ( (.cond (.t 113) ( .region [] [ ⟨some 114, .fieldAddr 6 (.t 9), none⟩, ⟨some 115, .load false 1 (.t 114), none⟩, ⟨some 11, .mv (.t 115), none⟩]) ( .skip))))))))) ( .region [] [ ⟨some 116, .mv (.t 7), none⟩, ⟨some 117, .mv (.t 11), none⟩, ⟨some 118, .lit 1 [(.int .i64 0)] 1 [(0, 1, (.t 117))], none⟩, ⟨some 119, .app 4 1 8 (.t 116) (.t 118), none⟩, ⟨some 7, .mv (.t 119), none⟩]))))))))))))))))))) ( .region [] [ ⟨some 27, .mv (.t 8), none⟩, ⟨some 28, .bin .add (.t 27) (.c (.int .i64 1)), none⟩, ⟨some 8, .mv (.t 28), none⟩])))))) :: k) fr' L' = some (if errP p.at_ t = 0 then .tup [outAcc 1 (I1 (acc ++ readR (p :: t) F)), .i 0] else errV (errP p.at_ t)) := by
      intro z q fr' L' g1 g6 g8 s1 g7 s4
      have hl' : (stepQ F p).2.length = 77 := by rw [stepQ_len]; exact hF
      have := ih (i + 1) (stepQ F p).2 (acc ++ [(stepQ F p).1]) fr' L' e2 (by omega) (by omega) (by simp; omega) hl' g1 g6 (by rw [g8]; congr 1) s1 (by
        rw [g7]
        exact Acc.mk (ver := (rget L 4).ver + 1) (by omega) (by rw [I1_len]; simp) (by rw [s4, I1_app]) (by simp [I1]))
      rw [this, hpn]
      simp [readR]
    refine G_loop.trans ?_
    rcases hat with ⟨z1, z2⟩ | ⟨z1, z2, z3⟩ | ⟨z1, z2, q, z3, z4⟩
    · rw [errP_e (okP_at z2) (by decide), if_neg (by decide)]
      clear ih go done hx hacc hv
      simp (config := { maxSteps := 10000000 }) (disch := omega) only [↓G_seq, ↓G_skip, ↓G_ret, ↓G_region, ↓G_block, ↓G_cond, ↓G_ops_nil, ↓G_op, Gv_some, ↓G_gop, Gw_ft, Gw_tup, Gc_true, dec_t, killAll, ↓get_setS, ↓get_setN, evalOp, ev, rget_rset, b_lss, one, Option.map_some, Option.bind_some, asB, finish, resVs, resV, outVs, ownsLast, tupOf, V.shift, List.nil_append, List.cons_append, List.all_cons, List.all_nil, Bool.and_self, List.getElem?_cons_zero, List.getElem?_cons_succ, Nat.reduceEqDiff, ↓reduceIte, Nat.succ_ne_self, Bool.false_eq_true, Int.reduceNeg, Int.reduceAdd, pick3, V.cells, splice, addOff, loadV, storeV, Ab.rowAt, V.scalar, Nat.reduceAdd, and_self, List.length_cons, List.length_nil, List.take_succ_cons, List.take_zero, List.drop_succ_cons, List.drop_zero, Nat.le_refl, List.set_cons_zero, List.getD_cons_zero, Nat.zero_add, Nat.add_zero, ov_int, ov_nilsl, fn_some, h1, h8, hlen, hE, rset_rset, Nat.zero_lt_succ, errV]
    · exact done (by omega) _ (body24 hl hlen e3 ha hF hE hv1 z1 (.inl z2) h1 h6 h8 r1 hacc (go z1))
    · by_cases y : p.at_ < prevP l i
      · rw [errP_e (okP_at y) (by decide), if_neg (by decide)]
        clear ih go done hx hacc hv
        rw [z4] at y
        simp (config := { maxSteps := 10000000 }) (disch := omega) only [↓G_seq, ↓G_skip, ↓G_ret, ↓G_region, ↓G_block, ↓G_cond, ↓G_ops_nil, ↓G_op, Gv_some, ↓G_gop, Gw_tt, Gw_ff, Gc_true, dec_t, dec_f, killAll, ↓get_setS, ↓get_setN, evalOp, ev, rget_rset, b_sub, b_lss, b_gtr, wrap_i64, one, Option.map_some, Option.bind_some, asB, finish, resVs, resV, outVs, ownsLast, tupOf, V.shift, List.nil_append, List.cons_append, List.all_cons, List.all_nil, Bool.and_self, List.getElem?_cons_zero, List.getElem?_cons_succ, Nat.reduceEqDiff, ↓reduceIte, Nat.succ_ne_self, Bool.false_eq_true, Int.reduceNeg, Int.reduceAdd, pick3, V.cells, splice, addOff, loadV, storeV, Ab.rowAt, V.scalar, Nat.reduceAdd, and_self, List.length_cons, List.length_nil, List.take_succ_cons, List.take_zero, List.drop_succ_cons, List.drop_zero, Nat.le_refl, List.set_cons_zero, List.getD_cons_zero, Nat.zero_add, Nat.add_zero, ov_int, ov_nilsl, fn_some, h1, h8, hlen, hE, rset_rset, Nat.zero_lt_succ, z3, errV]
      · exact done y _ (body24 hl hlen e3 ha hF hE hv1 z1 (.inr ⟨z2, q, z3, by omega⟩) h1 h6 h8 r1 hacc (go z1))

theorem c24 {f : Int} {v : V} {l : List Pl} (hm : l.length ≤ 9223372036854775807) (hv : SlV 7 v (E7 l)) :
    call tbl 24 [.i f, v] H = some (if errQ f l = 0 then .tup [outAcc 1 (I1 (readR l (startR f))), .i 0] else errV (errQ f l)) := by
  refine (call_start (show tbl 24 = some a24 from rfl)).trans ?_
  have hlen := hv.len
  rw [E7_len] at hlen
  by_cases h1 : f < -7
  · rw [errQ_e (e := 2) (by unfold guardR; rw [if_pos (.inl h1)]) (by decide), if_neg (by decide)]
    unfold a24
    simp (config := { maxSteps := 10000000 }) (disch := omega) only [↓G_seq, ↓G_ret, ↓G_region, ↓G_cond, ↓G_ops_nil, ↓G_op, Gv_some, ↓G_gop, Gw_ft, Gc_true, dec_t, killAll, ↓get_setS, evalOp, ev, Ab.get, b_lss, one, Option.map_some, Option.bind_some, asB, finish, resVs, resV, outVs, ownsLast, tupOf, List.all_cons, List.all_nil, Bool.and_self, List.getElem?_cons_zero, List.getElem?_cons_succ, Nat.reduceEqDiff, reduceCtorEq, ↓reduceIte, Nat.succ_ne_self, Int.reduceNeg, and_self, ov_int, ov_nilsl, fn_some, errV]
    done
  by_cases h2 : 7 < f
  · rw [errQ_e (e := 2) (by unfold guardR; rw [if_pos (.inr h2)]) (by decide), if_neg (by decide)]
    unfold a24
    simp (config := { maxSteps := 10000000 }) (disch := omega) only [↓G_seq, ↓G_ret, ↓G_region, ↓G_cond, ↓G_ops_nil, ↓G_op, Gv_some, ↓G_gop, Gw_ff, Gc_true, dec_t, dec_f, killAll, ↓get_setS, evalOp, ev, Ab.get, b_lss, b_gtr, one, Option.map_some, Option.bind_some, asB, finish, resVs, resV, outVs, ownsLast, tupOf, List.all_cons, List.all_nil, Bool.and_self, List.getElem?_cons_zero, List.getElem?_cons_succ, Nat.reduceEqDiff, reduceCtorEq, ↓reduceIte, Nat.succ_ne_self, Bool.false_eq_true, Int.reduceNeg, and_self, ov_int, ov_nilsl, fn_some, errV]
    done
  by_cases h3 : 2560 < ((l.length : Nat) : Int)
  · rw [errQ_e (e := 9) (by unfold guardR; rw [if_neg (by omega), if_pos h3]) (by decide), if_neg (by decide)]
    unfold a24
    simp (config := { maxSteps := 10000000 }) (disch := omega) only [↓G_seq, ↓G_skip, ↓G_ret, ↓G_region, ↓G_cond, ↓G_ops_nil, ↓G_op, Gv_some, ↓G_gop, Gw_ff, Gc_true, Gc_false, dec_t, dec_f, killAll, ↓get_setS, evalOp, ev, Ab.get, b_lss, b_gtr, one, Option.map_some, Option.bind_some, asB, finish, resVs, resV, outVs, ownsLast, tupOf, List.all_cons, List.all_nil, Bool.and_self, List.getElem?_cons_zero, List.getElem?_cons_succ, Nat.reduceEqDiff, reduceCtorEq, ↓reduceIte, Nat.succ_ne_self, Bool.false_eq_true, Int.reduceNeg, and_self, ov_int, ov_nilsl, fn_some, hlen, errV]
  · rw [errQ_0 (by unfold guardR; rw [if_neg (by omega), if_neg h3])]
    have h29 := fun H => c29 (H := H) f (by omega)
    have hsl' := startR_len f
    unfold a24
    simp (config := { maxSteps := 10000000 }) (disch := omega) only [↓G_seq, ↓G_skip, ↓G_region, ↓G_block, ↓G_cond, ↓G_ops_nil, ↓G_op, Gv_some, ↓G_gop, Gw_ff, Gc_false, dec_f, killAll, ↓get_setS, evalOp, ev, evs, Ab.get, b_lss, b_gtr, one, Option.map_some, Option.bind_some, asB, callV, V.shift, V.shifts, List.append_nil, List.getElem?_cons_zero, List.getElem?_cons_succ, Nat.reduceEqDiff, reduceCtorEq, ↓reduceIte, Nat.succ_ne_self, Nat.reduceBNe, Bool.false_eq_true, Int.reduceNeg, rget, rset, Nat.zero_add, ti_own_t, fz_nil, fz_cons, fz_int, hlen, h29, List.length_map, hsl']
    refine (loop24 (l := l) (v1 := 1) (by omega) hv (by omega) (fun fr' L' R hacc => ?_) l 0 (startR f) [] _ _ rfl (by omega) (Int.le_refl 0) rfl hsl' ?_ ?_ ?_ ?_ ?_).trans ?_
    · generalize hv7 : Ab.get fr' 7 = v7 at hacc
      have ho := hacc.out (by omega) (I1_pure _)
      simp (config := { maxSteps := 10000000 }) (disch := omega) only [↓G_seq, ↓G_ret, ↓G_region, ↓Gx_blk, ↓G_ops_nil, ↓G_op, Gv_some, killAll, ↓get_setS, evalOp, ev, Option.map_some, Option.bind_some, finish, resVs, resV, outVs, ownsLast, tupOf, List.all_cons, List.all_nil, Bool.and_self, List.getElem?_cons_zero, List.getElem?_cons_succ, ↓reduceIte, Nat.succ_ne_self, and_self, ov_int, fn_some, hv7, ↓ho]
    · simp (config := { maxSteps := 10000000 }) (disch := omega) only [↓get_setS, Ab.get, List.getElem?_cons_zero, List.getElem?_cons_succ, Nat.reduceEqDiff, ↓reduceIte]
    · simp (config := { maxSteps := 10000000 }) (disch := omega) only [↓get_setS, List.getElem?_cons_zero, List.getElem?_cons_succ, Nat.reduceEqDiff, ↓reduceIte, Nat.succ_ne_self]
    · simp (config := { maxSteps := 10000000 }) (disch := omega) only [↓get_setS, List.getElem?_cons_zero, List.getElem?_cons_succ, ↓reduceIte, Int.cast_ofNat_Int]
    · simp (config := { maxSteps := 10000000 }) (disch := omega) only [List.getElem?_cons_zero, List.getElem?_cons_succ, rget]
      rfl
    · simp (config := { maxSteps := 10000000 }) (disch := omega) only [↓get_setS, List.getElem?_cons_zero, List.getElem?_cons_succ, ↓reduceIte, Nat.succ_ne_self]
      exact Acc.nil
    · rfl

/-- The program's copy of the places. -/
theorem loop9 {k : List KI} {rs : List ARes} {r : Option V} {v f0 : V} {l : List Pl} (hl : l.length ≤ 1000000) (hv : SlV 7 v (E7 l))
    (hr : ∀ fr' L', Ab.get fr' 0 = f0 → Ab.get fr' 1 = v → Acc 1 7 L' (Ab.get fr' 5) (E7 l) → Gx tbl H rs 0 k fr' L' = r) :
    ∀ (n i : Nat) (fr : List V) (L : List Row), i + n = l.length → Ab.get fr 0 = f0 → Ab.get fr 1 = v → Ab.get fr 6 = .i (i : Nat) → Acc 1 7 L (Ab.get fr 5) (E7 (l.take i)) →
    G tbl H rs (.code (.loop ( (.seq ( (.seq ( .region [] [ ⟨some 20, .mv (.t 6), none⟩, ⟨some 21, .mv (.t 1), none⟩, ⟨some 22, .len (.t 21), none⟩, ⟨some 23, .bin .lss (.t 20) (.t 22), none⟩]) ( (.cond (.t 23) ( .skip) ( .exit 0))))) ( (.seq ( (.block 1 ( .region [] [ ⟨some 26, .mv (.t 5), none⟩, ⟨some 27, .mv (.t 1), none⟩, ⟨some 28, .mv (.t 6), none⟩, ⟨some 29, .elemAddr 7 (.t 27) (.t 28), none⟩, ⟨some 30, .fieldAddr 0 (.t 29), none⟩, ⟨some 31, .load false 1 (.t 30), none⟩, ⟨some 32, .mv (.t 1), none⟩, ⟨some 33, .mv (.t 6), none⟩, ⟨some 34, .elemAddr 7 (.t 32) (.t 33), none⟩, ⟨some 35, .fieldAddr 1 (.t 34), none⟩, ⟨some 36, .load false 1 (.t 35), none⟩, ⟨some 37, .mv (.t 1), none⟩, ⟨some 38, .mv (.t 6), none⟩, ⟨some 39, .elemAddr 7 (.t 37) (.t 38), none⟩, ⟨some 40, .fieldAddr 2 (.t 39), none⟩, ⟨some 41, .load false 1 (.t 40), none⟩, ⟨some 42, .mv (.t 1), none⟩, ⟨some 43, .mv (.t 6), none⟩, ⟨some 44, .elemAddr 7 (.t 42) (.t 43), none⟩, ⟨some 45, .fieldAddr 3 (.t 44), none⟩, ⟨some 46, .fieldAddr 0 (.t 45), none⟩, ⟨some 47, .load false 1 (.t 46), none⟩, ⟨some 48, .mv (.t 1), none⟩, ⟨some 49, .mv (.t 6), none⟩, ⟨some 50, .elemAddr 7 (.t 48) (.t 49), none⟩, ⟨some 51, .fieldAddr 3 (.t 50), none⟩, ⟨some 52, .fieldAddr 1 (.t 51), none⟩, ⟨some 53, .load false 1 (.t 52), none⟩, ⟨some 54, .build [(.int .i64 0), (.bool false)] [(0, 1, (.t 47)), (1, 1, (.t 53))], none⟩, ⟨some 55, .mv (.t 1), none⟩, ⟨some 56, .mv (.t 6), none⟩, ⟨some 57, .elemAddr 7 (.t 55) (.t 56), none⟩, ⟨some 58, .fieldAddr 5 (.t 57), none⟩, ⟨some 59, .load false 1 (.t 58), none⟩, ⟨some 60, .mv (.t 1), none⟩, ⟨some 61, .mv (.t 6), none⟩, ⟨some 62, .elemAddr 7 (.t 60) (.t 61), none⟩, ⟨some 63, .fieldAddr 6 (.t 62), none⟩, ⟨some 64, .load false 1 (.t 63), none⟩, ⟨some 65, .build [(.int .i64 0), (.int .i64 0), (.int .i64 0), (.int .i64 0), (.bool false), (.bool false), (.int .i64 0)] [(0, 1, (.t 31)), (1, 1, (.t 36)), (2, 1, (.t 41)), (3, 2, (.t 54)), (5, 1, (.t 59)), (6, 1, (.t 64))], none⟩, ⟨some 66, .lit 7 [(.int .i64 0), (.int .i64 0), (.int .i64 0), (.int .i64 0), (.bool false), (.bool false), (.int .i64 0)] 1 [(0, 7, (.t 65))], none⟩, ⟨some 67, .app 1 7 56 (.t 26) (.t 66), none⟩, ⟨some 5, .mv (.t 67), none⟩]))) ( .region [] [ ⟨some 24, .mv (.t 6), none⟩, ⟨some 25, .bin .add (.t 24) (.c (.int .i64 1)), none⟩, ⟨some 6, .mv (.t 25), none⟩])))))) :: k) fr L = r := by
  intro n
  have hlen := hv.len
  rw [E7_len] at hlen
  induction n with
  | zero =>
    intro i fr L hi h0 h1 h6 hacc
    refine G_loop.trans ?_
    simp (config := { maxSteps := 10000000 }) (disch := omega) only [↓G_seq, ↓G_exit, ↓G_region, ↓G_cond, ↓Gx_code, ↓G_ops_nil, ↓G_op, Gv_some, Gc_false, dec_f, killAll, ↓get_setS, evalOp, ev, b_lss, one, Option.map_some, List.getElem?_cons_zero, List.getElem?_cons_succ, Nat.reduceEqDiff, ↓reduceIte, Nat.succ_ne_self, h1, h6, hlen]
    refine hr _ _ ?_ ?_ ?_
    · simp (config := { maxSteps := 10000000 }) (disch := omega) only [↓get_setS, List.getElem?_cons_zero, List.getElem?_cons_succ, reduceCtorEq, ↓reduceIte, h0]
    · simp (config := { maxSteps := 10000000 }) (disch := omega) only [↓get_setS, List.getElem?_cons_zero, List.getElem?_cons_succ, Nat.reduceEqDiff, ↓reduceIte, h1]
    · simp (config := { maxSteps := 10000000 }) (disch := omega) only [↓get_setS, List.getElem?_cons_zero, List.getElem?_cons_succ, Nat.reduceEqDiff, ↓reduceIte]
      rw [List.take_of_length_le (by omega)] at hacc
      exact hacc
  | succ n ih =>
    intro i fr L hi h0 h1 h6 hacc
    obtain ⟨p, hx⟩ : ∃ x, l[i]? = some x := ⟨_, List.getElem?_eq_getElem (by omega)⟩
    have hE := hv.el (E7_get l i p hx)
    generalize hv5 : Ab.get fr 5 = v5 at hacc
    have hap := acc_app (H := H) (bytes := 56) (y := .sl .full 7 [[.i p.at_, .i p.s, .i p.o, .i p.kd, .bool p.pr, .bool p.h, .i p.be]]) (new := [[.i p.at_, .i p.s, .i p.o, .i p.kd, .bool p.pr, .bool p.h, .i p.be]]) hacc rfl (by simp) (by omega) (by
      rw [E7_len]
      simp
      omega) (by simp [V.scalar])
    refine G_loop.trans ?_
    simp (config := { maxSteps := 10000000 }) (disch := omega) only [↓G_seq, ↓G_skip, ↓G_blk, ↓G_region, ↓G_block, ↓G_cond, ↓G_ops_nil, ↓G_op, Gv_some, Gc_true, dec_t, killAll, ↓get_setS, evalOp, ev, b_add, b_lss, wrap_i64, one, Option.map_some, Option.bind_some, List.append_nil, List.nil_append, List.cons_append, List.all_cons, List.all_nil, Bool.true_and, Bool.and_self, List.getElem?_cons_zero, List.getElem?_cons_succ, Nat.reduceEqDiff, ↓reduceIte, Nat.succ_ne_self, Bool.false_eq_true, Int.reduceAdd, Int.reduceLT, pick3, V.cells, fillV, splice, chop, addOff, loadV, V.scalar, V.pure, Nat.reduceAdd, Nat.reduceLT, Nat.reduceLeDiff, true_and, and_self, List.length_cons, List.length_nil, List.take_succ_cons, List.take_zero, List.drop_succ_cons, List.drop_zero, Nat.le_refl, List.replicate, List.flatten_cons, List.flatten_nil, Nat.zero_add, Nat.add_zero, h1, h6, hlen, hE, hv5, hap.1]
    refine ih (i + 1) _ _ (by omega) ?_ ?_ ?_ ?_
    · simp (config := { maxSteps := 10000000 }) (disch := omega) only [↓get_setS, List.getElem?_cons_zero, List.getElem?_cons_succ, reduceCtorEq, ↓reduceIte, h0]
    · simp (config := { maxSteps := 10000000 }) (disch := omega) only [↓get_setS, List.getElem?_cons_zero, List.getElem?_cons_succ, Nat.reduceEqDiff, ↓reduceIte, h1]
    · simp (config := { maxSteps := 10000000 }) (disch := omega) only [↓get_setS, List.getElem?_cons_zero, List.getElem?_cons_succ, ↓reduceIte]
      congr 1
    · simp (config := { maxSteps := 10000000 }) (disch := omega) only [↓get_setS, List.getElem?_cons_zero, List.getElem?_cons_succ, Nat.reduceEqDiff, ↓reduceIte, Nat.succ_ne_self]
      rw [List.take_add_one, hx]
      simpa [E7, Pl.cells] using hap.2

theorem loop9b {k : List KI} {v w : V} {m : List Int} {L : List Row} (hl : m.length ≤ 4096) (hv : SlV 1 v (I1 m)) (hw : SlV 1 w (I1 m))
    (hx : ∀ fr', Gx tbl H [.tmp 4] 2 k fr' L = some (.bool true)) :
    ∀ (q i : Nat) (fr : List V), i + q = m.length → Ab.get fr 7 = v → Ab.get fr 9 = w → Ab.get fr 11 = .i (i : Nat) →
    G tbl H [.tmp 4] (.code (.loop ( (.seq ( (.seq ( .region [] [ ⟨some 90, .mv (.t 11), none⟩, ⟨some 91, .mv (.t 7), none⟩, ⟨some 92, .len (.t 91), none⟩, ⟨some 93, .bin .lss (.t 90) (.t 92), none⟩]) ( (.cond (.t 93) ( .skip) ( .exit 2))))) ( (.seq ( (.block 3 ( (.seq ( .region [] [ ⟨some 96, .mv (.t 7), none⟩, ⟨some 97, .mv (.t 11), none⟩, ⟨some 98, .elemAddr 1 (.t 96) (.t 97), none⟩, ⟨some 99, .load false 1 (.t 98), none⟩, ⟨some 100, .mv (.t 9), none⟩, ⟨some 101, .mv (.t 11), none⟩, ⟨some 102, .elemAddr 1 (.t 100) (.t 101), none⟩, ⟨some 103, .load false 1 (.t 102), none⟩, ⟨some 104, .bin .neq (.t 99) (.t 103), none⟩]) ( (.cond (.t 104) ( (.seq ( .region [] [ ⟨some 4, .mv (.c (.bool false)), none⟩]) ( .ret))) ( .skip))))))) ( .region [] [ ⟨some 94, .mv (.t 11), none⟩, ⟨some 95, .bin .add (.t 94) (.c (.int .i64 1)), none⟩, ⟨some 11, .mv (.t 95), none⟩])))))) :: k) fr L = some (.bool true) := by
  intro q
  have hlen := hv.len
  rw [I1_len] at hlen
  induction q with
  | zero =>
    intro i fr hi h7 h9 h11
    refine G_loop.trans ?_
    simp (config := { maxSteps := 10000000 }) (disch := omega) only [↓G_seq, ↓G_exit, ↓G_region, ↓G_cond, ↓Gx_code, ↓G_ops_nil, ↓G_op, Gv_some, Gc_false, dec_f, killAll, ↓get_setS, evalOp, ev, b_lss, one, Option.map_some, List.getElem?_cons_zero, List.getElem?_cons_succ, Nat.reduceEqDiff, ↓reduceIte, Nat.succ_ne_self, h7, h11, hlen, hx]
  | succ q ih =>
    intro i fr hi h7 h9 h11
    obtain ⟨x, hx'⟩ : ∃ x, m[i]? = some x := ⟨_, List.getElem?_eq_getElem (by omega)⟩
    have hE := hv.el (I1_get m i x hx')
    have hE' := hw.el (I1_get m i x hx')
    refine G_loop.trans ?_
    simp (config := { maxSteps := 10000000 }) (disch := omega) only [↓G_seq, ↓G_skip, ↓G_blk, ↓G_region, ↓G_block, ↓G_cond, ↓G_ops_nil, ↓G_op, Gv_some, Gc_true, Gc_false, dec_t, killAll, ↓get_setS, evalOp, ev, b_add, b_neq, b_lss, wrap_i64, one, Option.map_some, List.getElem?_cons_zero, List.getElem?_cons_succ, Nat.reduceEqDiff, ↓reduceIte, Nat.succ_ne_self, decide_true, Bool.not_true, Bool.false_eq_true, pick3, loadV, h7, h9, h11, hlen, hE, hE']
    refine ih (i + 1) _ (by omega) ?_ ?_ ?_
    all_goals simp (config := { maxSteps := 10000000 }) (disch := omega) only [↓get_setS, List.getElem?_cons_zero, List.getElem?_cons_succ, Nat.reduceEqDiff, ↓reduceIte, h7, h9]
    congr 1

theorem l9 {f : Int} {v : V} {l : List Pl} (hm : l.length ≤ 9223372036854775807) (hv : SlV 7 v (E7 l)) : call tbl 9 [.i f, v] H = some (.bool true) := by
  refine (call_start (show tbl 9 = some a9 from rfl)).trans ?_
  have hlen := hv.len
  rw [E7_len] at hlen
  by_cases hl : 30 < l.length
  · unfold a9
    simp (config := { maxSteps := 10000000 }) (disch := omega) only [↓G_seq, ↓G_ret, ↓G_region, ↓G_cond, ↓G_ops_nil, ↓G_op, Gv_some, ↓G_gop, Gw_ff, Gc_true, dec_t, killAll, ↓get_setS, evalOp, ev, evs, Ab.get, b_gtr, one, Option.map_some, Option.bind_some, asB, finish, resVs, resV, outVs, ownsLast, tupOf, callV, V.shifts, List.append_nil, List.all_nil, List.getElem?_cons_zero, List.getElem?_cons_succ, Nat.reduceEqDiff, ↓reduceIte, Nat.succ_ne_self, Bool.not_true, bne_self_eq_false, Bool.false_eq_true, ti_bool, ov_bool, fn_some, fz_nil, c13, hlen]
    done
  have hsh' := hv.sh
  have hfz' := hv.fz
  unfold a9
  simp (config := { maxSteps := 10000000 }) (disch := omega) only [↓G_seq, ↓G_skip, ↓G_region, ↓G_block, ↓G_cond, ↓G_ops_nil, ↓G_op, Gv_some, ↓G_gop, Gw_ff, Gc_false, dec_f, killAll, ↓get_setS, evalOp, ev, evs, Ab.get, b_gtr, one, Option.map_some, Option.bind_some, asB, callV, V.shifts, List.append_nil, List.getElem?_cons_zero, List.getElem?_cons_succ, Nat.reduceEqDiff, ↓reduceIte, Nat.succ_ne_self, Bool.not_true, bne_self_eq_false, Bool.false_eq_true, ti_bool, fz_nil, c13, hlen]
  refine loop9 (f0 := .i f) (l := l) (v := v) (by omega) hv (fun fr' L' g0 g1 hacc => ?_) l.length 0 _ _ (by omega) ?_ ?_ ?_ ?_
  · obtain ⟨L2, hz, _⟩ := Acc.fz hacc (E7_pure _)
    have hv' := svE_ok 7 (E7 l)
    have hsh := hv'.sh
    generalize hv5 : Ab.get fr' 5 = v5 at hacc hz
    clear hacc
    by_cases he : errQ f l = 0
    · have h23 := fun H => c23 (H := H) he hv'
      have h24 := fun H => (c24 (f := f) (H := H) hm hv).trans (by rw [if_pos he])
      have hw := svE_ok 1 (I1 (readR l (startR f)))
      have hwl := hw.len
      rw [I1_len, readR_len] at hwl
      have hto := fun L s vs => out_take_tup (L := L) (s := s) (sz := 1) (I1 (readR l (startR f))) vs
      have hrl := readR_len l (startR f)
      generalize svE 1 (I1 (readR l (startR f))) = w at *
      generalize svE 7 (E7 l) = u at *
      simp (config := { maxSteps := 10000000 }) (disch := omega) only [↓G_seq, ↓G_skip, ↓G_region, ↓G_block, ↓G_cond, ↓Gx_blk, ↓G_ops_nil, ↓G_op, Gv_some, ↓G_gop, Gw_ff, Gc_false, killAll, ↓get_setS, evalOp, ev, evs, b_neq, one, Option.map_some, Option.bind_some, asB, callV, V.shift, V.shifts, List.append_nil, List.map_cons, List.map_nil, List.getElem?_cons_zero, List.getElem?_cons_succ, Nat.reduceEqDiff, reduceCtorEq, ↓reduceIte, Nat.succ_ne_self, decide_true, Bool.not_true, bne_self_eq_false, Bool.false_eq_true, st_int, fz_nil, fz_cons, fz_int, g0, g1, hv5, hz, hsh, hsh', hfz', h23, h24, ↓hto, hwl]
      refine loop9b (v := w) (w := w) (m := readR l (startR f)) (by omega) hw hw (fun fr2 => ?_) (readR l (startR f)).length 0 _ (by omega) ?_ ?_ ?_
      all_goals simp (config := { maxSteps := 10000000 }) (disch := omega) only [↓G_seq, ↓G_ret, ↓G_region, ↓Gx_blk, ↓G_ops_nil, ↓G_op, Gv_some, killAll, ↓get_setS, evalOp, ev, Option.map_some, Option.bind_some, finish, resVs, resV, outVs, ownsLast, tupOf, List.all_nil, List.getElem?_cons_zero, List.getElem?_cons_succ, Nat.reduceEqDiff, ↓reduceIte, Nat.succ_ne_self, Int.cast_ofNat_Int, ov_bool, fn_some]
    · have h23 := fun H => c23_e (H := H) he hv'
      have h24 := fun H => (c24 (f := f) (H := H) hm hv).trans (by rw [if_neg he, errV])
      generalize svE 7 (E7 l) = u at *
      generalize errQ f l = e at *
      simp (config := { maxSteps := 10000000 }) (disch := omega) only [↓G_seq, ↓G_skip, ↓G_region, ↓G_block, ↓G_cond, ↓Gx_blk, ↓G_ops_nil, ↓G_op, Gv_some, ↓G_gop, Gw_ff, Gc_false, killAll, ↓get_setS, evalOp, ev, evs, b_neq, one, Option.map_some, Option.bind_some, asB, callV, V.shift, V.shifts, List.append_nil, List.map_cons, List.map_nil, List.getElem?_cons_zero, List.getElem?_cons_succ, Nat.reduceEqDiff, reduceCtorEq, ↓reduceIte, Nat.succ_ne_self, decide_true, Bool.not_true, bne_self_eq_false, Bool.false_eq_true, len_nil, ti_tup_nilsl, st_int, st_nilsl, fz_nil, fz_cons, fz_int, g0, g1, hv5, hz, hsh, hsh', hfz', h23, h24]
      refine G_loop.trans ?_
      simp (config := { maxSteps := 10000000 }) (disch := omega) only [↓G_seq, ↓G_ret, ↓G_exit, ↓G_region, ↓G_cond, ↓Gx_blk, ↓Gx_code, ↓G_ops_nil, ↓G_op, Gv_some, Gc_false, killAll, ↓get_setS, evalOp, ev, b_lss, one, Option.map_some, Option.bind_some, finish, resVs, resV, outVs, ownsLast, tupOf, List.all_nil, List.getElem?_cons_zero, List.getElem?_cons_succ, Nat.reduceEqDiff, ↓reduceIte, Nat.succ_ne_self, decide_false, Int.reduceLT, Nat.reduceLT, len_nil, ov_bool, fn_some]
  all_goals simp (config := { maxSteps := 10000000 }) (disch := omega) only [↓get_setS, Ab.get, List.getElem?_cons_zero, List.getElem?_cons_succ, Nat.reduceEqDiff, reduceCtorEq, ↓reduceIte, Nat.succ_ne_self, List.take_zero, Int.cast_ofNat_Int]
  exact Acc.nil

theorem E7_of (els : List (List V)) (h : ∀ e ∈ els, fitCs [.int .i64, .int .i64, .int .i64, .int .i64, .bool, .bool, .int .i64] e) : ∃ l, els = E7 l := by
  induction els with
  | nil => exact ⟨[], rfl⟩
  | cons e es ih =>
    obtain ⟨l, rfl⟩ := ih (fun e he => h e (by simp [he]))
    have h0 := h e (by simp)
    obtain ⟨_, _, rfl, ⟨b0, rfl, _⟩, ⟨_, _, rfl, ⟨b1, rfl, _⟩, ⟨_, _, rfl, ⟨b2, rfl, _⟩, ⟨_, _, rfl, ⟨b3, rfl, _⟩, ⟨_, _, rfl, ⟨b4, rfl⟩, ⟨_, _, rfl, ⟨b5, rfl⟩, ⟨_, _, rfl, ⟨b6, rfl, _⟩, rfl⟩⟩⟩⟩⟩⟩⟩ := h0
    exact ⟨⟨b0, b1, b2, b3, b4, b5, b6⟩ :: l, rfl⟩
theorem arg7 {v : V} (h : v = .nilsl ∨ ∃ els, v = .sl .any 7 els ∧ els.length ≤ maxLen ∧ ∀ e ∈ els, fitCs [.int .i64, .int .i64, .int .i64, .int .i64, .bool, .bool, .int .i64] e) :
    ∃ l, SlV 7 v (E7 l) ∧ l.length ≤ 9223372036854775807 := by
  rcases h with rfl | ⟨els, rfl, hlen, hels⟩
  · exact ⟨[], .nil, by simp⟩
  · obtain ⟨l, rfl⟩ := E7_of els hels
    exact ⟨l, .any, by rw [E7_len] at hlen; exact Nat.le_trans hlen (by decide)⟩

end Go.Proofs.Ythnjcaioeaepjaa

/-
  The functions of the key package and of its reference over small ranges, as tables: each case is a closed run.
-/
import Derived.Test.YtfpkelnakagdfaaS07A
namespace Go.Proofs.Ytfpkelnakagdfaa
open Go Go.Ab
set_option linter.unusedVariables false
set_option linter.unnecessarySimpa false
set_option linter.unusedSimpArgs false
set_option maxRecDepth 100000
variable {H : List (List Row)}

theorem cases15 (f : Int) (h : -7 ≤ f ∧ f ≤ 7) : f = -7 ∨ f = -6 ∨ f = -5 ∨ f = -4 ∨ f = -3 ∨ f = -2 ∨ f = -1 ∨ f = 0 ∨ f = 1 ∨ f = 2 ∨ f = 3 ∨ f = 4 ∨ f = 5 ∨ f = 6 ∨ f = 7 := by omega
theorem cases18 (f : Int) (h : -7 ≤ f ∧ f ≤ 10) : f = -7 ∨ f = -6 ∨ f = -5 ∨ f = -4 ∨ f = -3 ∨ f = -2 ∨ f = -1 ∨ f = 0 ∨ f = 1 ∨ f = 2 ∨ f = 3 ∨ f = 4 ∨ f = 5 ∨ f = 6 ∨ f = 7 ∨ f = 8 ∨ f = 9 ∨ f = 10 := by omega
theorem cases7 (f : Int) (h : 0 ≤ f ∧ f ≤ 6) : f = 0 ∨ f = 1 ∨ f = 2 ∨ f = 3 ∨ f = 4 ∨ f = 5 ∨ f = 6 := by omega

theorem c14 : call tbl 14 [] H = some (.bool true) := call_of 60 (by kernel_rfl)

theorem c15 (f : Int) : call tbl 15 [.i f] H = some (.bool (decide (-7 ≤ f) && decide (f ≤ 7))) := by
  refine (call_start (show tbl 15 = some a15 from rfl)).trans ?_
  unfold a15
  by_cases h : -7 ≤ f
  · simp (config := { maxSteps := 10000000 }) (disch := omega) only [fin2, ↓G_seq, ↓G_ret, ↓G_region, ↓G_ops_nil, ↓G_op, Gv_some, ↓G_gop, Gw_tt, dec_t, killAll, ↓get_setS, evalOp, ev, Ab.get, b_leq, b_geq, one, Option.map_some, Option.bind_some, asB, finish, resVs, resV, outVs, outV, ownsLast, tupOf, List.all_nil, Bool.true_and, List.getElem?_cons_zero, List.getElem?_cons_succ, Nat.reduceEqDiff, reduceCtorEq, ↓reduceIte, Nat.succ_ne_self, Int.reduceNeg, true_and]
  · simp (config := { maxSteps := 10000000 }) (disch := omega) only [fin2, ↓G_seq, ↓G_ret, ↓G_region, ↓G_ops_nil, ↓G_op, Gv_some, ↓G_gop, Gw_tf, dec_t, dec_f, killAll, ↓get_setS, evalOp, ev, Ab.get, b_geq, one, Option.map_some, Option.bind_some, asB, finish, resVs, resV, outVs, outV, ownsLast, tupOf, List.all_nil, Bool.and_true, List.getElem?_cons_zero, List.getElem?_cons_succ, Nat.reduceEqDiff, reduceCtorEq, ↓reduceIte, Nat.succ_ne_self, Bool.false_eq_true, Int.reduceNeg, and_true]

def tonS (g : Int) : Int := [3, 0, 4, 1, 5, 2, 6].getD ((g + 1) % 7).toNat 0
def tonA (g : Int) : Int := (g + 1) / 7
def mn (m : Bool) : Int := if m then 3 else 0

theorem c41 (g : Int) (h : -7 ≤ g ∧ g ≤ 10) : call tbl 41 [.i g] H = some (.tup [.i (tonS g), .i (tonA g)]) := by
  rcases cases18 g h with rfl | rfl | rfl | rfl | rfl | rfl | rfl | rfl | rfl | rfl | rfl | rfl | rfl | rfl | rfl | rfl | rfl | rfl
  all_goals exact call_of 20 (by kernel_rfl)

theorem c26 (f : Int) (m : Bool) (h : -7 ≤ f ∧ f ≤ 7) : call tbl 26 [.i f, .bool m] H = some (.tup [.i (tonS (f + mn m)), .i (tonA (f + mn m)), .i 0]) := by
  refine (call_start (show tbl 26 = some a26 from rfl)).trans ?_
  have hc : checkR f = 0 := by unfold checkR; rw [if_neg (by omega)]
  have hm : mn m = 0 ∨ mn m = 3 := by cases m <;> simp [mn]
  have h41 : ∀ (H : List (List Row)), call tbl 41 [.i (f + mn m)] H = some (.tup [.i (tonS (f + mn m)), .i (tonA (f + mn m))]) := fun H => c41 (f + mn m) (by omega)
  have h42 : ∀ (H : List (List Row)), call tbl 42 [.bool m] H = some (.i (mn m)) := fun H => c42 m
  unfold a26
  simp (config := { maxSteps := 10000000 }) (disch := omega) only [fin2, ↓G_seq, ↓G_skip, ↓G_ret, ↓G_region, ↓G_cond, ↓G_ops_nil, ↓G_op, Gv_some, Gc_false, killAll, ↓get_setS, evalOp, ev, evs, Ab.get, b_add, b_neq, wrap_i64, one, Option.map_some, Option.bind_some, finish, resVs, resV, outVs, outV, ownsLast, tupOf, callV, takeIn, Ab.settle, V.shift, V.shifts, List.append_nil, List.map_cons, List.map_nil, List.all_cons, List.all_nil, Bool.and_self, List.getElem?_cons_zero, List.getElem?_cons_succ, Nat.reduceEqDiff, reduceCtorEq, ↓reduceIte, Nat.succ_ne_self, decide_true, Bool.not_true, bne_self_eq_false, and_self, c22, hc, h42, h41]

theorem c26' (f : Int) (m : Bool) (h : ¬ (-7 ≤ f ∧ f ≤ 7)) : call tbl 26 [.i f, .bool m] H = some (.tup [.i 0, .i 0, .i 2]) := by
  refine (call_start (show tbl 26 = some a26 from rfl)).trans ?_
  have hc : checkR f = 2 := by unfold checkR; rw [if_pos (by omega)]
  unfold a26
  simp (config := { maxSteps := 10000000 }) (disch := omega) only [fin2, ↓G_seq, ↓G_ret, ↓G_region, ↓G_cond, ↓G_ops_nil, ↓G_op, Gv_some, Gc_true, killAll, ↓get_setS, evalOp, ev, evs, Ab.get, b_neq, one, Option.map_some, Option.bind_some, finish, resVs, resV, outVs, outV, ownsLast, tupOf, callV, takeIn, V.shift, V.shifts, List.append_nil, List.all_cons, List.all_nil, Bool.and_self, List.getElem?_cons_zero, List.getElem?_cons_succ, Nat.reduceEqDiff, reduceCtorEq, ↓reduceIte, Nat.succ_ne_self, decide_false, Bool.not_false, bne_self_eq_false, Int.reduceEq, and_self, c22, hc]

theorem c29_m7_false : call tbl 29 [.i (-7), .bool false] H = some (.tup [.i (tonS ((-7) + mn false)), .i (tonA ((-7) + mn false))]) := call_of 60 (by kernel_rfl)
theorem c29_m7_true : call tbl 29 [.i (-7), .bool true] H = some (.tup [.i (tonS ((-7) + mn true)), .i (tonA ((-7) + mn true))]) := call_of 60 (by kernel_rfl)
theorem c29_m6_false : call tbl 29 [.i (-6), .bool false] H = some (.tup [.i (tonS ((-6) + mn false)), .i (tonA ((-6) + mn false))]) := call_of 60 (by kernel_rfl)
theorem c29_m6_true : call tbl 29 [.i (-6), .bool true] H = some (.tup [.i (tonS ((-6) + mn true)), .i (tonA ((-6) + mn true))]) := call_of 60 (by kernel_rfl)
theorem c29_m5_false : call tbl 29 [.i (-5), .bool false] H = some (.tup [.i (tonS ((-5) + mn false)), .i (tonA ((-5) + mn false))]) := call_of 60 (by kernel_rfl)
theorem c29_m5_true : call tbl 29 [.i (-5), .bool true] H = some (.tup [.i (tonS ((-5) + mn true)), .i (tonA ((-5) + mn true))]) := call_of 60 (by kernel_rfl)
theorem c29_m4_false : call tbl 29 [.i (-4), .bool false] H = some (.tup [.i (tonS ((-4) + mn false)), .i (tonA ((-4) + mn false))]) := call_of 60 (by kernel_rfl)
theorem c29_m4_true : call tbl 29 [.i (-4), .bool true] H = some (.tup [.i (tonS ((-4) + mn true)), .i (tonA ((-4) + mn true))]) := call_of 60 (by kernel_rfl)
theorem c29_m3_false : call tbl 29 [.i (-3), .bool false] H = some (.tup [.i (tonS ((-3) + mn false)), .i (tonA ((-3) + mn false))]) := call_of 60 (by kernel_rfl)
theorem c29_m3_true : call tbl 29 [.i (-3), .bool true] H = some (.tup [.i (tonS ((-3) + mn true)), .i (tonA ((-3) + mn true))]) := call_of 60 (by kernel_rfl)
theorem c29_m2_false : call tbl 29 [.i (-2), .bool false] H = some (.tup [.i (tonS ((-2) + mn false)), .i (tonA ((-2) + mn false))]) := call_of 60 (by kernel_rfl)
theorem c29_m2_true : call tbl 29 [.i (-2), .bool true] H = some (.tup [.i (tonS ((-2) + mn true)), .i (tonA ((-2) + mn true))]) := call_of 60 (by kernel_rfl)
theorem c29_m1_false : call tbl 29 [.i (-1), .bool false] H = some (.tup [.i (tonS ((-1) + mn false)), .i (tonA ((-1) + mn false))]) := call_of 60 (by kernel_rfl)
theorem c29_m1_true : call tbl 29 [.i (-1), .bool true] H = some (.tup [.i (tonS ((-1) + mn true)), .i (tonA ((-1) + mn true))]) := call_of 60 (by kernel_rfl)
theorem c29_p0_false : call tbl 29 [.i (0), .bool false] H = some (.tup [.i (tonS ((0) + mn false)), .i (tonA ((0) + mn false))]) := call_of 60 (by kernel_rfl)
theorem c29_p0_true : call tbl 29 [.i (0), .bool true] H = some (.tup [.i (tonS ((0) + mn true)), .i (tonA ((0) + mn true))]) := call_of 60 (by kernel_rfl)
theorem c29_p1_false : call tbl 29 [.i (1), .bool false] H = some (.tup [.i (tonS ((1) + mn false)), .i (tonA ((1) + mn false))]) := call_of 60 (by kernel_rfl)
theorem c29_p1_true : call tbl 29 [.i (1), .bool true] H = some (.tup [.i (tonS ((1) + mn true)), .i (tonA ((1) + mn true))]) := call_of 60 (by kernel_rfl)
theorem c29_p2_false : call tbl 29 [.i (2), .bool false] H = some (.tup [.i (tonS ((2) + mn false)), .i (tonA ((2) + mn false))]) := call_of 60 (by kernel_rfl)
theorem c29_p2_true : call tbl 29 [.i (2), .bool true] H = some (.tup [.i (tonS ((2) + mn true)), .i (tonA ((2) + mn true))]) := call_of 60 (by kernel_rfl)
theorem c29_p3_false : call tbl 29 [.i (3), .bool false] H = some (.tup [.i (tonS ((3) + mn false)), .i (tonA ((3) + mn false))]) := call_of 60 (by kernel_rfl)
theorem c29_p3_true : call tbl 29 [.i (3), .bool true] H = some (.tup [.i (tonS ((3) + mn true)), .i (tonA ((3) + mn true))]) := call_of 60 (by kernel_rfl)
theorem c29_p4_false : call tbl 29 [.i (4), .bool false] H = some (.tup [.i (tonS ((4) + mn false)), .i (tonA ((4) + mn false))]) := call_of 60 (by kernel_rfl)
theorem c29_p4_true : call tbl 29 [.i (4), .bool true] H = some (.tup [.i (tonS ((4) + mn true)), .i (tonA ((4) + mn true))]) := call_of 60 (by kernel_rfl)
theorem c29_p5_false : call tbl 29 [.i (5), .bool false] H = some (.tup [.i (tonS ((5) + mn false)), .i (tonA ((5) + mn false))]) := call_of 60 (by kernel_rfl)
theorem c29_p5_true : call tbl 29 [.i (5), .bool true] H = some (.tup [.i (tonS ((5) + mn true)), .i (tonA ((5) + mn true))]) := call_of 60 (by kernel_rfl)
theorem c29_p6_false : call tbl 29 [.i (6), .bool false] H = some (.tup [.i (tonS ((6) + mn false)), .i (tonA ((6) + mn false))]) := call_of 60 (by kernel_rfl)
theorem c29_p6_true : call tbl 29 [.i (6), .bool true] H = some (.tup [.i (tonS ((6) + mn true)), .i (tonA ((6) + mn true))]) := call_of 60 (by kernel_rfl)
theorem c29_p7_false : call tbl 29 [.i (7), .bool false] H = some (.tup [.i (tonS ((7) + mn false)), .i (tonA ((7) + mn false))]) := call_of 60 (by kernel_rfl)
theorem c29_p7_true : call tbl 29 [.i (7), .bool true] H = some (.tup [.i (tonS ((7) + mn true)), .i (tonA ((7) + mn true))]) := call_of 60 (by kernel_rfl)
theorem c29 (f : Int) (m : Bool) (h : -7 ≤ f ∧ f ≤ 7) : call tbl 29 [.i f, .bool m] H = some (.tup [.i (tonS (f + mn m)), .i (tonA (f + mn m))]) := by
  rcases cases15 f h with rfl | rfl | rfl | rfl | rfl | rfl | rfl | rfl | rfl | rfl | rfl | rfl | rfl | rfl | rfl
  all_goals cases m
  · exact c29_m7_false
  · exact c29_m7_true
  · exact c29_m6_false
  · exact c29_m6_true
  · exact c29_m5_false
  · exact c29_m5_true
  · exact c29_m4_false
  · exact c29_m4_true
  · exact c29_m3_false
  · exact c29_m3_true
  · exact c29_m2_false
  · exact c29_m2_true
  · exact c29_m1_false
  · exact c29_m1_true
  · exact c29_p0_false
  · exact c29_p0_true
  · exact c29_p1_false
  · exact c29_p1_true
  · exact c29_p2_false
  · exact c29_p2_true
  · exact c29_p3_false
  · exact c29_p3_true
  · exact c29_p4_false
  · exact c29_p4_true
  · exact c29_p5_false
  · exact c29_p5_true
  · exact c29_p6_false
  · exact c29_p6_true
  · exact c29_p7_false
  · exact c29_p7_true
theorem c25_m7 (s : Int) (k : 0 ≤ s ∧ s ≤ 6) : call tbl 25 [.i (-7), .i s] H = some (.i (alterR (-7) s)) := by
  rcases cases7 s k with rfl | rfl | rfl | rfl | rfl | rfl | rfl
  all_goals exact call_of 60 (by kernel_rfl)
theorem c25_m6 (s : Int) (k : 0 ≤ s ∧ s ≤ 6) : call tbl 25 [.i (-6), .i s] H = some (.i (alterR (-6) s)) := by
  rcases cases7 s k with rfl | rfl | rfl | rfl | rfl | rfl | rfl
  all_goals exact call_of 60 (by kernel_rfl)
theorem c25_m5 (s : Int) (k : 0 ≤ s ∧ s ≤ 6) : call tbl 25 [.i (-5), .i s] H = some (.i (alterR (-5) s)) := by
  rcases cases7 s k with rfl | rfl | rfl | rfl | rfl | rfl | rfl
  all_goals exact call_of 60 (by kernel_rfl)
theorem c25_m4 (s : Int) (k : 0 ≤ s ∧ s ≤ 6) : call tbl 25 [.i (-4), .i s] H = some (.i (alterR (-4) s)) := by
  rcases cases7 s k with rfl | rfl | rfl | rfl | rfl | rfl | rfl
  all_goals exact call_of 60 (by kernel_rfl)
theorem c25_m3 (s : Int) (k : 0 ≤ s ∧ s ≤ 6) : call tbl 25 [.i (-3), .i s] H = some (.i (alterR (-3) s)) := by
  rcases cases7 s k with rfl | rfl | rfl | rfl | rfl | rfl | rfl
  all_goals exact call_of 60 (by kernel_rfl)
theorem c25_m2 (s : Int) (k : 0 ≤ s ∧ s ≤ 6) : call tbl 25 [.i (-2), .i s] H = some (.i (alterR (-2) s)) := by
  rcases cases7 s k with rfl | rfl | rfl | rfl | rfl | rfl | rfl
  all_goals exact call_of 60 (by kernel_rfl)
theorem c25_m1 (s : Int) (k : 0 ≤ s ∧ s ≤ 6) : call tbl 25 [.i (-1), .i s] H = some (.i (alterR (-1) s)) := by
  rcases cases7 s k with rfl | rfl | rfl | rfl | rfl | rfl | rfl
  all_goals exact call_of 60 (by kernel_rfl)
theorem c25_p0 (s : Int) (k : 0 ≤ s ∧ s ≤ 6) : call tbl 25 [.i (0), .i s] H = some (.i (alterR (0) s)) := by
  rcases cases7 s k with rfl | rfl | rfl | rfl | rfl | rfl | rfl
  all_goals exact call_of 60 (by kernel_rfl)
theorem c25_p1 (s : Int) (k : 0 ≤ s ∧ s ≤ 6) : call tbl 25 [.i (1), .i s] H = some (.i (alterR (1) s)) := by
  rcases cases7 s k with rfl | rfl | rfl | rfl | rfl | rfl | rfl
  all_goals exact call_of 60 (by kernel_rfl)
theorem c25_p2 (s : Int) (k : 0 ≤ s ∧ s ≤ 6) : call tbl 25 [.i (2), .i s] H = some (.i (alterR (2) s)) := by
  rcases cases7 s k with rfl | rfl | rfl | rfl | rfl | rfl | rfl
  all_goals exact call_of 60 (by kernel_rfl)
theorem c25_p3 (s : Int) (k : 0 ≤ s ∧ s ≤ 6) : call tbl 25 [.i (3), .i s] H = some (.i (alterR (3) s)) := by
  rcases cases7 s k with rfl | rfl | rfl | rfl | rfl | rfl | rfl
  all_goals exact call_of 60 (by kernel_rfl)
theorem c25_p4 (s : Int) (k : 0 ≤ s ∧ s ≤ 6) : call tbl 25 [.i (4), .i s] H = some (.i (alterR (4) s)) := by
  rcases cases7 s k with rfl | rfl | rfl | rfl | rfl | rfl | rfl
  all_goals exact call_of 60 (by kernel_rfl)
theorem c25_p5 (s : Int) (k : 0 ≤ s ∧ s ≤ 6) : call tbl 25 [.i (5), .i s] H = some (.i (alterR (5) s)) := by
  rcases cases7 s k with rfl | rfl | rfl | rfl | rfl | rfl | rfl
  all_goals exact call_of 60 (by kernel_rfl)
theorem c25_p6 (s : Int) (k : 0 ≤ s ∧ s ≤ 6) : call tbl 25 [.i (6), .i s] H = some (.i (alterR (6) s)) := by
  rcases cases7 s k with rfl | rfl | rfl | rfl | rfl | rfl | rfl
  all_goals exact call_of 60 (by kernel_rfl)
theorem c25_p7 (s : Int) (k : 0 ≤ s ∧ s ≤ 6) : call tbl 25 [.i (7), .i s] H = some (.i (alterR (7) s)) := by
  rcases cases7 s k with rfl | rfl | rfl | rfl | rfl | rfl | rfl
  all_goals exact call_of 60 (by kernel_rfl)
theorem c25 (f s : Int) (h : -7 ≤ f ∧ f ≤ 7) (k : 0 ≤ s ∧ s ≤ 6) : call tbl 25 [.i f, .i s] H = some (.i (alterR f s)) := by
  rcases cases15 f h with rfl | rfl | rfl | rfl | rfl | rfl | rfl | rfl | rfl | rfl | rfl | rfl | rfl | rfl | rfl
  · exact c25_m7 s k
  · exact c25_m6 s k
  · exact c25_m5 s k
  · exact c25_m4 s k
  · exact c25_m3 s k
  · exact c25_m2 s k
  · exact c25_m1 s k
  · exact c25_p0 s k
  · exact c25_p1 s k
  · exact c25_p2 s k
  · exact c25_p3 s k
  · exact c25_p4 s k
  · exact c25_p5 s k
  · exact c25_p6 s k
  · exact c25_p7 s k

end Go.Proofs.Ytfpkelnakagdfaa

/-
  Line breaks: what Break returns.
-/
import Derived.Test.YtdgifbmimfnmlaaS32E
namespace Go.Proofs.Ytdgifbmimfnmlaa
open Go Go.Ab
set_option linter.unusedVariables false
set_option linter.unnecessarySimpa false
set_option linter.unusedSimpArgs false
set_option maxRecDepth 100000
variable {H : List (List Row)}
open Path (Ch)

/-- The table, as the program keeps it. -/
def T3 (F : Nat → Ch) (n : Nat) : List (List V) := (List.range (n + 1)).map fun j => [.i (F j).c, .i ((F j).p : Nat), .i ((if j = n then n else (F j).x : Nat) : Int)]
theorem T3_get {F : Nat → Ch} {n j : Nat} (h : j ≤ n) : (T3 F n)[j]? = some [.i (F j).c, .i ((F j).p : Nat), .i ((if j = n then n else (F j).x : Nat) : Int)] := by
  unfold T3
  rw [List.getElem?_map, List.getElem?_range (by omega)]
  rfl
theorem T3_lt {F : Nat → Ch} {n j : Nat} (h : j < n) : (T3 F n)[j]? = some [.i (F j).c, .i ((F j).p : Nat), .i ((F j).x : Nat)] := by
  rw [T3_get (Nat.le_of_lt h), if_neg (by omega)]
theorem T3_len {F : Nat → Ch} {n : Nat} : (T3 F n).length = n + 1 := by simp [T3]
theorem T3_set {F : Nat → Ch} {n i : Nat} {o : Ch} (hi : i < n) : (T3 F n).set i [.i o.c, .i (o.p : Nat), .i (o.x : Nat)] = T3 (upd F i o) n := by
  apply List.ext_getElem?
  intro j
  rw [List.getElem?_set, T3_len]
  by_cases h : i = j
  · subst h
    rw [if_pos rfl, if_pos (by omega), T3_lt hi]
    simp [upd]
  · rw [if_neg h]
    by_cases hj : j ≤ n
    · rw [T3_get hj, T3_get hj]
      simp [upd, show ¬ j = i from fun e => h e.symm]
    · rw [List.getElem?_eq_none (by rw [T3_len]; omega), List.getElem?_eq_none (by rw [T3_len]; omega)]
theorem T3_0 {n : Nat} : (List.replicate (n + 1) [V.int .i64 0, .int .i64 0, .int .i64 0]).set n [V.int .i64 0, .int .i64 0, .i (n : Nat)] = T3 (fun _ => ⟨0, 0, 0⟩) n := by
  apply List.ext_getElem?
  intro j
  rw [List.getElem?_set, List.length_replicate]
  by_cases h : n = j
  · subst h
    rw [if_pos rfl, if_pos (by omega), T3_get (Nat.le_refl _), if_pos rfl]
    rfl
  · rw [if_neg h]
    by_cases hj : j ≤ n
    · rw [T3_lt (by omega), List.getElem?_replicate, if_pos (by omega)]
      rfl
    · rw [List.getElem?_eq_none (by simp; omega), List.getElem?_eq_none (by rw [T3_len]; omega)]
theorem upd_upd {F : Nat → Ch} {i : Nat} {o o' : Ch} : upd (upd F i o) i o' = upd F i o' := by
  funext j
  unfold upd
  split <;> rfl

def bt (a b c x y z : Int) : Bool := if a = x then (if b = y then decide (c < z) else decide (b < y)) else decide (a < x)
theorem c31 (a b c x y z : Int) : call tbl 31 [.agg [.i a, .i b, .i c], .agg [.i x, .i y, .i z]] H = some (.bool (bt a b c x y z)) := by
  refine (call_start (show tbl 31 = some a31 from rfl)).trans ?_
  unfold bt
  have c1 : a < x ∨ x < a ∨ a = x := by omega
  rcases c1 with c1 | c1 | c1
  · rw [if_neg (by omega), decide_eq_true c1]
    unfold a31
    simp (config := { maxSteps := 10000000 }) (disch := omega) only [↓G_seq, ↓G_ret, ↓G_region, ↓G_block, ↓G_cond, ↓G_ops_nil, ↓G_op, Gv_some, Gc_true, dec_t, dec_f, killAll, ↓get_setS, evalOp, ev, Ab.get, b_neq, b_lss, one, Option.map_some, Option.bind_some, finish, resVs, resV, outVs, ownsLast, tupOf, V.shift, List.all_cons, List.all_nil, Bool.and_self, List.getElem?_cons_zero, List.getElem?_cons_succ, Nat.reduceEqDiff, ↓reduceIte, Nat.succ_ne_self, Bool.not_false, Bool.false_eq_true, Int.reduceAdd, pick3, V.cells, addOff, loadV, Ab.rowAt, rget, rset, V.scalar, Nat.reduceAdd, and_self, List.length_cons, List.length_nil, List.getD_cons_zero, Nat.zero_add, Nat.add_zero, ov_bool, fn_some, Nat.zero_lt_succ]
  · rw [if_neg (by omega), decide_eq_false (by omega)]
    unfold a31
    simp (config := { maxSteps := 10000000 }) (disch := omega) only [↓G_seq, ↓G_ret, ↓G_region, ↓G_block, ↓G_cond, ↓G_ops_nil, ↓G_op, Gv_some, Gc_true, dec_f, killAll, ↓get_setS, evalOp, ev, Ab.get, b_neq, b_lss, one, Option.map_some, Option.bind_some, finish, resVs, resV, outVs, ownsLast, tupOf, V.shift, List.all_cons, List.all_nil, Bool.and_self, List.getElem?_cons_zero, List.getElem?_cons_succ, Nat.reduceEqDiff, ↓reduceIte, Nat.succ_ne_self, Bool.not_false, Bool.false_eq_true, Int.reduceAdd, pick3, V.cells, addOff, loadV, Ab.rowAt, rget, rset, V.scalar, Nat.reduceAdd, and_self, List.length_cons, List.length_nil, List.getD_cons_zero, Nat.zero_add, Nat.add_zero, ov_bool, fn_some, Nat.zero_lt_succ]
  · rw [if_pos c1]
    have c2 : b < y ∨ y < b ∨ b = y := by omega
    rcases c2 with c2 | c2 | c2
    · rw [if_neg (by omega), decide_eq_true c2]
      unfold a31
      simp (config := { maxSteps := 10000000 }) (disch := omega) only [↓G_seq, ↓G_ret, ↓G_region, ↓G_block, ↓G_cond, ↓G_ops_nil, ↓G_op, Gv_some, Gc_true, Gc_false, dec_t, dec_f, killAll, ↓get_setS, evalOp, ev, Ab.get, b_neq, b_lss, one, Option.map_some, Option.bind_some, finish, resVs, resV, outVs, ownsLast, tupOf, V.shift, List.all_cons, List.all_nil, Bool.and_self, List.getElem?_cons_zero, List.getElem?_cons_succ, Nat.reduceEqDiff, ↓reduceIte, Nat.succ_ne_self, Bool.not_true, Bool.not_false, Bool.false_eq_true, Int.reduceAdd, pick3, V.cells, addOff, loadV, Ab.rowAt, rget, rset, V.scalar, Nat.reduceAdd, and_self, List.length_cons, List.length_nil, List.getD_cons_zero, Nat.zero_add, Nat.add_zero, ov_bool, fn_some, Nat.zero_lt_succ]
    · rw [if_neg (by omega), decide_eq_false (by omega)]
      unfold a31
      simp (config := { maxSteps := 10000000 }) (disch := omega) only [↓G_seq, ↓G_ret, ↓G_region, ↓G_block, ↓G_cond, ↓G_ops_nil, ↓G_op, Gv_some, Gc_true, Gc_false, dec_t, dec_f, killAll, ↓get_setS, evalOp, ev, Ab.get, b_neq, b_lss, one, Option.map_some, Option.bind_some, finish, resVs, resV, outVs, ownsLast, tupOf, V.shift, List.all_cons, List.all_nil, Bool.and_self, List.getElem?_cons_zero, List.getElem?_cons_succ, Nat.reduceEqDiff, ↓reduceIte, Nat.succ_ne_self, Bool.not_true, Bool.not_false, Bool.false_eq_true, Int.reduceAdd, pick3, V.cells, addOff, loadV, Ab.rowAt, rget, rset, V.scalar, Nat.reduceAdd, and_self, List.length_cons, List.length_nil, List.getD_cons_zero, Nat.zero_add, Nat.add_zero, ov_bool, fn_some, Nat.zero_lt_succ]
    · rw [if_pos c2]
      by_cases c3 : c < z
      · rw [decide_eq_true c3]
        unfold a31
        simp (config := { maxSteps := 10000000 }) (disch := omega) only [↓G_seq, ↓G_skip, ↓G_ret, ↓G_blk, ↓G_region, ↓G_block, ↓G_cond, ↓G_ops_nil, ↓G_op, Gv_some, Gc_false, dec_t, killAll, ↓get_setS, evalOp, ev, Ab.get, b_neq, b_lss, one, Option.map_some, Option.bind_some, finish, resVs, resV, outVs, ownsLast, tupOf, V.shift, List.all_cons, List.all_nil, Bool.and_self, List.getElem?_cons_zero, List.getElem?_cons_succ, Nat.reduceEqDiff, ↓reduceIte, Nat.succ_ne_self, Bool.not_true, Bool.false_eq_true, Int.reduceAdd, pick3, V.cells, addOff, loadV, Ab.rowAt, rget, rset, V.scalar, Nat.reduceAdd, and_self, List.length_cons, List.length_nil, List.getD_cons_zero, Nat.zero_add, Nat.add_zero, ov_bool, fn_some, Nat.zero_lt_succ]
      · rw [decide_eq_false c3]
        unfold a31
        simp (config := { maxSteps := 10000000 }) (disch := omega) only [↓G_seq, ↓G_skip, ↓G_ret, ↓G_blk, ↓G_region, ↓G_block, ↓G_cond, ↓G_ops_nil, ↓G_op, Gv_some, Gc_false, dec_t, dec_f, killAll, ↓get_setS, evalOp, ev, Ab.get, b_neq, b_lss, one, Option.map_some, Option.bind_some, finish, resVs, resV, outVs, ownsLast, tupOf, V.shift, List.all_cons, List.all_nil, Bool.and_self, List.getElem?_cons_zero, List.getElem?_cons_succ, Nat.reduceEqDiff, ↓reduceIte, Nat.succ_ne_self, Bool.not_true, Bool.false_eq_true, Int.reduceAdd, pick3, V.cells, addOff, loadV, Ab.rowAt, rget, rset, V.scalar, Nat.reduceAdd, and_self, List.length_cons, List.length_nil, List.getD_cons_zero, Nat.zero_add, Nat.add_zero, ov_bool, fn_some, Nat.zero_lt_succ]


set_option maxHeartbeats 8000000 in
theorem loop18b {k : List KI} {v : V} {l : List Me} {w d : Int} {F : Nat → Ch} {ver i : Nat} {R : Ch} {r : Option V} (he : errL l = 0) (hv : SlV 5 v (E5 l)) (hF : inT F l.length) (hi : i < l.length) (hver : 0 < ver)
    (hx : ∀ fr' L', Ab.get fr' 0 = v → Ab.get fr' 1 = .i w → Ab.get fr' 2 = .i d → Ab.get fr' 9 = .i (l.length : Nat) → Ab.get fr' 10 = .ref 0 1 ver 3 0 (l.length + 1) → Ab.get fr' 11 = .i (i : Nat) → rget L' 1 = ⟨ver, 3, T3 (upd F i R) l.length⟩ → Gx tbl H [.tmp 6, .tmp 7] 2 k fr' L' = r) :
    ∀ (m j : Nat) (o : Ch) (fr : List V) (L : List Row), j + m = l.length + 1 → i < j → R = scan l w d F i m j o → inE l.length i o → o.x < j →
      Ab.get fr 0 = v → Ab.get fr 1 = .i w → Ab.get fr 2 = .i d → Ab.get fr 9 = .i (l.length : Nat) → Ab.get fr 10 = .ref 0 1 ver 3 0 (l.length + 1) → Ab.get fr 11 = .i (i : Nat) → Ab.get fr 12 = .i (room w d i) → Ab.get fr 13 = .i ((j : Nat) - 1 : Int) → rget L 1 = ⟨ver, 3, T3 (upd F i o) l.length⟩ →
      G tbl H [.tmp 6, .tmp 7] (.code (.loop ( (.seq ( (.seq ( .region [] [ ⟨some 55, .mv (.t 13), none⟩, ⟨some 56, .mv (.t 9), none⟩, ⟨some 57, .bin .lss (.t 55) (.t 56), none⟩]) ( (.cond (.t 57) ( .skip) ( .exit 2))))) ( (.seq ( (.block 3 ( (.seq ( (.seq ( .region [] [ ⟨some 61, .mv (.t 0), none⟩, ⟨some 62, .mv (.t 11), none⟩, ⟨some 63, .mv (.t 13), none⟩, ⟨some 64, .call 0 (.c (.fn 30 [])) [(.t 61), (.t 62), (.t 63)], none⟩, ⟨some 60, .mv (.t 64), none⟩, ⟨some 65, .ext (.t 60) 0, none⟩, ⟨some 66, .ext (.t 60) 1, none⟩, ⟨some 14, .mv (.t 65), none⟩, ⟨some 15, .mv (.t 66), none⟩]) ( (.seq ( .region [] [ ⟨some 67, .mv (.t 14), none⟩, ⟨some 68, .mv (.t 12), none⟩, ⟨some 69, .bin .gtr (.t 67) (.t 68), none⟩]) ( (.cond (.t 69) ( .exit 2) ( .skip))))))) ( (.seq ( .region [2] [ ⟨some 70, .mv (.t 0), none⟩, ⟨some 71, .mv (.t 11), none⟩, ⟨some 72, .mv (.t 13), none⟩, ⟨some 73, .mv (.t 12), none⟩, ⟨some 74, .call 0 (.c (.fn 28 [])) [(.t 70), (.t 71), (.t 72), (.t 73)], none⟩, ⟨some 75, .mv (.t 10), none⟩, ⟨some 76, .mv (.t 13), none⟩, ⟨some 77, .bin .add (.t 76) (.c (.int .i64 1)), none⟩, ⟨some 78, .elemAddr 3 (.t 75) (.t 77), none⟩, ⟨some 79, .load true 3 (.t 78), none⟩, ⟨some 17, .alloc 2 [(.int .i64 0), (.int .i64 0), (.int .i64 0)], none⟩, ⟨some 16, .mv (.t 74), none⟩, ⟨none, .store 3 (.t 17) (.t 79), none⟩]) ( (.seq ( (.seq ( .region [] [ ⟨some 80, .mv (.t 16), none⟩, ⟨some 81, .bin .geq (.t 80) (.c (.int .i64 1125899906842624)), none⟩, ⟨some 82, .mv (.t 81), none⟩, ⟨some 83, .fieldAddr 0 (.t 17), some (82, false)⟩, ⟨some 84, .load false 1 (.t 83), some (82, false)⟩, ⟨some 85, .bin .geq (.t 84) (.c (.int .i64 1125899906842624)), some (82, false)⟩, ⟨some 86, .pick (.t 82) (.c (.bool true)) (.t 85), none⟩]) ( (.cond (.t 86) ( .exit 3) ( .skip))))) ( (.seq ( .region [] [ ⟨some 87, .mv (.t 16), none⟩, ⟨some 88, .fieldAddr 0 (.t 17), none⟩, ⟨some 89, .load false 1 (.t 88), none⟩, ⟨some 90, .bin .add (.t 87) (.t 89), none⟩, ⟨some 91, .fieldAddr 1 (.t 17), none⟩, ⟨some 92, .load false 1 (.t 91), none⟩, ⟨some 93, .bin .add (.t 92) (.c (.int .i64 1)), none⟩, ⟨some 94, .mv (.t 13), none⟩, ⟨some 95, .bin .add (.t 94) (.c (.int .i64 1)), none⟩, ⟨some 96, .build [(.int .i64 0), (.int .i64 0), (.int .i64 0)] [(0, 1, (.t 90)), (1, 1, (.t 93)), (2, 1, (.t 95))], none⟩, ⟨some 18, .alloc 3 [(.int .i64 0), (.int .i64 0), (.int .i64 0)], none⟩, ⟨none, .store 3 (.t 18) (.t 96), none⟩]) ( (.seq ( .region [] [ ⟨some 97, .mv (.t 10), none⟩, ⟨some 98, .mv (.t 11), none⟩, ⟨some 99, .elemAddr 3 (.t 97) (.t 98), none⟩, ⟨some 100, .fieldAddr 0 (.t 99), none⟩, ⟨some 101, .load false 1 (.t 100), none⟩, ⟨some 102, .bin .geq (.t 101) (.c (.int .i64 1125899906842624)), none⟩, ⟨some 103, .mv (.t 102), none⟩, ⟨some 104, .load true 3 (.t 18), some (103, false)⟩, ⟨some 105, .mv (.t 10), some (103, false)⟩, ⟨some 106, .mv (.t 11), some (103, false)⟩, ⟨some 107, .elemAddr 3 (.t 105) (.t 106), some (103, false)⟩, ⟨some 108, .load true 3 (.t 107), some (103, false)⟩, ⟨some 109, .call 0 (.c (.fn 31 [])) [(.t 104), (.t 108)], some (103, false)⟩, ⟨some 110, .pick (.t 103) (.c (.bool true)) (.t 109), none⟩]) ( (.cond (.t 110) ( .region [] [ ⟨some 111, .mv (.t 10), none⟩, ⟨some 112, .mv (.t 11), none⟩, ⟨some 113, .load true 3 (.t 18), none⟩, ⟨some 114, .elemAddr 3 (.t 111) (.t 112), none⟩, ⟨none, .store 3 (.t 114) (.t 113), none⟩]) ( .skip))))))))))))))) ( .region [] [ ⟨some 58, .mv (.t 13), none⟩, ⟨some 59, .bin .add (.t 58) (.c (.int .i64 1)), none⟩, ⟨some 13, .mv (.t 59), none⟩])))))) :: k) fr L = r := by
  intro m
  obtain ⟨hl0, hl1, _⟩ := errL_ok he
  induction m with
  | zero =>
    intro j o fr L hj hij hR ho hox h0 h1 h2 h9 h10 h11 h12 h13 r1
    unfold scan at hR
    subst hR
    refine G_loop.trans ?_
    simp (config := { maxSteps := 10000000 }) (disch := omega) only [↓G_seq, ↓G_exit, ↓G_region, ↓G_cond, ↓Gx_code, ↓G_ops_nil, ↓G_op, Gv_some, Gc_false, dec_f, killAll, ↓get_setS, evalOp, ev, b_lss, one, Option.map_some, List.getElem?_cons_zero, List.getElem?_cons_succ, Nat.reduceEqDiff, ↓reduceIte, Nat.succ_ne_self, h9, h13]
    refine hx _ _ ?_ ?_ ?_ ?_ ?_ ?_ r1
    all_goals simp (config := { maxSteps := 10000000 }) (disch := omega) only [↓get_setS, List.getElem?_cons_zero, List.getElem?_cons_succ, Nat.reduceEqDiff, reduceCtorEq, ↓reduceIte, h0, h1, h2, h9, h10, h11]
  | succ m ih =>
    intro j o fr L hj hij hR ho hox h0 h1 h2 h9 h10 h11 h12 h13 r1
    have h30 := fun H => c30 (H := H) he hij (show j ≤ l.length by omega) hv
    have h28 := fun H => c28 (H := H) (w := room w d i) he hij (show j ≤ l.length by omega) hv
    have hsh := hv.sh
    have hTi := T3_lt (F := upd F i o) hi
    have hTj := T3_get (F := upd F i o) (show j ≤ l.length by omega)
    rw [show upd F i o i = o by simp [upd]] at hTi
    rw [show upd F i o j = F j by unfold upd; rw [if_neg (by omega)]] at hTj
    generalize (if j = l.length then l.length else (F j).x) = jx at hTj
    have hset := fun o' : Ch => T3_set (F := upd F i o) (o := o') hi
    simp only [upd_upd] at hset
    have hjj : ((j : Nat) : Int) - 1 + 1 = (j : Nat) := by omega
    have hjn : (j : Int) < ((l.length + 1 : Nat) : Int) := by omega
    have hin : (i : Int) < ((l.length + 1 : Nat) : Int) := by omega
    have hcb := cst_in l (room w d i) i j
    have hFj := hF j (by omega)
    have hinf' := hinf
    by_cases hst : room w d i < mn l i j
    · unfold scan at hR
      rw [if_pos hst] at hR
      subst hR
      clear ih hF hv hcb hFj hset
      generalize room w d i = rm at *
      generalize mn l i j = mm at *
      refine G_loop.trans ?_
      simp (config := { maxSteps := 10000000 }) (disch := omega) only [↓G_seq, ↓G_skip, ↓G_exit, ↓G_region, ↓G_block, ↓G_cond, ↓Gx_blk, ↓Gx_code, ↓G_ops_nil, ↓G_op, Gv_some, Gc_true, dec_t, killAll, ↓get_setS, evalOp, ev, evs, b_lss, b_gtr, one, Option.map_some, callV, V.shift, V.shifts, List.append_nil, List.map_cons, List.map_nil, List.getElem?_cons_zero, List.getElem?_cons_succ, Nat.reduceEqDiff, reduceCtorEq, ↓reduceIte, Nat.succ_ne_self, bne_self_eq_false, ti_tup_int, st_int, h0, h9, h11, h12, h13, hsh, h30]
      refine hx _ _ ?_ ?_ ?_ ?_ ?_ ?_ r1
      all_goals simp (config := { maxSteps := 10000000 }) (disch := omega) only [↓get_setS, List.getElem?_cons_zero, List.getElem?_cons_succ, Nat.reduceEqDiff, reduceCtorEq, ↓reduceIte, h0, h1, h2, h9, h10, h11]
    have next : ∀ o' fr' L', o' = stepC (cnd l w d F i j) (F j).p j o → Ab.get fr' 0 = v → Ab.get fr' 1 = .i w → Ab.get fr' 2 = .i d → Ab.get fr' 9 = .i (l.length : Nat) → Ab.get fr' 10 = .ref 0 1 ver 3 0 (l.length + 1) → Ab.get fr' 11 = .i (i : Nat) → Ab.get fr' 12 = .i (room w d i) → Ab.get fr' 13 = .i ((j : Nat) : Int) → rget L' 1 = ⟨ver, 3, T3 (upd F i o') l.length⟩ →
        G tbl H [.tmp 6, .tmp 7] (.code (.loop ( (.seq ( (.seq ( .region [] [ ⟨some 55, .mv (.t 13), none⟩, ⟨some 56, .mv (.t 9), none⟩, ⟨some 57, .bin .lss (.t 55) (.t 56), none⟩]) ( (.cond (.t 57) ( .skip) ( .exit 2))))) ( (.seq ( (.block 3 ( (.seq ( (.seq ( .region [] [ ⟨some 61, .mv (.t 0), none⟩, ⟨some 62, .mv (.t 11), none⟩, ⟨some 63, .mv (.t 13), none⟩, ⟨some 64, .call 0 (.c (.fn 30 [])) [(.t 61), (.t 62), (.t 63)], none⟩, ⟨some 60, .mv (.t 64), none⟩, ⟨some 65, .ext (.t 60) 0, none⟩, ⟨some 66, .ext (.t 60) 1, none⟩, ⟨some 14, .mv (.t 65), none⟩, ⟨some 15, .mv (.t 66), none⟩]) ( (.seq ( .region [] [ ⟨some 67, .mv (.t 14), none⟩, ⟨some 68, .mv (.t 12), none⟩, ⟨some 69, .bin .gtr (.t 67) (.t 68), none⟩]) ( (.cond (.t 69) ( .exit 2) ( .skip))))))) ( (.seq ( .region [2] [ ⟨some 70, .mv (.t 0), none⟩, ⟨some 71, .mv (.t 11), none⟩, ⟨some 72, .mv (.t 13), none⟩, ⟨some 73, .mv (.t 12), none⟩, ⟨some 74, .call 0 (.c (.fn 28 [])) [(.t 70), (.t 71), (.t 72), (.t 73)], none⟩, ⟨some 75, .mv (.t 10), none⟩, ⟨some 76, .mv (.t 13), none⟩, ⟨some 77, .bin .add (.t 76) (.c (.int .i64 1)), none⟩, ⟨some 78, .elemAddr 3 (.t 75) (.t 77), none⟩, ⟨some 79, .load true 3 (.t 78), none⟩, ⟨some 17, .alloc 2 [(.int .i64 0), (.int .i64 0), (.int .i64 0)], none⟩, ⟨some 16, .mv (.t 74), none⟩, ⟨none, .store 3 (.t 17) (.t 79), none⟩]) ( (.seq ( (.seq ( .region [] [ ⟨some 80, .mv (.t 16), none⟩, ⟨some 81, .bin .geq (.t 80) (.c (.int .i64 1125899906842624)), none⟩, ⟨some 82, .mv (.t 81), none⟩, ⟨some 83, .fieldAddr 0 (.t 17), some (82, false)⟩, ⟨some 84, .load false 1 (.t 83), some (82, false)⟩, ⟨some 85, .bin .geq (.t 84) (.c (.int .i64 1125899906842624)), some (82, false)⟩, ⟨some 86, .pick (.t 82) (.c (.bool true)) (.t 85), none⟩]) ( (.cond (.t 86) ( .exit 3) ( .skip))))) ( (.seq ( .region [] [ ⟨some 87, .mv (.t 16), none⟩, ⟨some 88, .fieldAddr 0 (.t 17), none⟩, ⟨some 89, .load false 1 (.t 88), none⟩, ⟨some 90, .bin .add (.t 87) (.t 89), none⟩, ⟨some 91, .fieldAddr 1 (.t 17), none⟩, ⟨some 92, .load false 1 (.t 91), none⟩, ⟨some 93, .bin .add (.t 92) (.c (.int .i64 1)), none⟩, ⟨some 94, .mv (.t 13), none⟩, ⟨some 95, .bin .add (.t 94) (.c (.int .i64 1)), none⟩, ⟨some 96, .build [(.int .i64 0), (.int .i64 0), (.int .i64 0)] [(0, 1, (.t 90)), (1, 1, (.t 93)), (2, 1, (.t 95))], none⟩, ⟨some 18, .alloc 3 [(.int .i64 0), (.int .i64 0), (.int .i64 0)], none⟩, ⟨none, .store 3 (.t 18) (.t 96), none⟩]) ( (.seq ( .region [] [ ⟨some 97, .mv (.t 10), none⟩, ⟨some 98, .mv (.t 11), none⟩, ⟨some 99, .elemAddr 3 (.t 97) (.t 98), none⟩, ⟨some 100, .fieldAddr 0 (.t 99), none⟩, ⟨some 101, .load false 1 (.t 100), none⟩, ⟨some 102, .bin .geq (.t 101) (.c (.int .i64 1125899906842624)), none⟩, ⟨some 103, .mv (.t 102), none⟩, ⟨some 104, .load true 3 (.t 18), some (103, false)⟩, ⟨some 105, .mv (.t 10), some (103, false)⟩, ⟨some 106, .mv (.t 11), some (103, false)⟩, ⟨some 107, .elemAddr 3 (.t 105) (.t 106), some (103, false)⟩, ⟨some 108, .load true 3 (.t 107), some (103, false)⟩, ⟨some 109, .call 0 (.c (.fn 31 [])) [(.t 104), (.t 108)], some (103, false)⟩, ⟨some 110, .pick (.t 103) (.c (.bool true)) (.t 109), none⟩]) ( (.cond (.t 110) ( .region [] [ ⟨some 111, .mv (.t 10), none⟩, ⟨some 112, .mv (.t 11), none⟩, ⟨some 113, .load true 3 (.t 18), none⟩, ⟨some 114, .elemAddr 3 (.t 111) (.t 112), none⟩, ⟨none, .store 3 (.t 114) (.t 113), none⟩]) ( .skip))))))))))))))) ( .region [] [ ⟨some 58, .mv (.t 13), none⟩, ⟨some 59, .bin .add (.t 58) (.c (.int .i64 1)), none⟩, ⟨some 13, .mv (.t 59), none⟩])))))) :: k) fr' L' = r := by
      intro o' fr' L' ho' g0 g1 g2 g9 g10 g11 g12 g13 q1
      refine ih (j + 1) o' fr' L' (by omega) (by omega) ?_ ?_ ?_ g0 g1 g2 g9 g10 g11 g12 (by rw [g13]; congr 1; omega) q1
      · unfold scan at hR
        rw [if_neg hst] at hR
        rw [hR, ho']
      · rw [ho']
        exact step_in hl1 hF hij (by omega) ho
      · rw [ho']
        unfold stepC
        split
        · exact Nat.lt_succ_self j
        · omega
    unfold cnd at next
    unfold inE at hFj ho
    obtain ⟨f1, f2, f3, f4⟩ := hFj
    obtain ⟨o1, o2, o3, o4⟩ := ho
    clear ih hx hF hv hR he
    generalize cst l (room w d i) i j = c at *
    generalize room w d i = rm at *
    generalize mn l i j = mm at *
    generalize nt l i j = nn' at *
    generalize hfc : (F j).c = fc at *
    generalize hfp : (F j).p = fp at *
    have hle : mm ≤ rm := by omega
    clear hst
    have no : ¬ (c + fc < o.c ∨ (c + fc = o.c ∧ c + fc < inf ∧ fp + 1 < o.p)) → ∀ fr' L', Ab.get fr' 0 = v → Ab.get fr' 1 = .i w → Ab.get fr' 2 = .i d → Ab.get fr' 9 = .i (l.length : Nat) → Ab.get fr' 10 = .ref 0 1 ver 3 0 (l.length + 1) → Ab.get fr' 11 = .i (i : Nat) → Ab.get fr' 12 = .i rm → Ab.get fr' 13 = .i ((j : Nat) : Int) → rget L' 1 = ⟨ver, 3, T3 (upd F i o) l.length⟩ →
        G tbl H [.tmp 6, .tmp 7] (.code (.loop ( (.seq ( (.seq ( .region [] [ ⟨some 55, .mv (.t 13), none⟩, ⟨some 56, .mv (.t 9), none⟩, ⟨some 57, .bin .lss (.t 55) (.t 56), none⟩]) ( (.cond (.t 57) ( .skip) ( .exit 2))))) ( (.seq ( (.block 3 ( (.seq ( (.seq ( .region [] [ ⟨some 61, .mv (.t 0), none⟩, ⟨some 62, .mv (.t 11), none⟩, ⟨some 63, .mv (.t 13), none⟩, ⟨some 64, .call 0 (.c (.fn 30 [])) [(.t 61), (.t 62), (.t 63)], none⟩, ⟨some 60, .mv (.t 64), none⟩, ⟨some 65, .ext (.t 60) 0, none⟩, ⟨some 66, .ext (.t 60) 1, none⟩, ⟨some 14, .mv (.t 65), none⟩, ⟨some 15, .mv (.t 66), none⟩]) ( (.seq ( .region [] [ ⟨some 67, .mv (.t 14), none⟩, ⟨some 68, .mv (.t 12), none⟩, ⟨some 69, .bin .gtr (.t 67) (.t 68), none⟩]) ( (.cond (.t 69) ( .exit 2) ( .skip))))))) ( (.seq ( .region [2] [ ⟨some 70, .mv (.t 0), none⟩, ⟨some 71, .mv (.t 11), none⟩, ⟨some 72, .mv (.t 13), none⟩, ⟨some 73, .mv (.t 12), none⟩, ⟨some 74, .call 0 (.c (.fn 28 [])) [(.t 70), (.t 71), (.t 72), (.t 73)], none⟩, ⟨some 75, .mv (.t 10), none⟩, ⟨some 76, .mv (.t 13), none⟩, ⟨some 77, .bin .add (.t 76) (.c (.int .i64 1)), none⟩, ⟨some 78, .elemAddr 3 (.t 75) (.t 77), none⟩, ⟨some 79, .load true 3 (.t 78), none⟩, ⟨some 17, .alloc 2 [(.int .i64 0), (.int .i64 0), (.int .i64 0)], none⟩, ⟨some 16, .mv (.t 74), none⟩, ⟨none, .store 3 (.t 17) (.t 79), none⟩]) ( (.seq ( (.seq ( .region [] [ ⟨some 80, .mv (.t 16), none⟩, ⟨some 81, .bin .geq (.t 80) (.c (.int .i64 1125899906842624)), none⟩, ⟨some 82, .mv (.t 81), none⟩, ⟨some 83, .fieldAddr 0 (.t 17), some (82, false)⟩, ⟨some 84, .load false 1 (.t 83), some (82, false)⟩, ⟨some 85, .bin .geq (.t 84) (.c (.int .i64 1125899906842624)), some (82, false)⟩, ⟨some 86, .pick (.t 82) (.c (.bool true)) (.t 85), none⟩]) ( (.cond (.t 86) ( .exit 3) ( .skip))))) ( (.seq ( .region [] [ ⟨some 87, .mv (.t 16), none⟩, ⟨some 88, .fieldAddr 0 (.t 17), none⟩, ⟨some 89, .load false 1 (.t 88), none⟩, ⟨some 90, .bin .add (.t 87) (.t 89), none⟩, ⟨some 91, .fieldAddr 1 (.t 17), none⟩, ⟨some 92, .load false 1 (.t 91), none⟩, ⟨some 93, .bin .add (.t 92) (.c (.int .i64 1)), none⟩, ⟨some 94, .mv (.t 13), none⟩, ⟨some 95, .bin .add (.t 94) (.c (.int .i64 1)), none⟩, ⟨some 96, .build [(.int .i64 0), (.int .i64 0), (.int .i64 0)] [(0, 1, (.t 90)), (1, 1, (.t 93)), (2, 1, (.t 95))], none⟩, ⟨some 18, .alloc 3 [(.int .i64 0), (.int .i64 0), (.int .i64 0)], none⟩, ⟨none, .store 3 (.t 18) (.t 96), none⟩]) ( (.seq ( .region [] [ ⟨some 97, .mv (.t 10), none⟩, ⟨some 98, .mv (.t 11), none⟩, ⟨some 99, .elemAddr 3 (.t 97) (.t 98), none⟩, ⟨some 100, .fieldAddr 0 (.t 99), none⟩, ⟨some 101, .load false 1 (.t 100), none⟩, ⟨some 102, .bin .geq (.t 101) (.c (.int .i64 1125899906842624)), none⟩, ⟨some 103, .mv (.t 102), none⟩, ⟨some 104, .load true 3 (.t 18), some (103, false)⟩, ⟨some 105, .mv (.t 10), some (103, false)⟩, ⟨some 106, .mv (.t 11), some (103, false)⟩, ⟨some 107, .elemAddr 3 (.t 105) (.t 106), some (103, false)⟩, ⟨some 108, .load true 3 (.t 107), some (103, false)⟩, ⟨some 109, .call 0 (.c (.fn 31 [])) [(.t 104), (.t 108)], some (103, false)⟩, ⟨some 110, .pick (.t 103) (.c (.bool true)) (.t 109), none⟩]) ( (.cond (.t 110) ( .region [] [ ⟨some 111, .mv (.t 10), none⟩, ⟨some 112, .mv (.t 11), none⟩, ⟨some 113, .load true 3 (.t 18), none⟩, ⟨some 114, .elemAddr 3 (.t 111) (.t 112), none⟩, ⟨none, .store 3 (.t 114) (.t 113), none⟩]) ( .skip))))))))))))))) ( .region [] [ ⟨some 58, .mv (.t 13), none⟩, ⟨some 59, .bin .add (.t 58) (.c (.int .i64 1)), none⟩, ⟨some 13, .mv (.t 59), none⟩])))))) :: k) fr' L' = r := fun hc fr' L' => next o fr' L' (by unfold stepC; rw [if_neg hc])
    have yes : (c + fc < o.c ∨ (c + fc = o.c ∧ c + fc < inf ∧ fp + 1 < o.p)) → ∀ fr' L', Ab.get fr' 0 = v → Ab.get fr' 1 = .i w → Ab.get fr' 2 = .i d → Ab.get fr' 9 = .i (l.length : Nat) → Ab.get fr' 10 = .ref 0 1 ver 3 0 (l.length + 1) → Ab.get fr' 11 = .i (i : Nat) → Ab.get fr' 12 = .i rm → Ab.get fr' 13 = .i ((j : Nat) : Int) → rget L' 1 = ⟨ver, 3, T3 (upd F i ⟨c + fc, fp + 1, j⟩) l.length⟩ →
        G tbl H [.tmp 6, .tmp 7] (.code (.loop ( (.seq ( (.seq ( .region [] [ ⟨some 55, .mv (.t 13), none⟩, ⟨some 56, .mv (.t 9), none⟩, ⟨some 57, .bin .lss (.t 55) (.t 56), none⟩]) ( (.cond (.t 57) ( .skip) ( .exit 2))))) ( (.seq ( (.block 3 ( (.seq ( (.seq ( .region [] [ ⟨some 61, .mv (.t 0), none⟩, ⟨some 62, .mv (.t 11), none⟩, ⟨some 63, .mv (.t 13), none⟩, ⟨some 64, .call 0 (.c (.fn 30 [])) [(.t 61), (.t 62), (.t 63)], none⟩, ⟨some 60, .mv (.t 64), none⟩, ⟨some 65, .ext (.t 60) 0, none⟩, ⟨some 66, .ext (.t 60) 1, none⟩, ⟨some 14, .mv (.t 65), none⟩, ⟨some 15, .mv (.t 66), none⟩]) ( (.seq ( .region [] [ ⟨some 67, .mv (.t 14), none⟩, ⟨some 68, .mv (.t 12), none⟩, ⟨some 69, .bin .gtr (.t 67) (.t 68), none⟩]) ( (.cond (.t 69) ( .exit 2) ( .skip))))))) ( (.seq ( .region [2] [ ⟨some 70, .mv (.t 0), none⟩, ⟨some 71, .mv (.t 11), none⟩, ⟨some 72, .mv (.t 13), none⟩, ⟨some 73, .mv (.t 12), none⟩, ⟨some 74, .call 0 (.c (.fn 28 [])) [(.t 70), (.t 71), (.t 72), (.t 73)], none⟩, ⟨some 75, .mv (.t 10), none⟩, ⟨some 76, .mv (.t 13), none⟩, ⟨some 77, .bin .add (.t 76) (.c (.int .i64 1)), none⟩, ⟨some 78, .elemAddr 3 (.t 75) (.t 77), none⟩, ⟨some 79, .load true 3 (.t 78), none⟩, ⟨some 17, .alloc 2 [(.int .i64 0), (.int .i64 0), (.int .i64 0)], none⟩, ⟨some 16, .mv (.t 74), none⟩, ⟨none, .store 3 (.t 17) (.t 79), none⟩]) ( (.seq ( (.seq ( .region [] [ ⟨some 80, .mv (.t 16), none⟩, ⟨some 81, .bin .geq (.t 80) (.c (.int .i64 1125899906842624)), none⟩, ⟨some 82, .mv (.t 81), none⟩, ⟨some 83, .fieldAddr 0 (.t 17), some (82, false)⟩, ⟨some 84, .load false 1 (.t 83), some (82, false)⟩, ⟨some 85, .bin .geq (.t 84) (.c (.int .i64 1125899906842624)), some (82, false)⟩, ⟨some 86, .pick (.t 82) (.c (.bool true)) (.t 85), none⟩]) ( (.cond (.t 86) ( .exit 3) ( .skip))))) ( (.seq ( .region [] [ ⟨some 87, .mv (.t 16), none⟩, ⟨some 88, .fieldAddr 0 (.t 17), none⟩, ⟨some 89, .load false 1 (.t 88), none⟩, ⟨some 90, .bin .add (.t 87) (.t 89), none⟩, ⟨some 91, .fieldAddr 1 (.t 17), none⟩, ⟨some 92, .load false 1 (.t 91), none⟩, ⟨some 93, .bin .add (.t 92) (.c (.int .i64 1)), none⟩, ⟨some 94, .mv (.t 13), none⟩, ⟨some 95, .bin .add (.t 94) (.c (.int .i64 1)), none⟩, ⟨some 96, .build [(.int .i64 0), (.int .i64 0), (.int .i64 0)] [(0, 1, (.t 90)), (1, 1, (.t 93)), (2, 1, (.t 95))], none⟩, ⟨some 18, .alloc 3 [(.int .i64 0), (.int .i64 0), (.int .i64 0)], none⟩, ⟨none, .store 3 (.t 18) (.t 96), none⟩]) ( (.seq ( .region [] [ ⟨some 97, .mv (.t 10), none⟩, ⟨some 98, .mv (.t 11), none⟩, ⟨some 99, .elemAddr 3 (.t 97) (.t 98), none⟩, ⟨some 100, .fieldAddr 0 (.t 99), none⟩, ⟨some 101, .load false 1 (.t 100), none⟩, ⟨some 102, .bin .geq (.t 101) (.c (.int .i64 1125899906842624)), none⟩, ⟨some 103, .mv (.t 102), none⟩, ⟨some 104, .load true 3 (.t 18), some (103, false)⟩, ⟨some 105, .mv (.t 10), some (103, false)⟩, ⟨some 106, .mv (.t 11), some (103, false)⟩, ⟨some 107, .elemAddr 3 (.t 105) (.t 106), some (103, false)⟩, ⟨some 108, .load true 3 (.t 107), some (103, false)⟩, ⟨some 109, .call 0 (.c (.fn 31 [])) [(.t 104), (.t 108)], some (103, false)⟩, ⟨some 110, .pick (.t 103) (.c (.bool true)) (.t 109), none⟩]) ( (.cond (.t 110) ( .region [] [ ⟨some 111, .mv (.t 10), none⟩, ⟨some 112, .mv (.t 11), none⟩, ⟨some 113, .load true 3 (.t 18), none⟩, ⟨some 114, .elemAddr 3 (.t 111) (.t 112), none⟩, ⟨none, .store 3 (.t 114) (.t 113), none⟩]) ( .skip))))))))))))))) ( .region [] [ ⟨some 58, .mv (.t 13), none⟩, ⟨some 59, .bin .add (.t 58) (.c (.int .i64 1)), none⟩, ⟨some 13, .mv (.t 59), none⟩])))))) :: k) fr' L' = r := fun hc fr' L' => next ⟨c + fc, fp + 1, j⟩ fr' L' (by unfold stepC; rw [if_pos hc])
    have hset : (T3 (upd F i o) l.length).set i [.i (c + fc), .i ((fp : Nat) + 1 : Int), .i (j : Nat)] = T3 (upd F i ⟨c + fc, fp + 1, j⟩) l.length := hset ⟨c + fc, fp + 1, j⟩
    generalize T3 (upd F i ⟨c + fc, fp + 1, j⟩) l.length = T' at *
    generalize T3 (upd F i o) l.length = T at *
    clear next
    have cs : c = inf ∨ (100 ≤ c ∧ c ≤ 100000100 ∧ fc = inf) ∨ (100 ≤ c ∧ c ≤ 100000100 ∧ fc ≤ 102400102400) := by omega
    rcases cs with cs | ⟨c1, c2, c3⟩ | ⟨c1, c2, c3⟩
    · have nx := no (by omega)
      clear no yes hset hcb
      refine G_loop.trans ?_
      simp (config := { maxSteps := 10000000 }) (disch := omega) only [↓G_seq, ↓G_skip, ↓G_exit, ↓G_region, ↓G_block, ↓G_cond, ↓Gx_blk, ↓Gx_code, ↓G_ops_nil, ↓G_op, Gv_some, ↓G_gop, Gw_ft, Gc_true, Gc_false, dec_t, dec_f, killAll, ↓get_setS, ↓get_setN, evalOp, ev, evs, rget_rset, b_add, b_lss, b_gtr, b_geq, wrap_i64, one, Option.map_some, Option.bind_some, asB, callV, V.shift, V.shifts, List.append_nil, List.nil_append, List.cons_append, List.map_cons, List.map_nil, List.all_cons, List.all_nil, Bool.true_and, Bool.and_self, List.getElem?_cons_zero, List.getElem?_cons_succ, Nat.reduceEqDiff, reduceCtorEq, ↓reduceIte, Nat.succ_ne_self, bne_self_eq_false, Int.reduceAdd, pick3, V.cells, splice, loadV, storeV, Ab.rowAt, V.scalar, Nat.reduceAdd, true_and, and_self, List.length_cons, List.length_nil, List.take_succ_cons, List.take_zero, List.drop_succ_cons, List.drop_zero, Nat.le_refl, List.set_cons_zero, List.getD_cons_zero, Nat.zero_add, el_ref, ti_int, ti_tup_int, st_int, nn, ite_ov, Int.toNat_natCast, h0, h9, h10, h11, h12, h13, r1, hsh, h30, h28, hTj, hjj, hjn, rset_rset, Nat.zero_lt_succ, Nat.zero_add]
      refine nx _ _ ?_ ?_ ?_ ?_ ?_ ?_ ?_ ?_ ?_
      all_goals simp (config := { maxSteps := 10000000 }) (disch := omega) only [↓get_setS, ↓get_setN, rget_rset, List.getElem?_cons_zero, List.getElem?_cons_succ, Nat.reduceEqDiff, reduceCtorEq, ↓reduceIte, Nat.succ_ne_self, h0, h1, h2, h9, h10, h11, h12, r1]
      all_goals try omega
    · have nx := no (by omega)
      clear no yes hset hcb
      refine G_loop.trans ?_
      simp (config := { maxSteps := 10000000 }) (disch := omega) only [↓G_seq, ↓G_skip, ↓G_exit, ↓G_region, ↓G_block, ↓G_cond, ↓Gx_blk, ↓Gx_code, ↓G_ops_nil, ↓G_op, Gv_some, ↓G_gop, Gw_ff, Gc_true, Gc_false, dec_t, dec_f, killAll, ↓get_setS, ↓get_setN, evalOp, ev, evs, rget_rset, b_add, b_lss, b_gtr, b_geq, wrap_i64, one, Option.map_some, Option.bind_some, asB, callV, V.shift, V.shifts, List.append_nil, List.nil_append, List.cons_append, List.map_cons, List.map_nil, List.all_cons, List.all_nil, Bool.true_and, Bool.and_self, List.getElem?_cons_zero, List.getElem?_cons_succ, Nat.reduceEqDiff, reduceCtorEq, ↓reduceIte, Nat.succ_ne_self, bne_self_eq_false, Bool.false_eq_true, Int.reduceAdd, pick3, V.cells, splice, addOff, loadV, storeV, Ab.rowAt, V.scalar, Nat.reduceAdd, true_and, and_self, List.length_cons, List.length_nil, List.take_succ_cons, List.take_zero, List.drop_succ_cons, List.drop_zero, Nat.le_refl, List.set_cons_zero, List.getD_cons_zero, Nat.zero_add, Nat.add_zero, el_ref, ti_int, ti_tup_int, st_int, nn, ite_ov, Int.toNat_natCast, h0, h9, h10, h11, h12, h13, r1, hsh, h30, h28, hTj, hjj, hjn, rset_rset, Nat.zero_lt_succ, Nat.zero_add]
      refine nx _ _ ?_ ?_ ?_ ?_ ?_ ?_ ?_ ?_ ?_
      all_goals simp (config := { maxSteps := 10000000 }) (disch := omega) only [↓get_setS, ↓get_setN, rget_rset, List.getElem?_cons_zero, List.getElem?_cons_succ, Nat.reduceEqDiff, reduceCtorEq, ↓reduceIte, Nat.succ_ne_self, h0, h1, h2, h9, h10, h11, h12, r1]
      all_goals try omega
    · clear hcb f2
      have h31 := fun H => c31 (H := H) (c + fc) ((fp : Nat) + 1 : Int) (j : Nat) o.c (o.p : Nat) (o.x : Nat)
      have oc : o.c = inf ∨ (o.c < inf ∧ c + fc < o.c) ∨ (o.c < inf ∧ c + fc = o.c ∧ fp + 1 < o.p) ∨ (o.c < inf ∧ c + fc = o.c ∧ fp + 1 = o.p) ∨ (o.c < inf ∧ c + fc = o.c ∧ o.p < fp + 1) ∨ (o.c < inf ∧ o.c < c + fc) := by omega
      clear o2
      rcases oc with q | ⟨q1, q2⟩ | ⟨q1, q2, q3⟩ | ⟨q1, q2, q3⟩ | ⟨q1, q2, q3⟩ | ⟨q1, q2⟩
      · have nx := yes (by omega)
        clear no yes
        refine G_loop.trans ?_
        simp (config := { maxSteps := 10000000 }) (disch := omega) only [↓G_seq, ↓G_skip, ↓G_blk, ↓G_region, ↓G_block, ↓G_cond, ↓G_ops_nil, ↓G_op, Gv_some, ↓G_gop, Gw_ff, Gw_ft, Gc_true, Gc_false, dec_t, dec_f, killAll, ↓get_setS, ↓get_setN, evalOp, ev, evs, rget_rset, b_add, b_lss, b_gtr, b_geq, wrap_i64, one, Option.map_some, Option.bind_some, asB, callV, V.shift, V.shifts, List.append_nil, List.nil_append, List.cons_append, List.map_cons, List.map_nil, List.all_cons, List.all_nil, Bool.and_true, Bool.true_and, Bool.and_self, List.getElem?_cons_zero, List.getElem?_cons_succ, Nat.reduceEqDiff, reduceCtorEq, ↓reduceIte, Nat.succ_ne_self, bne_self_eq_false, Bool.false_eq_true, Int.reduceAdd, pick3, V.cells, fillV, splice, addOff, loadV, storeV, Ab.rowAt, V.scalar, Nat.reduceAdd, Nat.reduceLeDiff, and_true, true_and, and_self, List.length_cons, List.length_nil, List.take_succ_cons, List.take_zero, List.drop_succ_cons, List.drop_zero, Nat.le_refl, List.set_cons_zero, List.getD_cons_zero, Nat.zero_add, Nat.add_zero, el_ref, ti_int, ti_tup_int, st_int, nn, ite_ov, Int.toNat_natCast, h0, h9, h10, h11, h12, h13, r1, hsh, h30, h28, hTj, hTi, hjj, hjn, hin, rset_rset, Nat.zero_lt_succ, Nat.zero_add, hset]
        refine nx _ _ ?_ ?_ ?_ ?_ ?_ ?_ ?_ ?_ ?_
        all_goals simp (config := { maxSteps := 10000000 }) (disch := omega) only [↓get_setS, ↓get_setN, rget_rset, List.getElem?_cons_zero, List.getElem?_cons_succ, Nat.reduceEqDiff, reduceCtorEq, ↓reduceIte, Nat.succ_ne_self, h0, h1, h2, h9, h10, h11, h12]
        all_goals try omega
      · have nx := yes (by omega)
        rw [show bt (c + fc) ((fp : Nat) + 1 : Int) (j : Nat) o.c (o.p : Nat) (o.x : Nat) = true by unfold bt; rw [if_neg (by omega), decide_eq_true (by omega)]] at h31
        clear no yes
        refine G_loop.trans ?_
        simp (config := { maxSteps := 10000000 }) (disch := omega) only [↓G_seq, ↓G_skip, ↓G_blk, ↓G_region, ↓G_block, ↓G_cond, ↓G_ops_nil, ↓G_op, Gv_some, ↓G_gop, Gw_ff, Gc_true, Gc_false, dec_t, dec_f, killAll, ↓get_setS, ↓get_setN, evalOp, ev, evs, rget_rset, b_add, b_lss, b_gtr, b_geq, wrap_i64, one, Option.map_some, Option.bind_some, asB, callV, V.shift, V.shifts, List.append_nil, List.nil_append, List.cons_append, List.map_cons, List.map_nil, List.all_cons, List.all_nil, Bool.and_true, Bool.true_and, Bool.and_self, List.getElem?_cons_zero, List.getElem?_cons_succ, Nat.reduceEqDiff, reduceCtorEq, ↓reduceIte, Nat.succ_ne_self, bne_self_eq_false, Bool.false_eq_true, Int.reduceAdd, pick3, V.cells, fillV, splice, addOff, loadV, storeV, Ab.rowAt, V.scalar, Nat.reduceAdd, Nat.reduceLeDiff, and_true, true_and, and_self, List.length_cons, List.length_nil, List.take_succ_cons, List.take_zero, List.drop_succ_cons, List.drop_zero, Nat.le_refl, List.set_cons_zero, List.getD_cons_zero, Nat.zero_add, Nat.add_zero, el_ref, ti_bool, ti_int, ti_tup_int, st_int, nn, ite_ov, Int.toNat_natCast, h0, h9, h10, h11, h12, h13, r1, hsh, h30, h28, hTj, hTi, hjj, hjn, hin, rset_rset, Nat.zero_lt_succ, Nat.zero_add, hset, h31]
        refine nx _ _ ?_ ?_ ?_ ?_ ?_ ?_ ?_ ?_ ?_
        all_goals simp (config := { maxSteps := 10000000 }) (disch := omega) only [↓get_setS, ↓get_setN, rget_rset, List.getElem?_cons_zero, List.getElem?_cons_succ, Nat.reduceEqDiff, reduceCtorEq, ↓reduceIte, Nat.succ_ne_self, h0, h1, h2, h9, h10, h11, h12]
        all_goals try omega
      · have nx := yes (by omega)
        rw [show bt (c + fc) ((fp : Nat) + 1 : Int) (j : Nat) o.c (o.p : Nat) (o.x : Nat) = true by unfold bt; rw [if_pos (by omega), if_neg (by omega), decide_eq_true (by omega)]] at h31
        clear no yes
        refine G_loop.trans ?_
        simp (config := { maxSteps := 10000000 }) (disch := omega) only [↓G_seq, ↓G_skip, ↓G_blk, ↓G_region, ↓G_block, ↓G_cond, ↓G_ops_nil, ↓G_op, Gv_some, ↓G_gop, Gw_ff, Gc_true, Gc_false, dec_t, dec_f, killAll, ↓get_setS, ↓get_setN, evalOp, ev, evs, rget_rset, b_add, b_lss, b_gtr, b_geq, wrap_i64, one, Option.map_some, Option.bind_some, asB, callV, V.shift, V.shifts, List.append_nil, List.nil_append, List.cons_append, List.map_cons, List.map_nil, List.all_cons, List.all_nil, Bool.and_true, Bool.true_and, Bool.and_self, List.getElem?_cons_zero, List.getElem?_cons_succ, Nat.reduceEqDiff, reduceCtorEq, ↓reduceIte, Nat.succ_ne_self, bne_self_eq_false, Bool.false_eq_true, Int.reduceAdd, pick3, V.cells, fillV, splice, addOff, loadV, storeV, Ab.rowAt, V.scalar, Nat.reduceAdd, Nat.reduceLeDiff, and_true, true_and, and_self, List.length_cons, List.length_nil, List.take_succ_cons, List.take_zero, List.drop_succ_cons, List.drop_zero, Nat.le_refl, List.set_cons_zero, List.getD_cons_zero, Nat.zero_add, Nat.add_zero, el_ref, ti_bool, ti_int, ti_tup_int, st_int, nn, ite_ov, Int.toNat_natCast, h0, h9, h10, h11, h12, h13, r1, hsh, h30, h28, hTj, hTi, hjj, hjn, hin, rset_rset, Nat.zero_lt_succ, Nat.zero_add, hset, h31]
        refine nx _ _ ?_ ?_ ?_ ?_ ?_ ?_ ?_ ?_ ?_
        all_goals simp (config := { maxSteps := 10000000 }) (disch := omega) only [↓get_setS, ↓get_setN, rget_rset, List.getElem?_cons_zero, List.getElem?_cons_succ, Nat.reduceEqDiff, reduceCtorEq, ↓reduceIte, Nat.succ_ne_self, h0, h1, h2, h9, h10, h11, h12]
        all_goals try omega
      · have nx := no (by omega)
        rw [show bt (c + fc) ((fp : Nat) + 1 : Int) (j : Nat) o.c (o.p : Nat) (o.x : Nat) = false by unfold bt; rw [if_pos (by omega), if_pos (by omega), decide_eq_false (by omega)]] at h31
        clear no yes hset
        refine G_loop.trans ?_
        simp (config := { maxSteps := 10000000 }) (disch := omega) only [↓G_seq, ↓G_skip, ↓G_blk, ↓G_region, ↓G_block, ↓G_cond, ↓G_ops_nil, ↓G_op, Gv_some, ↓G_gop, Gw_ff, Gc_true, Gc_false, dec_t, dec_f, killAll, ↓get_setS, ↓get_setN, evalOp, ev, evs, rget_rset, b_add, b_lss, b_gtr, b_geq, wrap_i64, one, Option.map_some, Option.bind_some, asB, callV, V.shift, V.shifts, List.append_nil, List.nil_append, List.cons_append, List.map_cons, List.map_nil, List.all_cons, List.all_nil, Bool.true_and, Bool.and_self, List.getElem?_cons_zero, List.getElem?_cons_succ, Nat.reduceEqDiff, reduceCtorEq, ↓reduceIte, Nat.succ_ne_self, bne_self_eq_false, Bool.false_eq_true, Int.reduceAdd, pick3, V.cells, fillV, splice, addOff, loadV, storeV, Ab.rowAt, V.scalar, Nat.reduceAdd, Nat.reduceLeDiff, true_and, and_self, List.length_cons, List.length_nil, List.take_succ_cons, List.take_zero, List.drop_succ_cons, List.drop_zero, Nat.le_refl, List.set_cons_zero, List.getD_cons_zero, Nat.zero_add, Nat.add_zero, el_ref, ti_bool, ti_int, ti_tup_int, st_int, nn, ite_ov, Int.toNat_natCast, h0, h9, h10, h11, h12, h13, r1, hsh, h30, h28, hTj, hTi, hjj, hjn, hin, rset_rset, Nat.zero_lt_succ, Nat.zero_add, h31]
        refine nx _ _ ?_ ?_ ?_ ?_ ?_ ?_ ?_ ?_ ?_
        all_goals simp (config := { maxSteps := 10000000 }) (disch := omega) only [↓get_setS, ↓get_setN, rget_rset, List.getElem?_cons_zero, List.getElem?_cons_succ, Nat.reduceEqDiff, reduceCtorEq, ↓reduceIte, Nat.succ_ne_self, h0, h1, h2, h9, h10, h11, h12, r1]
        all_goals try omega
      · have nx := no (by omega)
        rw [show bt (c + fc) ((fp : Nat) + 1 : Int) (j : Nat) o.c (o.p : Nat) (o.x : Nat) = false by unfold bt; rw [if_pos (by omega), if_neg (by omega), decide_eq_false (by omega)]] at h31
        clear no yes hset
        refine G_loop.trans ?_
        simp (config := { maxSteps := 10000000 }) (disch := omega) only [↓G_seq, ↓G_skip, ↓G_blk, ↓G_region, ↓G_block, ↓G_cond, ↓G_ops_nil, ↓G_op, Gv_some, ↓G_gop, Gw_ff, Gc_true, Gc_false, dec_t, dec_f, killAll, ↓get_setS, ↓get_setN, evalOp, ev, evs, rget_rset, b_add, b_lss, b_gtr, b_geq, wrap_i64, one, Option.map_some, Option.bind_some, asB, callV, V.shift, V.shifts, List.append_nil, List.nil_append, List.cons_append, List.map_cons, List.map_nil, List.all_cons, List.all_nil, Bool.true_and, Bool.and_self, List.getElem?_cons_zero, List.getElem?_cons_succ, Nat.reduceEqDiff, reduceCtorEq, ↓reduceIte, Nat.succ_ne_self, bne_self_eq_false, Bool.false_eq_true, Int.reduceAdd, pick3, V.cells, fillV, splice, addOff, loadV, storeV, Ab.rowAt, V.scalar, Nat.reduceAdd, Nat.reduceLeDiff, true_and, and_self, List.length_cons, List.length_nil, List.take_succ_cons, List.take_zero, List.drop_succ_cons, List.drop_zero, Nat.le_refl, List.set_cons_zero, List.getD_cons_zero, Nat.zero_add, Nat.add_zero, el_ref, ti_bool, ti_int, ti_tup_int, st_int, nn, ite_ov, Int.toNat_natCast, h0, h9, h10, h11, h12, h13, r1, hsh, h30, h28, hTj, hTi, hjj, hjn, hin, rset_rset, Nat.zero_lt_succ, Nat.zero_add, h31]
        refine nx _ _ ?_ ?_ ?_ ?_ ?_ ?_ ?_ ?_ ?_
        all_goals simp (config := { maxSteps := 10000000 }) (disch := omega) only [↓get_setS, ↓get_setN, rget_rset, List.getElem?_cons_zero, List.getElem?_cons_succ, Nat.reduceEqDiff, reduceCtorEq, ↓reduceIte, Nat.succ_ne_self, h0, h1, h2, h9, h10, h11, h12, r1]
        all_goals try omega
      · have nx := no (by omega)
        rw [show bt (c + fc) ((fp : Nat) + 1 : Int) (j : Nat) o.c (o.p : Nat) (o.x : Nat) = false by unfold bt; rw [if_neg (by omega), decide_eq_false (by omega)]] at h31
        clear no yes hset
        refine G_loop.trans ?_
        simp (config := { maxSteps := 10000000 }) (disch := omega) only [↓G_seq, ↓G_skip, ↓G_blk, ↓G_region, ↓G_block, ↓G_cond, ↓G_ops_nil, ↓G_op, Gv_some, ↓G_gop, Gw_ff, Gc_true, Gc_false, dec_t, dec_f, killAll, ↓get_setS, ↓get_setN, evalOp, ev, evs, rget_rset, b_add, b_lss, b_gtr, b_geq, wrap_i64, one, Option.map_some, Option.bind_some, asB, callV, V.shift, V.shifts, List.append_nil, List.nil_append, List.cons_append, List.map_cons, List.map_nil, List.all_cons, List.all_nil, Bool.true_and, Bool.and_self, List.getElem?_cons_zero, List.getElem?_cons_succ, Nat.reduceEqDiff, reduceCtorEq, ↓reduceIte, Nat.succ_ne_self, bne_self_eq_false, Bool.false_eq_true, Int.reduceAdd, pick3, V.cells, fillV, splice, addOff, loadV, storeV, Ab.rowAt, V.scalar, Nat.reduceAdd, Nat.reduceLeDiff, true_and, and_self, List.length_cons, List.length_nil, List.take_succ_cons, List.take_zero, List.drop_succ_cons, List.drop_zero, Nat.le_refl, List.set_cons_zero, List.getD_cons_zero, Nat.zero_add, Nat.add_zero, el_ref, ti_bool, ti_int, ti_tup_int, st_int, nn, ite_ov, Int.toNat_natCast, h0, h9, h10, h11, h12, h13, r1, hsh, h30, h28, hTj, hTi, hjj, hjn, hin, rset_rset, Nat.zero_lt_succ, Nat.zero_add, h31]
        refine nx _ _ ?_ ?_ ?_ ?_ ?_ ?_ ?_ ?_ ?_
        all_goals simp (config := { maxSteps := 10000000 }) (disch := omega) only [↓get_setS, ↓get_setN, rget_rset, List.getElem?_cons_zero, List.getElem?_cons_succ, Nat.reduceEqDiff, reduceCtorEq, ↓reduceIte, Nat.succ_ne_self, h0, h1, h2, h9, h10, h11, h12, r1]
        all_goals try omega

end Go.Proofs.Ytdgifbmimfnmlaa

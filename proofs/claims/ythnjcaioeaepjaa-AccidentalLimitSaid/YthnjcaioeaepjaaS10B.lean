/-
  Notes: their check, by the program and by the reference.
-/
import Derived.Test.YthnjcaioeaepjaaS10A
namespace Go.Proofs.Ythnjcaioeaepjaa
open Go Go.Ab
set_option linter.unusedVariables false
set_option linter.unnecessarySimpa false
set_option linter.unusedSimpArgs false
set_option maxRecDepth 100000
variable {H : List (List Row)}

structure Nt where
  at_ : Int
  s : Int
  al : Int
  o : Int
  h : Bool
  sh : Int

def Nt.cells (n : Nt) : List V := [.i n.at_, .i n.s, .i n.al, .i n.o, .bool n.h, .i n.sh]
def E6 (l : List Nt) : List (List V) := l.map Nt.cells
theorem E6_get (l : List Nt) (i : Nat) (n : Nt) (h : l[i]? = some n) : (E6 l)[i]? = some [.i n.at_, .i n.s, .i n.al, .i n.o, .bool n.h, .i n.sh] := by simp [E6, h, Nt.cells]
theorem E6_len (l : List Nt) : (E6 l).length = l.length := by simp [E6]
theorem E6_pure (l : List Nt) : (E6 l).all (fun e => e.all V.pure) = true := by simp [E6, Nt.cells, V.pure]
theorem E6_nil {l : List Nt} : E6 l = [] ↔ l = [] := by simp [E6]
theorem E6_take (l : List Nt) (n : Nat) : (E6 l).take n = E6 (l.take n) := by simp [E6]

def inN (n : Nt) : Prop := (0 ≤ n.s ∧ n.s ≤ 6) ∧ (-2 ≤ n.al ∧ n.al ≤ 2) ∧ (-1 ≤ n.o ∧ n.o ≤ 9)
instance (n : Nt) : Decidable (inN n) := by unfold inN; exact inferInstance
def okN (b : Int) (n : Nt) : Int := if n.at_ < b then 25 else if ¬ inN n then 18 else if ¬ (0 ≤ n.sh ∧ n.sh ≤ 2) then 11 else 0
def errL : Int → List Nt → Int
  | _, [] => 0
  | b, n :: t => if okN b n ≠ 0 then okN b n else errL n.at_ t
def errR (f : Int) (l : List Nt) : Int := if guardR f (l.length : Nat) ≠ 0 then guardR f (l.length : Nat) else errL 0 l

theorem errR_e {f e : Int} {l : List Nt} (h : guardR f (l.length : Nat) = e) (he : e ≠ 0) : errR f l = e := by
  unfold errR
  rw [h, if_pos he]
theorem errR_0 {f : Int} {l : List Nt} (h : guardR f (l.length : Nat) = 0) : errR f l = errL 0 l := by
  unfold errR
  rw [h, if_neg (by decide)]
theorem okN_at {b : Int} {n : Nt} (h : n.at_ < b) : okN b n = 25 := by unfold okN; rw [if_pos h]
theorem okN_p {b : Int} {n : Nt} (h : ¬ n.at_ < b) (k : ¬ inN n) : okN b n = 18 := by unfold okN; rw [if_neg h, if_pos k]
theorem okN_k {b : Int} {n : Nt} (h : ¬ n.at_ < b) (k : inN n) (j : ¬ (0 ≤ n.sh ∧ n.sh ≤ 2)) : okN b n = 11 := by unfold okN; rw [if_neg h, if_neg (fun z => z k), if_pos j]
theorem okN_ok {b : Int} {n : Nt} (h : ¬ n.at_ < b) (k : inN n) (j : 0 ≤ n.sh ∧ n.sh ≤ 2) : okN b n = 0 := by unfold okN; rw [if_neg h, if_neg (fun z => z k), if_neg (fun z => z j)]
theorem errL_e {b e : Int} {n : Nt} {t : List Nt} (h : okN b n = e) (he : e ≠ 0) : errL b (n :: t) = e := by
  unfold errL
  rw [h, if_pos he]
theorem errL_0 {b : Int} {n : Nt} {t : List Nt} (h : okN b n = 0) : errL b (n :: t) = errL n.at_ t := by
  conv => lhs; unfold errL
  rw [h, if_neg (by decide)]

theorem okN_0 {b : Int} {n : Nt} (h : okN b n = 0) : b ≤ n.at_ ∧ inN n ∧ 0 ≤ n.sh ∧ n.sh ≤ 2 := by
  unfold okN at h
  split at h
  · cases h
  split at h
  · cases h
  split at h
  · cases h
  · rename_i h1 h2 h3
    exact ⟨by omega, Classical.not_not.1 h2, by omega⟩

theorem loop27 {k : List KI} {v : V} {l : List Nt} (hl : l.length ≤ 4096) (hv : SlV 6 v (E6 l))
    (hx : ∀ fr' L', Gx tbl H [.tmp 4] 0 k fr' L' = some (.i 0)) :
    ∀ (t : List Nt) (i : Nat) (b : Int) (fr : List V) (L : List Row), l.drop i = t → i ≤ l.length → Ab.get fr 6 = .i b → Ab.get fr 17 = v → Ab.get fr 18 = .i (l.length : Nat) → Ab.get fr 19 = .i (i : Nat) →
    G tbl H [.tmp 4] (.code (.loop ( (.seq ( .region [] [ ⟨some 20, .bin .lss (.t 19) (.t 18), none⟩]) ( (.seq ( (.cond (.t 20) ( .skip) ( .exit 0))) ( (.seq ( (.block 1 ( (.seq ( .region [] [ ⟨some 21, .elemAddr 6 (.t 17) (.t 19), none⟩, ⟨some 22, .load true 6 (.t 21), none⟩, ⟨some 8, .alloc 1 [(.int .i64 0), (.int .i64 0), (.int .i64 0), (.int .i64 0), (.bool false), (.int .i64 0)], none⟩, ⟨none, .store 6 (.t 8) (.t 22), none⟩]) ( (.seq ( .region [] [ ⟨some 23, .fieldAddr 1 (.t 8), none⟩, ⟨some 24, .load true 3 (.t 23), none⟩, ⟨some 9, .alloc 2 [(.int .i64 0), (.int .i64 0), (.int .i64 0)], none⟩, ⟨none, .store 3 (.t 9) (.t 24), none⟩]) ( (.seq ( (.block 2 ( (.seq ( .region [] [ ⟨some 26, .fieldAddr 0 (.t 8), none⟩, ⟨some 27, .load false 1 (.t 26), none⟩, ⟨some 28, .mv (.t 6), none⟩, ⟨some 29, .bin .lss (.t 27) (.t 28), none⟩, ⟨some 25, .mv (.t 29), none⟩]) ( (.cond (.t 25) ( (.seq ( .region [] [ ⟨some 4, .mv (.c (.int .i64 25)), none⟩]) ( .ret))) ( (.seq ( .region [] [ ⟨some 31, .fieldAddr 0 (.t 9), none⟩, ⟨some 32, .load false 1 (.t 31), none⟩, ⟨some 33, .call 0 (.c (.fn 31 [])) [(.t 32), (.c (.int .i64 0)), (.c (.int .i64 6))], none⟩, ⟨some 34, .not (.t 33), none⟩, ⟨some 35, .mv (.t 34), none⟩, ⟨some 36, .fieldAddr 1 (.t 9), some (35, false)⟩, ⟨some 37, .load false 1 (.t 36), some (35, false)⟩, ⟨some 38, .call 0 (.c (.fn 31 [])) [(.t 37), (.c (.int .i64 (-2))), (.c (.int .i64 2))], some (35, false)⟩, ⟨some 39, .not (.t 38), some (35, false)⟩, ⟨some 40, .pick (.t 35) (.c (.bool true)) (.t 39), none⟩, ⟨some 41, .mv (.t 40), none⟩, ⟨some 42, .fieldAddr 2 (.t 9), some (41, false)⟩, ⟨some 43, .load false 1 (.t 42), some (41, false)⟩, ⟨some 44, .call 0 (.c (.fn 31 [])) [(.t 43), (.c (.int .i64 (-1))), (.c (.int .i64 9))], some (41, false)⟩, ⟨some 45, .not (.t 44), some (41, false)⟩, ⟨some 46, .pick (.t 41) (.c (.bool true)) (.t 45), none⟩, ⟨some 30, .mv (.t 46), none⟩]) ( (.cond (.t 30) ( (.seq ( .region [] [ ⟨some 4, .mv (.c (.int .i64 18)), none⟩]) ( .ret))) ( (.seq ( .region [] [ ⟨some 48, .fieldAddr 5 (.t 8), none⟩, ⟨some 49, .load false 1 (.t 48), none⟩, ⟨some 50, .call 0 (.c (.fn 31 [])) [(.t 49), (.c (.int .i64 0)), (.c (.int .i64 2))], none⟩, ⟨some 51, .not (.t 50), none⟩, ⟨some 47, .mv (.t 51), none⟩]) ( (.cond (.t 47) ( (.seq ( .region [] [ ⟨some 4, .mv (.c (.int .i64 11)), none⟩]) ( .ret))) ( .skip))))))))))))))) ( .region [] [ ⟨some 52, .fieldAddr 0 (.t 8), none⟩, ⟨some 53, .load false 1 (.t 52), none⟩, ⟨some 6, .mv (.t 53), none⟩]))))))))) ( .region [] [ ⟨some 54, .bin .add (.t 19) (.c (.int .i64 1)), none⟩, ⟨some 19, .mv (.t 54), none⟩])))))))) :: k) fr L = some (.i (errL b t)) := by
  intro t
  induction t with
  | nil =>
    intro i b fr L ht hi h6 h17 h18 h19
    have := drop_nil ht
    refine G_loop.trans ?_
    simp (config := { maxSteps := 10000000 }) (disch := omega) only [↓G_seq, ↓G_exit, ↓G_region, ↓G_cond, ↓Gx_code, ↓G_ops_nil, ↓G_op, Gv_some, Gc_false, dec_f, killAll, ↓get_setS, evalOp, ev, b_lss, one, Option.map_some, List.getElem?_cons_zero, List.getElem?_cons_succ, ↓reduceIte, Int.reduceNeg, h18, h19, hx, errL]
  | cons n t ih =>
    intro i b fr L ht hi h6 h17 h18 h19
    obtain ⟨e1, e2, e3⟩ := drop_cons ht
    have hE := hv.el (E6_get l i n e1)
    refine G_loop.trans ?_
    by_cases c1 : n.at_ < b
    · rw [errL_e (okN_at c1) (by decide)]
      simp (config := { maxSteps := 10000000 }) (disch := omega) only [↓G_seq, ↓G_skip, ↓G_ret, ↓G_region, ↓G_block, ↓G_cond, ↓G_ops_nil, ↓G_op, Gv_some, Gc_true, dec_t, killAll, ↓get_setS, ↓get_setN, evalOp, ev, rget_rset, b_lss, one, Option.map_some, Option.bind_some, finish, resVs, resV, outVs, ownsLast, tupOf, V.shift, V.shifts, List.nil_append, List.cons_append, List.all_cons, List.all_nil, Bool.and_self, List.getElem?_cons_zero, List.getElem?_cons_succ, Nat.reduceEqDiff, ↓reduceIte, Nat.succ_ne_self, Bool.false_eq_true, Int.reduceNeg, Int.reduceAdd, pick3, V.cells, splice, addOff, loadV, storeV, Ab.rowAt, V.scalar, Nat.reduceAdd, Nat.reduceLeDiff, and_self, List.length_cons, List.length_nil, List.take_succ_cons, List.take_zero, List.drop_succ_cons, List.drop_zero, Nat.le_refl, List.set_cons_zero, List.getD_cons_zero, Nat.zero_add, Nat.add_zero, ov_int, fn_some, h6, h17, h18, h19, hE, rset_rset, Nat.zero_lt_succ]
      done
    by_cases c2 : 0 ≤ n.s ∧ n.s ≤ 6
    case neg =>
      rw [errL_e (okN_p c1 (fun z => c2 z.1)) (by decide)]
      simp (config := { maxSteps := 10000000 }) (disch := omega) only [↓G_seq, ↓G_skip, ↓G_ret, ↓G_region, ↓G_block, ↓G_cond, ↓G_ops_nil, ↓G_op, Gv_some, ↓G_gop, Gw_ft, Gc_true, Gc_false, dec_t, dec_f, killAll, ↓get_setS, ↓get_setN, evalOp, ev, evs, rget_rset, b_lss, one, Option.map_some, Option.bind_some, asB, finish, resVs, resV, outVs, ownsLast, tupOf, callV, V.shift, V.shifts, List.append_nil, List.nil_append, List.cons_append, List.all_cons, List.all_nil, Bool.and_self, List.getElem?_cons_zero, List.getElem?_cons_succ, Nat.reduceEqDiff, ↓reduceIte, Nat.succ_ne_self, Bool.not_false, bne_self_eq_false, Bool.false_eq_true, Int.reduceNeg, Int.reduceAdd, pick3, V.cells, splice, addOff, loadV, storeV, Ab.rowAt, V.scalar, Nat.reduceAdd, Nat.reduceLeDiff, and_self, List.length_cons, List.length_nil, List.take_succ_cons, List.take_zero, List.drop_succ_cons, List.drop_zero, Nat.le_refl, List.set_cons_zero, List.getD_cons_zero, Nat.zero_add, Nat.add_zero, ti_bool, ov_int, fn_some, h6, h17, h18, h19, hE, rset_rset, Nat.zero_lt_succ, c31]
      done
    by_cases c3 : -2 ≤ n.al ∧ n.al ≤ 2
    case neg =>
      rw [errL_e (okN_p c1 (fun z => c3 z.2.1)) (by decide)]
      simp (config := { maxSteps := 10000000 }) (disch := omega) only [↓G_seq, ↓G_skip, ↓G_ret, ↓G_region, ↓G_block, ↓G_cond, ↓G_ops_nil, ↓G_op, Gv_some, ↓G_gop, Gw_ff, Gw_ft, Gc_true, Gc_false, dec_t, dec_f, killAll, ↓get_setS, ↓get_setN, evalOp, ev, evs, rget_rset, b_lss, one, Option.map_some, Option.bind_some, asB, finish, resVs, resV, outVs, ownsLast, tupOf, callV, V.shift, V.shifts, List.append_nil, List.nil_append, List.cons_append, List.all_cons, List.all_nil, Bool.and_self, List.getElem?_cons_zero, List.getElem?_cons_succ, Nat.reduceEqDiff, ↓reduceIte, Nat.succ_ne_self, Bool.not_true, Bool.not_false, bne_self_eq_false, Bool.false_eq_true, Int.reduceNeg, Int.reduceAdd, pick3, V.cells, splice, addOff, loadV, storeV, Ab.rowAt, V.scalar, Nat.reduceAdd, Nat.reduceLeDiff, and_self, List.length_cons, List.length_nil, List.take_succ_cons, List.take_zero, List.drop_succ_cons, List.drop_zero, Nat.le_refl, List.set_cons_zero, List.getD_cons_zero, Nat.zero_add, Nat.add_zero, ti_bool, ov_int, fn_some, h6, h17, h18, h19, hE, rset_rset, Nat.zero_lt_succ, c31]
      done
    by_cases c4 : -1 ≤ n.o ∧ n.o ≤ 9
    case neg =>
      rw [errL_e (okN_p c1 (fun z => c4 z.2.2)) (by decide)]
      simp (config := { maxSteps := 10000000 }) (disch := omega) only [↓G_seq, ↓G_skip, ↓G_ret, ↓G_region, ↓G_block, ↓G_cond, ↓G_ops_nil, ↓G_op, Gv_some, ↓G_gop, Gw_ff, Gc_true, Gc_false, dec_t, dec_f, killAll, ↓get_setS, ↓get_setN, evalOp, ev, evs, rget_rset, b_lss, one, Option.map_some, Option.bind_some, asB, finish, resVs, resV, outVs, ownsLast, tupOf, callV, V.shift, V.shifts, List.append_nil, List.nil_append, List.cons_append, List.all_cons, List.all_nil, Bool.and_self, List.getElem?_cons_zero, List.getElem?_cons_succ, Nat.reduceEqDiff, ↓reduceIte, Nat.succ_ne_self, Bool.not_true, Bool.not_false, bne_self_eq_false, Bool.false_eq_true, Int.reduceNeg, Int.reduceAdd, pick3, V.cells, splice, addOff, loadV, storeV, Ab.rowAt, V.scalar, Nat.reduceAdd, Nat.reduceLeDiff, and_self, List.length_cons, List.length_nil, List.take_succ_cons, List.take_zero, List.drop_succ_cons, List.drop_zero, Nat.le_refl, List.set_cons_zero, List.getD_cons_zero, Nat.zero_add, Nat.add_zero, ti_bool, ov_int, fn_some, h6, h17, h18, h19, hE, rset_rset, Nat.zero_lt_succ, c31]
      done
    by_cases c5 : 0 ≤ n.sh ∧ n.sh ≤ 2
    case neg =>
      rw [errL_e (okN_k c1 ⟨c2, c3, c4⟩ c5) (by decide)]
      simp (config := { maxSteps := 10000000 }) (disch := omega) only [↓G_seq, ↓G_skip, ↓G_ret, ↓G_region, ↓G_block, ↓G_cond, ↓G_ops_nil, ↓G_op, Gv_some, ↓G_gop, Gw_ff, Gc_true, Gc_false, dec_t, dec_f, killAll, ↓get_setS, ↓get_setN, evalOp, ev, evs, rget_rset, b_lss, one, Option.map_some, Option.bind_some, asB, finish, resVs, resV, outVs, ownsLast, tupOf, callV, V.shift, V.shifts, List.append_nil, List.nil_append, List.cons_append, List.all_cons, List.all_nil, Bool.and_self, List.getElem?_cons_zero, List.getElem?_cons_succ, Nat.reduceEqDiff, ↓reduceIte, Nat.succ_ne_self, Bool.not_true, Bool.not_false, bne_self_eq_false, Bool.false_eq_true, Int.reduceNeg, Int.reduceAdd, pick3, V.cells, splice, addOff, loadV, storeV, Ab.rowAt, V.scalar, Nat.reduceAdd, Nat.reduceLeDiff, and_self, List.length_cons, List.length_nil, List.take_succ_cons, List.take_zero, List.drop_succ_cons, List.drop_zero, Nat.le_refl, List.set_cons_zero, List.getD_cons_zero, Nat.zero_add, Nat.add_zero, ti_bool, ov_int, fn_some, h6, h17, h18, h19, hE, rset_rset, Nat.zero_lt_succ, c31]
      done
    rw [errL_0 (okN_ok c1 ⟨c2, c3, c4⟩ c5)]
    simp (config := { maxSteps := 10000000 }) (disch := omega) only [↓G_seq, ↓G_skip, ↓G_blk, ↓G_region, ↓G_block, ↓G_cond, ↓G_ops_nil, ↓G_op, Gv_some, ↓G_gop, Gw_ff, Gc_true, Gc_false, dec_t, dec_f, killAll, ↓get_setS, ↓get_setN, evalOp, ev, evs, rget_rset, b_add, b_lss, wrap_i64, one, Option.map_some, Option.bind_some, asB, callV, V.shift, V.shifts, List.append_nil, List.nil_append, List.cons_append, List.all_cons, List.all_nil, Bool.and_self, List.getElem?_cons_zero, List.getElem?_cons_succ, Nat.reduceEqDiff, ↓reduceIte, Nat.succ_ne_self, Bool.not_true, bne_self_eq_false, Bool.false_eq_true, Int.reduceNeg, Int.reduceAdd, pick3, V.cells, splice, addOff, loadV, storeV, Ab.rowAt, V.scalar, Nat.reduceAdd, Nat.reduceLeDiff, and_self, List.length_cons, List.length_nil, List.take_succ_cons, List.take_zero, List.drop_succ_cons, List.drop_zero, Nat.le_refl, List.set_cons_zero, List.getD_cons_zero, Nat.zero_add, Nat.add_zero, ti_bool, h6, h17, h18, h19, hE, rset_rset, Nat.zero_lt_succ, c31]
    refine ih (i + 1) n.at_ _ _ e2 (by omega) ?_ ?_ ?_ ?_
    all_goals simp (config := { maxSteps := 10000000 }) (disch := omega) only [↓get_setS, ↓get_setN, List.getElem?_cons_zero, List.getElem?_cons_succ, Nat.reduceEqDiff, ↓reduceIte, Nat.succ_ne_self, h17, h18]
    all_goals congr 1

theorem guardR_len {f n : Int} (h : guardR f n = 0) : (-7 ≤ f ∧ f ≤ 7) ∧ n ≤ 2560 := by
  unfold guardR at h
  split at h
  · cases h
  split at h
  · cases h
  · omega

theorem c27 (f : Int) {v : V} {l : List Nt} (hv : SlV 6 v (E6 l)) : call tbl 27 [.i f, v] H = some (.i (errR f l)) := by
  refine (call_start (show tbl 27 = some a27 from rfl)).trans ?_
  have hlen := hv.len
  rw [E6_len] at hlen
  unfold errR
  have h35 := fun H => c35 (H := H) f (l.length : Nat)
  by_cases h : guardR f (l.length : Nat) = 0
  · rw [h] at h35
    have hb := guardR_len h
    rw [if_neg (fun z => z h)]
    unfold a27
    simp (config := { maxSteps := 10000000 }) (disch := omega) only [↓G_seq, ↓G_skip, ↓G_region, ↓G_block, ↓G_cond, ↓G_ops_nil, ↓G_op, Gv_some, Gc_false, killAll, ↓get_setS, evalOp, ev, evs, Ab.get, b_neq, one, Option.map_some, callV, V.shift, V.shifts, List.append_nil, List.getElem?_cons_zero, List.getElem?_cons_succ, Nat.reduceEqDiff, reduceCtorEq, ↓reduceIte, Nat.succ_ne_self, decide_true, Bool.not_true, bne_self_eq_false, Int.reduceNeg, ti_int, hlen, h35]
    refine loop27 (l := l) (by omega) hv (fun fr' L' => ?_) l 0 0 _ _ rfl (by omega) ?_ ?_ ?_ ?_
    all_goals simp (config := { maxSteps := 10000000 }) (disch := omega) only [↓G_seq, ↓G_ret, ↓G_region, ↓Gx_blk, ↓G_ops_nil, ↓G_op, Gv_some, killAll, ↓get_setS, evalOp, ev, Option.map_some, Option.bind_some, finish, resVs, resV, outVs, ownsLast, tupOf, List.all_nil, List.getElem?_cons_zero, List.getElem?_cons_succ, Nat.reduceEqDiff, ↓reduceIte, Nat.succ_ne_self, Int.cast_ofNat_Int, ov_int, fn_some]
  · rw [if_pos h]
    generalize guardR f (l.length : Nat) = g at *
    unfold a27
    simp (config := { maxSteps := 10000000 }) (disch := omega) only [↓G_seq, ↓G_ret, ↓G_region, ↓G_cond, ↓G_ops_nil, ↓G_op, Gv_some, Gc_true, dec_f, killAll, ↓get_setS, evalOp, ev, evs, Ab.get, b_neq, one, Option.map_some, Option.bind_some, finish, resVs, resV, outVs, ownsLast, tupOf, callV, V.shift, V.shifts, List.append_nil, List.all_nil, List.getElem?_cons_zero, List.getElem?_cons_succ, Nat.reduceEqDiff, reduceCtorEq, ↓reduceIte, Nat.succ_ne_self, Bool.not_false, bne_self_eq_false, Int.reduceNeg, ti_int, ov_int, fn_some, hlen, h35]

/-- The tick before the i-th note. -/
def prev (l : List Nt) (i : Nat) : Int := match i with | 0 => 0 | i + 1 => match l[i]? with | some n => n.at_ | none => 0

theorem body16 {k : List KI} {r : Option V} {v : V} {l : List Nt} {n : Nt} {i : Nat} {fr : List V} {L : List Row} (hl : l.length ≤ 4096) (hlen : lenV v = some (.i (l.length : Nat))) (hi : i < l.length) (hE : elemV 6 v (.i (i : Nat)) = some (.eptr [.i n.at_, .i n.s, .i n.al, .i n.o, .bool n.h, .i n.sh] 0))
    (z : ¬ n.at_ < 0) (y : ((i : Int) ≤ 0) ∨ (0 < (i : Int) ∧ ∃ p : Nt, elemV 6 v (.i ((i : Int) - 1)) = some (.eptr [.i p.at_, .i p.s, .i p.al, .i p.o, .bool p.h, .i p.sh] 0) ∧ ¬ n.at_ < p.at_))
    (h1 : Ab.get fr 1 = v) (h5 : Ab.get fr 5 = .i (i : Nat)) (hr : inN n → 0 ≤ n.sh ∧ n.sh ≤ 2 → ∀ fr' L', Ab.get fr' 1 = v → Ab.get fr' 5 = .i ((i : Nat) + 1) → G tbl H [.tmp 4] k fr' L' = r) :
    G tbl H [.tmp 4] (.code ( (.seq ( (.seq ( .region [] [ ⟨some 16, .mv (.t 5), none⟩, ⟨some 17, .mv (.t 1), none⟩, ⟨some 18, .len (.t 17), none⟩, ⟨some 19, .bin .lss (.t 16) (.t 18), none⟩]) ( (.cond (.t 19) ( .skip) ( .exit 0))))) ( (.seq ( (.block 1 ( (.seq ( (.seq ( .region [] [ ⟨some 22, .mv (.t 1), none⟩, ⟨some 23, .mv (.t 5), none⟩, ⟨some 24, .elemAddr 6 (.t 22) (.t 23), none⟩, ⟨some 25, .fieldAddr 0 (.t 24), none⟩, ⟨some 26, .load false 1 (.t 25), none⟩, ⟨some 27, .bin .lss (.t 26) (.c (.int .i64 0)), none⟩, ⟨some 28, .mv (.t 27), none⟩, ⟨some 29, .mv (.t 5), some (28, false)⟩, ⟨some 30, .bin .gtr (.t 29) (.c (.int .i64 0)), some (28, false)⟩, ⟨some 31, .mv (.t 30), some (28, false)⟩, ⟨some 32, .mv (.t 1), some (31, true)⟩, ⟨some 33, .mv (.t 5), some (31, true)⟩, ⟨some 34, .elemAddr 6 (.t 32) (.t 33), some (31, true)⟩, ⟨some 35, .fieldAddr 0 (.t 34), some (31, true)⟩, ⟨some 36, .load false 1 (.t 35), some (31, true)⟩, ⟨some 37, .mv (.t 1), some (31, true)⟩, ⟨some 38, .mv (.t 5), some (31, true)⟩, ⟨some 39, .bin .sub (.t 38) (.c (.int .i64 1)), some (31, true)⟩, ⟨some 40, .elemAddr 6 (.t 37) (.t 39), some (31, true)⟩, ⟨some 41, .fieldAddr 0 (.t 40), some (31, true)⟩, ⟨some 42, .load false 1 (.t 41), some (31, true)⟩, ⟨some 43, .bin .lss (.t 36) (.t 42), some (31, true)⟩, ⟨some 44, .pick (.t 31) (.t 43) (.c (.bool false)), some (28, false)⟩, ⟨some 45, .pick (.t 28) (.c (.bool true)) (.t 44), none⟩]) ( (.cond (.t 45) ( (.seq ( .region [] [ ⟨some 4, .mv (.c (.int .i64 25)), none⟩]) ( .ret))) ( .skip))))) ( (.seq ( .region [] [ ⟨some 46, .mv (.t 1), none⟩, ⟨some 47, .mv (.t 5), none⟩, ⟨some 48, .elemAddr 6 (.t 46) (.t 47), none⟩, ⟨some 49, .fieldAddr 1 (.t 48), none⟩, ⟨some 50, .load true 3 (.t 49), none⟩, ⟨some 6, .alloc 1 [(.int .i64 0), (.int .i64 0), (.int .i64 0)], none⟩, ⟨none, .store 3 (.t 6) (.t 50), none⟩]) ( (.seq ( (.seq ( .region [] [ ⟨some 51, .fieldAddr 0 (.t 6), none⟩, ⟨some 52, .load false 1 (.t 51), none⟩, ⟨some 53, .bin .lss (.t 52) (.c (.int .i64 0)), none⟩, ⟨some 54, .mv (.t 53), none⟩, ⟨some 55, .fieldAddr 0 (.t 6), some (54, false)⟩, ⟨some 56, .load false 1 (.t 55), some (54, false)⟩, ⟨some 57, .bin .gtr (.t 56) (.c (.int .i64 6)), some (54, false)⟩, ⟨some 58, .pick (.t 54) (.c (.bool true)) (.t 57), none⟩, ⟨some 59, .mv (.t 58), none⟩, ⟨some 60, .fieldAddr 1 (.t 6), some (59, false)⟩, ⟨some 61, .load false 1 (.t 60), some (59, false)⟩, ⟨some 62, .bin .lss (.t 61) (.c (.int .i64 (-2))), some (59, false)⟩, ⟨some 63, .pick (.t 59) (.c (.bool true)) (.t 62), none⟩, ⟨some 64, .mv (.t 63), none⟩, ⟨some 65, .fieldAddr 1 (.t 6), some (64, false)⟩, ⟨some 66, .load false 1 (.t 65), some (64, false)⟩, ⟨some 67, .bin .gtr (.t 66) (.c (.int .i64 2)), some (64, false)⟩, ⟨some 68, .pick (.t 64) (.c (.bool true)) (.t 67), none⟩, ⟨some 69, .mv (.t 68), none⟩, ⟨some 70, .fieldAddr 2 (.t 6), some (69, false)⟩, ⟨some 71, .load false 1 (.t 70), some (69, false)⟩, ⟨some 72, .bin .lss (.t 71) (.c (.int .i64 (-1))), some (69, false)⟩, ⟨some 73, .pick (.t 69) (.c (.bool true)) (.t 72), none⟩, ⟨some 74, .mv (.t 73), none⟩, ⟨some 75, .fieldAddr 2 (.t 6), some (74, false)⟩, ⟨some 76, .load false 1 (.t 75), some (74, false)⟩, ⟨some 77, .bin .gtr (.t 76) (.c (.int .i64 9)), some (74, false)⟩, ⟨some 78, .pick (.t 74) (.c (.bool true)) (.t 77), none⟩]) ( (.cond (.t 78) ( (.seq ( .region [] [ ⟨some 4, .mv (.c (.int .i64 18)), none⟩]) ( .ret))) ( .skip))))) ( (.seq ( .region [] [ ⟨some 79, .mv (.t 1), none⟩, ⟨some 80, .mv (.t 5), none⟩, ⟨some 81, .elemAddr 6 (.t 79) (.t 80), none⟩, ⟨some 82, .fieldAddr 5 (.t 81), none⟩, ⟨some 83, .load false 1 (.t 82), none⟩, ⟨some 84, .bin .lss (.t 83) (.c (.int .i64 0)), none⟩, ⟨some 85, .mv (.t 84), none⟩, ⟨some 86, .mv (.t 1), some (85, false)⟩, ⟨some 87, .mv (.t 5), some (85, false)⟩, ⟨some 88, .elemAddr 6 (.t 86) (.t 87), some (85, false)⟩, ⟨some 89, .fieldAddr 5 (.t 88), some (85, false)⟩, ⟨some 90, .load false 1 (.t 89), some (85, false)⟩, ⟨some 91, .bin .gtr (.t 90) (.c (.int .i64 2)), some (85, false)⟩, ⟨some 92, .pick (.t 85) (.c (.bool true)) (.t 91), none⟩]) ( (.cond (.t 92) ( (.seq ( .region [] [ ⟨some 4, .mv (.c (.int .i64 11)), none⟩]) ( .ret))) ( .skip))))))))))))) ( .region [] [ ⟨some 20, .mv (.t 5), none⟩, ⟨some 21, .bin .add (.t 20) (.c (.int .i64 1)), none⟩, ⟨some 5, .mv (.t 21), none⟩]))))) :: k) fr L = if inN n then (if 0 ≤ n.sh ∧ n.sh ≤ 2 then r else some (.i 11)) else some (.i 18) := by
  have conc : (¬ inN n ∧ ((n.s < 0 ∨ 6 < n.s) ∨ ((0 ≤ n.s ∧ n.s ≤ 6) ∧ (n.al < -2 ∨ 2 < n.al)) ∨ ((0 ≤ n.s ∧ n.s ≤ 6) ∧ (-2 ≤ n.al ∧ n.al ≤ 2) ∧ (n.o < -1 ∨ 9 < n.o)))) ∨ (inN n ∧ (0 ≤ n.s ∧ n.s ≤ 6) ∧ (-2 ≤ n.al ∧ n.al ≤ 2) ∧ (-1 ≤ n.o ∧ n.o ≤ 9)) := by
    unfold inN
    omega
  rcases conc with ⟨q, w⟩ | ⟨q, w⟩
  · rw [if_neg q]
    clear hr
    rcases y with y | ⟨y, p, hp1, hp2⟩
    · rcases w with (w | w) | ⟨w1, w | w⟩ | ⟨w1, w2, w | w⟩
      all_goals simp (config := { maxSteps := 10000000 }) (disch := omega) only [↓G_seq, ↓G_skip, ↓G_ret, ↓G_region, ↓G_block, ↓G_cond, ↓G_ops_nil, ↓G_op, Gv_some, ↓G_gop, Gw_ff, Gw_tf, Gw_ft, Gc_true, Gc_false, dec_t, dec_f, killAll, ↓get_setS, ↓get_setN, evalOp, ev, rget_rset, b_lss, b_gtr, one, Option.map_some, Option.bind_some, asB, finish, resVs, resV, outVs, ownsLast, tupOf, V.shift, List.nil_append, List.cons_append, List.all_cons, List.all_nil, Bool.and_self, List.getElem?_cons_zero, List.getElem?_cons_succ, Nat.reduceEqDiff, ↓reduceIte, Nat.succ_ne_self, Bool.false_eq_true, Int.reduceNeg, Int.reduceAdd, pick3, V.cells, splice, addOff, loadV, storeV, Ab.rowAt, V.scalar, Nat.reduceAdd, Nat.reduceLeDiff, and_self, List.length_cons, List.length_nil, List.take_succ_cons, List.take_zero, List.drop_succ_cons, List.drop_zero, Nat.le_refl, List.set_cons_zero, List.getD_cons_zero, Nat.zero_add, Nat.add_zero, ov_int, fn_some, h1, h5, hlen, hE, rset_rset, Nat.zero_lt_succ]
    · rcases w with (w | w) | ⟨w1, w | w⟩ | ⟨w1, w2, w | w⟩
      all_goals simp (config := { maxSteps := 10000000 }) (disch := omega) only [↓G_seq, ↓G_skip, ↓G_ret, ↓G_region, ↓G_block, ↓G_cond, ↓G_ops_nil, ↓G_op, Gv_some, ↓G_gop, Gw_tt, Gw_ff, Gw_ft, Gc_true, Gc_false, dec_t, dec_f, killAll, ↓get_setS, ↓get_setN, evalOp, ev, rget_rset, b_sub, b_lss, b_gtr, wrap_i64, one, Option.map_some, Option.bind_some, asB, finish, resVs, resV, outVs, ownsLast, tupOf, V.shift, List.nil_append, List.cons_append, List.all_cons, List.all_nil, Bool.and_self, List.getElem?_cons_zero, List.getElem?_cons_succ, Nat.reduceEqDiff, ↓reduceIte, Nat.succ_ne_self, Bool.false_eq_true, Int.reduceNeg, Int.reduceAdd, pick3, V.cells, splice, addOff, loadV, storeV, Ab.rowAt, V.scalar, Nat.reduceAdd, Nat.reduceLeDiff, and_self, List.length_cons, List.length_nil, List.take_succ_cons, List.take_zero, List.drop_succ_cons, List.drop_zero, Nat.le_refl, List.set_cons_zero, List.getD_cons_zero, Nat.zero_add, Nat.add_zero, ov_int, fn_some, h1, h5, hlen, hE, rset_rset, Nat.zero_lt_succ, hp1]
  · rw [if_pos q]
    obtain ⟨w1, w2, w3⟩ := w
    by_cases u : 0 ≤ n.sh ∧ n.sh ≤ 2
    · rw [if_pos u]
      have hr' := hr q u
      clear hr
      rcases y with y | ⟨y, p, hp1, hp2⟩
      · simp (config := { maxSteps := 10000000 }) (disch := omega) only [↓G_seq, ↓G_skip, ↓G_blk, ↓G_region, ↓G_block, ↓G_cond, ↓G_ops_nil, ↓G_op, Gv_some, ↓G_gop, Gw_ff, Gw_tf, Gc_true, Gc_false, dec_t, dec_f, killAll, ↓get_setS, ↓get_setN, evalOp, ev, rget_rset, b_add, b_lss, b_gtr, wrap_i64, one, Option.map_some, Option.bind_some, asB, V.shift, List.nil_append, List.cons_append, List.all_cons, List.all_nil, Bool.and_self, List.getElem?_cons_zero, List.getElem?_cons_succ, Nat.reduceEqDiff, ↓reduceIte, Nat.succ_ne_self, Bool.false_eq_true, Int.reduceNeg, Int.reduceAdd, pick3, V.cells, splice, addOff, loadV, storeV, Ab.rowAt, V.scalar, Nat.reduceAdd, Nat.reduceLeDiff, and_self, List.length_cons, List.length_nil, List.take_succ_cons, List.take_zero, List.drop_succ_cons, List.drop_zero, Nat.le_refl, List.set_cons_zero, List.getD_cons_zero, Nat.zero_add, Nat.add_zero, h1, h5, hlen, hE, rset_rset, Nat.zero_lt_succ]
        refine hr' _ _ ?_ ?_
        all_goals simp (config := { maxSteps := 10000000 }) (disch := omega) only [↓get_setS, ↓get_setN, List.getElem?_cons_zero, List.getElem?_cons_succ, Nat.reduceEqDiff, ↓reduceIte, h1]
      · simp (config := { maxSteps := 10000000 }) (disch := omega) only [↓G_seq, ↓G_skip, ↓G_blk, ↓G_region, ↓G_block, ↓G_cond, ↓G_ops_nil, ↓G_op, Gv_some, ↓G_gop, Gw_tt, Gw_ff, Gc_true, Gc_false, dec_t, dec_f, killAll, ↓get_setS, ↓get_setN, evalOp, ev, rget_rset, b_add, b_sub, b_lss, b_gtr, wrap_i64, one, Option.map_some, Option.bind_some, asB, V.shift, List.nil_append, List.cons_append, List.all_cons, List.all_nil, Bool.and_self, List.getElem?_cons_zero, List.getElem?_cons_succ, Nat.reduceEqDiff, ↓reduceIte, Nat.succ_ne_self, Bool.false_eq_true, Int.reduceNeg, Int.reduceAdd, pick3, V.cells, splice, addOff, loadV, storeV, Ab.rowAt, V.scalar, Nat.reduceAdd, Nat.reduceLeDiff, and_self, List.length_cons, List.length_nil, List.take_succ_cons, List.take_zero, List.drop_succ_cons, List.drop_zero, Nat.le_refl, List.set_cons_zero, List.getD_cons_zero, Nat.zero_add, Nat.add_zero, h1, h5, hlen, hE, rset_rset, Nat.zero_lt_succ, hp1]
        refine hr' _ _ ?_ ?_
        all_goals simp (config := { maxSteps := 10000000 }) (disch := omega) only [↓get_setS, ↓get_setN, List.getElem?_cons_zero, List.getElem?_cons_succ, Nat.reduceEqDiff, ↓reduceIte, h1]
    · rw [if_neg u]
      clear hr
      have u' : n.sh < 0 ∨ 2 < n.sh := by omega
      clear u
      rcases y with y | ⟨y, p, hp1, hp2⟩
      · rcases u' with u' | u'
        all_goals simp (config := { maxSteps := 10000000 }) (disch := omega) only [↓G_seq, ↓G_skip, ↓G_ret, ↓G_region, ↓G_block, ↓G_cond, ↓G_ops_nil, ↓G_op, Gv_some, ↓G_gop, Gw_ff, Gw_tf, Gw_ft, Gc_true, Gc_false, dec_t, dec_f, killAll, ↓get_setS, ↓get_setN, evalOp, ev, rget_rset, b_lss, b_gtr, one, Option.map_some, Option.bind_some, asB, finish, resVs, resV, outVs, ownsLast, tupOf, V.shift, List.nil_append, List.cons_append, List.all_cons, List.all_nil, Bool.and_self, List.getElem?_cons_zero, List.getElem?_cons_succ, Nat.reduceEqDiff, ↓reduceIte, Nat.succ_ne_self, Bool.false_eq_true, Int.reduceNeg, Int.reduceAdd, pick3, V.cells, splice, addOff, loadV, storeV, Ab.rowAt, V.scalar, Nat.reduceAdd, Nat.reduceLeDiff, and_self, List.length_cons, List.length_nil, List.take_succ_cons, List.take_zero, List.drop_succ_cons, List.drop_zero, Nat.le_refl, List.set_cons_zero, List.getD_cons_zero, Nat.zero_add, Nat.add_zero, ov_int, fn_some, h1, h5, hlen, hE, rset_rset, Nat.zero_lt_succ]
      · rcases u' with u' | u'
        all_goals simp (config := { maxSteps := 10000000 }) (disch := omega) only [↓G_seq, ↓G_skip, ↓G_ret, ↓G_region, ↓G_block, ↓G_cond, ↓G_ops_nil, ↓G_op, Gv_some, ↓G_gop, Gw_tt, Gw_ff, Gw_ft, Gc_true, Gc_false, dec_t, dec_f, killAll, ↓get_setS, ↓get_setN, evalOp, ev, rget_rset, b_sub, b_lss, b_gtr, wrap_i64, one, Option.map_some, Option.bind_some, asB, finish, resVs, resV, outVs, ownsLast, tupOf, V.shift, List.nil_append, List.cons_append, List.all_cons, List.all_nil, Bool.and_self, List.getElem?_cons_zero, List.getElem?_cons_succ, Nat.reduceEqDiff, ↓reduceIte, Nat.succ_ne_self, Bool.false_eq_true, Int.reduceNeg, Int.reduceAdd, pick3, V.cells, splice, addOff, loadV, storeV, Ab.rowAt, V.scalar, Nat.reduceAdd, Nat.reduceLeDiff, and_self, List.length_cons, List.length_nil, List.take_succ_cons, List.take_zero, List.drop_succ_cons, List.drop_zero, Nat.le_refl, List.set_cons_zero, List.getD_cons_zero, Nat.zero_add, Nat.add_zero, ov_int, fn_some, h1, h5, hlen, hE, rset_rset, Nat.zero_lt_succ, hp1]

theorem loop16 {k : List KI} {v : V} {l : List Nt} (hl : l.length ≤ 4096) (hv : SlV 6 v (E6 l))
    (hx : ∀ fr' L', Gx tbl H [.tmp 4] 0 k fr' L' = some (.i 0)) :
    ∀ (t : List Nt) (i : Nat) (fr : List V) (L : List Row), l.drop i = t → i ≤ l.length → 0 ≤ prev l i → Ab.get fr 1 = v → Ab.get fr 5 = .i (i : Nat) →
    G tbl H [.tmp 4] (.code (.loop ( (.seq ( (.seq ( .region [] [ ⟨some 16, .mv (.t 5), none⟩, ⟨some 17, .mv (.t 1), none⟩, ⟨some 18, .len (.t 17), none⟩, ⟨some 19, .bin .lss (.t 16) (.t 18), none⟩]) ( (.cond (.t 19) ( .skip) ( .exit 0))))) ( (.seq ( (.block 1 ( (.seq ( (.seq ( .region [] [ ⟨some 22, .mv (.t 1), none⟩, ⟨some 23, .mv (.t 5), none⟩, ⟨some 24, .elemAddr 6 (.t 22) (.t 23), none⟩, ⟨some 25, .fieldAddr 0 (.t 24), none⟩, ⟨some 26, .load false 1 (.t 25), none⟩, ⟨some 27, .bin .lss (.t 26) (.c (.int .i64 0)), none⟩, ⟨some 28, .mv (.t 27), none⟩, ⟨some 29, .mv (.t 5), some (28, false)⟩, ⟨some 30, .bin .gtr (.t 29) (.c (.int .i64 0)), some (28, false)⟩, ⟨some 31, .mv (.t 30), some (28, false)⟩, ⟨some 32, .mv (.t 1), some (31, true)⟩, ⟨some 33, .mv (.t 5), some (31, true)⟩, ⟨some 34, .elemAddr 6 (.t 32) (.t 33), some (31, true)⟩, ⟨some 35, .fieldAddr 0 (.t 34), some (31, true)⟩, ⟨some 36, .load false 1 (.t 35), some (31, true)⟩, ⟨some 37, .mv (.t 1), some (31, true)⟩, ⟨some 38, .mv (.t 5), some (31, true)⟩, ⟨some 39, .bin .sub (.t 38) (.c (.int .i64 1)), some (31, true)⟩, ⟨some 40, .elemAddr 6 (.t 37) (.t 39), some (31, true)⟩, ⟨some 41, .fieldAddr 0 (.t 40), some (31, true)⟩, ⟨some 42, .load false 1 (.t 41), some (31, true)⟩, ⟨some 43, .bin .lss (.t 36) (.t 42), some (31, true)⟩, ⟨some 44, .pick (.t 31) (.t 43) (.c (.bool false)), some (28, false)⟩, ⟨some 45, .pick (.t 28) (.c (.bool true)) (.t 44), none⟩]) ( (.cond (.t 45) ( (.seq ( .region [] [ ⟨some 4, .mv (.c (.int .i64 25)), none⟩]) ( .ret))) ( .skip))))) ( (.seq ( .region [] [ ⟨some 46, .mv (.t 1), none⟩, ⟨some 47, .mv (.t 5), none⟩, ⟨some 48, .elemAddr 6 (.t 46) (.t 47), none⟩, ⟨some 49, .fieldAddr 1 (.t 48), none⟩, ⟨some 50, .load true 3 (.t 49), none⟩, ⟨some 6, .alloc 1 [(.int .i64 0), (.int .i64 0), (.int .i64 0)], none⟩, ⟨none, .store 3 (.t 6) (.t 50), none⟩]) ( (.seq ( (.seq ( .region [] [ ⟨some 51, .fieldAddr 0 (.t 6), none⟩, ⟨some 52, .load false 1 (.t 51), none⟩, ⟨some 53, .bin .lss (.t 52) (.c (.int .i64 0)), none⟩, ⟨some 54, .mv (.t 53), none⟩, ⟨some 55, .fieldAddr 0 (.t 6), some (54, false)⟩, ⟨some 56, .load false 1 (.t 55), some (54, false)⟩, ⟨some 57, .bin .gtr (.t 56) (.c (.int .i64 6)), some (54, false)⟩, ⟨some 58, .pick (.t 54) (.c (.bool true)) (.t 57), none⟩, ⟨some 59, .mv (.t 58), none⟩, ⟨some 60, .fieldAddr 1 (.t 6), some (59, false)⟩, ⟨some 61, .load false 1 (.t 60), some (59, false)⟩, ⟨some 62, .bin .lss (.t 61) (.c (.int .i64 (-2))), some (59, false)⟩, ⟨some 63, .pick (.t 59) (.c (.bool true)) (.t 62), none⟩, ⟨some 64, .mv (.t 63), none⟩, ⟨some 65, .fieldAddr 1 (.t 6), some (64, false)⟩, ⟨some 66, .load false 1 (.t 65), some (64, false)⟩, ⟨some 67, .bin .gtr (.t 66) (.c (.int .i64 2)), some (64, false)⟩, ⟨some 68, .pick (.t 64) (.c (.bool true)) (.t 67), none⟩, ⟨some 69, .mv (.t 68), none⟩, ⟨some 70, .fieldAddr 2 (.t 6), some (69, false)⟩, ⟨some 71, .load false 1 (.t 70), some (69, false)⟩, ⟨some 72, .bin .lss (.t 71) (.c (.int .i64 (-1))), some (69, false)⟩, ⟨some 73, .pick (.t 69) (.c (.bool true)) (.t 72), none⟩, ⟨some 74, .mv (.t 73), none⟩, ⟨some 75, .fieldAddr 2 (.t 6), some (74, false)⟩, ⟨some 76, .load false 1 (.t 75), some (74, false)⟩, ⟨some 77, .bin .gtr (.t 76) (.c (.int .i64 9)), some (74, false)⟩, ⟨some 78, .pick (.t 74) (.c (.bool true)) (.t 77), none⟩]) ( (.cond (.t 78) ( (.seq ( .region [] [ ⟨some 4, .mv (.c (.int .i64 18)), none⟩]) ( .ret))) ( .skip))))) ( (.seq ( .region [] [ ⟨some 79, .mv (.t 1), none⟩, ⟨some 80, .mv (.t 5), none⟩, ⟨some 81, .elemAddr 6 (.t 79) (.t 80), none⟩, ⟨some 82, .fieldAddr 5 (.t 81), none⟩, ⟨some 83, .load false 1 (.t 82), none⟩, ⟨some 84, .bin .lss (.t 83) (.c (.int .i64 0)), none⟩, ⟨some 85, .mv (.t 84), none⟩, ⟨some 86, .mv (.t 1), some (85, false)⟩, ⟨some 87, .mv (.t 5), some (85, false)⟩, ⟨some 88, .elemAddr 6 (.t 86) (.t 87), some (85, false)⟩, ⟨some 89, .fieldAddr 5 (.t 88), some (85, false)⟩, ⟨some 90, .load false 1 (.t 89), some (85, false)⟩, ⟨some 91, .bin .gtr (.t 90) (.c (.int .i64 2)), some (85, false)⟩, ⟨some 92, .pick (.t 85) (.c (.bool true)) (.t 91), none⟩]) ( (.cond (.t 92) ( (.seq ( .region [] [ ⟨some 4, .mv (.c (.int .i64 11)), none⟩]) ( .ret))) ( .skip))))))))))))) ( .region [] [ ⟨some 20, .mv (.t 5), none⟩, ⟨some 21, .bin .add (.t 20) (.c (.int .i64 1)), none⟩, ⟨some 5, .mv (.t 21), none⟩])))))) :: k) fr L = some (.i (errL (prev l i) t)) := by
  intro t
  have hlen := hv.len
  rw [E6_len] at hlen
  induction t with
  | nil =>
    intro i fr L ht hi hp h1 h5
    have := drop_nil ht
    refine G_loop.trans ?_
    simp (config := { maxSteps := 10000000 }) (disch := omega) only [↓G_seq, ↓G_exit, ↓G_region, ↓G_cond, ↓Gx_code, ↓G_ops_nil, ↓G_op, Gv_some, Gc_false, dec_f, killAll, ↓get_setS, evalOp, ev, b_lss, one, Option.map_some, List.getElem?_cons_zero, List.getElem?_cons_succ, Nat.reduceEqDiff, ↓reduceIte, Nat.succ_ne_self, Int.reduceNeg, h1, h5, hlen, hx, errL]
  | cons n t ih =>
    intro i fr L ht hi hp h1 h5
    obtain ⟨e1, e2, e3⟩ := drop_cons ht
    have hE := hv.el (E6_get l i n e1)
    have hpn : prev l (i + 1) = n.at_ := by simp [prev, e1]
    have hat : (n.at_ < 0 ∧ n.at_ < prev l i) ∨ (¬ n.at_ < 0 ∧ (i : Int) ≤ 0 ∧ prev l i = 0) ∨ (¬ n.at_ < 0 ∧ 0 < (i : Int) ∧ ∃ p : Nt, elemV 6 v (.i ((i : Int) - 1)) = some (.eptr [.i p.at_, .i p.s, .i p.al, .i p.o, .bool p.h, .i p.sh] 0) ∧ prev l i = p.at_) := by
      by_cases z : n.at_ < 0
      · exact .inl ⟨z, by omega⟩
      · cases i with
        | zero => exact .inr (.inl ⟨z, by simp, rfl⟩)
        | succ j =>
          obtain ⟨p, hp'⟩ : ∃ p, l[j]? = some p := ⟨_, List.getElem?_eq_getElem (by omega)⟩
          refine .inr (.inr ⟨z, by omega, p, ?_, by simp [prev, hp']⟩)
          have := hv.el (E6_get l j p hp')
          rw [show ((j + 1 : Nat) : Int) - 1 = (j : Int) by omega]
          exact this
    have done : ¬ n.at_ < prev l i → ∀ x : Option V, x = (if inN n then (if 0 ≤ n.sh ∧ n.sh ≤ 2 then some (.i (errL n.at_ t)) else some (.i 11)) else some (.i 18)) → x = some (.i (errL (prev l i) (n :: t))) := by
      intro c1 x hx'
      rw [hx']
      by_cases q : inN n
      · rw [if_pos q]
        by_cases u : 0 ≤ n.sh ∧ n.sh ≤ 2
        · rw [if_pos u, errL_0 (okN_ok c1 q u)]
        · rw [if_neg u, errL_e (okN_k c1 q u) (by decide)]
      · rw [if_neg q, errL_e (okN_p c1 q) (by decide)]
    have go : ¬ n.at_ < 0 → inN n → 0 ≤ n.sh ∧ n.sh ≤ 2 → ∀ fr' L', Ab.get fr' 1 = v → Ab.get fr' 5 = .i ((i : Nat) + 1) → G tbl H [.tmp 4] (.code (.loop ( (.seq ( (.seq ( .region [] [ ⟨some 16, .mv (.t 5), none⟩, ⟨some 17, .mv (.t 1), none⟩, ⟨some 18, .len (.t 17), none⟩, ⟨some 19, .bin .lss (.t 16) (.t 18), none⟩]) ( (.cond (.t 19) ( .skip) ( .exit 0))))) ( (.seq ( (.block 1 ( (.seq ( (.seq ( .region [] [ ⟨some 22, .mv (.t 1), none⟩, ⟨some 23, .mv (.t 5), none⟩, ⟨some 24, .elemAddr 6 (.t 22) (.t 23), none⟩, ⟨some 25, .fieldAddr 0 (.t 24), none⟩, ⟨some 26, .load false 1 (.t 25), none⟩, ⟨some 27, .bin .lss (.t 26) (.c (.int .i64 0)), none⟩, ⟨some 28, .mv (.t 27), none⟩, ⟨some 29, .mv (.t 5), some (28, false)⟩, ⟨some 30, .bin .gtr (.t 29) (.c (.int .i64 0)), some (28, false)⟩, ⟨some 31, .mv (.t 30), some (28, false)⟩, ⟨some 32, .mv (.t 1), some (31, true)⟩, ⟨some 33, .mv (.t 5), some (31, true)⟩, ⟨some 34, .elemAddr 6 (.t 32) (.t 33), some (31, true)⟩, ⟨some 35, .fieldAddr 0 (.t 34), some (31, true)⟩, ⟨some 36, .load false 1 (.t 35), some (31, true)⟩, ⟨some 37, .mv (.t 1), some (31, true)⟩, ⟨some 38, .mv (.t 5), some (31, true)⟩, ⟨some 39, .bin .sub (.t 38) (.c (.int .i64 1)), some (31, true)⟩, ⟨some 40, .elemAddr 6 (.t 37) (.t 39), some (31, true)⟩, ⟨some 41, .fieldAddr 0 (.t 40), some (31, true)⟩, ⟨some 42, .load false 1 (.t 41), some (31, true)⟩, ⟨some 43, .bin .lss (.t 36) (.t 42), some (31, true)⟩, ⟨some 44, .pick (.t 31) (.t 43) (.c (.bool false)), some (28, false)⟩, ⟨some 45, .pick (.t 28) (.c (.bool true)) (.t 44), none⟩]) ( (.cond (.t 45) ( (.seq ( .region [] [ ⟨some 4, .mv (.c (.int .i64 25)), none⟩]) ( .ret))) ( .skip))))) ( (.seq ( .region [] [ ⟨some 46, .mv (.t 1), none⟩, ⟨some 47, .mv (.t 5), none⟩, ⟨some 48, .elemAddr 6 (.t 46) (.t 47), none⟩, ⟨some 49, .fieldAddr 1 (.t 48), none⟩, ⟨some 50, .load true 3 (.t 49), none⟩, ⟨some 6, .alloc 1 [(.int .i64 0), (.int .i64 0), (.int .i64 0)], none⟩, ⟨none, .store 3 (.t 6) (.t 50), none⟩]) ( (.seq ( (.seq ( .region [] [ ⟨some 51, .fieldAddr 0 (.t 6), none⟩, ⟨some 52, .load false 1 (.t 51), none⟩, ⟨some 53, .bin .lss (.t 52) (.c (.int .i64 0)), none⟩, ⟨some 54, .mv (.t 53), none⟩, ⟨some 55, .fieldAddr 0 (.t 6), some (54, false)⟩, ⟨some 56, .load false 1 (.t 55), some (54, false)⟩, ⟨some 57, .bin .gtr (.t 56) (.c (.int .i64 6)), some (54, false)⟩, ⟨some 58, .pick (.t 54) (.c (.bool true)) (.t 57), none⟩, ⟨some 59, .mv (.t 58), none⟩, ⟨some 60, .fieldAddr 1 (.t 6), some (59, false)⟩, ⟨some 61, .load false 1 (.t 60), some (59, false)⟩, ⟨some 62, .bin .lss (.t 61) (.c (.int .i64 (-2))), some (59, false)⟩, ⟨some 63, .pick (.t 59) (.c (.bool true)) (.t 62), none⟩, ⟨some 64, .mv (.t 63), none⟩, ⟨some 65, .fieldAddr 1 (.t 6), some (64, false)⟩, ⟨some 66, .load false 1 (.t 65), some (64, false)⟩, ⟨some 67, .bin .gtr (.t 66) (.c (.int .i64 2)), some (64, false)⟩, ⟨some 68, .pick (.t 64) (.c (.bool true)) (.t 67), none⟩, ⟨some 69, .mv (.t 68), none⟩, ⟨some 70, .fieldAddr 2 (.t 6), some (69, false)⟩, ⟨some 71, .load false 1 (.t 70), some (69, false)⟩, ⟨some 72, .bin .lss (.t 71) (.c (.int .i64 (-1))), some (69, false)⟩, ⟨some 73, .pick (.t 69) (.c (.bool true)) (.t 72), none⟩, ⟨some 74, .mv (.t 73), none⟩, ⟨some 75, .fieldAddr 2 (.t 6), some (74, false)⟩, ⟨some 76, .load false 1 (.t 75), some (74, false)⟩, ⟨some 77, .bin .gtr (.t 76) (.c (.int .i64 9)), some (74, false)⟩, ⟨some 78, .pick (.t 74) (.c (.bool true)) (.t 77), none⟩]) ( (.cond (.t 78) ( (.seq ( .region [] [ ⟨some 4, .mv (.c (.int .i64 18)), none⟩]) ( .ret))) ( .skip))))) ( (.seq ( .region [] [ ⟨some 79, .mv (.t 1), none⟩, ⟨some 80, .mv (.t 5), none⟩, ⟨some 81, .elemAddr 6 (.t 79) (.t 80), none⟩, ⟨some 82, .fieldAddr 5 (.t 81), none⟩, ⟨some 83, .load false 1 (.t 82), none⟩, ⟨some 84, .bin .lss (.t 83) (.c (.int .i64 0)), none⟩, ⟨some 85, .mv (.t 84), none⟩, ⟨some 86, .mv (.t 1), some (85, false)⟩, ⟨some 87, .mv (.t 5), some (85, false)⟩, ⟨some 88, .elemAddr 6 (.t 86) (.t 87), some (85, false)⟩, ⟨some 89, .fieldAddr 5 (.t 88), some (85, false)⟩, ⟨some 90, .load false 1 (.t 89), some (85, false)⟩, ⟨some 91, .bin .gtr (.t 90) (.c (.int .i64 2)), some (85, false)⟩, ⟨some 92, .pick (.t 85) (.c (.bool true)) (.t 91), none⟩]) ( (.cond (.t 92) ( (.seq ( .region [] [ ⟨some 4, .mv (.c (.int .i64 11)), none⟩]) ( .ret))) ( .skip))))))))))))) ( .region [] [ ⟨some 20, .mv (.t 5), none⟩, ⟨some 21, .bin .add (.t 20) (.c (.int .i64 1)), none⟩, ⟨some 5, .mv (.t 21), none⟩])))))) :: k) fr' L' = some (.i (errL n.at_ t)) := by
      intro z q u fr' L' g1 g5
      rw [← hpn]
      exact ih (i + 1) fr' L' e2 (by omega) (by omega) g1 (by rw [g5]; congr 1)
    refine G_loop.trans ?_
    rcases hat with ⟨z1, z2⟩ | ⟨z1, z2, z3⟩ | ⟨z1, z2, p, z3, z4⟩
    · rw [errL_e (okN_at z2) (by decide)]
      clear ih go done
      simp (config := { maxSteps := 10000000 }) (disch := omega) only [↓G_seq, ↓G_skip, ↓G_ret, ↓G_region, ↓G_block, ↓G_cond, ↓G_ops_nil, ↓G_op, Gv_some, ↓G_gop, Gw_ft, Gw_tup, Gc_true, dec_t, killAll, ↓get_setS, evalOp, ev, b_lss, one, Option.map_some, Option.bind_some, asB, finish, resVs, resV, outVs, ownsLast, tupOf, List.all_nil, List.getElem?_cons_zero, List.getElem?_cons_succ, Nat.reduceEqDiff, ↓reduceIte, Nat.succ_ne_self, Bool.false_eq_true, Int.reduceNeg, pick3, addOff, loadV, Nat.add_zero, ov_int, fn_some, h1, h5, hlen, hE]
    · exact done (by omega) _ (body16 hl hlen e3 hE z1 (.inl z2) h1 h5 (go z1))
    · by_cases y : n.at_ < prev l i
      · rw [errL_e (okN_at y) (by decide)]
        clear ih go done
        rw [z4] at y
        simp (config := { maxSteps := 10000000 }) (disch := omega) only [↓G_seq, ↓G_skip, ↓G_ret, ↓G_region, ↓G_block, ↓G_cond, ↓G_ops_nil, ↓G_op, Gv_some, ↓G_gop, Gw_tt, Gw_ff, Gc_true, dec_t, dec_f, killAll, ↓get_setS, evalOp, ev, b_sub, b_lss, b_gtr, wrap_i64, one, Option.map_some, Option.bind_some, asB, finish, resVs, resV, outVs, ownsLast, tupOf, List.all_nil, List.getElem?_cons_zero, List.getElem?_cons_succ, Nat.reduceEqDiff, ↓reduceIte, Nat.succ_ne_self, Bool.false_eq_true, Int.reduceNeg, pick3, addOff, loadV, Nat.add_zero, ov_int, fn_some, h1, h5, hlen, hE, z3]
      · exact done y _ (body16 hl hlen e3 hE z1 (.inr ⟨z2, p, z3, by omega⟩) h1 h5 (go z1))

theorem c16 (f : Int) {v : V} {l : List Nt} (hm : l.length ≤ 9223372036854775807) (hv : SlV 6 v (E6 l)) : call tbl 16 [.i f, v] H = some (.i (errR f l)) := by
  refine (call_start (show tbl 16 = some a16 from rfl)).trans ?_
  have hlen := hv.len
  rw [E6_len] at hlen
  by_cases h1 : f < -7
  · rw [errR_e (e := 2) (by unfold guardR; rw [if_pos (.inl h1)]) (by decide)]
    unfold a16
    simp (config := { maxSteps := 10000000 }) (disch := omega) only [↓G_seq, ↓G_ret, ↓G_region, ↓G_cond, ↓G_ops_nil, ↓G_op, Gv_some, ↓G_gop, Gw_ft, Gc_true, dec_t, killAll, ↓get_setS, evalOp, ev, Ab.get, b_lss, one, Option.map_some, Option.bind_some, asB, finish, resVs, resV, outVs, ownsLast, tupOf, List.all_nil, List.getElem?_cons_zero, List.getElem?_cons_succ, Nat.reduceEqDiff, reduceCtorEq, ↓reduceIte, Nat.succ_ne_self, Int.reduceNeg, ov_int, fn_some]
    done
  by_cases h2 : 7 < f
  · rw [errR_e (e := 2) (by unfold guardR; rw [if_pos (.inr h2)]) (by decide)]
    unfold a16
    simp (config := { maxSteps := 10000000 }) (disch := omega) only [↓G_seq, ↓G_ret, ↓G_region, ↓G_cond, ↓G_ops_nil, ↓G_op, Gv_some, ↓G_gop, Gw_ff, Gc_true, dec_t, dec_f, killAll, ↓get_setS, evalOp, ev, Ab.get, b_lss, b_gtr, one, Option.map_some, Option.bind_some, asB, finish, resVs, resV, outVs, ownsLast, tupOf, List.all_nil, List.getElem?_cons_zero, List.getElem?_cons_succ, Nat.reduceEqDiff, reduceCtorEq, ↓reduceIte, Nat.succ_ne_self, Bool.false_eq_true, Int.reduceNeg, ov_int, fn_some]
    done
  by_cases h3 : 2560 < ((l.length : Nat) : Int)
  · rw [errR_e (e := 9) (by unfold guardR; rw [if_neg (by omega), if_pos h3]) (by decide)]
    unfold a16
    simp (config := { maxSteps := 10000000 }) (disch := omega) only [↓G_seq, ↓G_skip, ↓G_ret, ↓G_region, ↓G_cond, ↓G_ops_nil, ↓G_op, Gv_some, ↓G_gop, Gw_ff, Gc_true, Gc_false, dec_t, dec_f, killAll, ↓get_setS, evalOp, ev, Ab.get, b_lss, b_gtr, one, Option.map_some, Option.bind_some, asB, finish, resVs, resV, outVs, ownsLast, tupOf, List.all_nil, List.getElem?_cons_zero, List.getElem?_cons_succ, Nat.reduceEqDiff, reduceCtorEq, ↓reduceIte, Nat.succ_ne_self, Bool.false_eq_true, Int.reduceNeg, ov_int, fn_some, hlen]
  · rw [errR_0 (by unfold guardR; rw [if_neg (by omega), if_neg h3])]
    unfold a16
    simp (config := { maxSteps := 10000000 }) (disch := omega) only [↓G_seq, ↓G_skip, ↓G_region, ↓G_block, ↓G_cond, ↓G_ops_nil, ↓G_op, Gv_some, ↓G_gop, Gw_ff, Gc_false, dec_f, killAll, ↓get_setS, evalOp, ev, Ab.get, b_lss, b_gtr, one, Option.map_some, asB, List.getElem?_cons_zero, List.getElem?_cons_succ, Nat.reduceEqDiff, reduceCtorEq, ↓reduceIte, Nat.succ_ne_self, Bool.false_eq_true, Int.reduceNeg, hlen]
    refine (loop16 (l := l) (by omega) hv (fun fr' L' => ?_) l 0 _ _ rfl (by omega) (Int.le_refl 0) ?_ ?_).trans ?_
    · simp (config := { maxSteps := 10000000 }) (disch := omega) only [↓G_seq, ↓G_ret, ↓G_region, ↓Gx_blk, ↓G_ops_nil, ↓G_op, Gv_some, killAll, ↓get_setS, evalOp, ev, Option.map_some, Option.bind_some, finish, resVs, resV, outVs, ownsLast, tupOf, List.all_nil, List.getElem?_cons_zero, List.getElem?_cons_succ, ↓reduceIte, ov_int, fn_some]
    · simp (config := { maxSteps := 10000000 }) (disch := omega) only [↓get_setS, Ab.get, List.getElem?_cons_zero, List.getElem?_cons_succ, Nat.reduceEqDiff, ↓reduceIte]
    · simp (config := { maxSteps := 10000000 }) (disch := omega) only [↓get_setS, List.getElem?_cons_zero, List.getElem?_cons_succ, ↓reduceIte, Int.cast_ofNat_Int]
    · rfl

end Go.Proofs.Ythnjcaioeaepjaa

/-
  The two transpositions.
-/
import Derived.Test.YtfpkelnakagdfaaS07B
namespace Go.Proofs.Ytfpkelnakagdfaa
open Go Go.Ab
set_option linter.unusedVariables false
set_option linter.unnecessarySimpa false
set_option linter.unusedSimpArgs false
set_option maxRecDepth 100000
variable {H : List (List Row)}

def dnR (x : Int) : Int := if 7 < x then x - 12 * ((x + 4) / 12) else x
def upR (x : Int) : Int := if x < -7 then x + 12 * ((4 - x) / 12) else x
def normR (x : Int) : Int := upR (dnR x)

theorem loop18a {rs : List ARes} {k : List KI} {L : List Row} {r : Option V} : ∀ (n : Nat) (fr : List V) (x : Int), Ab.get fr 0 = .i x → x ≤ 7 + 12 * n → -100000 ≤ x ∧ x ≤ 100000 → (∀ fr', Ab.get fr' 0 = .i (dnR x) → Gx tbl H rs 0 k fr' L = r) →
    G tbl H rs (.code (.loop ( (.seq ( (.seq ( .region [] [ ⟨some 39, .mv (.t 0), none⟩, ⟨some 40, .bin .gtr (.t 39) (.c (.int .i64 7)), none⟩]) ( (.cond (.t 40) ( .skip) ( .exit 0))))) ( (.block 1 ( .region [] [ ⟨some 41, .mv (.t 0), none⟩, ⟨some 42, .bin .sub (.t 41) (.c (.int .i64 12)), none⟩, ⟨some 0, .mv (.t 42), none⟩])))))) :: k) fr L = r := by
  intro n
  induction n with
  | zero =>
    intro fr x h0 hx hb hr
    refine G_loop.trans ?_
    simp (config := { maxSteps := 10000000 }) (disch := omega) only [↓G_seq, ↓G_exit, ↓G_region, ↓G_cond, ↓Gx_code, ↓G_ops_nil, ↓G_op, Gv_some, Gc_false, dec_f, killAll, ↓get_setS, evalOp, ev, b_gtr, one, Option.map_some, List.getElem?_cons_zero, List.getElem?_cons_succ, ↓reduceIte, h0]
    refine hr _ ?_
    simp (config := { maxSteps := 10000000 }) (disch := omega) only [↓get_setS, List.getElem?_cons_zero, List.getElem?_cons_succ, reduceCtorEq, ↓reduceIte, h0]
    unfold dnR
    rw [if_neg (by omega)]
  | succ n ih =>
    intro fr x h0 hx hb hr
    refine G_loop.trans ?_
    by_cases h : 7 < x
    · simp (config := { maxSteps := 10000000 }) (disch := omega) only [↓G_seq, ↓G_skip, ↓G_blk, ↓G_region, ↓G_block, ↓G_cond, ↓G_ops_nil, ↓G_op, Gv_some, Gc_true, dec_t, killAll, ↓get_setS, evalOp, ev, b_sub, b_gtr, wrap_i64, one, Option.map_some, List.getElem?_cons_zero, List.getElem?_cons_succ, reduceCtorEq, ↓reduceIte, h0]
      refine ih _ (x - 12) ?_ (by omega) (by omega) fun fr' h' => hr fr' (h'.trans ?_)
      · simp (config := { maxSteps := 10000000 }) (disch := omega) only [↓get_setS, List.getElem?_cons_zero, List.getElem?_cons_succ, ↓reduceIte]
      · unfold dnR
        congr 1
        rw [if_pos h]
        split <;> omega
    · simp (config := { maxSteps := 10000000 }) (disch := omega) only [↓G_seq, ↓G_exit, ↓G_region, ↓G_cond, ↓Gx_code, ↓G_ops_nil, ↓G_op, Gv_some, Gc_false, dec_f, killAll, ↓get_setS, evalOp, ev, b_gtr, one, Option.map_some, List.getElem?_cons_zero, List.getElem?_cons_succ, ↓reduceIte, h0]
      refine hr _ ?_
      simp (config := { maxSteps := 10000000 }) (disch := omega) only [↓get_setS, List.getElem?_cons_zero, List.getElem?_cons_succ, reduceCtorEq, ↓reduceIte, h0]
      unfold dnR
      rw [if_neg (by omega)]

theorem loop18b {rs : List ARes} {k : List KI} {L : List Row} {r : Option V} : ∀ (n : Nat) (fr : List V) (x : Int), Ab.get fr 0 = .i x → -7 - 12 * n ≤ x → -100000 ≤ x ∧ x ≤ 100000 → (∀ fr', Ab.get fr' 0 = .i (upR x) → Gx tbl H rs 2 k fr' L = r) →
    G tbl H rs (.code (.loop ( (.seq ( (.seq ( .region [] [ ⟨some 43, .mv (.t 0), none⟩, ⟨some 44, .bin .lss (.t 43) (.c (.int .i64 (-7))), none⟩]) ( (.cond (.t 44) ( .skip) ( .exit 2))))) ( (.block 3 ( .region [] [ ⟨some 45, .mv (.t 0), none⟩, ⟨some 46, .bin .add (.t 45) (.c (.int .i64 12)), none⟩, ⟨some 0, .mv (.t 46), none⟩])))))) :: k) fr L = r := by
  intro n
  induction n with
  | zero =>
    intro fr x h0 hx hb hr
    refine G_loop.trans ?_
    simp (config := { maxSteps := 10000000 }) (disch := omega) only [↓G_seq, ↓G_exit, ↓G_region, ↓G_cond, ↓Gx_code, ↓G_ops_nil, ↓G_op, Gv_some, Gc_false, dec_f, killAll, ↓get_setS, evalOp, ev, b_lss, one, Option.map_some, List.getElem?_cons_zero, List.getElem?_cons_succ, ↓reduceIte, Int.reduceNeg, h0]
    refine hr _ ?_
    simp (config := { maxSteps := 10000000 }) (disch := omega) only [↓get_setS, List.getElem?_cons_zero, List.getElem?_cons_succ, reduceCtorEq, ↓reduceIte, h0]
    unfold upR
    rw [if_neg (by omega)]
  | succ n ih =>
    intro fr x h0 hx hb hr
    refine G_loop.trans ?_
    by_cases h : x < -7
    · simp (config := { maxSteps := 10000000 }) (disch := omega) only [↓G_seq, ↓G_skip, ↓G_blk, ↓G_region, ↓G_block, ↓G_cond, ↓G_ops_nil, ↓G_op, Gv_some, Gc_true, dec_t, killAll, ↓get_setS, evalOp, ev, b_add, b_lss, wrap_i64, one, Option.map_some, List.getElem?_cons_zero, List.getElem?_cons_succ, reduceCtorEq, ↓reduceIte, Int.reduceNeg, h0]
      refine ih _ (x + 12) ?_ (by omega) (by omega) fun fr' h' => hr fr' (h'.trans ?_)
      · simp (config := { maxSteps := 10000000 }) (disch := omega) only [↓get_setS, List.getElem?_cons_zero, List.getElem?_cons_succ, ↓reduceIte]
      · unfold upR
        congr 1
        rw [if_pos h]
        split <;> omega
    · simp (config := { maxSteps := 10000000 }) (disch := omega) only [↓G_seq, ↓G_exit, ↓G_region, ↓G_cond, ↓Gx_code, ↓G_ops_nil, ↓G_op, Gv_some, Gc_false, dec_f, killAll, ↓get_setS, evalOp, ev, b_lss, one, Option.map_some, List.getElem?_cons_zero, List.getElem?_cons_succ, ↓reduceIte, Int.reduceNeg, h0]
      refine hr _ ?_
      simp (config := { maxSteps := 10000000 }) (disch := omega) only [↓get_setS, List.getElem?_cons_zero, List.getElem?_cons_succ, reduceCtorEq, ↓reduceIte, h0]
      unfold upR
      rw [if_neg (by omega)]

theorem loop19a {rs : List ARes} {k : List KI} {L : List Row} {r : Option V} : ∀ (n : Nat) (fr : List V) (x : Int), Ab.get fr 8 = .i x → x ≤ 7 + 12 * n → -100000 ≤ x ∧ x ≤ 100000 → (∀ fr', Ab.get fr' 8 = .i (dnR x) → Gx tbl H rs 0 k fr' L = r) →
    G tbl H rs (.code (.loop ( (.seq ( (.seq ( .region [] [ ⟨some 30, .mv (.t 8), none⟩, ⟨some 31, .bin .gtr (.t 30) (.c (.int .i64 7)), none⟩]) ( (.cond (.t 31) ( .skip) ( .exit 0))))) ( (.block 1 ( .region [] [ ⟨some 32, .mv (.t 8), none⟩, ⟨some 33, .bin .sub (.t 32) (.c (.int .i64 12)), none⟩, ⟨some 8, .mv (.t 33), none⟩])))))) :: k) fr L = r := by
  intro n
  induction n with
  | zero =>
    intro fr x h0 hx hb hr
    refine G_loop.trans ?_
    simp (config := { maxSteps := 10000000 }) (disch := omega) only [↓G_seq, ↓G_exit, ↓G_region, ↓G_cond, ↓Gx_code, ↓G_ops_nil, ↓G_op, Gv_some, Gc_false, dec_f, killAll, ↓get_setS, evalOp, ev, b_gtr, one, Option.map_some, List.getElem?_cons_zero, List.getElem?_cons_succ, ↓reduceIte, h0]
    refine hr _ ?_
    simp (config := { maxSteps := 10000000 }) (disch := omega) only [↓get_setS, List.getElem?_cons_zero, List.getElem?_cons_succ, Nat.reduceEqDiff, ↓reduceIte, h0]
    unfold dnR
    rw [if_neg (by omega)]
  | succ n ih =>
    intro fr x h0 hx hb hr
    refine G_loop.trans ?_
    by_cases h : 7 < x
    · simp (config := { maxSteps := 10000000 }) (disch := omega) only [↓G_seq, ↓G_skip, ↓G_blk, ↓G_region, ↓G_block, ↓G_cond, ↓G_ops_nil, ↓G_op, Gv_some, Gc_true, dec_t, killAll, ↓get_setS, evalOp, ev, b_sub, b_gtr, wrap_i64, one, Option.map_some, List.getElem?_cons_zero, List.getElem?_cons_succ, Nat.reduceEqDiff, ↓reduceIte, h0]
      refine ih _ (x - 12) ?_ (by omega) (by omega) fun fr' h' => hr fr' (h'.trans ?_)
      · simp (config := { maxSteps := 10000000 }) (disch := omega) only [↓get_setS, List.getElem?_cons_zero, List.getElem?_cons_succ, ↓reduceIte]
      · unfold dnR
        congr 1
        rw [if_pos h]
        split <;> omega
    · simp (config := { maxSteps := 10000000 }) (disch := omega) only [↓G_seq, ↓G_exit, ↓G_region, ↓G_cond, ↓Gx_code, ↓G_ops_nil, ↓G_op, Gv_some, Gc_false, dec_f, killAll, ↓get_setS, evalOp, ev, b_gtr, one, Option.map_some, List.getElem?_cons_zero, List.getElem?_cons_succ, ↓reduceIte, h0]
      refine hr _ ?_
      simp (config := { maxSteps := 10000000 }) (disch := omega) only [↓get_setS, List.getElem?_cons_zero, List.getElem?_cons_succ, Nat.reduceEqDiff, ↓reduceIte, h0]
      unfold dnR
      rw [if_neg (by omega)]

theorem loop19b {rs : List ARes} {k : List KI} {L : List Row} {r : Option V} : ∀ (n : Nat) (fr : List V) (x : Int), Ab.get fr 8 = .i x → -7 - 12 * n ≤ x → -100000 ≤ x ∧ x ≤ 100000 → (∀ fr', Ab.get fr' 8 = .i (upR x) → Gx tbl H rs 2 k fr' L = r) →
    G tbl H rs (.code (.loop ( (.seq ( (.seq ( .region [] [ ⟨some 34, .mv (.t 8), none⟩, ⟨some 35, .bin .lss (.t 34) (.c (.int .i64 (-7))), none⟩]) ( (.cond (.t 35) ( .skip) ( .exit 2))))) ( (.block 3 ( .region [] [ ⟨some 36, .mv (.t 8), none⟩, ⟨some 37, .bin .add (.t 36) (.c (.int .i64 12)), none⟩, ⟨some 8, .mv (.t 37), none⟩])))))) :: k) fr L = r := by
  intro n
  induction n with
  | zero =>
    intro fr x h0 hx hb hr
    refine G_loop.trans ?_
    simp (config := { maxSteps := 10000000 }) (disch := omega) only [↓G_seq, ↓G_exit, ↓G_region, ↓G_cond, ↓Gx_code, ↓G_ops_nil, ↓G_op, Gv_some, Gc_false, dec_f, killAll, ↓get_setS, evalOp, ev, b_lss, one, Option.map_some, List.getElem?_cons_zero, List.getElem?_cons_succ, ↓reduceIte, Int.reduceNeg, h0]
    refine hr _ ?_
    simp (config := { maxSteps := 10000000 }) (disch := omega) only [↓get_setS, List.getElem?_cons_zero, List.getElem?_cons_succ, Nat.reduceEqDiff, ↓reduceIte, h0]
    unfold upR
    rw [if_neg (by omega)]
  | succ n ih =>
    intro fr x h0 hx hb hr
    refine G_loop.trans ?_
    by_cases h : x < -7
    · simp (config := { maxSteps := 10000000 }) (disch := omega) only [↓G_seq, ↓G_skip, ↓G_blk, ↓G_region, ↓G_block, ↓G_cond, ↓G_ops_nil, ↓G_op, Gv_some, Gc_true, dec_t, killAll, ↓get_setS, evalOp, ev, b_add, b_lss, wrap_i64, one, Option.map_some, List.getElem?_cons_zero, List.getElem?_cons_succ, Nat.reduceEqDiff, ↓reduceIte, Int.reduceNeg, h0]
      refine ih _ (x + 12) ?_ (by omega) (by omega) fun fr' h' => hr fr' (h'.trans ?_)
      · simp (config := { maxSteps := 10000000 }) (disch := omega) only [↓get_setS, List.getElem?_cons_zero, List.getElem?_cons_succ, ↓reduceIte]
      · unfold upR
        congr 1
        rw [if_pos h]
        split <;> omega
    · simp (config := { maxSteps := 10000000 }) (disch := omega) only [↓G_seq, ↓G_exit, ↓G_region, ↓G_cond, ↓Gx_code, ↓G_ops_nil, ↓G_op, Gv_some, Gc_false, dec_f, killAll, ↓get_setS, evalOp, ev, b_lss, one, Option.map_some, List.getElem?_cons_zero, List.getElem?_cons_succ, ↓reduceIte, Int.reduceNeg, h0]
      refine hr _ ?_
      simp (config := { maxSteps := 10000000 }) (disch := omega) only [↓get_setS, List.getElem?_cons_zero, List.getElem?_cons_succ, Nat.reduceEqDiff, ↓reduceIte, h0]
      unfold upR
      rw [if_neg (by omega)]

theorem dn_in (x : Int) (h : -100000 ≤ x ∧ x ≤ 100000) : -100000 ≤ dnR x ∧ dnR x ≤ 7 := by
  unfold dnR
  split <;> omega

def outR (s m : Int) : Prop := s < -77 ∨ 77 < s ∨ m < -140 ∨ 140 < m

theorem c18 (f s m : Int) (h : -7 ≤ f ∧ f ≤ 7) (hs : -77 ≤ s ∧ s ≤ 77) (hm : -140 ≤ m ∧ m ≤ 140) : call tbl 18 [.i f, .agg [.i s, .i m]] H = some (.tup [.i (normR (f + (7 * m - 12 * s))), .i 0]) := by
  refine (call_start (show tbl 18 = some a18 from rfl)).trans ?_
  have hc : checkR f = 0 := by unfold checkR; rw [if_neg (by omega)]
  have hd := dn_in (f + (7 * m - 12 * s)) (by omega)
  unfold a18
  simp (config := { maxSteps := 10000000 }) (disch := omega) only [↓G_seq, ↓G_skip, ↓G_region, ↓G_block, ↓G_cond, ↓G_ops_nil, ↓G_op, Gv_some, ↓G_gop, Gw_ff, Gc_false, dec_f, killAll, ↓get_setS, evalOp, ev, evs, Ab.get, b_add, b_sub, b_mul, b_neq, b_lss, b_gtr, wrap_i64, one, Option.map_some, Option.bind_some, asB, callV, takeIn, V.shift, V.shifts, List.append_nil, List.all_cons, List.all_nil, Bool.and_self, List.getElem?_cons_zero, List.getElem?_cons_succ, Nat.reduceEqDiff, reduceCtorEq, ↓reduceIte, Nat.succ_ne_self, decide_true, Bool.not_true, bne_self_eq_false, Bool.false_eq_true, Int.reduceNeg, Int.reduceAdd, Int.reduceLT, pick3, V.cells, addOff, loadV, Ab.rowAt, rget, rset, V.scalar, Nat.reduceAdd, Nat.reduceLT, and_self, List.length_cons, List.length_nil, List.getD_cons_zero, Nat.zero_add, Nat.add_zero, c22, hc]
  refine loop18a 1000 _ (f + (7 * m - 12 * s)) ?_ (by omega) (by omega) fun fr' h' => ?_
  · simp (config := { maxSteps := 10000000 }) (disch := omega) only [↓get_setS, List.getElem?_cons_zero, List.getElem?_cons_succ, ↓reduceIte]
  simp (config := { maxSteps := 10000000 }) (disch := omega) only [↓G_seq, ↓G_block, ↓Gx_blk, List.getElem?_cons_zero, List.getElem?_cons_succ, ↓reduceIte, Int.reduceNeg]
  refine loop18b 10000 _ (dnR (f + (7 * m - 12 * s))) h' (by omega) (by omega) fun fr'' h'' => ?_
  simp (config := { maxSteps := 10000000 }) (disch := omega) only [fin2, ↓G_seq, ↓G_ret, ↓G_region, ↓Gx_blk, ↓G_ops_nil, ↓G_op, Gv_some, killAll, ↓get_setS, evalOp, ev, Option.map_some, Option.bind_some, finish, resVs, resV, outVs, outV, ownsLast, tupOf, List.all_cons, List.all_nil, Bool.and_self, List.getElem?_cons_zero, List.getElem?_cons_succ, ↓reduceIte, Nat.succ_ne_self, and_self, h'']
  try rfl

theorem c18_out (f s m : Int) (h : -7 ≤ f ∧ f ≤ 7) (ho : outR s m) : call tbl 18 [.i f, .agg [.i s, .i m]] H = some (.tup [.i 0, .i 2]) := by
  refine (call_start (show tbl 18 = some a18 from rfl)).trans ?_
  have hc : checkR f = 0 := by unfold checkR; rw [if_neg (by omega)]
  unfold a18
  unfold outR at ho
  by_cases h1 : s < -77
  · simp (config := { maxSteps := 10000000 }) (disch := omega) only [fin2, ↓G_seq, ↓G_skip, ↓G_ret, ↓G_region, ↓G_cond, ↓G_ops_nil, ↓G_op, Gv_some, ↓G_gop, Gw_ft, Gc_true, Gc_false, dec_t, killAll, ↓get_setS, evalOp, ev, evs, Ab.get, b_neq, b_lss, one, Option.map_some, Option.bind_some, asB, finish, resVs, resV, outVs, outV, ownsLast, tupOf, callV, takeIn, V.shift, V.shifts, List.append_nil, List.all_cons, List.all_nil, Bool.and_self, List.getElem?_cons_zero, List.getElem?_cons_succ, Nat.reduceEqDiff, reduceCtorEq, ↓reduceIte, Nat.succ_ne_self, decide_true, Bool.not_true, bne_self_eq_false, Bool.false_eq_true, Int.reduceNeg, Int.reduceAdd, Int.reduceLT, pick3, V.cells, addOff, loadV, Ab.rowAt, rget, rset, V.scalar, Nat.reduceAdd, Nat.reduceLT, and_self, List.length_cons, List.length_nil, List.getD_cons_zero, Nat.zero_add, Nat.add_zero, c22, hc]
  by_cases h2 : 77 < s
  · simp (config := { maxSteps := 10000000 }) (disch := omega) only [fin2, ↓G_seq, ↓G_skip, ↓G_ret, ↓G_region, ↓G_cond, ↓G_ops_nil, ↓G_op, Gv_some, ↓G_gop, Gw_ff, Gw_ft, Gc_true, Gc_false, dec_t, dec_f, killAll, ↓get_setS, evalOp, ev, evs, Ab.get, b_neq, b_lss, b_gtr, one, Option.map_some, Option.bind_some, asB, finish, resVs, resV, outVs, outV, ownsLast, tupOf, callV, takeIn, V.shift, V.shifts, List.append_nil, List.all_cons, List.all_nil, Bool.and_self, List.getElem?_cons_zero, List.getElem?_cons_succ, Nat.reduceEqDiff, reduceCtorEq, ↓reduceIte, Nat.succ_ne_self, decide_true, Bool.not_true, bne_self_eq_false, Bool.false_eq_true, Int.reduceNeg, Int.reduceAdd, Int.reduceLT, pick3, V.cells, addOff, loadV, Ab.rowAt, rget, rset, V.scalar, Nat.reduceAdd, Nat.reduceLT, and_self, List.length_cons, List.length_nil, List.getD_cons_zero, Nat.zero_add, Nat.add_zero, c22, hc]
  by_cases h3 : m < -140
  · simp (config := { maxSteps := 10000000 }) (disch := omega) only [fin2, ↓G_seq, ↓G_skip, ↓G_ret, ↓G_region, ↓G_cond, ↓G_ops_nil, ↓G_op, Gv_some, ↓G_gop, Gw_ff, Gw_ft, Gc_true, Gc_false, dec_t, dec_f, killAll, ↓get_setS, evalOp, ev, evs, Ab.get, b_neq, b_lss, b_gtr, one, Option.map_some, Option.bind_some, asB, finish, resVs, resV, outVs, outV, ownsLast, tupOf, callV, takeIn, V.shift, V.shifts, List.append_nil, List.all_cons, List.all_nil, Bool.and_self, List.getElem?_cons_zero, List.getElem?_cons_succ, Nat.reduceEqDiff, reduceCtorEq, ↓reduceIte, Nat.succ_ne_self, decide_true, Bool.not_true, bne_self_eq_false, Bool.false_eq_true, Int.reduceNeg, Int.reduceAdd, Int.reduceLT, pick3, V.cells, addOff, loadV, Ab.rowAt, rget, rset, V.scalar, Nat.reduceAdd, Nat.reduceLT, and_self, List.length_cons, List.length_nil, List.getD_cons_zero, Nat.zero_add, Nat.add_zero, c22, hc]
  by_cases h4 : 140 < m
  · simp (config := { maxSteps := 10000000 }) (disch := omega) only [fin2, ↓G_seq, ↓G_skip, ↓G_ret, ↓G_region, ↓G_cond, ↓G_ops_nil, ↓G_op, Gv_some, ↓G_gop, Gw_ff, Gc_true, Gc_false, dec_t, dec_f, killAll, ↓get_setS, evalOp, ev, evs, Ab.get, b_neq, b_lss, b_gtr, one, Option.map_some, Option.bind_some, asB, finish, resVs, resV, outVs, outV, ownsLast, tupOf, callV, takeIn, V.shift, V.shifts, List.append_nil, List.all_cons, List.all_nil, Bool.and_self, List.getElem?_cons_zero, List.getElem?_cons_succ, Nat.reduceEqDiff, reduceCtorEq, ↓reduceIte, Nat.succ_ne_self, decide_true, Bool.not_true, bne_self_eq_false, Bool.false_eq_true, Int.reduceNeg, Int.reduceAdd, Int.reduceLT, pick3, V.cells, addOff, loadV, Ab.rowAt, rget, rset, V.scalar, Nat.reduceAdd, Nat.reduceLT, and_self, List.length_cons, List.length_nil, List.getD_cons_zero, Nat.zero_add, Nat.add_zero, c22, hc]
  try omega

theorem c18_not (f s m : Int) (h : ¬ (-7 ≤ f ∧ f ≤ 7)) : call tbl 18 [.i f, .agg [.i s, .i m]] H = some (.tup [.i 0, .i 2]) := by
  refine (call_start (show tbl 18 = some a18 from rfl)).trans ?_
  have hc : checkR f = 2 := by unfold checkR; rw [if_pos (by omega)]
  unfold a18
  simp (config := { maxSteps := 10000000 }) (disch := omega) only [fin2, ↓G_seq, ↓G_ret, ↓G_region, ↓G_cond, ↓G_ops_nil, ↓G_op, Gv_some, Gc_true, killAll, ↓get_setS, evalOp, ev, evs, Ab.get, b_neq, one, Option.map_some, Option.bind_some, finish, resVs, resV, outVs, outV, ownsLast, tupOf, callV, takeIn, V.shift, V.shifts, List.append_nil, List.all_cons, List.all_nil, Bool.and_self, List.getElem?_cons_zero, List.getElem?_cons_succ, Nat.reduceEqDiff, reduceCtorEq, ↓reduceIte, Nat.succ_ne_self, decide_false, Bool.not_false, bne_self_eq_false, Int.reduceNeg, Int.reduceAdd, Int.reduceEq, V.cells, rget, rset, V.scalar, Nat.reduceAdd, and_self, List.length_cons, List.length_nil, Nat.zero_add, c22, hc]

theorem c19 (f s m : Int) (h : -7 ≤ f ∧ f ≤ 7) (hs : -77 ≤ s ∧ s ≤ 77) (hm : -140 ≤ m ∧ m ≤ 140) : call tbl 19 [.i f, .i s, .i m] H = some (.tup [.i (normR (f + (7 * m - 12 * s))), .i 0]) := by
  refine (call_start (show tbl 19 = some a19 from rfl)).trans ?_
  have hd := dn_in (f + (7 * m - 12 * s)) (by omega)
  unfold a19
  simp (config := { maxSteps := 10000000 }) (disch := omega) only [↓G_seq, ↓G_skip, ↓G_region, ↓G_block, ↓G_cond, ↓G_ops_nil, ↓G_op, Gv_some, ↓G_gop, Gw_ff, Gc_false, dec_f, killAll, ↓get_setS, evalOp, ev, Ab.get, b_add, b_sub, b_mul, b_lss, b_gtr, wrap_i64, one, Option.map_some, asB, List.getElem?_cons_zero, List.getElem?_cons_succ, Nat.reduceEqDiff, reduceCtorEq, ↓reduceIte, Nat.succ_ne_self, Bool.false_eq_true, Int.reduceNeg]
  refine loop19a 1000 _ (f + (7 * m - 12 * s)) ?_ (by omega) (by omega) fun fr' h' => ?_
  · simp (config := { maxSteps := 10000000 }) (disch := omega) only [↓get_setS, List.getElem?_cons_zero, List.getElem?_cons_succ, ↓reduceIte]
    try congr 1
    try omega
  simp (config := { maxSteps := 10000000 }) (disch := omega) only [↓G_seq, ↓G_block, ↓Gx_blk, List.getElem?_cons_zero, List.getElem?_cons_succ, ↓reduceIte, Int.reduceNeg]
  refine loop19b 10000 _ (dnR (f + (7 * m - 12 * s))) h' (by omega) (by omega) fun fr'' h'' => ?_
  simp (config := { maxSteps := 10000000 }) (disch := omega) only [fin2, ↓G_seq, ↓G_ret, ↓G_region, ↓Gx_blk, ↓G_ops_nil, ↓G_op, Gv_some, killAll, ↓get_setS, evalOp, ev, Option.map_some, Option.bind_some, finish, resVs, resV, outVs, outV, ownsLast, tupOf, List.all_cons, List.all_nil, Bool.and_self, List.getElem?_cons_zero, List.getElem?_cons_succ, ↓reduceIte, Nat.succ_ne_self, and_self, h'']
  try rfl

theorem c19_out (f s m : Int) (h : -7 ≤ f ∧ f ≤ 7) (ho : outR s m) : call tbl 19 [.i f, .i s, .i m] H = some (.tup [.i 0, .i 2]) := by
  refine (call_start (show tbl 19 = some a19 from rfl)).trans ?_
  unfold a19
  unfold outR at ho
  by_cases h1 : s < -77
  · simp (config := { maxSteps := 10000000 }) (disch := omega) only [fin2, ↓G_seq, ↓G_ret, ↓G_region, ↓G_cond, ↓G_ops_nil, ↓G_op, Gv_some, ↓G_gop, Gw_ft, Gc_true, dec_t, killAll, ↓get_setS, evalOp, ev, Ab.get, b_lss, one, Option.map_some, Option.bind_some, asB, finish, resVs, resV, outVs, outV, ownsLast, tupOf, List.all_cons, List.all_nil, Bool.and_self, List.getElem?_cons_zero, List.getElem?_cons_succ, Nat.reduceEqDiff, ↓reduceIte, Nat.succ_ne_self, Int.reduceNeg, and_self]
  by_cases h2 : 77 < s
  · simp (config := { maxSteps := 10000000 }) (disch := omega) only [fin2, ↓G_seq, ↓G_ret, ↓G_region, ↓G_cond, ↓G_ops_nil, ↓G_op, Gv_some, ↓G_gop, Gw_ff, Gw_ft, Gc_true, dec_t, dec_f, killAll, ↓get_setS, evalOp, ev, Ab.get, b_lss, b_gtr, one, Option.map_some, Option.bind_some, asB, finish, resVs, resV, outVs, outV, ownsLast, tupOf, List.all_cons, List.all_nil, Bool.and_self, List.getElem?_cons_zero, List.getElem?_cons_succ, Nat.reduceEqDiff, ↓reduceIte, Nat.succ_ne_self, Bool.false_eq_true, Int.reduceNeg, and_self]
  by_cases h3 : m < -140
  · simp (config := { maxSteps := 10000000 }) (disch := omega) only [fin2, ↓G_seq, ↓G_ret, ↓G_region, ↓G_cond, ↓G_ops_nil, ↓G_op, Gv_some, ↓G_gop, Gw_ff, Gw_ft, Gc_true, dec_t, dec_f, killAll, ↓get_setS, evalOp, ev, Ab.get, b_lss, b_gtr, one, Option.map_some, Option.bind_some, asB, finish, resVs, resV, outVs, outV, ownsLast, tupOf, List.all_cons, List.all_nil, Bool.and_self, List.getElem?_cons_zero, List.getElem?_cons_succ, Nat.reduceEqDiff, ↓reduceIte, Nat.succ_ne_self, Bool.false_eq_true, Int.reduceNeg, and_self]
  by_cases h4 : 140 < m
  · simp (config := { maxSteps := 10000000 }) (disch := omega) only [fin2, ↓G_seq, ↓G_ret, ↓G_region, ↓G_cond, ↓G_ops_nil, ↓G_op, Gv_some, ↓G_gop, Gw_ff, Gc_true, dec_t, dec_f, killAll, ↓get_setS, evalOp, ev, Ab.get, b_lss, b_gtr, one, Option.map_some, Option.bind_some, asB, finish, resVs, resV, outVs, outV, ownsLast, tupOf, List.all_cons, List.all_nil, Bool.and_self, List.getElem?_cons_zero, List.getElem?_cons_succ, Nat.reduceEqDiff, ↓reduceIte, Nat.succ_ne_self, Bool.false_eq_true, Int.reduceNeg, and_self]
  try omega

theorem norm_in (x : Int) (h : -100000 ≤ x ∧ x ≤ 100000) : -7 ≤ normR x ∧ normR x ≤ 7 := by
  unfold normR upR dnR
  split <;> split <;> omega
theorem norm_id (x : Int) (h : -7 ≤ x ∧ x ≤ 7) : normR x = x := by
  unfold normR upR dnR
  split <;> split <;> omega
theorem norm_mod (x : Int) (h : -100000 ≤ x ∧ x ≤ 100000) : (normR x - x) % 12 = 0 := by
  unfold normR upR dnR
  split <;> split <;> omega

end Go.Proofs.Ytfpkelnakagdfaa

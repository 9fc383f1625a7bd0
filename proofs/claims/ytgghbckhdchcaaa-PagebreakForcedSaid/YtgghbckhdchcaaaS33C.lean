/-
  Page breaks: the cost of a page, by the program and by the reference.
-/
import Derived.Test.YtgghbckhdchcaaaS33B
namespace Go.Proofs.Ytgghbckhdchcaaa
open Go Go.Ab
set_option linter.unusedVariables false
set_option linter.unnecessarySimpa false
set_option linter.unusedSimpArgs false
set_option maxRecDepth 100000
variable {H : List (List Row)}

def isBrk (s : Sy) : Bool := decide (s.b = 2)
theorem c36 (s : Sy) : call tbl 36 [.agg [.i s.h, .i s.g, .i s.r, .i s.b]] H = some (.bool (isBrk s)) := by
  refine (call_start (show tbl 36 = some a36 from rfl)).trans ?_
  unfold a36 isBrk
  simp (config := { maxSteps := 10000000 }) (disch := omega) only [↓G_seq, ↓G_ret, ↓G_region, ↓G_ops_nil, ↓G_op, Gv_some, killAll, ↓get_setS, evalOp, ev, Ab.get, b_eql, one, Option.map_some, Option.bind_some, finish, resVs, resV, outVs, ownsLast, tupOf, V.shift, List.all_cons, List.all_nil, Bool.and_self, List.getElem?_cons_zero, List.getElem?_cons_succ, ↓reduceIte, Nat.succ_ne_self, Bool.false_eq_true, Int.reduceAdd, pick3, V.cells, addOff, loadV, Ab.rowAt, rget, rset, V.scalar, Nat.reduceAdd, and_self, List.length_cons, List.length_nil, List.getD_cons_zero, Nat.zero_add, ov_bool, fn_some, Nat.zero_lt_succ]

def ixB : List Sy → Nat → Int
  | [], _ => -1
  | s :: t, i => if isBrk s = true then i else ixB t (i + 1)
theorem ixB_any : ∀ (t : List Sy) (i : Nat), decide (0 ≤ ixB t i) = t.any isBrk
  | [], i => by simp [ixB]
  | a :: t, i => by
    unfold ixB
    cases h : isBrk a
    · simp [h, ← ixB_any t (i + 1)]
    · simp [h]

theorem loop37 {k : List KI} {v : V} {l : List Sy} {L : List Row} (hl : l.length ≤ 1024) (hv : SlV 4 v (E4 l))
    (hx : ∀ fr', Gx tbl H [.tmp 4] 0 k fr' L = some (.i (-1))) :
    ∀ (t : List Sy) (i : Nat) (fr : List V), l.drop i = t → i ≤ l.length → Ab.get fr 0 = v → Ab.get fr 1 = .fn 36 [] → Ab.get fr 7 = .i (l.length : Nat) → Ab.get fr 8 = .i (i : Nat) →
    G tbl H [.tmp 4] (.code (.loop ( (.seq ( .region [] [ ⟨some 9, .bin .lss (.t 8) (.t 7), none⟩]) ( (.seq ( (.cond (.t 9) ( .skip) ( .exit 0))) ( (.seq ( (.block 1 ( (.seq ( .region [] [ ⟨some 10, .mv (.t 8), none⟩, ⟨some 5, .mv (.t 10), none⟩]) ( (.seq ( .region [] [ ⟨some 11, .mv (.t 1), none⟩, ⟨some 12, .mv (.t 0), none⟩, ⟨some 13, .mv (.t 5), none⟩, ⟨some 14, .elemAddr 4 (.t 12) (.t 13), none⟩, ⟨some 15, .load true 4 (.t 14), none⟩, ⟨some 16, .call 0 (.t 11) [(.t 15)], none⟩]) ( (.cond (.t 16) ( (.seq ( .region [] [ ⟨some 17, .mv (.t 5), none⟩, ⟨some 4, .mv (.t 17), none⟩]) ( .ret))) ( .skip))))))))) ( .region [] [ ⟨some 18, .bin .add (.t 8) (.c (.int .i64 1)), none⟩, ⟨some 8, .mv (.t 18), none⟩])))))))) :: k) fr L = some (.i (ixB t i)) := by
  intro t
  induction t with
  | nil =>
    intro i fr ht hi h0 h1 h7 h8
    have := drop_nil ht
    refine G_loop.trans ?_
    simp (config := { maxSteps := 10000000 }) (disch := omega) only [↓G_seq, ↓G_exit, ↓G_region, ↓G_cond, ↓Gx_code, ↓G_ops_nil, ↓G_op, Gv_some, Gc_false, dec_f, killAll, ↓get_setS, evalOp, ev, b_lss, one, Option.map_some, List.getElem?_cons_zero, List.getElem?_cons_succ, ↓reduceIte, Int.reduceNeg, h7, h8, hx, ixB]
  | cons s t ih =>
    intro i fr ht hi h0 h1 h7 h8
    obtain ⟨e1, e2, e3⟩ := drop_cons ht
    have hE := hv.el (E4_get l i s e1)
    have h36 := fun H => c36 (H := H) s
    refine G_loop.trans ?_
    unfold ixB
    cases hc : isBrk s
    · rw [hc] at h36
      simp (config := { maxSteps := 10000000 }) (disch := omega) only [↓G_seq, ↓G_skip, ↓G_blk, ↓G_region, ↓G_block, ↓G_cond, ↓G_ops_nil, ↓G_op, Gv_some, Gc_true, Gc_false, dec_t, killAll, ↓get_setS, evalOp, ev, evs, b_add, b_lss, wrap_i64, one, Option.map_some, callV, V.shift, V.shifts, List.append_nil, List.getElem?_cons_zero, List.getElem?_cons_succ, Nat.reduceEqDiff, reduceCtorEq, ↓reduceIte, Nat.succ_ne_self, bne_self_eq_false, Bool.false_eq_true, Int.reduceAdd, pick3, loadV, Nat.reduceAdd, List.length_cons, List.length_nil, List.take_succ_cons, List.take_zero, List.drop_zero, Nat.le_refl, Nat.zero_add, ti_bool, h0, h1, h7, h8, hE, h36]
      refine ih (i + 1) _ e2 (by omega) ?_ ?_ ?_ ?_
      all_goals simp (config := { maxSteps := 10000000 }) (disch := omega) only [↓get_setS, List.getElem?_cons_zero, List.getElem?_cons_succ, Nat.reduceEqDiff, reduceCtorEq, ↓reduceIte, Nat.succ_ne_self, h0, h1, h7]
      congr 1
    · rw [hc] at h36
      simp (config := { maxSteps := 10000000 }) (disch := omega) only [↓G_seq, ↓G_skip, ↓G_ret, ↓G_region, ↓G_block, ↓G_cond, ↓G_ops_nil, ↓G_op, Gv_some, Gc_true, dec_t, killAll, ↓get_setS, evalOp, ev, evs, b_lss, one, Option.map_some, Option.bind_some, finish, resVs, resV, outVs, ownsLast, tupOf, callV, V.shift, V.shifts, List.append_nil, List.all_nil, List.getElem?_cons_zero, List.getElem?_cons_succ, Nat.reduceEqDiff, reduceCtorEq, ↓reduceIte, Nat.succ_ne_self, bne_self_eq_false, Int.reduceAdd, pick3, loadV, Nat.reduceAdd, List.length_cons, List.length_nil, List.take_succ_cons, List.take_zero, List.drop_zero, Nat.le_refl, Nat.zero_add, ti_bool, ov_int, fn_some, h0, h1, h7, h8, hE, h36]

theorem c37 {v : V} {l : List Sy} (hl : l.length ≤ 1024) (hv : SlV 4 v (E4 l)) : call tbl 37 [v, .fn 36 []] H = some (.i (ixB l 0)) := by
  refine (call_start (show tbl 37 = some a37 from rfl)).trans ?_
  have hlen := hv.len
  rw [E4_len] at hlen
  unfold a37
  simp (config := { maxSteps := 10000000 }) (disch := omega) only [↓G_seq, ↓G_region, ↓G_block, ↓G_ops_nil, ↓G_op, Gv_some, killAll, ↓get_setS, evalOp, ev, Ab.get, one, Option.map_some, List.getElem?_cons_zero, List.getElem?_cons_succ, reduceCtorEq, ↓reduceIte, Int.reduceNeg, hlen]
  refine loop37 hl hv (fun fr' => ?_) l 0 _ rfl (by omega) ?_ ?_ ?_ ?_
  all_goals simp (config := { maxSteps := 10000000 }) (disch := omega) only [↓G_seq, ↓G_ret, ↓G_region, ↓Gx_blk, ↓G_ops_nil, ↓G_op, Gv_some, killAll, ↓get_setS, evalOp, ev, Ab.get, Option.map_some, Option.bind_some, finish, resVs, resV, outVs, ownsLast, tupOf, List.all_nil, List.getElem?_cons_zero, List.getElem?_cons_succ, Nat.reduceEqDiff, reduceCtorEq, ↓reduceIte, Nat.succ_ne_self, Int.reduceNeg, Int.cast_ofNat_Int, ov_int, fn_some]

theorem c35 {v : V} {l : List Sy} (hl : l.length ≤ 1024) (hv : SlV 4 v (E4 l)) : call tbl 35 [v, .fn 36 []] H = some (.bool (l.any isBrk)) := by
  refine (call_start (show tbl 35 = some a35 from rfl)).trans ?_
  have h37 := fun H => c37 (H := H) hl hv
  have hsh := hv.sh
  rw [← ixB_any l 0]
  unfold a35
  by_cases h : 0 ≤ ixB l 0
  · simp (config := { maxSteps := 10000000 }) (disch := omega) only [↓G_seq, ↓G_ret, ↓G_region, ↓G_ops_nil, ↓G_op, Gv_some, dec_t, killAll, ↓get_setS, evalOp, ev, evs, Ab.get, b_geq, one, Option.map_some, Option.bind_some, finish, resVs, resV, outVs, ownsLast, tupOf, callV, V.shift, V.shifts, List.append_nil, List.all_nil, List.getElem?_cons_zero, List.getElem?_cons_succ, Nat.reduceEqDiff, reduceCtorEq, ↓reduceIte, Nat.succ_ne_self, bne_self_eq_false, ti_int, ov_bool, fn_some, h37, hsh]
  · simp (config := { maxSteps := 10000000 }) (disch := omega) only [↓G_seq, ↓G_ret, ↓G_region, ↓G_ops_nil, ↓G_op, Gv_some, dec_f, killAll, ↓get_setS, evalOp, ev, evs, Ab.get, b_geq, one, Option.map_some, Option.bind_some, finish, resVs, resV, outVs, ownsLast, tupOf, callV, V.shift, V.shifts, List.append_nil, List.all_nil, List.getElem?_cons_zero, List.getElem?_cons_succ, Nat.reduceEqDiff, reduceCtorEq, ↓reduceIte, Nat.succ_ne_self, bne_self_eq_false, ti_int, ov_bool, fn_some, h37, hsh]

def inf : Int := 1125899906842624
def leftR (ph h : Int) : Int := (100 * (ph - h)).tdiv ph
/-- The cost of a page, of numbers: the kind of its first break, whether it has more systems and a break within, the last system's rest, the height; whether it is not the first, is turned, is the last. -/
def costN (ph pt b0 : Int) (more brk : Bool) (lr h : Int) (pos turn fin : Bool) : Int :=
  if ((pos && decide (b0 = 3)) || (decide (ph < h) && more) || brk) = true then inf
  else (if decide (ph < h) = true then 549755813888 else if fin = true then 0 else leftR ph h * leftR ph h) + (if (decide (0 < pt) && turn && !fin && decide (lr < pt)) = true then 1048576 else 0)

theorem left_in {ph h : Int} (h1 : 1 ≤ ph) (h2 : 0 ≤ h) (h3 : h ≤ ph) : 0 ≤ leftR ph h ∧ leftR ph h ≤ 100 := by
  unfold leftR
  rw [Int.tdiv_eq_ediv_of_nonneg (by omega)]
  refine ⟨Int.ediv_nonneg (by omega) (by omega), ?_⟩
  have : 100 * (ph - h) < ph * 101 := by omega
  have := Int.ediv_lt_of_lt_mul (a := 100 * (ph - h)) (b := 101) (c := ph) (by omega) (by omega)
  omega
theorem sq_in {x : Int} (h : 0 ≤ x ∧ x ≤ 100) : 0 ≤ x * x ∧ x * x ≤ 10000 := by
  have h1 := Int.mul_nonneg h.1 h.1
  have h2 := Int.mul_le_mul h.2 h.2 h.1 (by omega : (0 : Int) ≤ 100)
  omega
theorem costN_in {ph pt b0 : Int} {more brk : Bool} {lr h : Int} {pos turn fin : Bool} (h1 : 1 ≤ ph) (h2 : 0 ≤ h) : 0 ≤ costN ph pt b0 more brk lr h pos turn fin ∧ (costN ph pt b0 more brk lr h pos turn fin = inf ∨ costN ph pt b0 more brk lr h pos turn fin ≤ 549756872464) := by
  unfold costN
  split
  · exact ⟨by decide, .inl rfl⟩
  · have : ph < h ∨ (0 ≤ leftR ph h * leftR ph h ∧ leftR ph h * leftR ph h ≤ 10000) := by
      by_cases c : ph < h
      · exact .inl c
      · exact .inr (sq_in (left_in h1 h2 (by omega)))
    generalize leftR ph h * leftR ph h = q at *
    by_cases c : ph < h
    · rw [if_pos (decide_eq_true c)]
      split <;> omega
    · rw [if_neg (by simpa using c)]
      split
      · split <;> omega
      · split <;> omega

set_option maxHeartbeats 4000000 in
theorem c32 {v : V} {s z : Sy} {t : List Sy} {ph pt h first : Int} {turn fin : Bool} (hl : (s :: t).length ≤ 1024) (hpg : inPg ph pt) (hh : 0 ≤ h ∧ h ≤ 34359738368) (hv : SlV 4 v (E4 (s :: t))) (hz : (s :: t)[t.length]? = some z) :
    call tbl 32 [.agg [.i ph, .i pt], v, .i h, .agg [.i first, .bool turn, .bool fin]] H = some (.i (costN ph pt s.b (decide (0 < t.length)) (t.any isBrk) z.r h (decide (0 < first)) turn fin)) := by
  refine (call_start (show tbl 32 = some a32 from rfl)).trans ?_
  have hlen := hv.len
  rw [E4_len] at hlen
  simp only [List.length_cons] at hlen hl
  have hE := hv.el (E4_get (s :: t) 0 s rfl)
  simp only [Int.ofNat_zero, Int.cast_ofNat_Int] at hE
  have hE2 := hv.el' (n := (t.length : Nat)) (by omega) (E4_get (s :: t) (t.length : Nat) z (by simpa using hz))
  obtain ⟨v2, hs2, hv2⟩ := hv.sub (lo := some (.i (1 : Nat))) (hi := none) (a := 1) (b := (E4 (s :: t)).length) (.inr rfl) (.inl ⟨rfl, rfl⟩) (by rw [E4_len]; simp) (Nat.le_refl _)
  rw [List.take_length, show List.drop 1 (E4 (s :: t)) = E4 t from rfl] at hv2
  simp only [Int.cast_ofNat_Int] at hs2
  have h35 := fun H => c35 (H := H) (by omega) hv2
  have hsh := hv2.sh
  obtain ⟨hph, hpt⟩ := hpg
  have hln : ((t.length + 1 : Nat) : Int) - 1 = (t.length : Nat) := by omega
  generalize hN : t.length = N at *
  generalize hB : t.any isBrk = B at *
  clear hv hv2 hz
  have hinf : inf = 1125899906842624 := rfl
  have leaf_pos : (¬ 0 < first) ∨ (0 < first ∧ ¬ s.b = 3) ∨ (0 < first ∧ s.b = 3) := by omega
  have hdef : (100 * (ph - h)).tdiv ph = leftR ph h := rfl
  have hq : ph < h ∨ (h ≤ ph ∧ 0 ≤ leftR ph h ∧ leftR ph h ≤ 100 ∧ 0 ≤ leftR ph h * leftR ph h ∧ leftR ph h * leftR ph h ≤ 10000) := by
    by_cases c : ph < h
    · exact .inl c
    · have h1 := left_in hph.1 hh.1 (by omega)
      have h2 := sq_in h1
      exact .inr ⟨by omega, h1.1, h1.2, h2.1, h2.2⟩
  unfold costN
  generalize leftR ph h = le at *
  generalize hqq : le * le = q at *
  rcases leaf_pos with p1 | ⟨p1, p1b⟩ | ⟨p1, p1b⟩
  case inr.inr =>
    clear hq
    unfold a32
    simp (config := { maxSteps := 10000000 }) (disch := omega) only [↓G_seq, ↓G_ret, ↓G_region, ↓G_cond, ↓G_ops_nil, ↓G_op, Gv_some, ↓G_gop, Gw_tt, Gw_ft, Gw_tup, Gc_true, dec_t, killAll, ↓get_setS, evalOp, ev, Ab.get, b_eql, b_gtr, one, Option.map_some, Option.bind_some, asB, finish, resVs, resV, outVs, ownsLast, tupOf, V.shift, List.all_cons, List.all_nil, Bool.and_self, List.getElem?_cons_zero, List.getElem?_cons_succ, Nat.reduceEqDiff, ↓reduceIte, Nat.succ_ne_self, true_or, Bool.false_eq_true, Int.reduceAdd, pick3, V.cells, addOff, loadV, Ab.rowAt, rget, rset, V.scalar, Nat.reduceAdd, and_self, List.length_cons, List.length_nil, Bool.true_or, List.getD_cons_zero, Nat.zero_add, Nat.add_zero, ov_int, fn_some, hE, Nat.zero_lt_succ, Int.zero_add, Int.add_zero, hinf]
    done
  all_goals
    rcases hq with p2 | ⟨p2, p2a, p2b, p2c, p2d⟩
    · by_cases p3 : 0 < N
      · unfold a32
        simp (config := { maxSteps := 10000000 }) (disch := omega) only [↓G_seq, ↓G_ret, ↓G_region, ↓G_cond, ↓G_ops_nil, ↓G_op, Gv_some, ↓G_gop, Gw_tt, Gw_ff, Gw_tf, Gc_true, dec_t, dec_f, killAll, ↓get_setS, evalOp, ev, Ab.get, b_eql, b_gtr, one, Option.map_some, Option.bind_some, asB, finish, resVs, resV, outVs, ownsLast, tupOf, V.shift, List.all_cons, List.all_nil, Bool.and_self, Bool.false_and, Bool.and_false, List.getElem?_cons_zero, List.getElem?_cons_succ, Nat.reduceEqDiff, ↓reduceIte, Nat.succ_ne_self, or_true, true_or, Bool.false_eq_true, Int.reduceAdd, pick3, V.cells, addOff, loadV, Ab.rowAt, rget, rset, V.scalar, Nat.reduceAdd, and_self, and_false, false_and, List.length_cons, List.length_nil, Bool.or_true, Bool.true_or, List.getD_cons_zero, Nat.zero_add, Nat.add_zero, ov_int, fn_some, hE, hlen, Nat.zero_lt_succ, Int.zero_add, Int.add_zero, hinf]
        done
      · cases B
        case true =>
          unfold a32
          simp (config := { maxSteps := 10000000 }) (disch := omega) only [↓G_seq, ↓G_skip, ↓G_ret, ↓G_region, ↓G_cond, ↓G_ops_nil, ↓G_op, Gv_some, ↓G_gop, Gw_tt, Gw_ff, Gw_tf, Gc_true, Gc_false, dec_t, dec_f, killAll, ↓get_setS, evalOp, ev, evs, Ab.get, b_eql, b_gtr, one, Option.map_some, Option.bind_some, Option.map_none, asB, finish, resVs, resV, outVs, ownsLast, tupOf, callV, V.shift, V.shifts, List.append_nil, List.all_cons, List.all_nil, Bool.and_self, Bool.false_and, Bool.and_false, List.getElem?_cons_zero, List.getElem?_cons_succ, Nat.reduceEqDiff, ↓reduceIte, Nat.succ_ne_self, or_true, or_false, bne_self_eq_false, Bool.false_eq_true, Int.reduceAdd, pick3, V.cells, addOff, loadV, Ab.rowAt, rget, rset, V.scalar, Nat.reduceAdd, and_self, and_false, false_and, List.length_cons, List.length_nil, Bool.or_true, Bool.or_false, List.getD_cons_zero, Nat.zero_add, Nat.add_zero, ti_bool, ov_int, fn_some, hE, hlen, hs2, h35, hsh, Nat.zero_lt_succ, Int.zero_add, Int.add_zero, hinf]
          done
        by_cases p4 : pt ≤ 0
        · unfold a32
          simp (config := { maxSteps := 10000000 }) (disch := omega) only [↓G_seq, ↓G_skip, ↓G_ret, ↓G_region, ↓G_cond, ↓G_ops_nil, ↓G_op, Gv_some, ↓G_gop, Gw_tt, Gw_ff, Gw_tf, Gc_true, Gc_false, dec_t, dec_f, killAll, ↓get_setS, evalOp, ev, evs, Ab.get, b_add, b_eql, b_gtr, wrap_i64, one, Option.map_some, Option.bind_some, Option.map_none, asB, finish, resVs, resV, outVs, ownsLast, tupOf, callV, V.shift, V.shifts, List.append_nil, List.all_cons, List.all_nil, Bool.and_self, Bool.false_and, Bool.and_false, List.getElem?_cons_zero, List.getElem?_cons_succ, Nat.reduceEqDiff, ↓reduceIte, Nat.succ_ne_self, or_false, bne_self_eq_false, Bool.false_eq_true, Int.reduceAdd, pick3, V.cells, addOff, loadV, Ab.rowAt, rget, rset, V.scalar, Nat.reduceAdd, and_self, and_false, false_and, List.length_cons, List.length_nil, Bool.or_false, List.getD_cons_zero, Nat.zero_add, Nat.add_zero, ti_bool, ov_int, fn_some, hE, hlen, hs2, h35, hsh, Nat.zero_lt_succ, Int.zero_add, Int.add_zero]
          done
        cases turn
        · unfold a32
          simp (config := { maxSteps := 10000000 }) (disch := omega) only [↓G_seq, ↓G_skip, ↓G_ret, ↓G_region, ↓G_cond, ↓G_ops_nil, ↓G_op, Gv_some, ↓G_gop, Gw_tt, Gw_ff, Gw_tf, Gc_true, Gc_false, dec_t, dec_f, killAll, ↓get_setS, evalOp, ev, evs, Ab.get, b_add, b_eql, b_gtr, wrap_i64, one, Option.map_some, Option.bind_some, Option.map_none, asB, finish, resVs, resV, outVs, ownsLast, tupOf, callV, V.shift, V.shifts, List.append_nil, List.all_cons, List.all_nil, Bool.and_self, Bool.false_and, Bool.and_false, List.getElem?_cons_zero, List.getElem?_cons_succ, Nat.reduceEqDiff, ↓reduceIte, Nat.succ_ne_self, or_false, bne_self_eq_false, Bool.false_eq_true, Int.reduceAdd, pick3, V.cells, addOff, loadV, Ab.rowAt, rget, rset, V.scalar, Nat.reduceAdd, and_self, and_false, false_and, List.length_cons, List.length_nil, Bool.or_false, List.getD_cons_zero, Nat.zero_add, Nat.add_zero, ti_bool, ov_int, fn_some, hE, hlen, hs2, h35, hsh, Nat.zero_lt_succ, Int.zero_add, Int.add_zero]
          done
        cases fin
        · by_cases p5 : z.r < pt
          · unfold a32
            simp (config := { maxSteps := 10000000 }) (disch := omega) only [↓G_seq, ↓G_skip, ↓G_ret, ↓G_region, ↓G_cond, ↓G_ops_nil, ↓G_op, Gv_some, ↓G_gop, Gw_tt, Gw_ff, Gw_tf, Gc_true, Gc_false, dec_t, dec_f, killAll, ↓get_setS, evalOp, ev, evs, Ab.get, b_add, b_sub, b_eql, b_lss, b_gtr, wrap_i64, one, Option.map_some, Option.bind_some, Option.map_none, asB, finish, resVs, resV, outVs, ownsLast, tupOf, callV, V.shift, V.shifts, List.append_nil, List.all_cons, List.all_nil, Bool.and_self, Bool.false_and, Bool.and_false, List.getElem?_cons_zero, List.getElem?_cons_succ, Nat.reduceEqDiff, ↓reduceIte, Nat.succ_ne_self, or_false, Bool.not_false, bne_self_eq_false, Bool.false_eq_true, Int.reduceAdd, pick3, V.cells, addOff, loadV, Ab.rowAt, rget, rset, V.scalar, Nat.reduceAdd, and_self, and_false, false_and, List.length_cons, List.length_nil, Bool.or_false, List.getD_cons_zero, Nat.zero_add, Nat.add_zero, ti_bool, ov_int, fn_some, hE, hlen, hs2, h35, hsh, hE2, hln, Nat.zero_lt_succ, Int.zero_add, Int.add_zero]
            done
          · unfold a32
            simp (config := { maxSteps := 10000000 }) (disch := omega) only [↓G_seq, ↓G_skip, ↓G_ret, ↓G_region, ↓G_cond, ↓G_ops_nil, ↓G_op, Gv_some, ↓G_gop, Gw_tt, Gw_ff, Gw_tf, Gc_true, Gc_false, dec_t, dec_f, killAll, ↓get_setS, evalOp, ev, evs, Ab.get, b_add, b_sub, b_eql, b_lss, b_gtr, wrap_i64, one, Option.map_some, Option.bind_some, Option.map_none, asB, finish, resVs, resV, outVs, ownsLast, tupOf, callV, V.shift, V.shifts, List.append_nil, List.all_cons, List.all_nil, Bool.and_self, Bool.false_and, Bool.and_false, List.getElem?_cons_zero, List.getElem?_cons_succ, Nat.reduceEqDiff, ↓reduceIte, Nat.succ_ne_self, or_false, Bool.not_false, bne_self_eq_false, Bool.false_eq_true, Int.reduceAdd, pick3, V.cells, addOff, loadV, Ab.rowAt, rget, rset, V.scalar, Nat.reduceAdd, and_self, and_false, false_and, List.length_cons, List.length_nil, Bool.or_false, List.getD_cons_zero, Nat.zero_add, Nat.add_zero, ti_bool, ov_int, fn_some, hE, hlen, hs2, h35, hsh, hE2, hln, Nat.zero_lt_succ, Int.zero_add, Int.add_zero]
            done
        · unfold a32
          simp (config := { maxSteps := 10000000 }) (disch := omega) only [↓G_seq, ↓G_skip, ↓G_ret, ↓G_region, ↓G_cond, ↓G_ops_nil, ↓G_op, Gv_some, ↓G_gop, Gw_tt, Gw_ff, Gw_tf, Gc_true, Gc_false, dec_t, dec_f, killAll, ↓get_setS, evalOp, ev, evs, Ab.get, b_add, b_eql, b_gtr, wrap_i64, one, Option.map_some, Option.bind_some, Option.map_none, asB, finish, resVs, resV, outVs, ownsLast, tupOf, callV, V.shift, V.shifts, List.append_nil, List.all_cons, List.all_nil, Bool.and_self, Bool.false_and, Bool.and_false, List.getElem?_cons_zero, List.getElem?_cons_succ, Nat.reduceEqDiff, ↓reduceIte, Nat.succ_ne_self, or_false, Bool.not_true, bne_self_eq_false, Bool.false_eq_true, Int.reduceAdd, pick3, V.cells, addOff, loadV, Ab.rowAt, rget, rset, V.scalar, Nat.reduceAdd, and_self, and_false, false_and, List.length_cons, List.length_nil, Bool.or_false, List.getD_cons_zero, Nat.zero_add, Nat.add_zero, ti_bool, ov_int, fn_some, hE, hlen, hs2, h35, hsh, Nat.zero_lt_succ, Int.zero_add, Int.add_zero]
          done
    · cases B
      case true =>
        unfold a32
        simp (config := { maxSteps := 10000000 }) (disch := omega) only [↓G_seq, ↓G_skip, ↓G_ret, ↓G_region, ↓G_cond, ↓G_ops_nil, ↓G_op, Gv_some, ↓G_gop, Gw_tt, Gw_ff, Gw_tf, Gc_true, Gc_false, dec_t, dec_f, killAll, ↓get_setS, evalOp, ev, evs, Ab.get, b_eql, b_gtr, one, Option.map_some, Option.bind_some, Option.map_none, asB, finish, resVs, resV, outVs, ownsLast, tupOf, callV, V.shift, V.shifts, List.append_nil, List.all_cons, List.all_nil, Bool.and_self, Bool.false_and, Bool.and_false, List.getElem?_cons_zero, List.getElem?_cons_succ, Nat.reduceEqDiff, ↓reduceIte, Nat.succ_ne_self, or_true, or_false, bne_self_eq_false, Bool.false_eq_true, Int.reduceAdd, pick3, V.cells, addOff, loadV, Ab.rowAt, rget, rset, V.scalar, Nat.reduceAdd, and_self, and_false, false_and, List.length_cons, List.length_nil, Bool.or_true, Bool.or_false, List.getD_cons_zero, Nat.zero_add, Nat.add_zero, ti_bool, ov_int, fn_some, hE, hs2, h35, hsh, Nat.zero_lt_succ, Int.zero_add, Int.add_zero, hinf]
        done
      by_cases p4 : pt ≤ 0
      · cases fin
        · unfold a32
          simp (config := { maxSteps := 10000000 }) (disch := omega) only [↓G_seq, ↓G_skip, ↓G_ret, ↓G_region, ↓G_cond, ↓G_ops_nil, ↓G_op, Gv_some, ↓G_gop, Gw_tt, Gw_ff, Gw_tf, Gc_true, Gc_false, dec_t, dec_f, killAll, ↓get_setS, evalOp, ev, evs, Ab.get, b_add, b_sub, b_mul, b_eql, b_gtr, b_quo, wrap_i64, one, Option.map_some, Option.bind_some, Option.map_none, asB, finish, resVs, resV, outVs, ownsLast, tupOf, callV, V.shift, V.shifts, List.append_nil, List.all_cons, List.all_nil, Bool.and_true, Bool.and_self, Bool.false_and, Bool.and_false, List.getElem?_cons_zero, List.getElem?_cons_succ, Nat.reduceEqDiff, ↓reduceIte, Nat.succ_ne_self, or_false, Bool.not_false, bne_self_eq_false, Bool.false_eq_true, Int.reduceAdd, pick3, V.cells, addOff, loadV, Ab.rowAt, rget, rset, V.scalar, Nat.reduceAdd, and_true, and_self, and_false, false_and, List.length_cons, List.length_nil, Bool.or_false, List.getD_cons_zero, Nat.zero_add, Nat.add_zero, ti_bool, ov_int, fn_some, hE, hs2, h35, hsh, hdef, hqq, Nat.zero_lt_succ, Int.zero_add, Int.add_zero]
          done
        · unfold a32
          simp (config := { maxSteps := 10000000 }) (disch := omega) only [↓G_seq, ↓G_skip, ↓G_ret, ↓G_region, ↓G_cond, ↓G_ops_nil, ↓G_op, Gv_some, ↓G_gop, Gw_tt, Gw_ff, Gw_tf, Gc_false, dec_t, dec_f, killAll, ↓get_setS, evalOp, ev, evs, Ab.get, b_eql, b_gtr, one, Option.map_some, Option.bind_some, Option.map_none, asB, finish, resVs, resV, outVs, ownsLast, tupOf, callV, V.shift, V.shifts, List.append_nil, List.all_cons, List.all_nil, Bool.and_self, Bool.false_and, Bool.and_false, List.getElem?_cons_zero, List.getElem?_cons_succ, Nat.reduceEqDiff, ↓reduceIte, Nat.succ_ne_self, or_false, Bool.not_true, bne_self_eq_false, Bool.false_eq_true, Int.reduceAdd, pick3, V.cells, addOff, loadV, Ab.rowAt, rget, rset, V.scalar, Nat.reduceAdd, and_self, and_false, false_and, List.length_cons, List.length_nil, Bool.or_false, List.getD_cons_zero, Nat.zero_add, Nat.add_zero, ti_bool, ov_int, fn_some, hE, hs2, h35, hsh, Nat.zero_lt_succ, Int.zero_add, Int.add_zero]
          done
      cases turn
      · cases fin
        · unfold a32
          simp (config := { maxSteps := 10000000 }) (disch := omega) only [↓G_seq, ↓G_skip, ↓G_ret, ↓G_region, ↓G_cond, ↓G_ops_nil, ↓G_op, Gv_some, ↓G_gop, Gw_tt, Gw_ff, Gw_tf, Gc_true, Gc_false, dec_t, dec_f, killAll, ↓get_setS, evalOp, ev, evs, Ab.get, b_add, b_sub, b_mul, b_eql, b_gtr, b_quo, wrap_i64, one, Option.map_some, Option.bind_some, Option.map_none, asB, finish, resVs, resV, outVs, ownsLast, tupOf, callV, V.shift, V.shifts, List.append_nil, List.all_cons, List.all_nil, Bool.and_true, Bool.and_self, Bool.false_and, Bool.and_false, List.getElem?_cons_zero, List.getElem?_cons_succ, Nat.reduceEqDiff, ↓reduceIte, Nat.succ_ne_self, or_false, Bool.not_false, bne_self_eq_false, Bool.false_eq_true, Int.reduceAdd, pick3, V.cells, addOff, loadV, Ab.rowAt, rget, rset, V.scalar, Nat.reduceAdd, and_true, and_self, and_false, false_and, List.length_cons, List.length_nil, Bool.or_false, List.getD_cons_zero, Nat.zero_add, Nat.add_zero, ti_bool, ov_int, fn_some, hE, hs2, h35, hsh, hdef, hqq, Nat.zero_lt_succ, Int.zero_add, Int.add_zero]
          done
        · unfold a32
          simp (config := { maxSteps := 10000000 }) (disch := omega) only [↓G_seq, ↓G_skip, ↓G_ret, ↓G_region, ↓G_cond, ↓G_ops_nil, ↓G_op, Gv_some, ↓G_gop, Gw_tt, Gw_ff, Gw_tf, Gc_false, dec_t, dec_f, killAll, ↓get_setS, evalOp, ev, evs, Ab.get, b_eql, b_gtr, one, Option.map_some, Option.bind_some, Option.map_none, asB, finish, resVs, resV, outVs, ownsLast, tupOf, callV, V.shift, V.shifts, List.append_nil, List.all_cons, List.all_nil, Bool.and_self, Bool.false_and, Bool.and_false, List.getElem?_cons_zero, List.getElem?_cons_succ, Nat.reduceEqDiff, ↓reduceIte, Nat.succ_ne_self, or_false, Bool.not_true, bne_self_eq_false, Bool.false_eq_true, Int.reduceAdd, pick3, V.cells, addOff, loadV, Ab.rowAt, rget, rset, V.scalar, Nat.reduceAdd, and_self, and_false, false_and, List.length_cons, List.length_nil, Bool.or_false, List.getD_cons_zero, Nat.zero_add, Nat.add_zero, ti_bool, ov_int, fn_some, hE, hs2, h35, hsh, Nat.zero_lt_succ, Int.zero_add, Int.add_zero]
          done
      cases fin
      · by_cases p5 : z.r < pt
        · unfold a32
          simp (config := { maxSteps := 10000000 }) (disch := omega) only [↓G_seq, ↓G_skip, ↓G_ret, ↓G_region, ↓G_cond, ↓G_ops_nil, ↓G_op, Gv_some, ↓G_gop, Gw_tt, Gw_ff, Gw_tf, Gc_true, Gc_false, dec_t, dec_f, killAll, ↓get_setS, evalOp, ev, evs, Ab.get, b_add, b_sub, b_mul, b_eql, b_lss, b_gtr, b_quo, wrap_i64, one, Option.map_some, Option.bind_some, Option.map_none, asB, finish, resVs, resV, outVs, ownsLast, tupOf, callV, V.shift, V.shifts, List.append_nil, List.all_cons, List.all_nil, Bool.and_self, Bool.false_and, Bool.and_false, List.getElem?_cons_zero, List.getElem?_cons_succ, Nat.reduceEqDiff, ↓reduceIte, Nat.succ_ne_self, or_false, Bool.not_false, bne_self_eq_false, Bool.false_eq_true, Int.reduceAdd, pick3, V.cells, addOff, loadV, Ab.rowAt, rget, rset, V.scalar, Nat.reduceAdd, and_self, and_false, false_and, List.length_cons, List.length_nil, Bool.or_false, List.getD_cons_zero, Nat.zero_add, Nat.add_zero, ti_bool, ov_int, fn_some, hE, hlen, hs2, h35, hsh, hE2, hln, hdef, hqq, Nat.zero_lt_succ, Int.zero_add, Int.add_zero]
          done
        · unfold a32
          simp (config := { maxSteps := 10000000 }) (disch := omega) only [↓G_seq, ↓G_skip, ↓G_ret, ↓G_region, ↓G_cond, ↓G_ops_nil, ↓G_op, Gv_some, ↓G_gop, Gw_tt, Gw_ff, Gw_tf, Gc_true, Gc_false, dec_t, dec_f, killAll, ↓get_setS, evalOp, ev, evs, Ab.get, b_add, b_sub, b_mul, b_eql, b_lss, b_gtr, b_quo, wrap_i64, one, Option.map_some, Option.bind_some, Option.map_none, asB, finish, resVs, resV, outVs, ownsLast, tupOf, callV, V.shift, V.shifts, List.append_nil, List.all_cons, List.all_nil, Bool.and_self, Bool.false_and, Bool.and_false, List.getElem?_cons_zero, List.getElem?_cons_succ, Nat.reduceEqDiff, ↓reduceIte, Nat.succ_ne_self, or_false, Bool.not_false, bne_self_eq_false, Bool.false_eq_true, Int.reduceAdd, pick3, V.cells, addOff, loadV, Ab.rowAt, rget, rset, V.scalar, Nat.reduceAdd, and_self, and_false, false_and, List.length_cons, List.length_nil, Bool.or_false, List.getD_cons_zero, Nat.zero_add, Nat.add_zero, ti_bool, ov_int, fn_some, hE, hlen, hs2, h35, hsh, hE2, hln, hdef, hqq, Nat.zero_lt_succ, Int.zero_add, Int.add_zero]
          done
      · unfold a32
        simp (config := { maxSteps := 10000000 }) (disch := omega) only [↓G_seq, ↓G_skip, ↓G_ret, ↓G_region, ↓G_cond, ↓G_ops_nil, ↓G_op, Gv_some, ↓G_gop, Gw_tt, Gw_ff, Gw_tf, Gc_false, dec_t, dec_f, killAll, ↓get_setS, evalOp, ev, evs, Ab.get, b_eql, b_gtr, one, Option.map_some, Option.bind_some, Option.map_none, asB, finish, resVs, resV, outVs, ownsLast, tupOf, callV, V.shift, V.shifts, List.append_nil, List.all_cons, List.all_nil, Bool.and_self, Bool.false_and, Bool.and_false, List.getElem?_cons_zero, List.getElem?_cons_succ, Nat.reduceEqDiff, ↓reduceIte, Nat.succ_ne_self, or_false, Bool.not_true, bne_self_eq_false, Bool.false_eq_true, Int.reduceAdd, pick3, V.cells, addOff, loadV, Ab.rowAt, rget, rset, V.scalar, Nat.reduceAdd, and_self, and_false, false_and, List.length_cons, List.length_nil, Bool.or_false, List.getD_cons_zero, Nat.zero_add, Nat.add_zero, ti_bool, ov_int, fn_some, hE, hs2, h35, hsh, Nat.zero_lt_succ, Int.zero_add, Int.add_zero]
        done

end Go.Proofs.Ytgghbckhdchcaaa

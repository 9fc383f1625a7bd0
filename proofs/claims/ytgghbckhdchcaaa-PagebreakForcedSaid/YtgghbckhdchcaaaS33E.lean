/-
  Page breaks: the reference's divisions, lists compared, the end of a page; the law PagebreakChecks.
-/
import Derived.Test.YtgghbckhdchcaaaS33D
namespace Go.Proofs.Ytgghbckhdchcaaa
open Go Go.Ab
set_option linter.unusedVariables false
set_option linter.unnecessarySimpa false
set_option linter.unusedSimpArgs false
set_option maxRecDepth 100000
variable {H : List (List Row)}

theorem loop18 {k : List KI} {v : V} {l : List Int} {n : Int} (hl : l.length ≤ 9223372036854775807) (hv : SlV 1 v (I1 l))
    (hx : ∀ fr' L', Gx tbl H [.tmp 4] 0 k fr' L' = some (.bool true)) :
    ∀ (t : List Int) (i : Nat) (fr : List V) (L : List Row), l.drop i = t → i ≤ l.length → Ab.get fr 0 = v → Ab.get fr 1 = .i n → Ab.get fr 5 = .i (i : Nat) →
    G tbl H [.tmp 4] (.code (.loop ( (.seq ( (.seq ( .region [] [ ⟨some 20, .mv (.t 5), none⟩, ⟨some 21, .mv (.t 0), none⟩, ⟨some 22, .len (.t 21), none⟩, ⟨some 23, .bin .lss (.t 20) (.t 22), none⟩]) ( (.cond (.t 23) ( .skip) ( .exit 0))))) ( (.seq ( (.block 1 ( (.seq ( .region [] [ ⟨some 26, .mv (.t 5), none⟩, ⟨some 27, .bin .eql (.t 26) (.c (.int .i64 0)), none⟩, ⟨some 28, .mv (.t 27), none⟩, ⟨some 29, .mv (.t 0), some (28, true)⟩, ⟨some 30, .mv (.t 5), some (28, true)⟩, ⟨some 31, .elemAddr 1 (.t 29) (.t 30), some (28, true)⟩, ⟨some 32, .load false 1 (.t 31), some (28, true)⟩, ⟨some 33, .bin .neq (.t 32) (.c (.int .i64 0)), some (28, true)⟩, ⟨some 34, .pick (.t 28) (.t 33) (.c (.bool false)), none⟩, ⟨some 35, .mv (.t 34), none⟩, ⟨some 36, .mv (.t 5), some (35, false)⟩, ⟨some 37, .bin .gtr (.t 36) (.c (.int .i64 0)), some (35, false)⟩, ⟨some 38, .mv (.t 37), some (35, false)⟩, ⟨some 39, .mv (.t 0), some (38, true)⟩, ⟨some 40, .mv (.t 5), some (38, true)⟩, ⟨some 41, .elemAddr 1 (.t 39) (.t 40), some (38, true)⟩, ⟨some 42, .load false 1 (.t 41), some (38, true)⟩, ⟨some 43, .mv (.t 0), some (38, true)⟩, ⟨some 44, .mv (.t 5), some (38, true)⟩, ⟨some 45, .bin .sub (.t 44) (.c (.int .i64 1)), some (38, true)⟩, ⟨some 46, .elemAddr 1 (.t 43) (.t 45), some (38, true)⟩, ⟨some 47, .load false 1 (.t 46), some (38, true)⟩, ⟨some 48, .bin .leq (.t 42) (.t 47), some (38, true)⟩, ⟨some 49, .pick (.t 38) (.t 48) (.c (.bool false)), some (35, false)⟩, ⟨some 50, .pick (.t 35) (.c (.bool true)) (.t 49), none⟩, ⟨some 51, .mv (.t 50), none⟩, ⟨some 52, .mv (.t 0), some (51, false)⟩, ⟨some 53, .mv (.t 5), some (51, false)⟩, ⟨some 54, .elemAddr 1 (.t 52) (.t 53), some (51, false)⟩, ⟨some 55, .load false 1 (.t 54), some (51, false)⟩, ⟨some 56, .mv (.t 1), some (51, false)⟩, ⟨some 57, .bin .geq (.t 55) (.t 56), some (51, false)⟩, ⟨some 58, .pick (.t 51) (.c (.bool true)) (.t 57), none⟩]) ( (.cond (.t 58) ( (.seq ( .region [] [ ⟨some 4, .mv (.c (.bool false)), none⟩]) ( .ret))) ( .skip))))))) ( .region [] [ ⟨some 24, .mv (.t 5), none⟩, ⟨some 25, .bin .add (.t 24) (.c (.int .i64 1)), none⟩, ⟨some 5, .mv (.t 25), none⟩])))))) :: k) fr L = some (.bool (divB n (pre l i) t)) := by
  intro t
  have hlen := hv.len
  rw [I1_len] at hlen
  induction t with
  | nil =>
    intro i fr L ht hi h0 h1 h5
    have := drop_nil ht
    rw [divB]
    refine G_loop.trans ?_
    simp (config := { maxSteps := 10000000 }) (disch := omega) only [↓G_seq, ↓G_exit, ↓G_region, ↓G_cond, ↓Gx_code, ↓G_ops_nil, ↓G_op, Gv_some, Gc_false, dec_f, killAll, ↓get_setS, evalOp, ev, b_lss, one, Option.map_some, List.getElem?_cons_zero, List.getElem?_cons_succ, Nat.reduceEqDiff, reduceCtorEq, ↓reduceIte, Nat.succ_ne_self, h0, h5, hlen, hx]
  | cons x t ih =>
    intro i fr L ht hi h0 h1 h5
    obtain ⟨e1, e2, e3⟩ := drop_cons ht
    have hE := hv.el (I1_get l i x e1)
    have hpn : pre l (i + 1) = some x := e1
    have next : ∀ fr' L', Ab.get fr' 0 = v → Ab.get fr' 1 = .i n → Ab.get fr' 5 = .i ((i : Nat) + 1) → G tbl H [.tmp 4] (.code (.loop ( (.seq ( (.seq ( .region [] [ ⟨some 20, .mv (.t 5), none⟩, ⟨some 21, .mv (.t 0), none⟩, ⟨some 22, .len (.t 21), none⟩, ⟨some 23, .bin .lss (.t 20) (.t 22), none⟩]) ( (.cond (.t 23) ( .skip) ( .exit 0))))) ( (.seq ( (.block 1 ( (.seq ( .region [] [ ⟨some 26, .mv (.t 5), none⟩, ⟨some 27, .bin .eql (.t 26) (.c (.int .i64 0)), none⟩, ⟨some 28, .mv (.t 27), none⟩, ⟨some 29, .mv (.t 0), some (28, true)⟩, ⟨some 30, .mv (.t 5), some (28, true)⟩, ⟨some 31, .elemAddr 1 (.t 29) (.t 30), some (28, true)⟩, ⟨some 32, .load false 1 (.t 31), some (28, true)⟩, ⟨some 33, .bin .neq (.t 32) (.c (.int .i64 0)), some (28, true)⟩, ⟨some 34, .pick (.t 28) (.t 33) (.c (.bool false)), none⟩, ⟨some 35, .mv (.t 34), none⟩, ⟨some 36, .mv (.t 5), some (35, false)⟩, ⟨some 37, .bin .gtr (.t 36) (.c (.int .i64 0)), some (35, false)⟩, ⟨some 38, .mv (.t 37), some (35, false)⟩, ⟨some 39, .mv (.t 0), some (38, true)⟩, ⟨some 40, .mv (.t 5), some (38, true)⟩, ⟨some 41, .elemAddr 1 (.t 39) (.t 40), some (38, true)⟩, ⟨some 42, .load false 1 (.t 41), some (38, true)⟩, ⟨some 43, .mv (.t 0), some (38, true)⟩, ⟨some 44, .mv (.t 5), some (38, true)⟩, ⟨some 45, .bin .sub (.t 44) (.c (.int .i64 1)), some (38, true)⟩, ⟨some 46, .elemAddr 1 (.t 43) (.t 45), some (38, true)⟩, ⟨some 47, .load false 1 (.t 46), some (38, true)⟩, ⟨some 48, .bin .leq (.t 42) (.t 47), some (38, true)⟩, ⟨some 49, .pick (.t 38) (.t 48) (.c (.bool false)), some (35, false)⟩, ⟨some 50, .pick (.t 35) (.c (.bool true)) (.t 49), none⟩, ⟨some 51, .mv (.t 50), none⟩, ⟨some 52, .mv (.t 0), some (51, false)⟩, ⟨some 53, .mv (.t 5), some (51, false)⟩, ⟨some 54, .elemAddr 1 (.t 52) (.t 53), some (51, false)⟩, ⟨some 55, .load false 1 (.t 54), some (51, false)⟩, ⟨some 56, .mv (.t 1), some (51, false)⟩, ⟨some 57, .bin .geq (.t 55) (.t 56), some (51, false)⟩, ⟨some 58, .pick (.t 51) (.c (.bool true)) (.t 57), none⟩]) ( (.cond (.t 58) ( (.seq ( .region [] [ ⟨some 4, .mv (.c (.bool false)), none⟩]) ( .ret))) ( .skip))))))) ( .region [] [ ⟨some 24, .mv (.t 5), none⟩, ⟨some 25, .bin .add (.t 24) (.c (.int .i64 1)), none⟩, ⟨some 5, .mv (.t 25), none⟩])))))) :: k) fr' L' = some (.bool (divB n (some x) t)) := by
      intro fr' L' g0 g1 g5
      rw [← hpn]
      exact ih (i + 1) fr' L' e2 (by omega) g0 g1 (by rw [g5]; congr 1)
    clear ih hx
    refine G_loop.trans ?_
    cases i with
    | zero =>
      simp only [pre, divB]
      simp only [Int.ofNat_zero, Int.cast_ofNat_Int, Int.zero_add] at h5 hE next
      by_cases c1 : x = 0
      · by_cases c2 : x < n
        · simp only [decide_eq_true c1, decide_eq_true c2, Bool.true_and]
          simp (config := { maxSteps := 10000000 }) (disch := omega) only [↓G_seq, ↓G_skip, ↓G_blk, ↓G_region, ↓G_block, ↓G_cond, ↓G_ops_nil, ↓G_op, Gv_some, ↓G_gop, Gw_tt, Gw_ff, Gw_tf, Gc_true, Gc_false, dec_t, dec_f, killAll, ↓get_setS, evalOp, ev, b_add, b_eql, b_neq, b_lss, b_gtr, b_geq, wrap_i64, one, Option.map_some, asB, List.getElem?_cons_zero, List.getElem?_cons_succ, Nat.reduceEqDiff, reduceCtorEq, ↓reduceIte, Nat.succ_ne_self, decide_true, decide_false, Bool.not_true, Bool.false_eq_true, Int.reduceAdd, Int.reduceLT, pick3, loadV, Nat.reduceAdd, Nat.reduceLT, h0, h1, h5, hlen, hE]
          refine next _ _ ?_ ?_ ?_
          all_goals simp (config := { maxSteps := 10000000 }) (disch := omega) only [↓get_setS, List.getElem?_cons_zero, List.getElem?_cons_succ, Nat.reduceEqDiff, reduceCtorEq, ↓reduceIte, h0, h1]
        · simp only [decide_eq_false c2, Bool.and_false, Bool.false_and]
          clear next
          simp (config := { maxSteps := 10000000 }) (disch := omega) only [↓G_seq, ↓G_skip, ↓G_ret, ↓G_region, ↓G_block, ↓G_cond, ↓G_ops_nil, ↓G_op, Gv_some, ↓G_gop, Gw_tt, Gw_ff, Gw_tf, Gc_true, dec_t, killAll, ↓get_setS, evalOp, ev, b_eql, b_neq, b_lss, b_gtr, b_geq, one, Option.map_some, Option.bind_some, asB, finish, resVs, resV, outVs, ownsLast, tupOf, List.all_nil, List.getElem?_cons_zero, List.getElem?_cons_succ, Nat.reduceEqDiff, reduceCtorEq, ↓reduceIte, Nat.succ_ne_self, decide_true, decide_false, Bool.not_true, Bool.false_eq_true, Int.reduceLT, pick3, loadV, Nat.reduceLT, ov_bool, fn_some, h0, h1, h5, hlen, hE]
      · simp only [decide_eq_false c1, Bool.false_and]
        clear next
        simp (config := { maxSteps := 10000000 }) (disch := omega) only [↓G_seq, ↓G_skip, ↓G_ret, ↓G_region, ↓G_block, ↓G_cond, ↓G_ops_nil, ↓G_op, Gv_some, ↓G_gop, Gw_tt, Gw_ft, Gw_tup, Gc_true, dec_t, dec_f, killAll, ↓get_setS, evalOp, ev, b_eql, b_neq, b_lss, one, Option.map_some, Option.bind_some, asB, finish, resVs, resV, outVs, ownsLast, tupOf, List.all_nil, List.getElem?_cons_zero, List.getElem?_cons_succ, Nat.reduceEqDiff, reduceCtorEq, ↓reduceIte, Nat.succ_ne_self, decide_true, Bool.not_false, Bool.false_eq_true, pick3, loadV, ov_bool, fn_some, h0, h5, hlen, hE]
    | succ j =>
      obtain ⟨y, hy⟩ : ∃ y, l[j]? = some y := ⟨_, List.getElem?_eq_getElem (by omega)⟩
      have hE2 := hv.el (I1_get l j y hy)
      have hj : (((j + 1 : Nat) : Int)) - 1 = (j : Nat) := by omega
      simp only [pre, hy, divB]
      by_cases c1 : y < x
      · by_cases c2 : x < n
        · simp only [decide_eq_true c1, decide_eq_true c2, Bool.true_and]
          simp (config := { maxSteps := 10000000 }) (disch := omega) only [↓G_seq, ↓G_skip, ↓G_blk, ↓G_region, ↓G_block, ↓G_cond, ↓G_ops_nil, ↓G_op, Gv_some, ↓G_gop, Gw_tt, Gw_ff, Gw_tf, Gc_true, Gc_false, dec_t, dec_f, killAll, ↓get_setS, evalOp, ev, b_add, b_sub, b_eql, b_lss, b_leq, b_gtr, b_geq, wrap_i64, one, Option.map_some, asB, List.getElem?_cons_zero, List.getElem?_cons_succ, Nat.reduceEqDiff, reduceCtorEq, ↓reduceIte, Nat.succ_ne_self, Bool.false_eq_true, pick3, loadV, h0, h1, h5, hlen, hE, hE2, hj]
          refine next _ _ ?_ ?_ ?_
          all_goals simp (config := { maxSteps := 10000000 }) (disch := omega) only [↓get_setS, List.getElem?_cons_zero, List.getElem?_cons_succ, Nat.reduceEqDiff, reduceCtorEq, ↓reduceIte, h0, h1]
        · simp only [decide_eq_false c2, Bool.and_false, Bool.false_and]
          clear next
          simp (config := { maxSteps := 10000000 }) (disch := omega) only [↓G_seq, ↓G_skip, ↓G_ret, ↓G_region, ↓G_block, ↓G_cond, ↓G_ops_nil, ↓G_op, Gv_some, ↓G_gop, Gw_tt, Gw_ff, Gw_tf, Gc_true, dec_t, dec_f, killAll, ↓get_setS, evalOp, ev, b_sub, b_eql, b_lss, b_leq, b_gtr, b_geq, wrap_i64, one, Option.map_some, Option.bind_some, asB, finish, resVs, resV, outVs, ownsLast, tupOf, List.all_nil, List.getElem?_cons_zero, List.getElem?_cons_succ, Nat.reduceEqDiff, reduceCtorEq, ↓reduceIte, Nat.succ_ne_self, Bool.false_eq_true, pick3, loadV, ov_bool, fn_some, h0, h1, h5, hlen, hE, hE2, hj]
      · simp only [decide_eq_false c1, Bool.false_and]
        clear next
        simp (config := { maxSteps := 10000000 }) (disch := omega) only [↓G_seq, ↓G_skip, ↓G_ret, ↓G_region, ↓G_block, ↓G_cond, ↓G_ops_nil, ↓G_op, Gv_some, ↓G_gop, Gw_tt, Gw_ff, Gw_tf, Gw_ft, Gc_true, dec_t, dec_f, killAll, ↓get_setS, evalOp, ev, b_sub, b_eql, b_lss, b_leq, b_gtr, wrap_i64, one, Option.map_some, Option.bind_some, asB, finish, resVs, resV, outVs, ownsLast, tupOf, List.all_nil, List.getElem?_cons_zero, List.getElem?_cons_succ, Nat.reduceEqDiff, reduceCtorEq, ↓reduceIte, Nat.succ_ne_self, Bool.false_eq_true, pick3, loadV, ov_bool, fn_some, h0, h5, hlen, hE, hE2, hj]

theorem divB_neg {n : Int} : ∀ (p : Int) (l : List Int), 0 ≤ p → n ≤ 0 → l ≠ [] → divB n (some p) l = false
  | p, [], _, _, h => absurd rfl h
  | p, x :: t, hp, hn, _ => by
    unfold divB
    by_cases c : p < x
    · have : ¬ x < n := by omega
      simp [this]
    · simp [c]

theorem c18 {v : V} {l : List Int} {n : Int} (hm : l.length ≤ 9223372036854775807) (hn : 0 ≤ n) (hv : SlV 1 v (I1 l)) : call tbl 18 [v, .i n] H = some (.bool (divR n l)) := by
  refine (call_start (show tbl 18 = some a18 from rfl)).trans ?_
  have hlen := hv.len
  rw [I1_len] at hlen
  unfold divR
  by_cases h1 : n = 0
  · by_cases h2 : l = []
    · subst h2
      simp only [List.length_nil, Int.ofNat_zero, Int.cast_ofNat_Int] at hlen
      simp only [divB, decide_eq_true h1, decide_true, Bool.true_and]
      unfold a18
      simp (config := { maxSteps := 10000000 }) (disch := omega) only [beq_self_eq_true, ↓G_seq, ↓G_ret, ↓G_region, ↓G_cond, ↓G_ops_nil, ↓G_op, Gv_some, ↓G_gop, Gw_tt, Gw_ft, Gc_true, dec_t, killAll, ↓get_setS, evalOp, ev, Ab.get, b_eql, one, Option.map_some, Option.bind_some, asB, finish, resVs, resV, outVs, ownsLast, tupOf, List.all_nil, List.getElem?_cons_zero, List.getElem?_cons_succ, Nat.reduceEqDiff, reduceCtorEq, ↓reduceIte, Nat.succ_ne_self, decide_true, ov_bool, fn_some, hlen]
    · have : 0 < l.length := List.length_pos_iff.2 h2
      simp only [decide_eq_false h2, decide_eq_true h1]
      rw [show (true == false) = false from rfl, Bool.and_false]
      unfold a18
      simp (config := { maxSteps := 10000000 }) (disch := omega) only [↓G_seq, ↓G_ret, ↓G_region, ↓G_cond, ↓G_ops_nil, ↓G_op, Gv_some, ↓G_gop, Gw_tt, Gw_ft, Gc_true, dec_t, dec_f, killAll, ↓get_setS, evalOp, ev, Ab.get, b_eql, one, Option.map_some, Option.bind_some, asB, finish, resVs, resV, outVs, ownsLast, tupOf, List.all_nil, List.getElem?_cons_zero, List.getElem?_cons_succ, Nat.reduceEqDiff, reduceCtorEq, ↓reduceIte, Nat.succ_ne_self, ov_bool, fn_some, hlen]
  · by_cases h2 : l = []
    · subst h2
      simp only [List.length_nil, Int.ofNat_zero, Int.cast_ofNat_Int] at hlen
      simp only [divB, decide_eq_false h1, decide_true, Bool.true_and]
      unfold a18
      simp (config := { maxSteps := 10000000 }) (disch := omega) only [Bool.false_beq, ↓G_seq, ↓G_ret, ↓G_region, ↓G_cond, ↓G_ops_nil, ↓G_op, Gv_some, ↓G_gop, Gw_ff, Gw_tf, Gc_true, dec_f, killAll, ↓get_setS, evalOp, ev, Ab.get, b_eql, one, Option.map_some, Option.bind_some, asB, finish, resVs, resV, outVs, ownsLast, tupOf, List.all_nil, List.getElem?_cons_zero, List.getElem?_cons_succ, Nat.reduceEqDiff, reduceCtorEq, ↓reduceIte, Nat.succ_ne_self, decide_true, Bool.not_true, Bool.false_eq_true, ov_bool, fn_some, hlen]
    · have : 0 < l.length := List.length_pos_iff.2 h2
      simp only [decide_eq_false h2, decide_eq_false h1]
      rw [show (false == false) = true from rfl, Bool.and_true]
      unfold a18
      simp (config := { maxSteps := 10000000 }) (disch := omega) only [↓G_seq, ↓G_skip, ↓G_region, ↓G_block, ↓G_cond, ↓G_ops_nil, ↓G_op, Gv_some, ↓G_gop, Gw_ff, Gc_false, dec_f, killAll, ↓get_setS, evalOp, ev, Ab.get, b_eql, one, Option.map_some, asB, List.getElem?_cons_zero, List.getElem?_cons_succ, Nat.reduceEqDiff, reduceCtorEq, ↓reduceIte, Nat.succ_ne_self, Bool.false_eq_true, hlen]
      refine loop18 (l := l) (n := n) hm hv (fun fr' L' => ?_) l 0 _ _ rfl (by omega) ?_ ?_ ?_
      all_goals simp (config := { maxSteps := 10000000 }) (disch := omega) only [↓G_seq, ↓G_ret, ↓G_region, ↓Gx_blk, ↓G_ops_nil, ↓G_op, Gv_some, killAll, ↓get_setS, evalOp, ev, Ab.get, Option.map_some, Option.bind_some, finish, resVs, resV, outVs, ownsLast, tupOf, List.all_nil, List.getElem?_cons_zero, List.getElem?_cons_succ, Nat.reduceEqDiff, reduceCtorEq, ↓reduceIte, Int.cast_ofNat_Int, ov_bool, fn_some]

theorem c31 {v : V} {l : List Int} {n : Int} {i : Nat} (hi : i < l.length) (hm : l.length ≤ 4096) (hv : SlV 1 v (I1 l)) : call tbl 31 [.i n, v, .i (i : Nat)] H = some (.i (match l[i + 1]? with | some x => x | none => n)) := by
  refine (call_start (show tbl 31 = some a31 from rfl)).trans ?_
  have hlen := hv.len
  rw [I1_len] at hlen
  by_cases h : i + 1 < l.length
  · have e : l[i + 1]? = some l[i + 1] := List.getElem?_eq_getElem h
    have hE := hv.el (I1_get l (i + 1) _ e)
    rw [show ((i + 1 : Nat) : Int) = (i : Int) + 1 from rfl] at hE
    rw [e]
    unfold a31
    simp (config := { maxSteps := 10000000 }) (disch := omega) only [↓G_seq, ↓G_ret, ↓G_region, ↓G_cond, ↓G_ops_nil, ↓G_op, Gv_some, Gc_true, dec_t, killAll, ↓get_setS, evalOp, ev, Ab.get, b_add, b_lss, wrap_i64, one, Option.map_some, Option.bind_some, finish, resVs, resV, outVs, ownsLast, tupOf, List.all_nil, List.getElem?_cons_zero, List.getElem?_cons_succ, Nat.reduceEqDiff, ↓reduceIte, Nat.succ_ne_self, Bool.false_eq_true, pick3, loadV, ov_int, fn_some, hlen, hE]
  · rw [List.getElem?_eq_none (by omega)]
    unfold a31
    simp (config := { maxSteps := 10000000 }) (disch := omega) only [↓G_seq, ↓G_skip, ↓G_ret, ↓G_region, ↓G_cond, ↓G_ops_nil, ↓G_op, Gv_some, Gc_false, dec_f, killAll, ↓get_setS, evalOp, ev, Ab.get, b_add, b_lss, wrap_i64, one, Option.map_some, Option.bind_some, finish, resVs, resV, outVs, ownsLast, tupOf, List.all_nil, List.getElem?_cons_zero, List.getElem?_cons_succ, Nat.reduceEqDiff, reduceCtorEq, ↓reduceIte, Nat.succ_ne_self, ov_int, fn_some, hlen]

/-- Lists of numbers, compared. -/
theorem loop16 {k : List KI} {v w : V} {a b : List Int} (hl : a.length ≤ 4096) (hab : a.length = b.length) (hv : SlV 1 v (I1 a)) (hw : SlV 1 w (I1 b))
    (hx : ∀ fr' L', Gx tbl H [.tmp 4] 0 k fr' L' = some (.bool true)) :
    ∀ (t s : List Int) (i : Nat) (fr : List V) (L : List Row), a.drop i = t → b.drop i = s → i ≤ a.length → Ab.get fr 0 = v → Ab.get fr 1 = w → Ab.get fr 5 = .i (i : Nat) →
    G tbl H [.tmp 4] (.code (.loop ( (.seq ( (.seq ( .region [] [ ⟨some 11, .mv (.t 5), none⟩, ⟨some 12, .mv (.t 0), none⟩, ⟨some 13, .len (.t 12), none⟩, ⟨some 14, .bin .lss (.t 11) (.t 13), none⟩]) ( (.cond (.t 14) ( .skip) ( .exit 0))))) ( (.seq ( (.block 1 ( (.seq ( .region [] [ ⟨some 17, .mv (.t 0), none⟩, ⟨some 18, .mv (.t 5), none⟩, ⟨some 19, .elemAddr 1 (.t 17) (.t 18), none⟩, ⟨some 20, .load false 1 (.t 19), none⟩, ⟨some 21, .mv (.t 1), none⟩, ⟨some 22, .mv (.t 5), none⟩, ⟨some 23, .elemAddr 1 (.t 21) (.t 22), none⟩, ⟨some 24, .load false 1 (.t 23), none⟩, ⟨some 25, .bin .neq (.t 20) (.t 24), none⟩]) ( (.cond (.t 25) ( (.seq ( .region [] [ ⟨some 4, .mv (.c (.bool false)), none⟩]) ( .ret))) ( .skip))))))) ( .region [] [ ⟨some 15, .mv (.t 5), none⟩, ⟨some 16, .bin .add (.t 15) (.c (.int .i64 1)), none⟩, ⟨some 5, .mv (.t 16), none⟩])))))) :: k) fr L = some (.bool (decide (t = s))) := by
  intro t
  have hlen := hv.len
  rw [I1_len] at hlen
  induction t with
  | nil =>
    intro s i fr L ht hs hi h0 h1 h5
    have := drop_nil ht
    have hs' : s = [] := by rw [← hs, List.drop_of_length_le (by omega)]
    subst hs'
    rw [decide_eq_true rfl]
    refine G_loop.trans ?_
    simp (config := { maxSteps := 10000000 }) (disch := omega) only [↓G_seq, ↓G_exit, ↓G_region, ↓G_cond, ↓Gx_code, ↓G_ops_nil, ↓G_op, Gv_some, Gc_false, dec_f, killAll, ↓get_setS, evalOp, ev, b_lss, one, Option.map_some, List.getElem?_cons_zero, List.getElem?_cons_succ, Nat.reduceEqDiff, reduceCtorEq, ↓reduceIte, Nat.succ_ne_self, h0, h5, hlen, hx]
  | cons x t ih =>
    intro s i fr L ht hs hi h0 h1 h5
    obtain ⟨e1, e2, e3⟩ := drop_cons ht
    cases s with
    | nil => have := drop_nil hs; omega
    | cons y s =>
      obtain ⟨f1, f2, f3⟩ := drop_cons hs
      have hE := hv.el (I1_get a i x e1)
      have hE2 := hw.el (I1_get b i y f1)
      refine G_loop.trans ?_
      by_cases c : x = y
      · subst c
        have : decide (x :: t = x :: s) = decide (t = s) := by simp
        rw [this]
        have nx := fun fr' L' => ih s (i + 1) fr' L' e2 f2 (by omega)
        clear ih hx
        simp (config := { maxSteps := 10000000 }) (disch := omega) only [↓G_seq, ↓G_skip, ↓G_blk, ↓G_region, ↓G_block, ↓G_cond, ↓G_ops_nil, ↓G_op, Gv_some, Gc_true, Gc_false, dec_t, killAll, ↓get_setS, evalOp, ev, b_add, b_neq, b_lss, wrap_i64, one, Option.map_some, List.getElem?_cons_zero, List.getElem?_cons_succ, Nat.reduceEqDiff, reduceCtorEq, ↓reduceIte, Nat.succ_ne_self, decide_true, Bool.not_true, Bool.false_eq_true, pick3, loadV, h0, h1, h5, hlen, hE, hE2]
        refine nx _ _ ?_ ?_ ?_
        all_goals simp (config := { maxSteps := 10000000 }) (disch := omega) only [↓get_setS, List.getElem?_cons_zero, List.getElem?_cons_succ, Nat.reduceEqDiff, reduceCtorEq, ↓reduceIte, h0, h1]
        congr 1
      · have : decide (x :: t = y :: s) = false := by simp [c]
        rw [this]
        clear ih hx
        simp (config := { maxSteps := 10000000 }) (disch := omega) only [↓G_seq, ↓G_skip, ↓G_ret, ↓G_region, ↓G_block, ↓G_cond, ↓G_ops_nil, ↓G_op, Gv_some, Gc_true, dec_t, dec_f, killAll, ↓get_setS, evalOp, ev, b_neq, b_lss, one, Option.map_some, Option.bind_some, finish, resVs, resV, outVs, ownsLast, tupOf, List.all_nil, List.getElem?_cons_zero, List.getElem?_cons_succ, Nat.reduceEqDiff, reduceCtorEq, ↓reduceIte, Nat.succ_ne_self, Bool.not_false, Bool.false_eq_true, pick3, loadV, ov_bool, fn_some, h0, h1, h5, hlen, hE, hE2]

theorem c16 {v w : V} {a b : List Int} (hl : a.length ≤ 4096) (hl2 : b.length ≤ 9223372036854775807) (hv : SlV 1 v (I1 a)) (hw : SlV 1 w (I1 b)) : call tbl 16 [v, w] H = some (.bool (decide (a = b))) := by
  refine (call_start (show tbl 16 = some a16 from rfl)).trans ?_
  have hlen := hv.len
  rw [I1_len] at hlen
  have hlen2 := hw.len
  rw [I1_len] at hlen2
  by_cases h : a.length = b.length
  · unfold a16
    simp (config := { maxSteps := 10000000 }) (disch := omega) only [↓G_seq, ↓G_skip, ↓G_region, ↓G_block, ↓G_cond, ↓G_ops_nil, ↓G_op, Gv_some, Gc_false, dec_t, killAll, ↓get_setS, evalOp, ev, Ab.get, b_neq, one, Option.map_some, List.getElem?_cons_zero, List.getElem?_cons_succ, Nat.reduceEqDiff, reduceCtorEq, ↓reduceIte, Nat.succ_ne_self, Bool.not_true, hlen, hlen2]
    refine loop16 hl h hv hw (fun fr' L' => ?_) a b 0 _ _ rfl rfl (by omega) ?_ ?_ ?_
    all_goals simp (config := { maxSteps := 10000000 }) (disch := omega) only [↓G_seq, ↓G_ret, ↓G_region, ↓Gx_blk, ↓G_ops_nil, ↓G_op, Gv_some, killAll, ↓get_setS, evalOp, ev, Ab.get, Option.map_some, Option.bind_some, finish, resVs, resV, outVs, ownsLast, tupOf, List.all_nil, List.getElem?_cons_zero, List.getElem?_cons_succ, Nat.reduceEqDiff, reduceCtorEq, ↓reduceIte, Int.cast_ofNat_Int, ov_bool, fn_some]
  · have : ¬ a = b := fun e => h (by rw [e])
    rw [decide_eq_false this]
    unfold a16
    simp (config := { maxSteps := 10000000 }) (disch := omega) only [↓G_seq, ↓G_ret, ↓G_region, ↓G_cond, ↓G_ops_nil, ↓G_op, Gv_some, Gc_true, dec_f, killAll, ↓get_setS, evalOp, ev, Ab.get, b_neq, one, Option.map_some, Option.bind_some, finish, resVs, resV, outVs, ownsLast, tupOf, List.all_nil, List.getElem?_cons_zero, List.getElem?_cons_succ, Nat.reduceEqDiff, reduceCtorEq, ↓reduceIte, Nat.succ_ne_self, Bool.not_false, ov_bool, fn_some, hlen, hlen2]

end Go.Proofs.Ytgghbckhdchcaaa

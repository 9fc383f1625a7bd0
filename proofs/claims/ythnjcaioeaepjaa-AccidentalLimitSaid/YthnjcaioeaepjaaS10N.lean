/-
  The laws AccidentalRoundTrip and AccidentalNeeded as equations.
-/
import Derived.Test.YthnjcaioeaepjaaS10T
namespace Go.Proofs.Ythnjcaioeaepjaa
open Go Go.Ab
set_option linter.unusedVariables false
set_option linter.unnecessarySimpa false
set_option linter.unusedSimpArgs false
set_option maxRecDepth 100000
variable {H : List (List Row)}

def mkP (n : Nt) (m : Int × Bool) : Pl := ⟨n.at_, n.s, n.o, m.1, m.2, n.h, if n.h = true then n.al else 0⟩
theorem mkP_len {l : List Nt} {m : List (Int × Bool)} (h : m.length = l.length) : (List.zipWith mkP l m).length = l.length := by simp [h]

theorem loop25 {k : List KI} {rs : List ARes} {r : Option V} {v w : V} {l : List Nt} {m : List (Int × Bool)} (hl : l.length ≤ 1000000) (hm : m.length = l.length) (hv : SlV 6 v (E6 l)) (hw : SlV 2 w (M2 m))
    (hr : ∀ fr' L', Acc 2 7 L' (Ab.get fr' 5) (E7 (List.zipWith mkP l m)) → Gx tbl H rs 0 k fr' L' = r) :
    ∀ (q i : Nat) (fr : List V) (L : List Row), i + q = l.length → Ab.get fr 0 = v → Ab.get fr 1 = w → Ab.get fr 6 = .i (i : Nat) → Acc 2 7 L (Ab.get fr 5) (E7 ((List.zipWith mkP l m).take i)) →
    G tbl H rs (.code (.loop ( (.seq ( (.seq ( .region [] [ ⟨some 8, .mv (.t 6), none⟩, ⟨some 9, .mv (.t 0), none⟩, ⟨some 10, .len (.t 9), none⟩, ⟨some 11, .bin .lss (.t 8) (.t 10), none⟩, ⟨some 12, .mv (.t 11), none⟩, ⟨some 13, .mv (.t 6), some (12, true)⟩, ⟨some 14, .mv (.t 1), some (12, true)⟩, ⟨some 15, .len (.t 14), some (12, true)⟩, ⟨some 16, .bin .lss (.t 13) (.t 15), some (12, true)⟩, ⟨some 17, .pick (.t 12) (.t 16) (.c (.bool false)), none⟩]) ( (.cond (.t 17) ( .skip) ( .exit 0))))) ( (.seq ( (.block 1 ( (.seq ( .region [1] [ ⟨some 20, .mv (.t 0), none⟩, ⟨some 21, .mv (.t 6), none⟩, ⟨some 22, .elemAddr 6 (.t 20) (.t 21), none⟩, ⟨some 23, .fieldAddr 0 (.t 22), none⟩, ⟨some 24, .load false 1 (.t 23), none⟩, ⟨some 25, .mv (.t 0), none⟩, ⟨some 26, .mv (.t 6), none⟩, ⟨some 27, .elemAddr 6 (.t 25) (.t 26), none⟩, ⟨some 28, .fieldAddr 1 (.t 27), none⟩, ⟨some 29, .fieldAddr 0 (.t 28), none⟩, ⟨some 30, .load false 1 (.t 29), none⟩, ⟨some 31, .mv (.t 0), none⟩, ⟨some 32, .mv (.t 6), none⟩, ⟨some 33, .elemAddr 6 (.t 31) (.t 32), none⟩, ⟨some 34, .fieldAddr 1 (.t 33), none⟩, ⟨some 35, .fieldAddr 2 (.t 34), none⟩, ⟨some 36, .load false 1 (.t 35), none⟩, ⟨some 37, .mv (.t 1), none⟩, ⟨some 38, .mv (.t 6), none⟩, ⟨some 39, .elemAddr 2 (.t 37) (.t 38), none⟩, ⟨some 40, .load true 2 (.t 39), none⟩, ⟨some 41, .mv (.t 0), none⟩, ⟨some 42, .mv (.t 6), none⟩, ⟨some 43, .elemAddr 6 (.t 41) (.t 42), none⟩, ⟨some 44, .fieldAddr 4 (.t 43), none⟩, ⟨some 45, .load false 1 (.t 44), none⟩, ⟨some 46, .build [(.int .i64 0), (.int .i64 0), (.int .i64 0), (.int .i64 0), (.bool false), (.bool false), (.int .i64 0)] [(0, 1, (.t 24)), (1, 1, (.t 30)), (2, 1, (.t 36)), (3, 2, (.t 40)), (5, 1, (.t 45))], none⟩, ⟨some 7, .alloc 1 [(.int .i64 0), (.int .i64 0), (.int .i64 0), (.int .i64 0), (.bool false), (.bool false), (.int .i64 0)], none⟩, ⟨none, .store 7 (.t 7) (.t 46), none⟩]) ( (.seq ( (.seq ( .region [] [ ⟨some 47, .fieldAddr 5 (.t 7), none⟩, ⟨some 48, .load false 1 (.t 47), none⟩]) ( (.cond (.t 48) ( .region [] [ ⟨some 49, .mv (.t 0), none⟩, ⟨some 50, .mv (.t 6), none⟩, ⟨some 51, .elemAddr 6 (.t 49) (.t 50), none⟩, ⟨some 52, .fieldAddr 1 (.t 51), none⟩, ⟨some 53, .fieldAddr 1 (.t 52), none⟩, ⟨some 54, .load false 1 (.t 53), none⟩, ⟨some 55, .fieldAddr 6 (.t 7), none⟩, ⟨none, .store 1 (.t 55) (.t 54), none⟩]) ( .skip))))) ( .region [] [ ⟨some 56, .mv (.t 5), none⟩, ⟨some 57, .load true 7 (.t 7), none⟩, ⟨some 58, .lit 7 [(.int .i64 0), (.int .i64 0), (.int .i64 0), (.int .i64 0), (.bool false), (.bool false), (.int .i64 0)] 1 [(0, 7, (.t 57))], none⟩, ⟨some 59, .app 2 7 56 (.t 56) (.t 58), none⟩, ⟨some 5, .mv (.t 59), none⟩]))))))) ( .region [] [ ⟨some 18, .mv (.t 6), none⟩, ⟨some 19, .bin .add (.t 18) (.c (.int .i64 1)), none⟩, ⟨some 6, .mv (.t 19), none⟩])))))) :: k) fr L = r := by
  intro q
  have hlen := hv.len
  rw [E6_len] at hlen
  have hlen2 := hw.len
  rw [M2_len, hm] at hlen2
  have hzl := mkP_len hm
  induction q with
  | zero =>
    intro i fr L hi h0 h1 h6 hacc
    refine G_loop.trans ?_
    simp (config := { maxSteps := 10000000 }) (disch := omega) only [↓G_seq, ↓G_exit, ↓G_region, ↓G_cond, ↓Gx_code, ↓G_ops_nil, ↓G_op, Gv_some, ↓G_gop, Gw_tf, Gc_false, dec_f, killAll, ↓get_setS, evalOp, ev, b_lss, one, Option.map_some, asB, List.getElem?_cons_zero, List.getElem?_cons_succ, Nat.reduceEqDiff, reduceCtorEq, ↓reduceIte, Nat.succ_ne_self, Bool.false_eq_true, h0, h6, hlen]
    refine hr _ _ ?_
    simp (config := { maxSteps := 10000000 }) (disch := omega) only [↓get_setS, List.getElem?_cons_zero, List.getElem?_cons_succ, Nat.reduceEqDiff, ↓reduceIte]
    rw [List.take_of_length_le (by omega)] at hacc
    exact hacc
  | succ q ih =>
    intro i fr L hi h0 h1 h6 hacc
    obtain ⟨n, hn⟩ : ∃ x, l[i]? = some x := ⟨_, List.getElem?_eq_getElem (by omega)⟩
    obtain ⟨y, hy⟩ : ∃ x, m[i]? = some x := ⟨_, List.getElem?_eq_getElem (by omega)⟩
    have hE := hv.el (E6_get l i n hn)
    have hE2 := hw.el (M2_get m i y hy)
    have hz : (List.zipWith mkP l m)[i]? = some (mkP n y) := by simp [List.getElem?_zipWith, hn, hy]
    have htl : (E7 ((List.zipWith mkP l m).take i)).length = i := by rw [E7_len, List.length_take, hzl]; omega
    generalize hv5 : Ab.get fr 5 = v5 at hacc
    have hap : ∀ (be : Int) (b : Bool) (r1 : Row), appV (rset L 1 r1 :: H) 2 7 56 v5 (.sl .full 7 [[.i n.at_, .i n.s, .i n.o, .i y.1, .bool y.2, .bool b, .i be]]) = some (.ref 0 2 ((rget L 2).ver + 1) 7 0 (i + 1), rset (rset L 1 r1) 2 ⟨(rget L 2).ver + 1, 7, E7 ((List.zipWith mkP l m).take i) ++ [[.i n.at_, .i n.s, .i n.o, .i y.1, .bool y.2, .bool b, .i be]]⟩) := by
      intro be b r1
      have := (acc_app (H := H) (bytes := 56) (y := .sl .full 7 [[.i n.at_, .i n.s, .i n.o, .i y.1, .bool y.2, .bool b, .i be]]) (new := [[.i n.at_, .i n.s, .i n.o, .i y.1, .bool y.2, .bool b, .i be]]) (hacc.mono (L' := rset L 1 r1) (by simp [rget_rset])) rfl (by simp) (by omega) (by rw [htl]; simp; omega) (by simp [V.scalar])).1
      rw [this, htl]
      simp [rget_rset]
    have next : ∀ (be : Int) (fr' : List V) (L' : List Row), mkP n y = ⟨n.at_, n.s, n.o, y.1, y.2, n.h, be⟩ → Ab.get fr' 0 = v → Ab.get fr' 1 = w → Ab.get fr' 6 = .i ((i : Nat) + 1) → Ab.get fr' 5 = .ref 0 2 ((rget L 2).ver + 1) 7 0 (i + 1) →
        rget L' 2 = ⟨(rget L 2).ver + 1, 7, E7 ((List.zipWith mkP l m).take i) ++ [[.i n.at_, .i n.s, .i n.o, .i y.1, .bool y.2, .bool n.h, .i be]]⟩ → G tbl H rs (.code (.loop ( (.seq ( (.seq ( .region [] [ ⟨some 8, .mv (.t 6), none⟩, ⟨some 9, .mv (.t 0), none⟩, ⟨some 10, .len (.t 9), none⟩, ⟨some 11, .bin .lss (.t 8) (.t 10), none⟩, ⟨some 12, .mv (.t 11), none⟩, ⟨some 13, .mv (.t 6), some (12, true)⟩, ⟨some 14, .mv (.t 1), some (12, true)⟩, ⟨some 15, .len (.t 14), some (12, true)⟩, ⟨some 16, .bin .lss (.t 13) (.t 15), some (12, true)⟩, ⟨some 17, .pick (.t 12) (.t 16) (.c (.bool false)), none⟩]) ( (.cond (.t 17) ( .skip) ( .exit 0))))) ( (.seq ( (.block 1 ( (.seq ( .region [1] [ ⟨some 20, .mv (.t 0), none⟩, ⟨some 21, .mv (.t 6), none⟩, ⟨some 22, .elemAddr 6 (.t 20) (.t 21), none⟩, ⟨some 23, .fieldAddr 0 (.t 22), none⟩, ⟨some 24, .load false 1 (.t 23), none⟩, ⟨some 25, .mv (.t 0), none⟩, ⟨some 26, .mv (.t 6), none⟩, ⟨some 27, .elemAddr 6 (.t 25) (.t 26), none⟩, ⟨some 28, .fieldAddr 1 (.t 27), none⟩, ⟨some 29, .fieldAddr 0 (.t 28), none⟩, ⟨some 30, .load false 1 (.t 29), none⟩, ⟨some 31, .mv (.t 0), none⟩, ⟨some 32, .mv (.t 6), none⟩, ⟨some 33, .elemAddr 6 (.t 31) (.t 32), none⟩, ⟨some 34, .fieldAddr 1 (.t 33), none⟩, ⟨some 35, .fieldAddr 2 (.t 34), none⟩, ⟨some 36, .load false 1 (.t 35), none⟩, ⟨some 37, .mv (.t 1), none⟩, ⟨some 38, .mv (.t 6), none⟩, ⟨some 39, .elemAddr 2 (.t 37) (.t 38), none⟩, ⟨some 40, .load true 2 (.t 39), none⟩, ⟨some 41, .mv (.t 0), none⟩, ⟨some 42, .mv (.t 6), none⟩, ⟨some 43, .elemAddr 6 (.t 41) (.t 42), none⟩, ⟨some 44, .fieldAddr 4 (.t 43), none⟩, ⟨some 45, .load false 1 (.t 44), none⟩, ⟨some 46, .build [(.int .i64 0), (.int .i64 0), (.int .i64 0), (.int .i64 0), (.bool false), (.bool false), (.int .i64 0)] [(0, 1, (.t 24)), (1, 1, (.t 30)), (2, 1, (.t 36)), (3, 2, (.t 40)), (5, 1, (.t 45))], none⟩, ⟨some 7, .alloc 1 [(.int .i64 0), (.int .i64 0), (.int .i64 0), (.int .i64 0), (.bool false), (.bool false), (.int .i64 0)], none⟩, ⟨none, .store 7 (.t 7) (.t 46), none⟩]) ( (.seq ( (.seq ( .region [] [ ⟨some 47, .fieldAddr 5 (.t 7), none⟩, ⟨some 48, .load false 1 (.t 47), none⟩]) ( (.cond (.t 48) ( .region [] [ ⟨some 49, .mv (.t 0), none⟩, ⟨some 50, .mv (.t 6), none⟩, ⟨some 51, .elemAddr 6 (.t 49) (.t 50), none⟩, ⟨some 52, .fieldAddr 1 (.t 51), none⟩, ⟨some 53, .fieldAddr 1 (.t 52), none⟩, ⟨some 54, .load false 1 (.t 53), none⟩, ⟨some 55, .fieldAddr 6 (.t 7), none⟩, ⟨none, .store 1 (.t 55) (.t 54), none⟩]) ( .skip))))) ( .region [] [ ⟨some 56, .mv (.t 5), none⟩, ⟨some 57, .load true 7 (.t 7), none⟩, ⟨some 58, .lit 7 [(.int .i64 0), (.int .i64 0), (.int .i64 0), (.int .i64 0), (.bool false), (.bool false), (.int .i64 0)] 1 [(0, 7, (.t 57))], none⟩, ⟨some 59, .app 2 7 56 (.t 56) (.t 58), none⟩, ⟨some 5, .mv (.t 59), none⟩]))))))) ( .region [] [ ⟨some 18, .mv (.t 6), none⟩, ⟨some 19, .bin .add (.t 18) (.c (.int .i64 1)), none⟩, ⟨some 6, .mv (.t 19), none⟩])))))) :: k) fr' L' = r := by
      intro be fr' L' hmk g0 g1 g6 g5 s2
      have he : E7 ((List.zipWith mkP l m).take (i + 1)) = E7 ((List.zipWith mkP l m).take i) ++ [[.i n.at_, .i n.s, .i n.o, .i y.1, .bool y.2, .bool n.h, .i be]] := by
        rw [List.take_add_one, hz, hmk]
        simp [E7, Pl.cells]
      refine ih (i + 1) fr' L' (by omega) g0 g1 (by rw [g6]; congr 1) ?_
      rw [g5, he]
      exact Acc.mk (ver := (rget L 2).ver + 1) (by omega) (by rw [List.length_append, htl]; rfl) s2 (by simp)
    clear ih hr hacc
    refine G_loop.trans ?_
    cases hh : n.h
    · have hmk : mkP n y = ⟨n.at_, n.s, n.o, y.1, y.2, n.h, 0⟩ := by simp [mkP, hh]
      have nx := next 0
      rw [hh] at nx hmk
      clear next
      simp (config := { maxSteps := 10000000 }) (disch := omega) only [↓G_seq, ↓G_skip, ↓G_blk, ↓G_region, ↓G_block, ↓G_cond, ↓G_ops_nil, ↓G_op, Gv_some, ↓G_gop, Gw_tt, Gc_true, Gc_false, dec_t, killAll, ↓get_setS, ↓get_setN, evalOp, ev, rget_rset, b_add, b_lss, wrap_i64, one, Option.map_some, Option.bind_some, asB, V.shift, V.shifts, List.append_nil, List.nil_append, List.cons_append, List.all_cons, List.all_nil, Bool.true_and, Bool.and_self, List.getElem?_cons_zero, List.getElem?_cons_succ, Nat.reduceEqDiff, reduceCtorEq, ↓reduceIte, Nat.succ_ne_self, Bool.false_eq_true, Int.reduceAdd, pick3, V.cells, fillV, splice, chop, addOff, loadV, storeV, Ab.rowAt, V.scalar, V.pure, Nat.reduceAdd, Nat.reduceLeDiff, true_and, and_self, List.length_cons, List.length_nil, List.take_succ_cons, List.take_zero, List.drop_succ_cons, List.drop_zero, Nat.le_refl, List.set_cons_zero, List.getD_cons_zero, List.replicate, List.flatten_cons, List.flatten_nil, Nat.zero_add, Nat.add_zero, h0, h1, h6, hlen, hlen2, hE, hE2, hv5, hap, hh, rset_rset, Nat.zero_lt_succ]
      refine nx _ _ hmk ?_ ?_ ?_ ?_ ?_
      all_goals simp (config := { maxSteps := 10000000 }) (disch := omega) only [↓get_setS, ↓get_setN, rget_rset, List.getElem?_cons_zero, List.getElem?_cons_succ, Nat.reduceEqDiff, reduceCtorEq, ↓reduceIte, Nat.succ_ne_self, h0, h1]
    · have hmk : mkP n y = ⟨n.at_, n.s, n.o, y.1, y.2, n.h, n.al⟩ := by simp [mkP, hh]
      have nx := next n.al
      rw [hh] at nx hmk
      clear next
      simp (config := { maxSteps := 10000000 }) (disch := omega) only [↓G_seq, ↓G_skip, ↓G_blk, ↓G_region, ↓G_block, ↓G_cond, ↓G_ops_nil, ↓G_op, Gv_some, ↓G_gop, Gw_tt, Gc_true, dec_t, killAll, ↓get_setS, ↓get_setN, evalOp, ev, rget_rset, b_add, b_lss, wrap_i64, one, Option.map_some, Option.bind_some, asB, V.shift, V.shifts, List.append_nil, List.nil_append, List.cons_append, List.all_cons, List.all_nil, Bool.true_and, Bool.and_self, List.getElem?_cons_zero, List.getElem?_cons_succ, Nat.reduceEqDiff, reduceCtorEq, ↓reduceIte, Nat.succ_ne_self, Bool.false_eq_true, Int.reduceAdd, pick3, V.cells, fillV, splice, chop, addOff, loadV, storeV, Ab.rowAt, V.scalar, V.pure, Nat.reduceAdd, Nat.reduceLeDiff, true_and, and_self, List.length_cons, List.length_nil, List.take_succ_cons, List.take_zero, List.drop_succ_cons, List.drop_zero, Nat.le_refl, List.set_cons_zero, List.getD_cons_zero, List.replicate, List.flatten_cons, List.flatten_nil, Nat.zero_add, Nat.add_zero, h0, h1, h6, hlen, hlen2, hE, hE2, hv5, hap, hh, rset_rset, Nat.zero_lt_succ]
      refine nx _ _ hmk ?_ ?_ ?_ ?_ ?_
      all_goals simp (config := { maxSteps := 10000000 }) (disch := omega) only [↓get_setS, ↓get_setN, rget_rset, List.getElem?_cons_zero, List.getElem?_cons_succ, Nat.reduceEqDiff, reduceCtorEq, ↓reduceIte, Nat.succ_ne_self, h0, h1]

theorem c25 {v w : V} {l : List Nt} {m : List (Int × Bool)} (hl : l.length ≤ 1000000) (hm : m.length = l.length) (hv : SlV 6 v (E6 l)) (hw : SlV 2 w (M2 m)) : call tbl 25 [v, w] H = some (outAcc 7 (E7 (List.zipWith mkP l m))) := by
  refine (call_start (show tbl 25 = some a25 from rfl)).trans ?_
  unfold a25
  simp (config := { maxSteps := 10000000 }) (disch := omega) only [↓G_seq, ↓G_region, ↓G_block, ↓G_ops_nil, ↓G_op, Gv_some, killAll, evalOp, ev, List.getElem?_cons_zero, List.getElem?_cons_succ]
  refine loop25 hl hm hv hw (fun fr' L' hacc => ?_) l.length 0 _ _ (by omega) ?_ ?_ ?_ ?_
  · generalize hv5 : Ab.get fr' 5 = v5 at hacc
    have ho := hacc.out (by omega) (E7_pure _)
    simp (config := { maxSteps := 10000000 }) (disch := omega) only [↓G_seq, ↓G_ret, ↓G_region, ↓Gx_blk, ↓G_ops_nil, ↓G_op, Gv_some, killAll, ↓get_setS, evalOp, ev, Option.map_some, Option.bind_some, finish, resVs, resV, outVs, ownsLast, tupOf, List.all_nil, List.getElem?_cons_zero, List.getElem?_cons_succ, ↓reduceIte, fn_some, hv5, ↓ho]
  all_goals simp (config := { maxSteps := 10000000 }) (disch := omega) only [↓get_setS, Ab.get, List.getElem?_cons_zero, List.getElem?_cons_succ, Nat.reduceEqDiff, reduceCtorEq, ↓reduceIte, Nat.succ_ne_self, List.take_zero, Int.cast_ofNat_Int]
  exact Acc.nil

theorem errP_places : ∀ (t : List Nt) (ms : List (Int × Bool)) (b : Int), errL b t = 0 → ms.length = t.length → (∀ x ∈ ms, 0 ≤ x.1 ∧ x.1 ≤ 5) → errP b (List.zipWith mkP t ms) = 0
  | [], _, _, _, _, _ => rfl
  | n :: t, [], _, _, h, _ => by simp at h
  | n :: t, m :: ms, b, he, hl, hm => by
    unfold errL at he
    split at he
    · contradiction
    · rename_i h1
      obtain ⟨o1, o2, o3⟩ := okN_0 (Classical.not_not.1 h1)
      rw [List.zipWith_cons_cons, errP_0]
      · exact errP_places t ms n.at_ he (by simpa using hl) (fun x hx => hm x (by simp [hx]))
      · refine okP_ok (by simp only [mkP]; omega) ⟨o2.1, o2.2.2⟩ (hm m (by simp)) (fun z => ?_)
        obtain ⟨z1, z2⟩ := z
        have : n.h = true := z1
        apply z2
        simp only [mkP, this, if_true]
        exact o2.2.1

theorem marks_in (l : List Nt) : ∀ (t : List Nt) (F : List Int), (∀ n ∈ t, inN n) → ∀ x ∈ (dispR l t F).1, 0 ≤ x.1 ∧ x.1 ≤ 5
  | [], F, _, x, hx => by simp [dispR] at hx
  | n :: t, F, h, x, hx => by
    have hn := h n (by simp)
    simp only [dispR, List.mem_cons] at hx
    rcases hx with rfl | hx
    · have hal := hn.2.1
      rcases mark_of F n (l.any (hitB n)) with ⟨e, _⟩ | e | ⟨e, _⟩ <;> rw [e] <;> simp <;> omega
    · exact marks_in l t _ (fun m hm => h m (by simp [hm])) x hx

/-- A mark is read as it is meant, and leaves the same behind. -/
theorem step_read (F : List Int) (n : Nt) (cl : Bool) (hF : F.length = 77) (hn : inN n) : stepQ F (mkP n (stepD F n cl).1) = (n.al, (stepD F n cl).2) := by
  obtain ⟨_, hq⟩ := ixN_eq hn
  obtain ⟨x, hx⟩ : ∃ x, F[ixN n]? = some x := ⟨_, List.getElem?_eq_getElem (by omega)⟩
  have hal := hn.2.1
  have hy := step_y F n cl x hx
  have hno := step_n F n cl x hx
  by_cases c : (n.h = false ∧ ¬ n.al = x) ∨ cl = true
  · rw [hy c]
    have h1 : ¬ n.al + 3 = 0 := by omega
    have h2 : n.al + 3 - 3 = n.al := by omega
    simp [stepQ, mkP, ixP, ixN, h1, h2]
  · have c' : (n.h = true ∨ n.al = x) ∧ cl = false := by
      refine ⟨?_, ?_⟩
      · cases hh : n.h
        · exact .inr (Classical.not_not.1 (fun z => c (.inl ⟨hh, z⟩)))
        · exact .inl rfl
      · cases cl
        · rfl
        · exact absurd (.inr rfl) c
    rw [hno c']
    split
    · have hi : (F[ixP (mkP n (0, false))]?).getD 0 = x := by
        show (F[ixN n]?).getD 0 = x
        rw [hx]; rfl
      simp only [stepQ]
      rw [if_neg (by simp [mkP])]
      by_cases hh : n.h = true
      · rw [if_pos (show (mkP n (0, false)).h = true from hh)]
        simp [mkP, hh]
      · rw [if_neg (show ¬ (mkP n (0, false)).h = true from hh), hi, c'.1.resolve_left hh]
    · have h1 : ¬ n.al + 3 = 0 := by omega
      have h2 : n.al + 3 - 3 = n.al := by omega
      simp [stepQ, mkP, ixP, ixN, h1, h2]

theorem read_places (l : List Nt) : ∀ (t : List Nt) (F : List Int), F.length = 77 → (∀ n ∈ t, inN n) → readR (List.zipWith mkP t (dispR l t F).1) F = t.map (·.al)
  | [], F, _, _ => by simp [readR]
  | n :: t, F, hF, h => by
    have := step_read F n (l.any (hitB n)) hF (h n (by simp))
    simp only [dispR, List.zipWith_cons_cons, readR, this, List.map_cons]
    rw [read_places l t _ (by rw [stepD_len]; exact hF) (fun m hm => h m (by simp [hm]))]

theorem read_without (l : List Nt) : ∀ (t : List Nt) (F : List Int) (k : Nat) (n : Nt) (m : Int × Bool), F.length = 77 → (∀ n ∈ t, inN n) → t[k]? = some n → n.h = false → n.sh = 0 → l.any (hitB n) = false →
    (dispR l t F).1[k]? = some m → m.1 ≠ 0 → ∃ x, (readR (List.zipWith mkP t ((dispR l t F).1.set k (0, false))) F)[k]? = some x ∧ x ≠ n.al
  | [], F, k, n, m, _, _, h, _, _, _, _, _ => by simp at h
  | a :: t, F, 0, n, m, hF, hin, h, hh, hs, hc, hm, h0 => by
    simp only [List.getElem?_cons_zero, Option.some.injEq] at h
    subst h
    simp only [dispR, List.getElem?_cons_zero, Option.some.injEq] at hm
    obtain ⟨_, hq⟩ := ixN_eq (hin a (by simp))
    obtain ⟨x, hx⟩ : ∃ x, F[ixN a]? = some x := ⟨_, List.getElem?_eq_getElem (by omega)⟩
    have hne : ¬ a.al = x := by
      intro z
      have := step_n F a (l.any (hitB a)) x hx ⟨.inr z, hc⟩
      rw [if_pos hs] at this
      rw [this] at hm
      subst hm
      exact h0 rfl
    refine ⟨x, ?_, fun z => hne z.symm⟩
    have hi : (F[ixP (mkP a (0, false))]?).getD 0 = x := by
      show (F[ixN a]?).getD 0 = x
      rw [hx]; rfl
    simp only [dispR, List.set_cons_zero, List.zipWith_cons_cons, readR, List.getElem?_cons_zero, Option.some.injEq, stepQ]
    rw [if_neg (by simp [mkP]), if_neg (by simp [mkP, hh]), hi]
  | a :: t, F, k + 1, n, m, hF, hin, h, hh, hs, hc, hm, h0 => by
    simp only [List.getElem?_cons_succ] at h
    simp only [dispR, List.getElem?_cons_succ] at hm
    have hst := step_read F a (l.any (hitB a)) hF (hin a (by simp))
    obtain ⟨x, h1, h2⟩ := read_without l t (stepD F a (l.any (hitB a))).2 k n m (by rw [stepD_len]; exact hF) (fun q hq => hin q (by simp [hq])) h hh hs hc hm h0
    refine ⟨x, ?_, h2⟩
    simp only [dispR, List.set_cons_succ, List.zipWith_cons_cons, readR, hst, List.getElem?_cons_succ]
    exact h1

theorem loop10 {k : List KI} {v w : V} {l : List Nt} {L : List Row} (hl : l.length ≤ 30) (hv : SlV 6 v (E6 l)) (hw : SlV 1 w (I1 (l.map (·.al))))
    (hx : ∀ fr', Gx tbl H [.tmp 4] 0 k fr' L = some (.bool true)) :
    ∀ (q i : Nat) (fr : List V), i + q = l.length → Ab.get fr 1 = v → Ab.get fr 7 = w → Ab.get fr 9 = .i (i : Nat) →
    G tbl H [.tmp 4] (.code (.loop ( (.seq ( (.seq ( .region [] [ ⟨some 52, .mv (.t 9), none⟩, ⟨some 53, .mv (.t 7), none⟩, ⟨some 54, .len (.t 53), none⟩, ⟨some 55, .bin .lss (.t 52) (.t 54), none⟩]) ( (.cond (.t 55) ( .skip) ( .exit 0))))) ( (.seq ( (.block 1 ( (.seq ( .region [] [ ⟨some 58, .mv (.t 7), none⟩, ⟨some 59, .mv (.t 9), none⟩, ⟨some 60, .elemAddr 1 (.t 58) (.t 59), none⟩, ⟨some 61, .load false 1 (.t 60), none⟩, ⟨some 62, .mv (.t 1), none⟩, ⟨some 63, .mv (.t 9), none⟩, ⟨some 64, .elemAddr 6 (.t 62) (.t 63), none⟩, ⟨some 65, .fieldAddr 1 (.t 64), none⟩, ⟨some 66, .fieldAddr 1 (.t 65), none⟩, ⟨some 67, .load false 1 (.t 66), none⟩, ⟨some 68, .bin .neq (.t 61) (.t 67), none⟩]) ( (.cond (.t 68) ( (.seq ( .region [] [ ⟨some 4, .mv (.c (.bool false)), none⟩]) ( .ret))) ( .skip))))))) ( .region [] [ ⟨some 56, .mv (.t 9), none⟩, ⟨some 57, .bin .add (.t 56) (.c (.int .i64 1)), none⟩, ⟨some 9, .mv (.t 57), none⟩])))))) :: k) fr L = some (.bool true) := by
  intro q
  have hlen := hw.len
  rw [I1_len, List.length_map] at hlen
  induction q with
  | zero =>
    intro i fr hi h1 h7 h9
    refine G_loop.trans ?_
    simp (config := { maxSteps := 10000000 }) (disch := omega) only [↓G_seq, ↓G_exit, ↓G_region, ↓G_cond, ↓Gx_code, ↓G_ops_nil, ↓G_op, Gv_some, Gc_false, dec_f, killAll, ↓get_setS, evalOp, ev, b_lss, one, Option.map_some, List.getElem?_cons_zero, List.getElem?_cons_succ, Nat.reduceEqDiff, ↓reduceIte, Nat.succ_ne_self, h7, h9, hlen, hx]
  | succ q ih =>
    intro i fr hi h1 h7 h9
    obtain ⟨n, hn⟩ : ∃ x, l[i]? = some x := ⟨_, List.getElem?_eq_getElem (by omega)⟩
    have hE := hv.el (E6_get l i n hn)
    have hE2 := hw.el (I1_get (l.map (·.al)) i n.al (by simp [hn]))
    refine G_loop.trans ?_
    simp (config := { maxSteps := 10000000 }) (disch := omega) only [↓G_seq, ↓G_skip, ↓G_blk, ↓G_region, ↓G_block, ↓G_cond, ↓G_ops_nil, ↓G_op, Gv_some, Gc_true, Gc_false, dec_t, killAll, ↓get_setS, evalOp, ev, b_add, b_neq, b_lss, wrap_i64, one, Option.map_some, List.getElem?_cons_zero, List.getElem?_cons_succ, Nat.reduceEqDiff, ↓reduceIte, Nat.succ_ne_self, decide_true, Bool.not_true, Bool.false_eq_true, Int.reduceAdd, pick3, addOff, loadV, Nat.reduceAdd, Nat.zero_add, h1, h7, h9, hlen, hE, hE2]
    refine ih (i + 1) _ (by omega) ?_ ?_ ?_
    all_goals simp (config := { maxSteps := 10000000 }) (disch := omega) only [↓get_setS, List.getElem?_cons_zero, List.getElem?_cons_succ, Nat.reduceEqDiff, ↓reduceIte, h1, h7]
    congr 1

theorem l10 {f : Int} {v : V} {l : List Nt} (hm : l.length ≤ 9223372036854775807) (hv : SlV 6 v (E6 l)) : call tbl 10 [.i f, v] H = some (.bool true) := by
  refine (call_start (show tbl 10 = some a10 from rfl)).trans ?_
  have hlen := hv.len
  rw [E6_len] at hlen
  by_cases hl : 30 < l.length
  · unfold a10
    simp (config := { maxSteps := 10000000 }) (disch := omega) only [↓G_seq, ↓G_ret, ↓G_region, ↓G_cond, ↓G_ops_nil, ↓G_op, Gv_some, ↓G_gop, Gw_ff, Gw_ft, Gc_true, dec_t, killAll, ↓get_setS, evalOp, ev, evs, Ab.get, b_gtr, one, Option.map_some, Option.bind_some, asB, finish, resVs, resV, outVs, ownsLast, tupOf, callV, V.shifts, List.append_nil, List.all_nil, List.getElem?_cons_zero, List.getElem?_cons_succ, Nat.reduceEqDiff, ↓reduceIte, Nat.succ_ne_self, Bool.not_true, bne_self_eq_false, Bool.false_eq_true, ti_bool, ov_bool, fn_some, c13, hlen]
    done
  have h15 := fun H => c15 (H := H) (by omega) hv
  have hv' := svE_ok 6 (E6 l)
  have h16 := fun H => c16 (H := H) f hm hv
  have hsh := hv'.sh
  have hsh' := hv.sh
  by_cases he : errR f l = 0
  · have h14 := fun H => c14 (H := H) he hv'
    have hto := fun L s vs => out_take_tup (L := L) (s := s) (sz := 2) (M2 (dispR l l (startR f)).1) vs
    have hw := svE_ok 2 (M2 (dispR l l (startR f)).1)
    have hll := (dispR_len l l (startR f)).1
    have hsw := hw.sh
    obtain ⟨_, hl2, he2⟩ := errR_ok he
    have hin : ∀ n ∈ l, inN n := fun n hn => ((errL_sorted l 0 he2).2 n hn).2.1
    have h25 := fun H => c25 (H := H) (by omega) hll hv hw
    have hzl := mkP_len hll
    have hP := svE_ok 7 (E7 (List.zipWith mkP l (dispR l l (startR f)).1))
    have hsP := hP.sh
    have hq : errQ f (List.zipWith mkP l (dispR l l (startR f)).1) = 0 := by
      rw [errQ_0 (by unfold guardR; rw [if_neg (by have := (errR_ok he).1; omega), if_neg (by rw [hzl]; omega)])]
      exact errP_places l _ 0 he2 hll (marks_in l l _ hin)
    have h23 := fun H => c23 (H := H) hq hP
    rw [read_places l l (startR f) (startR_len f) hin] at h23
    have hto3 := fun L s vs => out_take_tup (L := L) (s := s) (sz := 1) (I1 (l.map (·.al))) vs
    have hw3 := svE_ok 1 (I1 (l.map (·.al)))
    have hwl3 := hw3.len
    rw [I1_len, List.length_map] at hwl3
    rw [he] at h16
    have hto2 := fun L s => out_take (L := L) (s := s) (sz := 7) (E7 (List.zipWith mkP l (dispR l l (startR f)).1))
    generalize svE 2 (M2 (dispR l l (startR f)).1) = w at *
    generalize svE 7 (E7 (List.zipWith mkP l (dispR l l (startR f)).1)) = p at *
    generalize svE 1 (I1 (l.map (·.al))) = w3 at *
    generalize hB : svE 6 (E6 l) = u at *
    unfold a10
    simp (config := { maxSteps := 10000000 }) (disch := omega) only [↓G_seq, ↓G_skip, ↓G_region, ↓G_block, ↓G_cond, ↓G_ops_nil, ↓G_op, Gv_some, ↓G_gop, Gw_ff, Gc_false, dec_f, killAll, ↓get_setS, evalOp, ev, evs, Ab.get, b_neq, b_gtr, one, Option.map_some, asB, callV, V.shift, V.shifts, List.append_nil, List.map_cons, List.map_nil, List.getElem?_cons_zero, List.getElem?_cons_succ, Nat.reduceEqDiff, reduceCtorEq, ↓reduceIte, Nat.succ_ne_self, decide_true, Bool.not_true, bne_self_eq_false, Bool.false_eq_true, ti_bool, ti_int, st_int, c13, hlen, hsh', h15, ↓out_take, hB, hsh, h14, h16, ↓hto, h25, hsw, ↓hto2, hsP, h23, ↓hto3, hwl3]
    refine loop10 (v := v) (w := w3) (l := l) (by omega) hv hw3 (fun fr' => ?_) l.length 0 _ (by omega) ?_ ?_ ?_
    all_goals simp (config := { maxSteps := 10000000 }) (disch := omega) only [↓G_seq, ↓G_ret, ↓G_region, ↓Gx_blk, ↓G_ops_nil, ↓G_op, Gv_some, killAll, ↓get_setS, evalOp, ev, Ab.get, Option.map_some, Option.bind_some, finish, resVs, resV, outVs, ownsLast, tupOf, List.all_nil, List.getElem?_cons_zero, List.getElem?_cons_succ, Nat.reduceEqDiff, ↓reduceIte, Nat.succ_ne_self, Int.cast_ofNat_Int, ov_bool, fn_some]
  · generalize errR f l = e at *
    unfold a10
    simp (config := { maxSteps := 10000000 }) (disch := omega) only [↓G_seq, ↓G_ret, ↓G_region, ↓G_cond, ↓G_ops_nil, ↓G_op, Gv_some, ↓G_gop, Gw_ff, Gc_true, dec_f, killAll, ↓get_setS, evalOp, ev, evs, Ab.get, b_neq, b_gtr, one, Option.map_some, Option.bind_some, asB, finish, resVs, resV, outVs, ownsLast, tupOf, callV, V.shift, V.shifts, List.append_nil, List.all_nil, List.getElem?_cons_zero, List.getElem?_cons_succ, Nat.reduceEqDiff, reduceCtorEq, ↓reduceIte, Nat.succ_ne_self, Bool.not_true, Bool.not_false, bne_self_eq_false, Bool.false_eq_true, ti_bool, ti_int, ov_bool, fn_some, c13, hlen, hsh', h16]

end Go.Proofs.Ythnjcaioeaepjaa

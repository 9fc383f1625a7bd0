/-
  Pieces: Divide of the reference, measure by measure.
-/
import Derived.Test.YtfngllcjikmbkaaS14V
namespace Go.Proofs.Ytfngllcjikmbkaa
open Go Go.Ab
set_option linter.unusedVariables false
set_option linter.unnecessarySimpa false
set_option linter.unusedSimpArgs false
set_option maxRecDepth 100000
variable {H : List (List Row)}

set_option maxHeartbeats 2000000 in
theorem loop32o {k : List KI} {v : V} {zs : List Int} {kd m1 a1 s1 v1 m2 a2 s2 v2 : Int} {K : Nat} {r : Option V} (hl : zs.length ≤ 1000000) (hv : SlV 1 v (I1 zs)) (ha : Asc zs) (hK : At zs m1 K) (hm1 : 0 ≤ m1) (hm2 : m2 ≤ 1023)
    (hx : ∀ fr' L' ver d, At zs m2 (K + d) → Ab.get fr' 8 = .ref 0 2 ver 5 0 (d + 1) → rget L' 2 = ⟨ver, 5, E5 (clP zs m1 K d ++ [opP zs m1 K d m2 true])⟩ → 0 < ver → Gx tblP H [.tmp 4, .tmp 5] 2 k fr' L' = r) :
    ∀ (q : Nat) (m : Int) (d ver : Nat) (fr : List V) (L : List Row), m + q = m2 + 1 → m1 < m → At zs (m - 1) (K + d) → 0 < ver → Ab.get fr 1 = v → Ab.get fr 2 = .ptr 0 1 1 0 0 → Ab.get fr 8 = .ref 0 2 ver 5 0 (d + 1) → Ab.get fr 9 = .i ((K + d : Nat) : Int) → Ab.get fr 10 = .i m →
      rget L 1 = ⟨1, 9, [[.i kd, .i m1, .i a1, .i s1, .i v1, .i m2, .i a2, .i s2, .i v2]]⟩ → rget L 2 = ⟨ver, 5, E5 (clP zs m1 K d ++ [opP zs m1 K d (m - 1) (decide (m - 1 = m2))])⟩ →
      G tblP H [.tmp 4, .tmp 5] (.code (.loop ( (.seq ( (.seq ( .region [] [ ⟨some 46, .mv (.t 10), none⟩, ⟨some 47, .fieldAddr 5 (.t 2), none⟩, ⟨some 48, .fieldAddr 0 (.t 47), none⟩, ⟨some 49, .load false 1 (.t 48), none⟩, ⟨some 50, .bin .leq (.t 46) (.t 49), none⟩]) ( (.cond (.t 50) ( .skip) ( .exit 2))))) ( (.seq ( (.block 3 ( (.seq ( (.block 4 ( (.loop ( (.seq ( (.seq ( .region [] [ ⟨some 53, .mv (.t 9), none⟩, ⟨some 54, .bin .add (.t 53) (.c (.int .i64 1)), none⟩, ⟨some 55, .mv (.t 1), none⟩, ⟨some 56, .len (.t 55), none⟩, ⟨some 57, .bin .lss (.t 54) (.t 56), none⟩, ⟨some 58, .mv (.t 57), none⟩, ⟨some 59, .mv (.t 1), some (58, true)⟩, ⟨some 60, .mv (.t 9), some (58, true)⟩, ⟨some 61, .bin .add (.t 60) (.c (.int .i64 1)), some (58, true)⟩, ⟨some 62, .elemAddr 1 (.t 59) (.t 61), some (58, true)⟩, ⟨some 63, .load false 1 (.t 62), some (58, true)⟩, ⟨some 64, .mv (.t 10), some (58, true)⟩, ⟨some 65, .bin .leq (.t 63) (.t 64), some (58, true)⟩, ⟨some 66, .pick (.t 58) (.t 65) (.c (.bool false)), none⟩]) ( (.cond (.t 66) ( .skip) ( .exit 4))))) ( (.block 5 ( .region [] [ ⟨some 67, .mv (.t 9), none⟩, ⟨some 68, .bin .add (.t 67) (.c (.int .i64 1)), none⟩, ⟨some 9, .mv (.t 68), none⟩]))))))))) ( (.seq ( (.seq ( .region [] [ ⟨some 69, .mv (.t 8), none⟩, ⟨some 70, .len (.t 69), none⟩, ⟨some 11, .mv (.t 70), none⟩]) ( (.seq ( .region [] [ ⟨some 71, .mv (.t 11), none⟩, ⟨some 72, .bin .gtr (.t 71) (.c (.int .i64 0)), none⟩, ⟨some 73, .mv (.t 72), none⟩, ⟨some 74, .mv (.t 8), some (73, true)⟩, ⟨some 75, .mv (.t 11), some (73, true)⟩, ⟨some 76, .bin .sub (.t 75) (.c (.int .i64 1)), some (73, true)⟩, ⟨some 77, .elemAddr 5 (.t 74) (.t 76), some (73, true)⟩, ⟨some 78, .fieldAddr 0 (.t 77), some (73, true)⟩, ⟨some 79, .load false 1 (.t 78), some (73, true)⟩, ⟨some 80, .mv (.t 9), some (73, true)⟩, ⟨some 81, .bin .eql (.t 79) (.t 80), some (73, true)⟩, ⟨some 82, .pick (.t 73) (.t 81) (.c (.bool false)), none⟩]) ( (.cond (.t 82) ( .region [] [ ⟨some 83, .mv (.t 8), none⟩, ⟨some 84, .mv (.t 11), none⟩, ⟨some 85, .bin .sub (.t 84) (.c (.int .i64 1)), none⟩, ⟨some 86, .mv (.t 10), none⟩, ⟨some 87, .elemAddr 5 (.t 83) (.t 85), none⟩, ⟨some 88, .fieldAddr 2 (.t 87), none⟩, ⟨none, .store 1 (.t 88) (.t 86), none⟩]) ( .region [] [ ⟨some 89, .mv (.t 8), none⟩, ⟨some 90, .mv (.t 9), none⟩, ⟨some 91, .mv (.t 10), none⟩, ⟨some 92, .mv (.t 10), none⟩, ⟨some 93, .mv (.t 10), none⟩, ⟨some 94, .fieldAddr 1 (.t 2), none⟩, ⟨some 95, .fieldAddr 0 (.t 94), none⟩, ⟨some 96, .load false 1 (.t 95), none⟩, ⟨some 97, .bin .eql (.t 93) (.t 96), none⟩, ⟨some 98, .build [(.int .i64 0), (.int .i64 0), (.int .i64 0), (.bool false), (.bool false)] [(0, 1, (.t 90)), (1, 1, (.t 91)), (2, 1, (.t 92)), (3, 1, (.t 97))], none⟩, ⟨some 99, .lit 5 [(.int .i64 0), (.int .i64 0), (.int .i64 0), (.bool false), (.bool false)] 1 [(0, 5, (.t 98))], none⟩, ⟨some 100, .app 2 5 32 (.t 89) (.t 99), none⟩, ⟨some 8, .mv (.t 100), none⟩]))))))) ( (.seq ( .region [] [ ⟨some 101, .mv (.t 10), none⟩, ⟨some 102, .fieldAddr 5 (.t 2), none⟩, ⟨some 103, .fieldAddr 0 (.t 102), none⟩, ⟨some 104, .load false 1 (.t 103), none⟩, ⟨some 105, .bin .eql (.t 101) (.t 104), none⟩]) ( (.cond (.t 105) ( .region [] [ ⟨some 106, .mv (.t 8), none⟩, ⟨some 107, .mv (.t 8), none⟩, ⟨some 108, .len (.t 107), none⟩, ⟨some 109, .bin .sub (.t 108) (.c (.int .i64 1)), none⟩, ⟨some 110, .elemAddr 5 (.t 106) (.t 109), none⟩, ⟨some 111, .fieldAddr 4 (.t 110), none⟩, ⟨none, .store 1 (.t 111) (.c (.bool true)), none⟩]) ( .skip))))))))))) ( .region [] [ ⟨some 51, .mv (.t 10), none⟩, ⟨some 52, .bin .add (.t 51) (.c (.int .i64 1)), none⟩, ⟨some 10, .mv (.t 52), none⟩])))))) :: k) fr L = r := by
  intro q
  induction q with
  | zero =>
    intro m d ver fr L hq hm hat hver g1 g2 g8 g9 g10 r1 r2
    have e : m - 1 = m2 := by omega
    rw [e, decide_eq_true rfl] at r2
    rw [e] at hat
    have hx' := fun fr' L' => hx fr' L' ver d hat
    have hmm : m2 < m := by omega
    clear hx ha hK hv hat
    refine G_loop.trans ?_
    simp (config := { maxSteps := 10000000 }) (disch := omega) only [↓G_seq, ↓G_exit, ↓G_region, ↓G_cond, ↓Gx_code, ↓G_ops_nil, ↓G_op, Gv_some, Gc_false, dec_f, killAll, ↓get_setS, evalOp, ev, b_leq, one, Option.map_some, Option.bind_some, V.shift, Bool.and_self, List.getElem?_cons_zero, List.getElem?_cons_succ, Nat.reduceEqDiff, ↓reduceIte, Nat.succ_ne_self, Bool.false_eq_true, pick3, addOff, loadV, Ab.rowAt, and_self, List.getD_cons_zero, Nat.zero_add, Nat.add_zero, g2, g10, r1, Nat.zero_lt_succ]
    refine hx' _ _ ?_ r2 hver
    simp (config := { maxSteps := 10000000 }) (disch := omega) only [↓get_setS, List.getElem?_cons_zero, List.getElem?_cons_succ, Nat.reduceEqDiff, ↓reduceIte, g8]
  | succ q ih =>
    intro m d ver fr L hq hm hat hver g1 g2 g8 g9 g10 r1 r2
    have hmm : m ≤ m2 := by omega
    have hKd : K + d < zs.length := hat.1
    rw [decide_eq_false (show ¬ m - 1 = m2 by omega)] at r2
    have hclen := clP_len zs m1 K d
    have hget1 := E5_last (clP zs m1 K d) (opP zs m1 K d (m - 1) false)
    have hset1 := E5_set (clP zs m1 K d) (opP zs m1 K d (m - 1) false) (opP zs m1 K d m false)
    have hget2 := E5_last (clP zs m1 K d) (opP zs m1 K d m false)
    have hset2 := E5_set (clP zs m1 K d) (opP zs m1 K d m false) (opP zs m1 K d m true)
    have hn1 : ((d + 1 : Nat) : Int) - 1 = (d : Nat) := by omega
    rw [hclen] at hget1 hset1 hget2 hset2
    simp only [opP] at hget1 hset1 hget2 hset2
    rcases at_next ha hat with h1 | ⟨h1, h2⟩
    · -- the same system
      have hI := fun k r L hx fr => loop32i (H := H) (k := k) (p := .ptr 0 1 1 0 0) (o := .ref 0 2 ver 5 0 (d + 1)) (L := L) (m := m) (K := K + d) (r := r) hl hv ha h1 hx 0 (K + d) fr (by omega)
      by_cases hme : m = m2
      · have nx := fun fr' L' hq' hm' hat' => ih (m + 1) d ver fr' L' hq' hm' hat' hver
        rw [show m + 1 - 1 = m by omega, decide_eq_true hme] at nx
        have nx := fun fr' L' => nx fr' L' (by omega) (by omega) h1
        simp only [opP] at nx r2
        generalize (if d = 0 then m1 else Z zs (K + d)) = F at *
        generalize decide (d = 0) = bb at *
        generalize E5 (clP zs m1 K d ++ [⟨((K + d : Nat) : Int), F, m - 1, bb, false⟩]) = S0 at *
        generalize E5 (clP zs m1 K d ++ [⟨((K + d : Nat) : Int), F, m, bb, false⟩]) = S1 at *
        generalize E5 (clP zs m1 K d ++ [⟨((K + d : Nat) : Int), F, m, bb, true⟩]) = S2 at *
        clear ih hx ha hK hv hat h1 hq
        refine G_loop.trans ?_
        simp (config := { maxSteps := 10000000 }) (disch := omega) only [↓G_seq, ↓G_skip, ↓G_region, ↓G_block, ↓G_cond, ↓G_ops_nil, ↓G_op, Gv_some, Gc_true, dec_t, killAll, ↓get_setS, evalOp, ev, b_leq, one, Option.map_some, Option.bind_some, V.shift, Bool.and_self, List.getElem?_cons_zero, List.getElem?_cons_succ, Nat.reduceEqDiff, ↓reduceIte, Nat.succ_ne_self, Bool.false_eq_true, pick3, addOff, loadV, Ab.rowAt, and_self, List.getD_cons_zero, Nat.zero_add, Nat.add_zero, g2, g10, r1, Nat.zero_lt_succ]
        refine hI _ _ _ (fun fr' e1 e2 e8 e9 e10 => ?_) _ ?_ ?_ ?_ ?_ ?_
        · clear hI
          simp (config := { maxSteps := 10000000 }) (disch := omega) only [↓G_seq, ↓G_blk, ↓G_region, ↓G_cond, ↓Gx_blk, ↓G_ops_nil, ↓G_op, Gv_some, ↓G_gop, Gw_tt, Gc_true, dec_t, killAll, ↓get_setS, ↓get_setN, evalOp, ev, rget_rset, b_add, b_sub, b_eql, b_gtr, wrap_i64, one, Option.map_some, Option.bind_some, asB, V.shift, List.append_nil, List.nil_append, List.cons_append, List.all_cons, List.all_nil, Bool.and_true, Bool.true_and, Bool.and_self, List.getElem?_cons_zero, List.getElem?_cons_succ, Nat.reduceEqDiff, ↓reduceIte, Nat.succ_ne_self, decide_true, Bool.false_eq_true, Int.reduceAdd, pick3, V.cells, splice, addOff, loadV, storeV, Ab.rowAt, V.scalar, Nat.reduceAdd, Nat.reduceLeDiff, and_true, true_and, and_self, List.length_cons, List.length_nil, List.take_succ_cons, List.take_zero, List.drop_succ_cons, List.drop_zero, Nat.le_refl, List.getD_cons_zero, Nat.zero_add, Nat.add_zero, len_ref, el_ref, nn, ite_ov, Int.toNat_natCast, e2, e8, e9, e10, r1, r2, hn1, hget1, hset1, hget2, hset2, rset_rset, Nat.zero_lt_succ]
          refine nx _ _ ?_ ?_ ?_ ?_ ?_ ?_ ?_
          all_goals simp (config := { maxSteps := 10000000 }) (disch := omega) only [↓get_setS, ↓get_setN, rget_rset, List.getElem?_cons_zero, List.getElem?_cons_succ, Nat.reduceEqDiff, ↓reduceIte, Nat.succ_ne_self, e1, e2, e8, e9, r1]
        all_goals simp (config := { maxSteps := 10000000 }) (disch := omega) only [↓get_setS, List.getElem?_cons_zero, List.getElem?_cons_succ, Nat.reduceEqDiff, ↓reduceIte, g1, g2, g8, g9, g10]
      · have nx := fun fr' L' hq' hm' hat' => ih (m + 1) d ver fr' L' hq' hm' hat' hver
        rw [show m + 1 - 1 = m by omega, decide_eq_false hme] at nx
        have nx := fun fr' L' => nx fr' L' (by omega) (by omega) h1
        simp only [opP] at nx r2
        generalize (if d = 0 then m1 else Z zs (K + d)) = F at *
        generalize decide (d = 0) = bb at *
        generalize E5 (clP zs m1 K d ++ [⟨((K + d : Nat) : Int), F, m - 1, bb, false⟩]) = S0 at *
        generalize E5 (clP zs m1 K d ++ [⟨((K + d : Nat) : Int), F, m, bb, false⟩]) = S1 at *
        clear ih hx ha hK hv hat h1 hq hget2 hset2
        refine G_loop.trans ?_
        simp (config := { maxSteps := 10000000 }) (disch := omega) only [↓G_seq, ↓G_skip, ↓G_region, ↓G_block, ↓G_cond, ↓G_ops_nil, ↓G_op, Gv_some, Gc_true, dec_t, killAll, ↓get_setS, evalOp, ev, b_leq, one, Option.map_some, Option.bind_some, V.shift, Bool.and_self, List.getElem?_cons_zero, List.getElem?_cons_succ, Nat.reduceEqDiff, ↓reduceIte, Nat.succ_ne_self, Bool.false_eq_true, pick3, addOff, loadV, Ab.rowAt, and_self, List.getD_cons_zero, Nat.zero_add, Nat.add_zero, g2, g10, r1, Nat.zero_lt_succ]
        refine hI _ _ _ (fun fr' e1 e2 e8 e9 e10 => ?_) _ ?_ ?_ ?_ ?_ ?_
        · clear hI
          simp (config := { maxSteps := 10000000 }) (disch := omega) only [↓G_seq, ↓G_skip, ↓G_blk, ↓G_region, ↓G_cond, ↓Gx_blk, ↓G_ops_nil, ↓G_op, Gv_some, ↓G_gop, Gw_tt, Gc_true, Gc_false, dec_t, dec_f, killAll, ↓get_setS, ↓get_setN, evalOp, ev, rget_rset, b_add, b_sub, b_eql, b_gtr, wrap_i64, one, Option.map_some, Option.bind_some, asB, V.shift, List.nil_append, List.cons_append, List.all_cons, List.all_nil, Bool.and_true, Bool.true_and, Bool.and_self, List.getElem?_cons_zero, List.getElem?_cons_succ, Nat.reduceEqDiff, ↓reduceIte, Nat.succ_ne_self, decide_true, Bool.false_eq_true, Int.reduceAdd, pick3, V.cells, splice, addOff, loadV, storeV, Ab.rowAt, V.scalar, Nat.reduceAdd, Nat.reduceLeDiff, and_true, true_and, and_self, List.length_cons, List.length_nil, List.take_succ_cons, List.take_zero, List.drop_succ_cons, List.drop_zero, List.getD_cons_zero, Nat.zero_add, Nat.add_zero, len_ref, el_ref, nn, ite_ov, Int.toNat_natCast, e2, e8, e9, e10, r1, r2, hn1, hget1, hset1, Nat.zero_lt_succ]
          refine nx _ _ ?_ ?_ ?_ ?_ ?_ ?_ ?_
          all_goals simp (config := { maxSteps := 10000000 }) (disch := omega) only [↓get_setS, ↓get_setN, rget_rset, List.getElem?_cons_zero, List.getElem?_cons_succ, Nat.reduceEqDiff, ↓reduceIte, Nat.succ_ne_self, e1, e2, e8, e9, r1]
        all_goals simp (config := { maxSteps := 10000000 }) (disch := omega) only [↓get_setS, List.getElem?_cons_zero, List.getElem?_cons_succ, Nat.reduceEqDiff, ↓reduceIte, g1, g2, g8, g9, g10]
    · -- the next system
      have hI := fun k r L hx fr => loop32i (H := H) (k := k) (p := .ptr 0 1 1 0 0) (o := .ref 0 2 ver 5 0 (d + 1)) (L := L) (m := m) (K := K + d + 1) (r := r) hl hv ha h1 hx 1 (K + d) fr (by omega)
      have hcl : clP zs m1 K (d + 1) = clP zs m1 K d ++ [opP zs m1 K d (m - 1) false] := by
        rw [← h2]
        rfl
      have hnew := E5_app (clP zs m1 K (d + 1)) (opP zs m1 K (d + 1) m false)
      have hget3 := E5_last (clP zs m1 K (d + 1)) (opP zs m1 K (d + 1) m false)
      have hset3 := E5_set (clP zs m1 K (d + 1)) (opP zs m1 K (d + 1) m false) (opP zs m1 K (d + 1) m true)
      have hclen2 := clP_len zs m1 K (d + 1)
      have hlen0 := E5_len (clP zs m1 K (d + 1))
      rw [hclen2] at hget3 hset3 hlen0
      have hop : ∀ e, opP zs m1 K (d + 1) m e = ⟨((K + d + 1 : Nat) : Int), m, m, false, e⟩ := by
        intro e
        unfold opP
        rw [if_neg (by omega), decide_eq_false (by omega)]
        show Pc.mk _ (Z zs (K + d + 1)) _ _ _ = _
        rw [h2]
        rfl
      have hget0 : (E5 (clP zs m1 K (d + 1)))[d]? = some [.i ((K + d : Nat) : Int), .i (opP zs m1 K d (m - 1) false).f, .i (m - 1), .bool (opP zs m1 K d (m - 1) false).b, .bool false] := by
        rw [hcl]
        have := E5_last (clP zs m1 K d) (opP zs m1 K d (m - 1) false)
        rw [hclen] at this
        exact this
      rw [← hcl] at r2
      simp only [hop] at hnew hget3 hset3
      have hacc : Acc 2 5 L (.ref 0 2 ver 5 0 (d + 1)) (E5 (clP zs m1 K (d + 1))) := .inr ⟨by rw [hcl]; exact E5_ne _ _, ver, hver, by rw [hlen0], r2⟩
      have happ := fun H => (acc_app (bytes := 32) (H := H) hacc (y := .sl .full 5 [[.i ((K + d + 1 : Nat) : Int), .i m, .i m, .bool false, .bool false]]) (new := [[.i ((K + d + 1 : Nat) : Int), .i m, .i m, .bool false, .bool false]]) rfl (by simp) (by decide) (by rw [hlen0]; simp; omega) rfl).1
      rw [hlen0, r2, hnew] at happ
      simp only [List.length_cons, List.length_nil, Nat.zero_add] at happ
      have hn2 : ((d + 1 + 1 : Nat) : Int) - 1 = ((d + 1 : Nat) : Int) := by omega
      generalize (opP zs m1 K d (m - 1) false).f = F at *
      generalize (opP zs m1 K d (m - 1) false).b = bb at *
      clear hget1 hset1 hget2 hset2 hacc hnew hclen hclen2 hlen0 hcl
      by_cases hme : m = m2
      · have nx := fun fr' L' hq' hm' hat' => ih (m + 1) (d + 1) (ver + 1) fr' L' hq' hm' hat' (by omega)
        rw [show m + 1 - 1 = m by omega, decide_eq_true hme] at nx
        have nx := fun fr' L' => nx fr' L' (by omega) (by omega) h1
        simp only [hop] at nx
        rw [show K + (d + 1) = K + d + 1 by omega] at nx
        generalize E5 (clP zs m1 K (d + 1)) = S0 at *
        generalize E5 (clP zs m1 K (d + 1) ++ [⟨((K + d + 1 : Nat) : Int), m, m, false, false⟩]) = S1 at *
        generalize E5 (clP zs m1 K (d + 1) ++ [⟨((K + d + 1 : Nat) : Int), m, m, false, true⟩]) = S2 at *
        clear ih hx ha hK hv hat h1 h2 hq hop
        refine G_loop.trans ?_
        simp (config := { maxSteps := 10000000 }) (disch := omega) only [↓G_seq, ↓G_skip, ↓G_region, ↓G_block, ↓G_cond, ↓G_ops_nil, ↓G_op, Gv_some, Gc_true, dec_t, killAll, ↓get_setS, evalOp, ev, b_leq, one, Option.map_some, Option.bind_some, V.shift, Bool.and_self, List.getElem?_cons_zero, List.getElem?_cons_succ, Nat.reduceEqDiff, ↓reduceIte, Nat.succ_ne_self, Bool.false_eq_true, pick3, addOff, loadV, Ab.rowAt, and_self, List.getD_cons_zero, Nat.zero_add, Nat.add_zero, g2, g10, r1, Nat.zero_lt_succ]
        refine hI _ _ _ (fun fr' e1 e2 e8 e9 e10 => ?_) _ ?_ ?_ ?_ ?_ ?_
        · clear hI
          simp (config := { maxSteps := 10000000 }) (disch := omega) only [↓G_seq, ↓G_blk, ↓G_region, ↓G_cond, ↓Gx_blk, ↓G_ops_nil, ↓G_op, Gv_some, ↓G_gop, Gw_tt, Gc_true, Gc_false, dec_t, dec_f, killAll, ↓get_setS, ↓get_setN, evalOp, ev, rget_rset, b_add, b_sub, b_eql, b_gtr, wrap_i64, one, Option.map_some, Option.bind_some, asB, V.shift, List.append_nil, List.nil_append, List.cons_append, List.all_cons, List.all_nil, Bool.true_and, Bool.and_self, List.getElem?_cons_zero, List.getElem?_cons_succ, Nat.reduceEqDiff, ↓reduceIte, Nat.succ_ne_self, Bool.false_eq_true, Int.reduceAdd, pick3, V.cells, fillV, splice, chop, addOff, loadV, storeV, Ab.rowAt, V.scalar, V.pure, Nat.reduceAdd, Nat.reduceLeDiff, true_and, and_self, List.length_cons, List.length_nil, List.take_succ_cons, List.take_zero, List.drop_succ_cons, List.drop_zero, Nat.le_refl, List.getD_cons_zero, List.replicate, List.flatten_cons, List.flatten_nil, Nat.zero_add, Nat.add_zero, len_ref, el_ref, nn, ite_ov, Int.toNat_natCast, e2, e8, e9, e10, r1, r2, hn1, hn2, hget0, happ, hget3, hset3, rset_rset, Nat.zero_lt_succ]
          refine nx _ _ ?_ ?_ ?_ ?_ ?_ ?_ ?_
          all_goals simp (config := { maxSteps := 10000000 }) (disch := omega) only [↓get_setS, ↓get_setN, rget_rset, List.getElem?_cons_zero, List.getElem?_cons_succ, Nat.reduceEqDiff, ↓reduceIte, Nat.succ_ne_self, e1, e2, e9, r1]
        all_goals simp (config := { maxSteps := 10000000 }) (disch := omega) only [↓get_setS, List.getElem?_cons_zero, List.getElem?_cons_succ, Nat.reduceEqDiff, ↓reduceIte, g1, g2, g8, g9, g10]
      · have nx := fun fr' L' hq' hm' hat' => ih (m + 1) (d + 1) (ver + 1) fr' L' hq' hm' hat' (by omega)
        rw [show m + 1 - 1 = m by omega, decide_eq_false hme] at nx
        have nx := fun fr' L' => nx fr' L' (by omega) (by omega) h1
        simp only [hop] at nx
        rw [show K + (d + 1) = K + d + 1 by omega] at nx
        generalize E5 (clP zs m1 K (d + 1)) = S0 at *
        generalize E5 (clP zs m1 K (d + 1) ++ [⟨((K + d + 1 : Nat) : Int), m, m, false, false⟩]) = S1 at *
        clear ih hx ha hK hv hat h1 h2 hq hop hget3 hset3
        refine G_loop.trans ?_
        simp (config := { maxSteps := 10000000 }) (disch := omega) only [↓G_seq, ↓G_skip, ↓G_region, ↓G_block, ↓G_cond, ↓G_ops_nil, ↓G_op, Gv_some, Gc_true, dec_t, killAll, ↓get_setS, evalOp, ev, b_leq, one, Option.map_some, Option.bind_some, V.shift, Bool.and_self, List.getElem?_cons_zero, List.getElem?_cons_succ, Nat.reduceEqDiff, ↓reduceIte, Nat.succ_ne_self, Bool.false_eq_true, pick3, addOff, loadV, Ab.rowAt, and_self, List.getD_cons_zero, Nat.zero_add, Nat.add_zero, g2, g10, r1, Nat.zero_lt_succ]
        refine hI _ _ _ (fun fr' e1 e2 e8 e9 e10 => ?_) _ ?_ ?_ ?_ ?_ ?_
        · clear hI
          simp (config := { maxSteps := 10000000 }) (disch := omega) only [↓G_seq, ↓G_skip, ↓G_blk, ↓G_region, ↓G_cond, ↓Gx_blk, ↓G_ops_nil, ↓G_op, Gv_some, ↓G_gop, Gw_tt, Gc_false, dec_t, dec_f, killAll, ↓get_setS, evalOp, ev, rget_rset, b_add, b_sub, b_eql, b_gtr, wrap_i64, one, Option.map_some, Option.bind_some, asB, V.shift, List.append_nil, List.nil_append, List.cons_append, List.all_cons, List.all_nil, Bool.true_and, Bool.and_self, List.getElem?_cons_zero, List.getElem?_cons_succ, Nat.reduceEqDiff, ↓reduceIte, Nat.succ_ne_self, Bool.false_eq_true, Int.reduceAdd, pick3, V.cells, fillV, splice, chop, addOff, loadV, Ab.rowAt, V.scalar, V.pure, Nat.reduceAdd, Nat.reduceLeDiff, true_and, and_self, List.length_cons, List.length_nil, List.take_succ_cons, List.take_zero, List.drop_succ_cons, List.drop_zero, Nat.le_refl, List.getD_cons_zero, List.replicate, List.flatten_cons, List.flatten_nil, Nat.zero_add, Nat.add_zero, len_ref, el_ref, nn, ite_ov, Int.toNat_natCast, e2, e8, e9, e10, r1, r2, hn1, hget0, happ, Nat.zero_lt_succ]
          refine nx _ _ ?_ ?_ ?_ ?_ ?_ ?_ ?_
          all_goals simp (config := { maxSteps := 10000000 }) (disch := omega) only [↓get_setS, rget_rset, List.getElem?_cons_zero, List.getElem?_cons_succ, Nat.reduceEqDiff, ↓reduceIte, Nat.succ_ne_self, e1, e2, e9, r1]
        all_goals simp (config := { maxSteps := 10000000 }) (disch := omega) only [↓get_setS, List.getElem?_cons_zero, List.getElem?_cons_succ, Nat.reduceEqDiff, ↓reduceIte, g1, g2, g8, g9, g10]

end Go.Proofs.Ytfngllcjikmbkaa

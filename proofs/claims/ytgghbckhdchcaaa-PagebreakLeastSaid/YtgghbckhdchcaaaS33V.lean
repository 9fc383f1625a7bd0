/-
  Page breaks: the law PagebreakLeast, closed.
-/
import Derived.Test.YtgghbckhdchcaaaS33U
namespace Go.Proofs.Ytgghbckhdchcaaa
open Go Go.Ab
set_option linter.unusedVariables false
set_option linter.unnecessarySimpa false
set_option linter.unusedSimpArgs false
set_option maxRecDepth 100000
variable {H : List (List Row)}
open Path (Ch)

/-- Two lists are no better than the division. -/
theorem loop6c {k : List KI} {v w vx vy : V} {l : List Sy} {ph pt least i : Int} {D x y : List Nat} {r : Option V} {L : List Row} (he : errC l ph pt = 0) (hv : SlV 4 v (E4 l)) (hw : SlV 1 w (I1 (zs D))) (hD : D.length ≤ 1024)
    (hvx : SlV 1 vx (I1 (zs x))) (hvy : SlV 1 vy (I1 (zs y))) (hx : Dv l.length x) (hy : Dv l.length y)
    (bx : least < tt l ph pt true x ∨ (least = tt l ph pt true x ∧ Path.bet x D = false)) (by' : least < tt l ph pt true y ∨ (least = tt l ph pt true y ∧ Path.bet y D = false))
    (hL : rget L 1 = ⟨1, 2, [[.i ph, .i pt]]⟩)
    (hk : ∀ fr', Ab.get fr' 0 = v → Ab.get fr' 3 = .ptr 0 1 1 0 0 → Ab.get fr' 5 = w → Ab.get fr' 7 = .i least → Ab.get fr' 8 = .i i → Gx tbl H [.tmp 4] 4 k fr' L = r)
    (fr : List V) (h0 : Ab.get fr 0 = v) (h3 : Ab.get fr 3 = .ptr 0 1 1 0 0) (h5 : Ab.get fr 5 = w) (h7 : Ab.get fr 7 = .i least) (h8 : Ab.get fr 8 = .i i) (h138 : Ab.get fr 138 = .sl .full 1 [[vx], [vy]]) (h139 : Ab.get fr 139 = .i 2) (h140 : Ab.get fr 140 = .i 0) :
    G tbl H [.tmp 4] (.code (.loop ( (.seq ( .region [] [ ⟨some 141, .bin .lss (.t 140) (.t 139), none⟩]) ( (.seq ( (.cond (.t 141) ( .skip) ( .exit 4))) ( (.seq ( (.block 5 ( (.seq ( .region [] [ ⟨some 142, .elemAddr 1 (.t 138) (.t 140), none⟩, ⟨some 143, .load false 1 (.t 142), none⟩, ⟨some 14, .mv (.t 143), none⟩]) ( (.seq ( .region [] [ ⟨some 144, .mv (.t 0), none⟩, ⟨some 145, .load true 2 (.t 3), none⟩, ⟨some 146, .mv (.t 14), none⟩, ⟨some 147, .call 0 (.c (.fn 19 [])) [(.t 144), (.t 145), (.t 146)], none⟩, ⟨some 15, .mv (.t 147), none⟩]) ( (.seq ( .region [] [ ⟨some 148, .mv (.t 15), none⟩, ⟨some 149, .mv (.t 7), none⟩, ⟨some 150, .bin .lss (.t 148) (.t 149), none⟩, ⟨some 151, .mv (.t 150), none⟩, ⟨some 152, .mv (.t 15), some (151, false)⟩, ⟨some 153, .mv (.t 7), some (151, false)⟩, ⟨some 154, .bin .eql (.t 152) (.t 153), some (151, false)⟩, ⟨some 155, .mv (.t 154), some (151, false)⟩, ⟨some 156, .mv (.t 14), some (155, true)⟩, ⟨some 157, .mv (.t 5), some (155, true)⟩, ⟨some 158, .call 0 (.c (.fn 20 [])) [(.t 156), (.t 157)], some (155, true)⟩, ⟨some 159, .pick (.t 155) (.t 158) (.c (.bool false)), some (151, false)⟩, ⟨some 160, .pick (.t 151) (.c (.bool true)) (.t 159), none⟩]) ( (.cond (.t 160) ( (.seq ( .region [] [ ⟨some 4, .mv (.c (.bool false)), none⟩]) ( .ret))) ( .skip))))))))))) ( .region [] [ ⟨some 161, .bin .add (.t 140) (.c (.int .i64 1)), none⟩, ⟨some 140, .mv (.t 161), none⟩])))))))) :: k) fr L = r := by
  obtain ⟨ho, _⟩ := errC_ok he
  have e0 : ([[vx], [vy]] : List (List V))[((0 : Int)).toNat]? = some [vx] := rfl
  have e1 : ([[vx], [vy]] : List (List V))[((1 : Int)).toNat]? = some [vy] := rfl
  have x19 := fun H => c19 (H := H) he hv hvx hx
  have y19 := fun H => c19 (H := H) he hv hvy hy
  have hxl := Dv_len hx
  have hyl := Dv_len hy
  have x20 := fun H => c20 (H := H) (a := x) (b := D) (by omega) (by omega) hvx hw
  have y20 := fun H => c20 (H := H) (a := y) (b := D) (by omega) (by omega) hvy hw
  have hsv := hv.sh
  have hsw := hw.sh
  have hsx := hvx.sh
  have hsy := hvy.sh
  generalize tt l ph pt true x = Tx at *
  generalize tt l ph pt true y = Ty at *
  clear he hv hw hvx hvy hx hy
  rcases bx with bx | ⟨bx, bx'⟩
  · rcases by' with c | ⟨c, c'⟩
    · clear x20 y20
      refine G_loop.trans ?_
      simp (config := { maxSteps := 10000000 }) (disch := omega) only [↓G_seq, ↓G_skip, ↓G_blk, ↓G_region, ↓G_block, ↓G_cond, ↓G_ops_nil, ↓G_op, Gv_some, ↓G_gop, Gw_ff, Gw_tf, Gc_true, Gc_false, dec_f, killAll, ↓get_setS, evalOp, ev, evs, b_add, b_eql, b_lss, wrap_i64, one, Option.map_some, Option.bind_some, asB, callV, V.shift, V.shifts, List.append_nil, Bool.and_self, List.getElem?_cons_zero, List.getElem?_cons_succ, Nat.reduceEqDiff, reduceCtorEq, ↓reduceIte, Nat.succ_ne_self, decide_true, bne_self_eq_false, Bool.false_eq_true, Int.reduceAdd, Int.reduceLT, Int.reduceLE, pick3, loadV, Ab.rowAt, Int.reduceToNat, Nat.reduceAdd, Nat.reduceLT, and_self, List.length_cons, List.length_nil, List.take_succ_cons, List.take_zero, List.drop_zero, Nat.le_refl, List.getD_cons_zero, Nat.zero_add, el_full, ti_int, h0, h3, h7, h138, h139, h140, x19, hsv, hsx, hL, Nat.zero_lt_succ]
      refine G_loop.trans ?_
      simp (config := { maxSteps := 10000000 }) (disch := omega) only [↓G_seq, ↓G_skip, ↓G_blk, ↓G_region, ↓G_block, ↓G_cond, ↓G_ops_nil, ↓G_op, Gv_some, ↓G_gop, Gw_ff, Gw_tf, Gc_true, Gc_false, dec_f, killAll, ↓get_setS, evalOp, ev, evs, b_add, b_eql, b_lss, wrap_i64, one, Option.map_some, Option.bind_some, asB, callV, V.shift, V.shifts, List.append_nil, Bool.and_self, List.getElem?_cons_zero, List.getElem?_cons_succ, Nat.reduceEqDiff, reduceCtorEq, ↓reduceIte, Nat.succ_ne_self, decide_true, bne_self_eq_false, Bool.false_eq_true, Int.reduceAdd, Int.reduceLT, Int.reduceLE, pick3, loadV, Ab.rowAt, Int.reduceToNat, Nat.reduceAdd, Nat.reduceLT, and_self, List.length_cons, List.length_nil, List.take_succ_cons, List.take_zero, List.drop_zero, Nat.le_refl, List.getD_cons_zero, Nat.zero_add, el_full, ti_int, h0, h3, h7, h138, h139, y19, hsv, hsy, hL, Nat.zero_lt_succ]
      refine G_loop.trans ?_
      simp (config := { maxSteps := 10000000 }) (disch := omega) only [↓G_seq, ↓G_exit, ↓G_region, ↓G_cond, ↓Gx_code, ↓G_ops_nil, ↓G_op, Gv_some, Gc_false, killAll, ↓get_setS, evalOp, ev, b_lss, one, Option.map_some, List.getElem?_cons_zero, List.getElem?_cons_succ, Nat.reduceEqDiff, ↓reduceIte, Nat.succ_ne_self, decide_false, Int.reduceLT, Nat.reduceLT, h139]
      refine hk _ ?_ ?_ ?_ ?_ ?_
      all_goals simp (config := { maxSteps := 10000000 }) (disch := omega) only [↓get_setS, List.getElem?_cons_zero, List.getElem?_cons_succ, Nat.reduceEqDiff, reduceCtorEq, ↓reduceIte, h0, h3, h5, h7, h8]
    · rw [c'] at y20
      clear x20
      refine G_loop.trans ?_
      simp (config := { maxSteps := 10000000 }) (disch := omega) only [↓G_seq, ↓G_skip, ↓G_blk, ↓G_region, ↓G_block, ↓G_cond, ↓G_ops_nil, ↓G_op, Gv_some, ↓G_gop, Gw_ff, Gw_tf, Gc_true, Gc_false, dec_f, killAll, ↓get_setS, evalOp, ev, evs, b_add, b_eql, b_lss, wrap_i64, one, Option.map_some, Option.bind_some, asB, callV, V.shift, V.shifts, List.append_nil, Bool.and_self, List.getElem?_cons_zero, List.getElem?_cons_succ, Nat.reduceEqDiff, reduceCtorEq, ↓reduceIte, Nat.succ_ne_self, decide_true, bne_self_eq_false, Bool.false_eq_true, Int.reduceAdd, Int.reduceLT, Int.reduceLE, pick3, loadV, Ab.rowAt, Int.reduceToNat, Nat.reduceAdd, Nat.reduceLT, and_self, List.length_cons, List.length_nil, List.take_succ_cons, List.take_zero, List.drop_zero, Nat.le_refl, List.getD_cons_zero, Nat.zero_add, el_full, ti_int, h0, h3, h7, h138, h139, h140, x19, hsv, hsx, hL, Nat.zero_lt_succ]
      refine G_loop.trans ?_
      simp (config := { maxSteps := 10000000 }) (disch := omega) only [↓G_seq, ↓G_skip, ↓G_blk, ↓G_region, ↓G_block, ↓G_cond, ↓G_ops_nil, ↓G_op, Gv_some, ↓G_gop, Gw_tt, Gw_ff, Gc_true, Gc_false, dec_t, dec_f, killAll, ↓get_setS, evalOp, ev, evs, b_add, b_eql, b_lss, wrap_i64, one, Option.map_some, Option.bind_some, asB, callV, V.shift, V.shifts, List.append_nil, Bool.and_self, List.getElem?_cons_zero, List.getElem?_cons_succ, Nat.reduceEqDiff, reduceCtorEq, ↓reduceIte, Nat.succ_ne_self, decide_true, bne_self_eq_false, Bool.false_eq_true, Int.reduceAdd, Int.reduceLT, Int.reduceLE, pick3, loadV, Ab.rowAt, Int.reduceToNat, Nat.reduceAdd, Nat.reduceLT, and_self, List.length_cons, List.length_nil, List.take_succ_cons, List.take_zero, List.drop_zero, Nat.le_refl, List.getD_cons_zero, Nat.zero_add, el_full, ti_bool, ti_int, h0, h3, h5, h7, h138, h139, y19, hsv, hsw, hsy, hL, Nat.zero_lt_succ, y20]
      refine G_loop.trans ?_
      simp (config := { maxSteps := 10000000 }) (disch := omega) only [↓G_seq, ↓G_exit, ↓G_region, ↓G_cond, ↓Gx_code, ↓G_ops_nil, ↓G_op, Gv_some, Gc_false, killAll, ↓get_setS, evalOp, ev, b_lss, one, Option.map_some, List.getElem?_cons_zero, List.getElem?_cons_succ, Nat.reduceEqDiff, ↓reduceIte, Nat.succ_ne_self, decide_false, Int.reduceLT, Nat.reduceLT, h139]
      refine hk _ ?_ ?_ ?_ ?_ ?_
      all_goals simp (config := { maxSteps := 10000000 }) (disch := omega) only [↓get_setS, List.getElem?_cons_zero, List.getElem?_cons_succ, Nat.reduceEqDiff, reduceCtorEq, ↓reduceIte, h0, h3, h5, h7, h8]
  · rw [bx'] at x20
    rcases by' with c | ⟨c, c'⟩
    · clear y20
      refine G_loop.trans ?_
      simp (config := { maxSteps := 10000000 }) (disch := omega) only [↓G_seq, ↓G_skip, ↓G_blk, ↓G_region, ↓G_block, ↓G_cond, ↓G_ops_nil, ↓G_op, Gv_some, ↓G_gop, Gw_tt, Gw_ff, Gc_true, Gc_false, dec_t, dec_f, killAll, ↓get_setS, evalOp, ev, evs, b_add, b_eql, b_lss, wrap_i64, one, Option.map_some, Option.bind_some, asB, callV, V.shift, V.shifts, List.append_nil, Bool.and_self, List.getElem?_cons_zero, List.getElem?_cons_succ, Nat.reduceEqDiff, reduceCtorEq, ↓reduceIte, Nat.succ_ne_self, decide_true, bne_self_eq_false, Bool.false_eq_true, Int.reduceAdd, Int.reduceLT, Int.reduceLE, pick3, loadV, Ab.rowAt, Int.reduceToNat, Nat.reduceAdd, Nat.reduceLT, and_self, List.length_cons, List.length_nil, List.take_succ_cons, List.take_zero, List.drop_zero, Nat.le_refl, List.getD_cons_zero, Nat.zero_add, el_full, ti_bool, ti_int, h0, h3, h5, h7, h138, h139, h140, x19, hsv, hsw, hsx, hL, Nat.zero_lt_succ, x20]
      refine G_loop.trans ?_
      simp (config := { maxSteps := 10000000 }) (disch := omega) only [↓G_seq, ↓G_skip, ↓G_blk, ↓G_region, ↓G_block, ↓G_cond, ↓G_ops_nil, ↓G_op, Gv_some, ↓G_gop, Gw_ff, Gw_tf, Gc_true, Gc_false, dec_f, killAll, ↓get_setS, evalOp, ev, evs, b_add, b_eql, b_lss, wrap_i64, one, Option.map_some, Option.bind_some, asB, callV, V.shift, V.shifts, List.append_nil, Bool.and_self, List.getElem?_cons_zero, List.getElem?_cons_succ, Nat.reduceEqDiff, reduceCtorEq, ↓reduceIte, Nat.succ_ne_self, decide_true, bne_self_eq_false, Bool.false_eq_true, Int.reduceAdd, Int.reduceLT, Int.reduceLE, pick3, loadV, Ab.rowAt, Int.reduceToNat, Nat.reduceAdd, Nat.reduceLT, and_self, List.length_cons, List.length_nil, List.take_succ_cons, List.take_zero, List.drop_zero, Nat.le_refl, List.getD_cons_zero, Nat.zero_add, el_full, ti_int, h0, h3, h7, h138, h139, y19, hsv, hsy, hL, Nat.zero_lt_succ]
      refine G_loop.trans ?_
      simp (config := { maxSteps := 10000000 }) (disch := omega) only [↓G_seq, ↓G_exit, ↓G_region, ↓G_cond, ↓Gx_code, ↓G_ops_nil, ↓G_op, Gv_some, Gc_false, killAll, ↓get_setS, evalOp, ev, b_lss, one, Option.map_some, List.getElem?_cons_zero, List.getElem?_cons_succ, Nat.reduceEqDiff, ↓reduceIte, Nat.succ_ne_self, decide_false, Int.reduceLT, Nat.reduceLT, h139]
      refine hk _ ?_ ?_ ?_ ?_ ?_
      all_goals simp (config := { maxSteps := 10000000 }) (disch := omega) only [↓get_setS, List.getElem?_cons_zero, List.getElem?_cons_succ, Nat.reduceEqDiff, reduceCtorEq, ↓reduceIte, h0, h3, h5, h7, h8]
    · rw [c'] at y20
      refine G_loop.trans ?_
      simp (config := { maxSteps := 10000000 }) (disch := omega) only [↓G_seq, ↓G_skip, ↓G_blk, ↓G_region, ↓G_block, ↓G_cond, ↓G_ops_nil, ↓G_op, Gv_some, ↓G_gop, Gw_tt, Gw_ff, Gc_true, Gc_false, dec_t, dec_f, killAll, ↓get_setS, evalOp, ev, evs, b_add, b_eql, b_lss, wrap_i64, one, Option.map_some, Option.bind_some, asB, callV, V.shift, V.shifts, List.append_nil, Bool.and_self, List.getElem?_cons_zero, List.getElem?_cons_succ, Nat.reduceEqDiff, reduceCtorEq, ↓reduceIte, Nat.succ_ne_self, decide_true, bne_self_eq_false, Bool.false_eq_true, Int.reduceAdd, Int.reduceLT, Int.reduceLE, pick3, loadV, Ab.rowAt, Int.reduceToNat, Nat.reduceAdd, Nat.reduceLT, and_self, List.length_cons, List.length_nil, List.take_succ_cons, List.take_zero, List.drop_zero, Nat.le_refl, List.getD_cons_zero, Nat.zero_add, el_full, ti_bool, ti_int, h0, h3, h5, h7, h138, h139, h140, x19, hsv, hsw, hsx, hL, Nat.zero_lt_succ, x20]
      refine G_loop.trans ?_
      simp (config := { maxSteps := 10000000 }) (disch := omega) only [↓G_seq, ↓G_skip, ↓G_blk, ↓G_region, ↓G_block, ↓G_cond, ↓G_ops_nil, ↓G_op, Gv_some, ↓G_gop, Gw_tt, Gw_ff, Gc_true, Gc_false, dec_t, dec_f, killAll, ↓get_setS, evalOp, ev, evs, b_add, b_eql, b_lss, wrap_i64, one, Option.map_some, Option.bind_some, asB, callV, V.shift, V.shifts, List.append_nil, Bool.and_self, List.getElem?_cons_zero, List.getElem?_cons_succ, Nat.reduceEqDiff, reduceCtorEq, ↓reduceIte, Nat.succ_ne_self, decide_true, bne_self_eq_false, Bool.false_eq_true, Int.reduceAdd, Int.reduceLT, Int.reduceLE, pick3, loadV, Ab.rowAt, Int.reduceToNat, Nat.reduceAdd, Nat.reduceLT, and_self, List.length_cons, List.length_nil, List.take_succ_cons, List.take_zero, List.drop_zero, Nat.le_refl, List.getD_cons_zero, Nat.zero_add, el_full, ti_bool, ti_int, h0, h3, h5, h7, h138, h139, y19, hsv, hsw, hsy, hL, Nat.zero_lt_succ, y20]
      refine G_loop.trans ?_
      simp (config := { maxSteps := 10000000 }) (disch := omega) only [↓G_seq, ↓G_exit, ↓G_region, ↓G_cond, ↓Gx_code, ↓G_ops_nil, ↓G_op, Gv_some, Gc_false, killAll, ↓get_setS, evalOp, ev, b_lss, one, Option.map_some, List.getElem?_cons_zero, List.getElem?_cons_succ, Nat.reduceEqDiff, ↓reduceIte, Nat.succ_ne_self, decide_false, Int.reduceLT, Nat.reduceLT, h139]
      refine hk _ ?_ ?_ ?_ ?_ ?_
      all_goals simp (config := { maxSteps := 10000000 }) (disch := omega) only [↓get_setS, List.getElem?_cons_zero, List.getElem?_cons_succ, Nat.reduceEqDiff, reduceCtorEq, ↓reduceIte, h0, h3, h5, h7, h8]

set_option maxHeartbeats 4000000 in
theorem loop6a {k : List KI} {v w : V} {l : List Sy} {ph pt least : Int} {dt : List Nat} {r : Option V} (he : errC l ph pt = 0) (hv : SlV 4 v (E4 l)) (hw : SlV 1 w (I1 (zs (0 :: dt)))) (hD : Path.isD l.length (0 :: dt))
    (hbest : ∀ x, Dv l.length x → least < tt l ph pt true x ∨ (least = tt l ph pt true x ∧ Path.bet x (0 :: dt) = false))
    (hk : ∀ fr' L', Ab.get fr' 7 = .i least → Gx tbl H [.tmp 4] 0 k fr' L' = r) :
    ∀ (q i : Nat) (fr : List V) (L : List Row), i + q = l.length → 1 ≤ i → Ab.get fr 0 = v → Ab.get fr 3 = .ptr 0 1 1 0 0 → Ab.get fr 5 = w → Ab.get fr 7 = .i least → Ab.get fr 8 = .i (i : Nat) → rget L 1 = ⟨1, 2, [[.i ph, .i pt]]⟩ →
      G tbl H [.tmp 4] (.code (.loop ( (.seq ( (.seq ( .region [] [ ⟨some 57, .mv (.t 8), none⟩, ⟨some 58, .mv (.t 0), none⟩, ⟨some 59, .len (.t 58), none⟩, ⟨some 60, .bin .lss (.t 57) (.t 59), none⟩]) ( (.cond (.t 60) ( .skip) ( .exit 0))))) ( (.seq ( (.block 1 ( (.seq ( .region [] [ ⟨some 9, .mv (.c .nilsl), none⟩, ⟨some 10, .mv (.c .nilsl), none⟩]) ( (.seq ( .region [] [ ⟨some 11, .mv (.c (.bool false)), none⟩]) ( (.seq ( (.seq ( .region [] [ ⟨some 12, .mv (.c (.int .i64 0)), none⟩]) ( (.block 2 ( (.loop ( (.seq ( (.seq ( .region [] [ ⟨some 63, .mv (.t 12), none⟩, ⟨some 64, .mv (.t 5), none⟩, ⟨some 65, .len (.t 64), none⟩, ⟨some 66, .bin .lss (.t 63) (.t 65), none⟩]) ( (.cond (.t 66) ( .skip) ( .exit 2))))) ( (.seq ( (.block 3 ( (.seq ( (.seq ( .region [] [ ⟨some 69, .mv (.t 5), none⟩, ⟨some 70, .mv (.t 12), none⟩, ⟨some 71, .elemAddr 1 (.t 69) (.t 70), none⟩, ⟨some 72, .load false 1 (.t 71), none⟩, ⟨some 73, .mv (.t 8), none⟩, ⟨some 74, .bin .eql (.t 72) (.t 73), none⟩]) ( (.cond (.t 74) ( (.seq ( .region [] [ ⟨some 11, .mv (.c (.bool true)), none⟩]) ( (.seq ( .region [] [ ⟨some 75, .mv (.t 10), none⟩, ⟨some 76, .mv (.t 8), none⟩, ⟨some 77, .lit 1 [(.int .i64 0)] 1 [(0, 1, (.t 76))], none⟩, ⟨some 78, .app 2 1 8 (.t 75) (.t 77), none⟩, ⟨some 10, .mv (.t 78), none⟩]) ( .exit 3))))) ( .skip))))) ( (.seq ( (.seq ( .region [] [ ⟨some 79, .mv (.t 5), none⟩, ⟨some 80, .mv (.t 12), none⟩, ⟨some 81, .elemAddr 1 (.t 79) (.t 80), none⟩, ⟨some 82, .load false 1 (.t 81), none⟩, ⟨some 83, .mv (.t 8), none⟩, ⟨some 84, .bin .gtr (.t 82) (.t 83), none⟩, ⟨some 85, .mv (.t 84), none⟩, ⟨some 86, .mv (.t 11), some (85, true)⟩, ⟨some 87, .not (.t 86), some (85, true)⟩, ⟨some 88, .pick (.t 85) (.t 87) (.c (.bool false)), none⟩, ⟨some 89, .mv (.t 88), none⟩, ⟨some 90, .mv (.t 12), some (89, true)⟩, ⟨some 91, .bin .eql (.t 90) (.c (.int .i64 0)), some (89, true)⟩, ⟨some 92, .mv (.t 91), some (89, true)⟩, ⟨some 93, .mv (.t 5), some (92, false)⟩, ⟨some 94, .mv (.t 12), some (92, false)⟩, ⟨some 95, .bin .sub (.t 94) (.c (.int .i64 1)), some (92, false)⟩, ⟨some 96, .elemAddr 1 (.t 93) (.t 95), some (92, false)⟩, ⟨some 97, .load false 1 (.t 96), some (92, false)⟩, ⟨some 98, .mv (.t 8), some (92, false)⟩, ⟨some 99, .bin .lss (.t 97) (.t 98), some (92, false)⟩, ⟨some 100, .pick (.t 92) (.c (.bool true)) (.t 99), some (89, true)⟩, ⟨some 101, .pick (.t 89) (.t 100) (.c (.bool false)), none⟩]) ( (.cond (.t 101) ( .region [] [ ⟨some 102, .mv (.t 10), none⟩, ⟨some 103, .mv (.t 8), none⟩, ⟨some 104, .lit 1 [(.int .i64 0)] 1 [(0, 1, (.t 103))], none⟩, ⟨some 105, .app 3 1 8 (.t 102) (.t 104), none⟩, ⟨some 10, .mv (.t 105), none⟩]) ( .skip))))) ( .region [] [ ⟨some 106, .mv (.t 9), none⟩, ⟨some 107, .mv (.t 5), none⟩, ⟨some 108, .mv (.t 12), none⟩, ⟨some 109, .elemAddr 1 (.t 107) (.t 108), none⟩, ⟨some 110, .load false 1 (.t 109), none⟩, ⟨some 111, .lit 1 [(.int .i64 0)] 1 [(0, 1, (.t 110))], none⟩, ⟨some 112, .app 4 1 8 (.t 106) (.t 111), none⟩, ⟨some 113, .mv (.t 10), none⟩, ⟨some 114, .mv (.t 5), none⟩, ⟨some 115, .mv (.t 12), none⟩, ⟨some 116, .elemAddr 1 (.t 114) (.t 115), none⟩, ⟨some 117, .loadi false 1 (.t 116), none⟩, ⟨some 118, .lit 1 [(.int .i64 0)] 1 [(0, 1, (.t 117))], none⟩, ⟨some 119, .app 5 1 8 (.t 113) (.t 118), none⟩, ⟨some 9, .mv (.t 112), none⟩, ⟨some 10, .mv (.t 119), none⟩]))))))) ( .region [] [ ⟨some 67, .mv (.t 12), none⟩, ⟨some 68, .bin .add (.t 67) (.c (.int .i64 1)), none⟩, ⟨some 12, .mv (.t 68), none⟩]))))))))))) ( (.seq ( (.seq ( .region [] [ ⟨some 120, .mv (.t 11), none⟩, ⟨some 121, .not (.t 120), none⟩, ⟨some 122, .mv (.t 121), none⟩, ⟨some 123, .mv (.t 5), some (122, true)⟩, ⟨some 124, .mv (.t 5), some (122, true)⟩, ⟨some 125, .len (.t 124), some (122, true)⟩, ⟨some 126, .bin .sub (.t 125) (.c (.int .i64 1)), some (122, true)⟩, ⟨some 127, .elemAddr 1 (.t 123) (.t 126), some (122, true)⟩, ⟨some 128, .load false 1 (.t 127), some (122, true)⟩, ⟨some 129, .mv (.t 8), some (122, true)⟩, ⟨some 130, .bin .lss (.t 128) (.t 129), some (122, true)⟩, ⟨some 131, .pick (.t 122) (.t 130) (.c (.bool false)), none⟩]) ( (.cond (.t 131) ( .region [] [ ⟨some 132, .mv (.t 10), none⟩, ⟨some 133, .mv (.t 8), none⟩, ⟨some 134, .lit 1 [(.int .i64 0)] 1 [(0, 1, (.t 133))], none⟩, ⟨some 135, .app 6 1 8 (.t 132) (.t 134), none⟩, ⟨some 10, .mv (.t 135), none⟩]) ( .skip))))) ( (.seq ( .region [] [ ⟨some 136, .mv (.t 10), none⟩, ⟨some 137, .mv (.t 9), none⟩, ⟨some 138, .litf 1 [.nilsl] 2 [(0, 1, (.t 136)), (1, 1, (.t 137))], none⟩, ⟨some 139, .len (.t 138), none⟩, ⟨some 140, .mv (.c (.int .i64 0)), none⟩]) ( (.block 4 ( (.loop ( (.seq ( .region [] [ ⟨some 141, .bin .lss (.t 140) (.t 139), none⟩]) ( (.seq ( (.cond (.t 141) ( .skip) ( .exit 4))) ( (.seq ( (.block 5 ( (.seq ( .region [] [ ⟨some 142, .elemAddr 1 (.t 138) (.t 140), none⟩, ⟨some 143, .load false 1 (.t 142), none⟩, ⟨some 14, .mv (.t 143), none⟩]) ( (.seq ( .region [] [ ⟨some 144, .mv (.t 0), none⟩, ⟨some 145, .load true 2 (.t 3), none⟩, ⟨some 146, .mv (.t 14), none⟩, ⟨some 147, .call 0 (.c (.fn 19 [])) [(.t 144), (.t 145), (.t 146)], none⟩, ⟨some 15, .mv (.t 147), none⟩]) ( (.seq ( .region [] [ ⟨some 148, .mv (.t 15), none⟩, ⟨some 149, .mv (.t 7), none⟩, ⟨some 150, .bin .lss (.t 148) (.t 149), none⟩, ⟨some 151, .mv (.t 150), none⟩, ⟨some 152, .mv (.t 15), some (151, false)⟩, ⟨some 153, .mv (.t 7), some (151, false)⟩, ⟨some 154, .bin .eql (.t 152) (.t 153), some (151, false)⟩, ⟨some 155, .mv (.t 154), some (151, false)⟩, ⟨some 156, .mv (.t 14), some (155, true)⟩, ⟨some 157, .mv (.t 5), some (155, true)⟩, ⟨some 158, .call 0 (.c (.fn 20 [])) [(.t 156), (.t 157)], some (155, true)⟩, ⟨some 159, .pick (.t 155) (.t 158) (.c (.bool false)), some (151, false)⟩, ⟨some 160, .pick (.t 151) (.c (.bool true)) (.t 159), none⟩]) ( (.cond (.t 160) ( (.seq ( .region [] [ ⟨some 4, .mv (.c (.bool false)), none⟩]) ( .ret))) ( .skip))))))))))) ( .region [] [ ⟨some 161, .bin .add (.t 140) (.c (.int .i64 1)), none⟩, ⟨some 140, .mv (.t 161), none⟩]))))))))))))))))))))))) ( .region [] [ ⟨some 61, .mv (.t 8), none⟩, ⟨some 62, .bin .add (.t 61) (.c (.int .i64 1)), none⟩, ⟨some 8, .mv (.t 62), none⟩])))))) :: k) fr L = r := by
  intro q
  obtain ⟨ho, _⟩ := errC_ok he
  have hlv := hv.len
  rw [E4_len] at hlv
  have hlw := hw.len
  rw [I1_len, zs_len, List.length_cons] at hlw
  have hdl := isD_len dt 0 hD
  induction q with
  | zero =>
    intro i fr L hi hi1 h0 h3 h5 h7 h8 hL
    obtain rfl : i = l.length := by omega
    refine G_loop.trans ?_
    simp (config := { maxSteps := 10000000 }) (disch := omega) only [↓G_seq, ↓G_exit, ↓G_region, ↓G_cond, ↓Gx_code, ↓G_ops_nil, ↓G_op, Gv_some, Gc_false, dec_f, killAll, ↓get_setS, evalOp, ev, b_lss, one, Option.map_some, List.getElem?_cons_zero, List.getElem?_cons_succ, Nat.reduceEqDiff, reduceCtorEq, ↓reduceIte, Nat.succ_ne_self, h0, h8, hlv]
    refine hk _ _ ?_
    simp (config := { maxSteps := 10000000 }) (disch := omega) only [↓get_setS, List.getElem?_cons_zero, List.getElem?_cons_succ, Nat.reduceEqDiff, ↓reduceIte, h7]
  | succ q ih =>
    intro i fr L hi hi1 h0 h3 h5 h7 h8 hL
    have nx := fun fr' L' => ih (i + 1) fr' L' (by omega) (by omega)
    clear ih hk
    obtain ⟨hDW, hDU⟩ := wz_D (n := l.length) (i := i) (by omega) dt 0 (by omega) hD
    have hwl := wz_len (i := i) dt 0 false
    have dvW : Dv l.length (0 :: endW i (wz i 0 false dt) (lastP 0 dt)) := .inr ⟨_, rfl, hDW⟩
    have dvU : Dv l.length (0 :: (wz i 0 false dt).2.1) := .inr ⟨_, rfl, hDU⟩
    have hbW := hbest _ dvW
    have hbU := hbest _ dvU
    have hE0 := hw.el (i := 0) (e := [.i 0]) rfl
    simp only [Int.ofNat_zero, Int.cast_ofNat_Int] at hE0
    have hEl := hw.el (I1_get _ dt.length _ (zs_get (lastP_get dt 0)))
    have hlast : ((dt.length + 1 : Nat) : Int) - 1 = (dt.length : Nat) := by omega
    have hel : ∀ a ∈ (0 :: dt), a ≤ 1024 := by
      intro a ha
      obtain ⟨j, hj, e⟩ := List.getElem_of_mem ha
      have := isD_ge dt 0 j a hD (by rw [List.getElem?_eq_getElem hj, e])
      omega
    obtain ⟨v2, L2, d1, d2, d3⟩ := (AccW.nil (ss := [4]) (L := L)).app (site := 4) (by simp) (.i 0) rfl (by simp)
    obtain ⟨v3, L3, f1, f2, f3⟩ := (AccW.nil (ss := sW) (L := L2)).app (site := 5) (by simp) (.i 0) rfl (by simp)
    have b9 := d2.mono (L' := L3) (fun s hs => f3 s (by simp at hs; subst hs; simp))
    have b1 : rget L3 1 = ⟨1, 2, [[.i ph, .i pt]]⟩ := by rw [f3 1 (by simp), d3 1 (by simp), hL]
    refine G_loop.trans ?_
    simp (config := { maxSteps := 10000000 }) (disch := omega) only [↓G_seq, ↓G_skip, ↓G_region, ↓G_block, ↓G_cond, ↓G_ops_nil, ↓G_op, Gv_some, Gc_true, dec_t, killAll, ↓get_setS, evalOp, ev, b_lss, one, Option.map_some, List.getElem?_cons_zero, List.getElem?_cons_succ, Nat.reduceEqDiff, reduceCtorEq, ↓reduceIte, Nat.succ_ne_self, h0, h8, hlv]
    refine G_loop.trans ?_
    simp (config := { maxSteps := 10000000 }) (disch := omega) only [↓G_seq, ↓G_skip, ↓G_blk, ↓G_region, ↓G_block, ↓G_cond, ↓G_ops_nil, ↓G_op, Gv_some, ↓G_gop, Gw_tf, Gw_tup, Gc_true, Gc_false, dec_t, dec_f, killAll, ↓get_setS, evalOp, ev, b_add, b_eql, b_lss, b_gtr, wrap_i64, one, Option.map_some, Option.bind_some, asB, List.append_nil, List.nil_append, List.all_cons, List.all_nil, Bool.true_and, Bool.and_self, List.getElem?_cons_zero, List.getElem?_cons_succ, Nat.reduceEqDiff, ↓reduceIte, Nat.succ_ne_self, Bool.false_eq_true, Int.reduceAdd, Int.reduceLT, pick3, V.cells, fillV, splice, chop, loadV, V.scalar, V.pure, Nat.reduceAdd, Nat.reduceLT, true_and, and_self, List.length_cons, List.length_nil, List.take_succ_cons, List.take_zero, List.drop_succ_cons, List.drop_zero, Nat.le_refl, List.replicate, List.flatten_cons, List.flatten_nil, Nat.zero_add, h5, h8, hlw, hE0, d1, f1, loadiV]
    refine loop6b (v := v) (w := w) (d := 0 :: dt) (i := (i : Nat)) (least := least) (i0 := i) (row := ⟨1, 2, [[.i ph, .i pt]]⟩) (W' := 0 :: (wz i 0 false dt).1) (U' := 0 :: (wz i 0 false dt).2.1) (is' := (wz i 0 false dt).2.2) rfl hw (by simp only [List.length_cons]; omega) hel (by omega) (fun fr' L' g0 g3 g5 g7 g8 hrow g11 g10 g9 => ?_) dt 0 0 false [0] [0] _ _ rfl (by simp) rfl (by simp only [List.length_cons, List.length_nil]; omega) (by simp only [List.length_cons, List.length_nil]; omega) rfl rfl rfl ?_ ?_ ?_ ?_ ?_ b1 ?_ ?_ ?_ ?_
    · have tail : ∀ (fr'' : List V) (L'' : List Row) (vx vy : V), Ab.get fr'' 0 = v → Ab.get fr'' 3 = .ptr 0 1 1 0 0 → Ab.get fr'' 5 = w → Ab.get fr'' 7 = .i least → Ab.get fr'' 8 = .i (i : Nat) → rget L'' 1 = ⟨1, 2, [[.i ph, .i pt]]⟩ → Ab.get fr'' 138 = .sl .full 1 [[vx], [vy]] → Ab.get fr'' 139 = .i 2 → Ab.get fr'' 140 = .i 0 →
          SlV 1 vx (I1 (zs (0 :: endW i (wz i 0 false dt) (lastP 0 dt)))) → SlV 1 vy (I1 (zs (0 :: (wz i 0 false dt).2.1))) → ∀ k', (∀ fr3, Ab.get fr3 0 = v → Ab.get fr3 3 = .ptr 0 1 1 0 0 → Ab.get fr3 5 = w → Ab.get fr3 7 = .i least → Ab.get fr3 8 = .i (i : Nat) → Gx tbl H [.tmp 4] 4 k' fr3 L'' = r) →
          G tbl H [.tmp 4] (.code (.loop ( (.seq ( .region [] [ ⟨some 141, .bin .lss (.t 140) (.t 139), none⟩]) ( (.seq ( (.cond (.t 141) ( .skip) ( .exit 4))) ( (.seq ( (.block 5 ( (.seq ( .region [] [ ⟨some 142, .elemAddr 1 (.t 138) (.t 140), none⟩, ⟨some 143, .load false 1 (.t 142), none⟩, ⟨some 14, .mv (.t 143), none⟩]) ( (.seq ( .region [] [ ⟨some 144, .mv (.t 0), none⟩, ⟨some 145, .load true 2 (.t 3), none⟩, ⟨some 146, .mv (.t 14), none⟩, ⟨some 147, .call 0 (.c (.fn 19 [])) [(.t 144), (.t 145), (.t 146)], none⟩, ⟨some 15, .mv (.t 147), none⟩]) ( (.seq ( .region [] [ ⟨some 148, .mv (.t 15), none⟩, ⟨some 149, .mv (.t 7), none⟩, ⟨some 150, .bin .lss (.t 148) (.t 149), none⟩, ⟨some 151, .mv (.t 150), none⟩, ⟨some 152, .mv (.t 15), some (151, false)⟩, ⟨some 153, .mv (.t 7), some (151, false)⟩, ⟨some 154, .bin .eql (.t 152) (.t 153), some (151, false)⟩, ⟨some 155, .mv (.t 154), some (151, false)⟩, ⟨some 156, .mv (.t 14), some (155, true)⟩, ⟨some 157, .mv (.t 5), some (155, true)⟩, ⟨some 158, .call 0 (.c (.fn 20 [])) [(.t 156), (.t 157)], some (155, true)⟩, ⟨some 159, .pick (.t 155) (.t 158) (.c (.bool false)), some (151, false)⟩, ⟨some 160, .pick (.t 151) (.c (.bool true)) (.t 159), none⟩]) ( (.cond (.t 160) ( (.seq ( .region [] [ ⟨some 4, .mv (.c (.bool false)), none⟩]) ( .ret))) ( .skip))))))))))) ( .region [] [ ⟨some 161, .bin .add (.t 140) (.c (.int .i64 1)), none⟩, ⟨some 140, .mv (.t 161), none⟩])))))))) :: k') fr'' L'' = r := by
        intro fr'' L'' vx vy k0 k3 k5 k7 k8 hL'' k138 k139 k140 hvx hvy k' hk'
        exact loop6c he hv hw (by simp only [List.length_cons]; omega) hvx hvy dvW dvU hbW hbU hL'' hk' fr'' k0 k3 k5 k7 k8 k138 k139 k140
      have goon : ∀ (fr3 : List V) (L'' : List Row), rget L'' 1 = ⟨1, 2, [[.i ph, .i pt]]⟩ → Ab.get fr3 0 = v → Ab.get fr3 3 = .ptr 0 1 1 0 0 → Ab.get fr3 5 = w → Ab.get fr3 7 = .i least → Ab.get fr3 8 = .i ((i : Nat) + 1) → G tbl H [.tmp 4] (.code (.loop ( (.seq ( (.seq ( .region [] [ ⟨some 57, .mv (.t 8), none⟩, ⟨some 58, .mv (.t 0), none⟩, ⟨some 59, .len (.t 58), none⟩, ⟨some 60, .bin .lss (.t 57) (.t 59), none⟩]) ( (.cond (.t 60) ( .skip) ( .exit 0))))) ( (.seq ( (.block 1 ( (.seq ( .region [] [ ⟨some 9, .mv (.c .nilsl), none⟩, ⟨some 10, .mv (.c .nilsl), none⟩]) ( (.seq ( .region [] [ ⟨some 11, .mv (.c (.bool false)), none⟩]) ( (.seq ( (.seq ( .region [] [ ⟨some 12, .mv (.c (.int .i64 0)), none⟩]) ( (.block 2 ( (.loop ( (.seq ( (.seq ( .region [] [ ⟨some 63, .mv (.t 12), none⟩, ⟨some 64, .mv (.t 5), none⟩, ⟨some 65, .len (.t 64), none⟩, ⟨some 66, .bin .lss (.t 63) (.t 65), none⟩]) ( (.cond (.t 66) ( .skip) ( .exit 2))))) ( (.seq ( (.block 3 ( (.seq ( (.seq ( .region [] [ ⟨some 69, .mv (.t 5), none⟩, ⟨some 70, .mv (.t 12), none⟩, ⟨some 71, .elemAddr 1 (.t 69) (.t 70), none⟩, ⟨some 72, .load false 1 (.t 71), none⟩, ⟨some 73, .mv (.t 8), none⟩, ⟨some 74, .bin .eql (.t 72) (.t 73), none⟩]) ( (.cond (.t 74) ( (.seq ( .region [] [ ⟨some 11, .mv (.c (.bool true)), none⟩]) ( (.seq ( .region [] [ ⟨some 75, .mv (.t 10), none⟩, ⟨some 76, .mv (.t 8), none⟩, ⟨some 77, .lit 1 [(.int .i64 0)] 1 [(0, 1, (.t 76))], none⟩, ⟨some 78, .app 2 1 8 (.t 75) (.t 77), none⟩, ⟨some 10, .mv (.t 78), none⟩]) ( .exit 3))))) ( .skip))))) ( (.seq ( (.seq ( .region [] [ ⟨some 79, .mv (.t 5), none⟩, ⟨some 80, .mv (.t 12), none⟩, ⟨some 81, .elemAddr 1 (.t 79) (.t 80), none⟩, ⟨some 82, .load false 1 (.t 81), none⟩, ⟨some 83, .mv (.t 8), none⟩, ⟨some 84, .bin .gtr (.t 82) (.t 83), none⟩, ⟨some 85, .mv (.t 84), none⟩, ⟨some 86, .mv (.t 11), some (85, true)⟩, ⟨some 87, .not (.t 86), some (85, true)⟩, ⟨some 88, .pick (.t 85) (.t 87) (.c (.bool false)), none⟩, ⟨some 89, .mv (.t 88), none⟩, ⟨some 90, .mv (.t 12), some (89, true)⟩, ⟨some 91, .bin .eql (.t 90) (.c (.int .i64 0)), some (89, true)⟩, ⟨some 92, .mv (.t 91), some (89, true)⟩, ⟨some 93, .mv (.t 5), some (92, false)⟩, ⟨some 94, .mv (.t 12), some (92, false)⟩, ⟨some 95, .bin .sub (.t 94) (.c (.int .i64 1)), some (92, false)⟩, ⟨some 96, .elemAddr 1 (.t 93) (.t 95), some (92, false)⟩, ⟨some 97, .load false 1 (.t 96), some (92, false)⟩, ⟨some 98, .mv (.t 8), some (92, false)⟩, ⟨some 99, .bin .lss (.t 97) (.t 98), some (92, false)⟩, ⟨some 100, .pick (.t 92) (.c (.bool true)) (.t 99), some (89, true)⟩, ⟨some 101, .pick (.t 89) (.t 100) (.c (.bool false)), none⟩]) ( (.cond (.t 101) ( .region [] [ ⟨some 102, .mv (.t 10), none⟩, ⟨some 103, .mv (.t 8), none⟩, ⟨some 104, .lit 1 [(.int .i64 0)] 1 [(0, 1, (.t 103))], none⟩, ⟨some 105, .app 3 1 8 (.t 102) (.t 104), none⟩, ⟨some 10, .mv (.t 105), none⟩]) ( .skip))))) ( .region [] [ ⟨some 106, .mv (.t 9), none⟩, ⟨some 107, .mv (.t 5), none⟩, ⟨some 108, .mv (.t 12), none⟩, ⟨some 109, .elemAddr 1 (.t 107) (.t 108), none⟩, ⟨some 110, .load false 1 (.t 109), none⟩, ⟨some 111, .lit 1 [(.int .i64 0)] 1 [(0, 1, (.t 110))], none⟩, ⟨some 112, .app 4 1 8 (.t 106) (.t 111), none⟩, ⟨some 113, .mv (.t 10), none⟩, ⟨some 114, .mv (.t 5), none⟩, ⟨some 115, .mv (.t 12), none⟩, ⟨some 116, .elemAddr 1 (.t 114) (.t 115), none⟩, ⟨some 117, .loadi false 1 (.t 116), none⟩, ⟨some 118, .lit 1 [(.int .i64 0)] 1 [(0, 1, (.t 117))], none⟩, ⟨some 119, .app 5 1 8 (.t 113) (.t 118), none⟩, ⟨some 9, .mv (.t 112), none⟩, ⟨some 10, .mv (.t 119), none⟩]))))))) ( .region [] [ ⟨some 67, .mv (.t 12), none⟩, ⟨some 68, .bin .add (.t 67) (.c (.int .i64 1)), none⟩, ⟨some 12, .mv (.t 68), none⟩]))))))))))) ( (.seq ( (.seq ( .region [] [ ⟨some 120, .mv (.t 11), none⟩, ⟨some 121, .not (.t 120), none⟩, ⟨some 122, .mv (.t 121), none⟩, ⟨some 123, .mv (.t 5), some (122, true)⟩, ⟨some 124, .mv (.t 5), some (122, true)⟩, ⟨some 125, .len (.t 124), some (122, true)⟩, ⟨some 126, .bin .sub (.t 125) (.c (.int .i64 1)), some (122, true)⟩, ⟨some 127, .elemAddr 1 (.t 123) (.t 126), some (122, true)⟩, ⟨some 128, .load false 1 (.t 127), some (122, true)⟩, ⟨some 129, .mv (.t 8), some (122, true)⟩, ⟨some 130, .bin .lss (.t 128) (.t 129), some (122, true)⟩, ⟨some 131, .pick (.t 122) (.t 130) (.c (.bool false)), none⟩]) ( (.cond (.t 131) ( .region [] [ ⟨some 132, .mv (.t 10), none⟩, ⟨some 133, .mv (.t 8), none⟩, ⟨some 134, .lit 1 [(.int .i64 0)] 1 [(0, 1, (.t 133))], none⟩, ⟨some 135, .app 6 1 8 (.t 132) (.t 134), none⟩, ⟨some 10, .mv (.t 135), none⟩]) ( .skip))))) ( (.seq ( .region [] [ ⟨some 136, .mv (.t 10), none⟩, ⟨some 137, .mv (.t 9), none⟩, ⟨some 138, .litf 1 [.nilsl] 2 [(0, 1, (.t 136)), (1, 1, (.t 137))], none⟩, ⟨some 139, .len (.t 138), none⟩, ⟨some 140, .mv (.c (.int .i64 0)), none⟩]) ( (.block 4 ( (.loop ( (.seq ( .region [] [ ⟨some 141, .bin .lss (.t 140) (.t 139), none⟩]) ( (.seq ( (.cond (.t 141) ( .skip) ( .exit 4))) ( (.seq ( (.block 5 ( (.seq ( .region [] [ ⟨some 142, .elemAddr 1 (.t 138) (.t 140), none⟩, ⟨some 143, .load false 1 (.t 142), none⟩, ⟨some 14, .mv (.t 143), none⟩]) ( (.seq ( .region [] [ ⟨some 144, .mv (.t 0), none⟩, ⟨some 145, .load true 2 (.t 3), none⟩, ⟨some 146, .mv (.t 14), none⟩, ⟨some 147, .call 0 (.c (.fn 19 [])) [(.t 144), (.t 145), (.t 146)], none⟩, ⟨some 15, .mv (.t 147), none⟩]) ( (.seq ( .region [] [ ⟨some 148, .mv (.t 15), none⟩, ⟨some 149, .mv (.t 7), none⟩, ⟨some 150, .bin .lss (.t 148) (.t 149), none⟩, ⟨some 151, .mv (.t 150), none⟩, ⟨some 152, .mv (.t 15), some (151, false)⟩, ⟨some 153, .mv (.t 7), some (151, false)⟩, ⟨some 154, .bin .eql (.t 152) (.t 153), some (151, false)⟩, ⟨some 155, .mv (.t 154), some (151, false)⟩, ⟨some 156, .mv (.t 14), some (155, true)⟩, ⟨some 157, .mv (.t 5), some (155, true)⟩, ⟨some 158, .call 0 (.c (.fn 20 [])) [(.t 156), (.t 157)], some (155, true)⟩, ⟨some 159, .pick (.t 155) (.t 158) (.c (.bool false)), some (151, false)⟩, ⟨some 160, .pick (.t 151) (.c (.bool true)) (.t 159), none⟩]) ( (.cond (.t 160) ( (.seq ( .region [] [ ⟨some 4, .mv (.c (.bool false)), none⟩]) ( .ret))) ( .skip))))))))))) ( .region [] [ ⟨some 161, .bin .add (.t 140) (.c (.int .i64 1)), none⟩, ⟨some 140, .mv (.t 161), none⟩]))))))))))))))))))))))) ( .region [] [ ⟨some 61, .mv (.t 8), none⟩, ⟨some 62, .bin .add (.t 61) (.c (.int .i64 1)), none⟩, ⟨some 8, .mv (.t 62), none⟩])))))) :: k) fr3 L'' = r := by
        intro fr3 L'' a0 a1 a2 a3 a4 a5
        exact nx fr3 L'' a1 a2 a3 a4 (by rw [a5]; congr 1) a0
      clear nx hbest dvW dvU hbW hbU hDW hDU d2 d3 f2 f3 b9 b1 hel hv hw
      have finW : ∀ (L'' : List Row) (v10 : V), AccW sW L'' v10 (I1 (zs (0 :: endW i (wz i 0 false dt) (lastP 0 dt)))) → ∃ s ver A, (s = 4) = False ∧ (s = 1) = False ∧ 0 < ver ∧ A = I1 (zs (0 :: endW i (wz i 0 false dt) (lastP 0 dt))) ∧ v10 = .ref 0 s ver 1 0 A.length ∧ rget L'' s = ⟨ver, 1, A⟩ ∧ A.all (fun e => e.all V.pure) = true := by
        intro L'' v10 h
        rcases h with ⟨h, _⟩ | ⟨_, s, hs, ver, hver, h1, h2⟩
        · cases h
        · refine ⟨s, ver, _, ?_, ?_, hver, rfl, h1, h2, I1_pure _⟩
          · simp at hs ⊢; omega
          · simp at hs ⊢; omega
      have finU : ∃ ver B, 0 < ver ∧ B = I1 (zs (0 :: (wz i 0 false dt).2.1)) ∧ Ab.get fr' 9 = .ref 0 4 ver 1 0 B.length ∧ rget L' 4 = ⟨ver, 1, B⟩ ∧ B.all (fun e => e.all V.pure) = true := by
        rcases g9 with ⟨h, _⟩ | ⟨_, s, hs, ver, hver, h1, h2⟩
        · cases h
        · simp at hs
          subst hs
          exact ⟨ver, _, hver, rfl, h1, h2, I1_pure _⟩
      obtain ⟨ver', B, hver', hB, gU, rU, pU⟩ := finU
      have hlI : ∀ q : List Nat, (I1 (zs q)).length = q.length := fun q => by rw [I1_len, zs_len]
      have more : ∃ v10' L'', (∀ H, appV (L' :: H) 6 1 8 (Ab.get fr' 10) (.sl .full 1 [[.i (i : Nat)]]) = some (v10', L'')) ∧ AccW sW L'' v10' (I1 (zs (0 :: (wz i 0 false dt).1 ++ [i]))) ∧ rget L'' 4 = rget L' 4 ∧ rget L'' 1 = rget L' 1 := by
        obtain ⟨v10', L'', m1, m2, m3⟩ := g10.app (site := 6) (by simp) (.i (i : Nat)) rfl (by rw [hlI]; simp only [List.length_cons]; omega)
        rw [zs_app] at m2
        exact ⟨v10', L'', m1, m2, m3 4 (by simp), m3 1 (by simp)⟩
      generalize hv10 : Ab.get fr' 10 = v10 at *
      generalize hlst : lastP 0 dt = la at *
      generalize hrr : wz i 0 false dt = rr at *
      obtain ⟨W1, U1, is1⟩ := rr
      simp only at *
      cases is1
      · by_cases c : la < i
        · have eW : endW i (W1, U1, false) la = W1 ++ [i] := by unfold endW; rw [if_pos ⟨rfl, c⟩]
          rw [eW] at finW tail
          obtain ⟨v10', L'', m1, m2, m3, m4⟩ := more
          obtain ⟨s, ver, A, hne, hs1, hver, hA, gW, rW, pW⟩ := finW L'' v10' m2
          have rU' : rget L'' 4 = ⟨ver', 1, B⟩ := m3.trans rU
          have hrow' := m4.trans hrow
          clear finW hrr m2 m3 m4 rU eW
          subst gW
          skip
          simp (config := { maxSteps := 10000000 }) (disch := omega) only [frzP, fillW, ↓G_seq, ↓G_region, ↓G_block, ↓G_cond, ↓Gx_blk, ↓G_ops_nil, ↓G_op, Gv_some, ↓G_gop, Gw_tt, Gc_true, dec_t, killAll, ↓get_setS, evalOp, ev, rget_rset, b_sub, b_lss, wrap_i64, one, Option.map_some, Option.bind_some, asB, List.append_nil, List.nil_append, List.cons_append, List.all_cons, List.all_nil, Bool.and_true, Bool.true_and, Bool.and_self, List.getElem?_cons_zero, List.getElem?_cons_succ, Nat.reduceEqDiff, ↓reduceIte, Nat.succ_ne_self, Bool.not_false, Bool.false_eq_true, Int.reduceAdd, pick3, V.cells, fillV, splice, chop, loadV, V.scalar, V.pure, Nat.reduceAdd, Nat.reduceLeDiff, and_true, true_and, and_self, List.length_cons, List.length_nil, List.take_succ_cons, List.take_zero, List.drop_succ_cons, List.drop_zero, Nat.le_refl, List.replicate, List.flatten_cons, List.flatten_nil, Int.cast_ofNat_Int, Nat.zero_add, len_full, fz_ref0, ite_ov, g5, g8, g11, gU, hv10, m1, hlw, hlast, hEl, rW, rU', pW, pU, hne, sk_any, List.take_length, Nat.zero_add, rget_rset, Nat.zero_lt_succ]
          refine tail _ _ (.sl .any 1 A) (.sl .any 1 B) ?_ ?_ ?_ ?_ ?_ ?_ ?_ ?_ ?_ (by rw [hA]; exact .any) (by rw [hB]; exact .any) _ (fun fr3 k0 k3 k5 k7 k8 => ?_)
          · simp (config := { maxSteps := 10000000 }) (disch := omega) only [↓get_setS, List.getElem?_cons_zero, List.getElem?_cons_succ, reduceCtorEq, ↓reduceIte, g0]
          · simp (config := { maxSteps := 10000000 }) (disch := omega) only [↓get_setS, List.getElem?_cons_zero, List.getElem?_cons_succ, Nat.reduceEqDiff, ↓reduceIte, g3]
          · simp (config := { maxSteps := 10000000 }) (disch := omega) only [↓get_setS, List.getElem?_cons_zero, List.getElem?_cons_succ, Nat.reduceEqDiff, ↓reduceIte, g5]
          · simp (config := { maxSteps := 10000000 }) (disch := omega) only [↓get_setS, List.getElem?_cons_zero, List.getElem?_cons_succ, Nat.reduceEqDiff, ↓reduceIte, g7]
          · simp (config := { maxSteps := 10000000 }) (disch := omega) only [↓get_setS, List.getElem?_cons_zero, List.getElem?_cons_succ, Nat.reduceEqDiff, ↓reduceIte, g8]
          · simp (config := { maxSteps := 10000000 }) (disch := omega) only [rget_rset, List.getElem?_cons_zero, List.getElem?_cons_succ, Nat.reduceEqDiff, ↓reduceIte, hrow', hs1, rget_rset]
          · simp (config := { maxSteps := 10000000 }) (disch := omega) only [↓get_setS, List.getElem?_cons_zero, List.getElem?_cons_succ, Nat.reduceEqDiff, ↓reduceIte, Nat.succ_ne_self]
          · simp (config := { maxSteps := 10000000 }) (disch := omega) only [↓get_setS, List.getElem?_cons_zero, List.getElem?_cons_succ, ↓reduceIte, Nat.succ_ne_self]
          · simp (config := { maxSteps := 10000000 }) (disch := omega) only [↓get_setS, List.getElem?_cons_zero, List.getElem?_cons_succ, ↓reduceIte]
          · simp (config := { maxSteps := 10000000 }) (disch := omega) only [↓G_blk, ↓G_region, ↓Gx_blk, ↓G_ops_nil, ↓G_op, Gv_some, killAll, ↓get_setS, evalOp, ev, b_add, wrap_i64, one, Option.map_some, List.getElem?_cons_zero, List.getElem?_cons_succ, ↓reduceIte, k8]
            refine goon _ _ ?_ ?_ ?_ ?_ ?_ ?_
            · simp (config := { maxSteps := 10000000 }) (disch := omega) only [rget_rset, List.getElem?_cons_zero, List.getElem?_cons_succ, Nat.reduceEqDiff, ↓reduceIte, hrow', hs1, rget_rset]
            all_goals simp (config := { maxSteps := 10000000 }) (disch := omega) only [↓get_setS, List.getElem?_cons_zero, List.getElem?_cons_succ, Nat.reduceEqDiff, reduceCtorEq, ↓reduceIte, Nat.succ_ne_self, k0, k3, k5, k7]
        · have eW : endW i (W1, U1, false) la = W1 := by unfold endW; rw [if_neg (fun e => c e.2)]
          rw [eW] at finW tail
          obtain ⟨s, ver, A, hne, hs1, hver, hA, gW, rW, pW⟩ := finW L' v10 g10
          clear finW hrr more eW g10
          subst gW
          skip
          simp (config := { maxSteps := 10000000 }) (disch := omega) only [frzP, fillW, ↓G_seq, ↓G_skip, ↓G_region, ↓G_block, ↓G_cond, ↓Gx_blk, ↓G_ops_nil, ↓G_op, Gv_some, ↓G_gop, Gw_tt, Gc_false, dec_f, killAll, ↓get_setS, evalOp, ev, rget_rset, b_sub, b_lss, wrap_i64, one, Option.map_some, Option.bind_some, asB, List.append_nil, List.nil_append, List.cons_append, List.all_cons, List.all_nil, Bool.and_true, Bool.true_and, Bool.and_self, List.getElem?_cons_zero, List.getElem?_cons_succ, Nat.reduceEqDiff, ↓reduceIte, Nat.succ_ne_self, Bool.not_false, Bool.false_eq_true, Int.reduceAdd, pick3, V.cells, splice, chop, loadV, V.scalar, V.pure, Nat.reduceAdd, Nat.reduceLeDiff, and_true, true_and, and_self, List.length_cons, List.length_nil, List.take_succ_cons, List.take_zero, List.drop_succ_cons, List.drop_zero, Nat.le_refl, List.replicate, List.flatten_cons, List.flatten_nil, Int.cast_ofNat_Int, Nat.zero_add, len_full, fz_ref0, ite_ov, g5, g8, g11, gU, hv10, hlw, hlast, hEl, rW, rU, pW, pU, hne, sk_any, List.take_length, Nat.zero_add, rget_rset, Nat.zero_lt_succ]
          refine tail _ _ (.sl .any 1 A) (.sl .any 1 B) ?_ ?_ ?_ ?_ ?_ ?_ ?_ ?_ ?_ (by rw [hA]; exact .any) (by rw [hB]; exact .any) _ (fun fr3 k0 k3 k5 k7 k8 => ?_)
          · simp (config := { maxSteps := 10000000 }) (disch := omega) only [↓get_setS, List.getElem?_cons_zero, List.getElem?_cons_succ, reduceCtorEq, ↓reduceIte, g0]
          · simp (config := { maxSteps := 10000000 }) (disch := omega) only [↓get_setS, List.getElem?_cons_zero, List.getElem?_cons_succ, Nat.reduceEqDiff, ↓reduceIte, g3]
          · simp (config := { maxSteps := 10000000 }) (disch := omega) only [↓get_setS, List.getElem?_cons_zero, List.getElem?_cons_succ, Nat.reduceEqDiff, ↓reduceIte, g5]
          · simp (config := { maxSteps := 10000000 }) (disch := omega) only [↓get_setS, List.getElem?_cons_zero, List.getElem?_cons_succ, Nat.reduceEqDiff, ↓reduceIte, g7]
          · simp (config := { maxSteps := 10000000 }) (disch := omega) only [↓get_setS, List.getElem?_cons_zero, List.getElem?_cons_succ, Nat.reduceEqDiff, ↓reduceIte, g8]
          · simp (config := { maxSteps := 10000000 }) (disch := omega) only [rget_rset, List.getElem?_cons_zero, List.getElem?_cons_succ, Nat.reduceEqDiff, ↓reduceIte, hrow, hs1, rget_rset]
          · simp (config := { maxSteps := 10000000 }) (disch := omega) only [↓get_setS, List.getElem?_cons_zero, List.getElem?_cons_succ, Nat.reduceEqDiff, ↓reduceIte, Nat.succ_ne_self]
          · simp (config := { maxSteps := 10000000 }) (disch := omega) only [↓get_setS, List.getElem?_cons_zero, List.getElem?_cons_succ, ↓reduceIte, Nat.succ_ne_self]
          · simp (config := { maxSteps := 10000000 }) (disch := omega) only [↓get_setS, List.getElem?_cons_zero, List.getElem?_cons_succ, ↓reduceIte]
          · simp (config := { maxSteps := 10000000 }) (disch := omega) only [↓G_blk, ↓G_region, ↓Gx_blk, ↓G_ops_nil, ↓G_op, Gv_some, killAll, ↓get_setS, evalOp, ev, b_add, wrap_i64, one, Option.map_some, List.getElem?_cons_zero, List.getElem?_cons_succ, ↓reduceIte, k8]
            refine goon _ _ ?_ ?_ ?_ ?_ ?_ ?_
            · simp (config := { maxSteps := 10000000 }) (disch := omega) only [rget_rset, List.getElem?_cons_zero, List.getElem?_cons_succ, Nat.reduceEqDiff, ↓reduceIte, hrow, hs1, rget_rset]
            all_goals simp (config := { maxSteps := 10000000 }) (disch := omega) only [↓get_setS, List.getElem?_cons_zero, List.getElem?_cons_succ, Nat.reduceEqDiff, reduceCtorEq, ↓reduceIte, Nat.succ_ne_self, k0, k3, k5, k7]
      · have eW : endW i (W1, U1, true) la = W1 := by unfold endW; rw [if_neg (by simp)]
        rw [eW] at finW tail
        obtain ⟨s, ver, A, hne, hs1, hver, hA, gW, rW, pW⟩ := finW L' v10 g10
        clear finW hrr more eW g10
        subst gW
        skip
        simp (config := { maxSteps := 10000000 }) (disch := omega) only [frzP, fillW, ↓G_seq, ↓G_skip, ↓G_region, ↓G_block, ↓G_cond, ↓Gx_blk, ↓G_ops_nil, ↓G_op, Gv_some, ↓G_gop, Gw_tf, Gc_false, killAll, ↓get_setS, evalOp, ev, rget_rset, one, Option.map_some, Option.bind_some, asB, List.append_nil, List.nil_append, List.cons_append, List.all_cons, List.all_nil, Bool.and_true, Bool.true_and, Bool.and_self, List.getElem?_cons_zero, List.getElem?_cons_succ, Nat.reduceEqDiff, ↓reduceIte, Nat.succ_ne_self, Bool.not_true, Bool.false_eq_true, Int.reduceAdd, V.cells, splice, chop, V.scalar, V.pure, Nat.reduceAdd, Nat.reduceLeDiff, and_true, true_and, and_self, List.length_cons, List.length_nil, List.take_succ_cons, List.take_zero, List.drop_succ_cons, List.drop_zero, Nat.le_refl, List.replicate, List.flatten_cons, List.flatten_nil, Int.cast_ofNat_Int, Nat.zero_add, len_full, fz_ref0, ite_ov, g11, gU, hv10, rW, rU, pW, pU, hne, sk_any, List.take_length, Nat.zero_add, rget_rset, Nat.zero_lt_succ]
        refine tail _ _ (.sl .any 1 A) (.sl .any 1 B) ?_ ?_ ?_ ?_ ?_ ?_ ?_ ?_ ?_ (by rw [hA]; exact .any) (by rw [hB]; exact .any) _ (fun fr3 k0 k3 k5 k7 k8 => ?_)
        · simp (config := { maxSteps := 10000000 }) (disch := omega) only [↓get_setS, List.getElem?_cons_zero, List.getElem?_cons_succ, reduceCtorEq, ↓reduceIte, g0]
        · simp (config := { maxSteps := 10000000 }) (disch := omega) only [↓get_setS, List.getElem?_cons_zero, List.getElem?_cons_succ, Nat.reduceEqDiff, ↓reduceIte, g3]
        · simp (config := { maxSteps := 10000000 }) (disch := omega) only [↓get_setS, List.getElem?_cons_zero, List.getElem?_cons_succ, Nat.reduceEqDiff, ↓reduceIte, g5]
        · simp (config := { maxSteps := 10000000 }) (disch := omega) only [↓get_setS, List.getElem?_cons_zero, List.getElem?_cons_succ, Nat.reduceEqDiff, ↓reduceIte, g7]
        · simp (config := { maxSteps := 10000000 }) (disch := omega) only [↓get_setS, List.getElem?_cons_zero, List.getElem?_cons_succ, Nat.reduceEqDiff, ↓reduceIte, g8]
        · simp (config := { maxSteps := 10000000 }) (disch := omega) only [rget_rset, List.getElem?_cons_zero, List.getElem?_cons_succ, Nat.reduceEqDiff, ↓reduceIte, hrow, hs1, rget_rset]
        · simp (config := { maxSteps := 10000000 }) (disch := omega) only [↓get_setS, List.getElem?_cons_zero, List.getElem?_cons_succ, Nat.reduceEqDiff, ↓reduceIte, Nat.succ_ne_self]
        · simp (config := { maxSteps := 10000000 }) (disch := omega) only [↓get_setS, List.getElem?_cons_zero, List.getElem?_cons_succ, ↓reduceIte, Nat.succ_ne_self]
        · simp (config := { maxSteps := 10000000 }) (disch := omega) only [↓get_setS, List.getElem?_cons_zero, List.getElem?_cons_succ, ↓reduceIte]
        · simp (config := { maxSteps := 10000000 }) (disch := omega) only [↓G_blk, ↓G_region, ↓Gx_blk, ↓G_ops_nil, ↓G_op, Gv_some, killAll, ↓get_setS, evalOp, ev, b_add, wrap_i64, one, Option.map_some, List.getElem?_cons_zero, List.getElem?_cons_succ, ↓reduceIte, k8]
          refine goon _ _ ?_ ?_ ?_ ?_ ?_ ?_
          · simp (config := { maxSteps := 10000000 }) (disch := omega) only [rget_rset, List.getElem?_cons_zero, List.getElem?_cons_succ, Nat.reduceEqDiff, ↓reduceIte, hrow, hs1, rget_rset]
          all_goals simp (config := { maxSteps := 10000000 }) (disch := omega) only [↓get_setS, List.getElem?_cons_zero, List.getElem?_cons_succ, Nat.reduceEqDiff, reduceCtorEq, ↓reduceIte, Nat.succ_ne_self, k0, k3, k5, k7]
    all_goals simp (config := { maxSteps := 10000000 }) (disch := omega) only [↓get_setS, List.getElem?_cons_zero, List.getElem?_cons_succ, Nat.reduceEqDiff, reduceCtorEq, ↓reduceIte, Nat.succ_ne_self, Int.reduceAdd, Nat.reduceAdd, Int.cast_ofNat_Int, h0, h3, h5, h7, h8]
    · exact f2
    · exact b9

theorem l6 {v : V} {l : List Sy} {ph pt : Int} (hm : l.length ≤ 9223372036854775807) (hv : SlV 4 v (E4 l)) : call tbl 6 [v, .agg [.i ph, .i pt]] H = some (.bool true) := by
  refine (call_start (show tbl 6 = some a6 from rfl)).trans ?_
  have hlen := hv.len
  rw [E4_len] at hlen
  obtain ⟨v', m, hs, hv', hml, _⟩ := cut hv 30
  simp only [Int.cast_ofNat_Int] at hs
  have hlen' := hv'.len
  rw [E4_len] at hlen'
  have hm' : m.length ≤ 9223372036854775807 := by omega
  have hsh := hv'.sh
  by_cases he : errC m ph pt = 0
  case neg =>
    have h14 := fun H => c14e (H := H) hm' he hv'
    generalize errC m ph pt = e at *
    unfold a6
    simp (config := { maxSteps := 10000000 }) (disch := omega) only [↓G_seq, ↓G_ret, ↓G_region, ↓G_cond, ↓G_ops_nil, ↓G_op, Gv_some, ↓G_gop, Gw_tt, Gw_ff, Gw_ft, Gc_true, dec_f, killAll, ↓get_setS, evalOp, ev, evs, Ab.get, b_neq, one, Option.map_some, Option.bind_some, Option.map_none, asB, finish, resVs, resV, outVs, ownsLast, tupOf, callV, V.shift, V.shifts, List.append_nil, List.map_cons, List.map_nil, List.all_cons, List.all_nil, Bool.and_self, List.getElem?_cons_zero, List.getElem?_cons_succ, Nat.reduceEqDiff, reduceCtorEq, ↓reduceIte, Nat.succ_ne_self, Bool.not_true, Bool.not_false, bne_self_eq_false, Bool.false_eq_true, Int.reduceAdd, pick3, V.cells, loadV, Ab.rowAt, rget, rset, V.scalar, mmV, Nat.reduceAdd, and_self, List.length_cons, List.length_nil, List.take_succ_cons, List.take_zero, List.drop_zero, Nat.le_refl, List.getD_cons_zero, Nat.zero_add, ti_bool, ti_tup_nilsl, st_int, st_nilsl, ov_bool, fn_some, hlen, hs, c11, hsh, h14, Nat.zero_lt_succ]
    done
  have h14 := fun H => c14 (H := H) hm' he hv'
  by_cases hn : noneR m ph pt
  · simp only [brk_none hn] at h14
    unfold a6
    simp (config := { maxSteps := 10000000 }) (disch := omega) only [↓G_seq, ↓G_ret, ↓G_region, ↓G_cond, ↓G_ops_nil, ↓G_op, Gv_some, ↓G_gop, Gw_tt, Gw_ff, Gw_ft, Gc_true, killAll, ↓get_setS, evalOp, ev, evs, Ab.get, b_neq, one, Option.map_some, Option.bind_some, Option.map_none, asB, finish, resVs, resV, outVs, ownsLast, tupOf, callV, V.shift, V.shifts, List.append_nil, List.map_cons, List.map_nil, List.all_cons, List.all_nil, Bool.and_self, List.getElem?_cons_zero, List.getElem?_cons_succ, Nat.reduceEqDiff, reduceCtorEq, ↓reduceIte, Nat.succ_ne_self, decide_false, Bool.not_true, Bool.not_false, bne_self_eq_false, Bool.false_eq_true, Int.reduceAdd, Int.reduceEq, pick3, V.cells, loadV, Ab.rowAt, rget, rset, V.scalar, mmV, Nat.reduceAdd, and_self, List.length_cons, List.length_nil, List.take_succ_cons, List.take_zero, List.drop_zero, Nat.le_refl, List.getD_cons_zero, Nat.zero_add, ti_bool, ti_tup_nilsl, st_int, st_nilsl, ov_bool, fn_some, hlen, hs, c11, hsh, h14, Nat.zero_lt_succ]
    done
  by_cases h0 : m.length = 0
  · unfold brkR at h14
    simp only [h0, if_true] at h14
    rw [h0] at hlen'
    unfold a6
    simp (config := { maxSteps := 10000000 }) (disch := omega) only [↓G_seq, ↓G_ret, ↓G_region, ↓G_cond, ↓G_ops_nil, ↓G_op, Gv_some, ↓G_gop, Gw_tt, Gw_ff, Gc_true, killAll, ↓get_setS, evalOp, ev, evs, Ab.get, b_eql, b_neq, one, Option.map_some, Option.bind_some, Option.map_none, asB, finish, resVs, resV, outVs, ownsLast, tupOf, callV, V.shift, V.shifts, List.append_nil, List.map_cons, List.map_nil, List.all_cons, List.all_nil, Bool.and_self, List.getElem?_cons_zero, List.getElem?_cons_succ, Nat.reduceEqDiff, reduceCtorEq, ↓reduceIte, Nat.succ_ne_self, decide_true, Bool.not_true, bne_self_eq_false, Bool.false_eq_true, Int.reduceAdd, pick3, V.cells, loadV, Ab.rowAt, rget, rset, V.scalar, mmV, Nat.reduceAdd, and_self, List.length_cons, List.length_nil, List.take_succ_cons, List.take_zero, List.drop_zero, Nat.le_refl, List.getD_cons_zero, Int.cast_ofNat_Int, Nat.zero_add, len_nil, ti_bool, ti_tup_nilsl, st_int, st_nilsl, ov_bool, fn_some, hlen, hs, c11, hsh, h14, hlen', Nat.zero_lt_succ]
    done
  have hgd := gD_Dv he hn
  have hgl := Dv_len hgd
  simp only [brk_ok hn] at h14
  have hgz := zs_len (gD m ph pt)
  have h18g := fun H => c18 (H := H) (l := zs (gD m ph pt)) (n := (m.length : Nat)) (by omega) (by omega) (svE_ok 1 (I1 (zs (gD m ph pt))))
  simp only [Dv_divR hgd] at h18g
  have h19g := fun H => c19 (H := H) he hv' (svE_ok 1 (I1 (zs (gD m ph pt)))) hgd
  have hgs := (svE_ok 1 (I1 (zs (gD m ph pt)))).sh
  obtain ⟨⟨dt, a1⟩, a2, a3, a4⟩ := (bestD_ok he (by omega)).2 (Int.not_le.1 (fun e => hn ⟨by omega, e⟩))
  have hg : gD m ph pt = 0 :: dt := by unfold gD; rw [if_neg h0, a1]
  have hTi : tt m ph pt true (0 :: dt) < inf := by rw [← a1, a3]; exact Int.not_le.1 (fun e => hn ⟨by omega, e⟩)
  rw [a1] at a2 a4
  rw [a1] at a3
  have hbest : ∀ x, Dv m.length x → tt m ph pt true (0 :: dt) < tt m ph pt true x ∨ (tt m ph pt true (0 :: dt) = tt m ph pt true x ∧ Path.bet x (0 :: dt) = false) := by
    intro x hx
    rcases hx with ⟨h, _⟩ | ⟨t, rfl, hx⟩
    · exact absurd h h0
    · rw [a3]
      rcases a4 t hx with h | h | ⟨h, h'⟩
      · rw [h, a3]
        exact .inr ⟨rfl, Path.bet_irr _⟩
      · exact .inl h
      · exact .inr ⟨h, Path.bet_asym h'⟩
  rw [hg] at h14 h18g h19g hgs
  have hloop := fun k r hk => loop6a (H := H) (k := k) (r := r) he hv' (svE_ok 1 (I1 (zs (0 :: dt)))) a2 hbest hk (m.length - 1) 1
  have hinf' := hinf
  generalize tt m ph pt true (0 :: dt) = T at *
  clear a3 a4 hbest
  unfold a6
  simp (config := { maxSteps := 10000000 }) (disch := omega) only [↓G_seq, ↓G_skip, ↓G_region, ↓G_block, ↓G_cond, ↓G_ops_nil, ↓G_op, Gv_some, ↓G_gop, Gw_ff, Gc_false, dec_f, killAll, ↓get_setS, evalOp, ev, evs, Ab.get, b_eql, b_neq, one, Option.map_some, Option.bind_some, Option.map_none, asB, callV, V.shift, V.shifts, List.append_nil, List.map_cons, List.map_nil, List.all_cons, List.all_nil, Bool.and_self, List.getElem?_cons_zero, List.getElem?_cons_succ, Nat.reduceEqDiff, reduceCtorEq, ↓reduceIte, Nat.succ_ne_self, decide_true, Bool.not_true, bne_self_eq_false, Bool.false_eq_true, Int.reduceAdd, pick3, V.cells, loadV, Ab.rowAt, rget, rset, V.scalar, mmV, Nat.reduceAdd, and_self, List.length_cons, List.length_nil, List.take_succ_cons, List.take_zero, List.drop_zero, Nat.le_refl, List.getD_cons_zero, Nat.zero_add, ti_bool, ti_int, st_int, hlen, hs, c11, hsh, h14, hlen', h18g, h19g, hgs, out_take_tup, Nat.zero_lt_succ]
  refine hloop _ _ (fun fr' L' g7 => ?_) _ _ (by omega) (by omega) ?_ ?_ ?_ ?_ ?_ ?_
  · clear hloop
    simp (config := { maxSteps := 10000000 }) (disch := omega) only [↓G_seq, ↓G_ret, ↓G_region, ↓Gx_blk, ↓G_ops_nil, ↓G_op, Gv_some, dec_t, killAll, ↓get_setS, evalOp, ev, b_lss, one, Option.map_some, Option.bind_some, finish, resVs, resV, outVs, ownsLast, tupOf, List.all_nil, List.getElem?_cons_zero, List.getElem?_cons_succ, ↓reduceIte, ov_bool, fn_some, g7]
  all_goals clear hloop
  all_goals try simp (config := { maxSteps := 10000000 }) (disch := omega) only [↓get_setS, List.getElem?_cons_zero, List.getElem?_cons_succ, Nat.reduceEqDiff, reduceCtorEq, ↓reduceIte, Nat.succ_ne_self, rget, Int.cast_ofNat_Int]
  all_goals rfl

end Go.Proofs.Ytgghbckhdchcaaa

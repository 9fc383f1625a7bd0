/-
  Pieces: the law SpannerDivides.
-/
import Derived.Test.YtfngllcjikmbkaaS14X
import Derived.Test.YtfngllcjikmbkaaAbRow
namespace Go.Proofs.Ytfngllcjikmbkaa
open Go Go.Ab
set_option linter.unusedVariables false
set_option linter.unnecessarySimpa false
set_option linter.unusedSimpArgs false
set_option maxRecDepth 100000
variable {H : List (List Row)}

theorem E5_get {ps : List Pc} {i : Nat} {x : Pc} (h : ps[i]? = some x) : (E5 ps)[i]? = some [.i x.k, .i x.f, .i x.l, .bool x.b, .bool x.e] := by simp [E5, h]

theorem loop10 {k : List KI} {X : V} {ps : List Pc} {L : List Row} {r : Option V} (hl : ps.length ≤ 1000000) (hX : SlV 5 X (E5 ps))
    (hx : ∀ fr', Gx tblP H [.tmp 4] 0 k fr' L = r) :
    ∀ (q i : Nat) (fr : List V), i + q = ps.length → Ab.get fr 5 = X → Ab.get fr 7 = X → Ab.get fr 9 = .i (i : Nat) →
      G tblP H [.tmp 4] (.code (.loop ( (.seq ( (.seq ( .region [] [ ⟨some 63, .mv (.t 9), none⟩, ⟨some 64, .mv (.t 5), none⟩, ⟨some 65, .len (.t 64), none⟩, ⟨some 66, .bin .lss (.t 63) (.t 65), none⟩]) ( (.cond (.t 66) ( .skip) ( .exit 0))))) ( (.seq ( (.block 1 ( (.seq ( .region [] [ ⟨some 69, .mv (.t 5), none⟩, ⟨some 70, .mv (.t 9), none⟩, ⟨some 71, .elemAddr 5 (.t 69) (.t 70), none⟩, ⟨some 72, .fieldAddr 0 (.t 71), none⟩, ⟨some 73, .load false 1 (.t 72), none⟩, ⟨some 74, .mv (.t 7), none⟩, ⟨some 75, .mv (.t 9), none⟩, ⟨some 76, .elemAddr 5 (.t 74) (.t 75), none⟩, ⟨some 77, .fieldAddr 0 (.t 76), none⟩, ⟨some 78, .load false 1 (.t 77), none⟩, ⟨some 79, .bin .neq (.t 73) (.t 78), none⟩, ⟨some 80, .mv (.t 79), none⟩, ⟨some 81, .mv (.t 5), some (80, false)⟩, ⟨some 82, .mv (.t 9), some (80, false)⟩, ⟨some 83, .elemAddr 5 (.t 81) (.t 82), some (80, false)⟩, ⟨some 84, .fieldAddr 1 (.t 83), some (80, false)⟩, ⟨some 85, .load false 1 (.t 84), some (80, false)⟩, ⟨some 86, .mv (.t 7), some (80, false)⟩, ⟨some 87, .mv (.t 9), some (80, false)⟩, ⟨some 88, .elemAddr 5 (.t 86) (.t 87), some (80, false)⟩, ⟨some 89, .fieldAddr 1 (.t 88), some (80, false)⟩, ⟨some 90, .load false 1 (.t 89), some (80, false)⟩, ⟨some 91, .bin .neq (.t 85) (.t 90), some (80, false)⟩, ⟨some 92, .pick (.t 80) (.c (.bool true)) (.t 91), none⟩, ⟨some 93, .mv (.t 92), none⟩, ⟨some 94, .mv (.t 5), some (93, false)⟩, ⟨some 95, .mv (.t 9), some (93, false)⟩, ⟨some 96, .elemAddr 5 (.t 94) (.t 95), some (93, false)⟩, ⟨some 97, .fieldAddr 2 (.t 96), some (93, false)⟩, ⟨some 98, .load false 1 (.t 97), some (93, false)⟩, ⟨some 99, .mv (.t 7), some (93, false)⟩, ⟨some 100, .mv (.t 9), some (93, false)⟩, ⟨some 101, .elemAddr 5 (.t 99) (.t 100), some (93, false)⟩, ⟨some 102, .fieldAddr 2 (.t 101), some (93, false)⟩, ⟨some 103, .load false 1 (.t 102), some (93, false)⟩, ⟨some 104, .bin .neq (.t 98) (.t 103), some (93, false)⟩, ⟨some 105, .pick (.t 93) (.c (.bool true)) (.t 104), none⟩, ⟨some 106, .mv (.t 105), none⟩, ⟨some 107, .mv (.t 5), some (106, false)⟩, ⟨some 108, .mv (.t 9), some (106, false)⟩, ⟨some 109, .elemAddr 5 (.t 107) (.t 108), some (106, false)⟩, ⟨some 110, .fieldAddr 3 (.t 109), some (106, false)⟩, ⟨some 111, .load false 1 (.t 110), some (106, false)⟩, ⟨some 112, .mv (.t 7), some (106, false)⟩, ⟨some 113, .mv (.t 9), some (106, false)⟩, ⟨some 114, .elemAddr 5 (.t 112) (.t 113), some (106, false)⟩, ⟨some 115, .fieldAddr 3 (.t 114), some (106, false)⟩, ⟨some 116, .load false 1 (.t 115), some (106, false)⟩, ⟨some 117, .eqb true (.t 111) (.t 116), some (106, false)⟩, ⟨some 118, .pick (.t 106) (.c (.bool true)) (.t 117), none⟩, ⟨some 119, .mv (.t 118), none⟩, ⟨some 120, .mv (.t 5), some (119, false)⟩, ⟨some 121, .mv (.t 9), some (119, false)⟩, ⟨some 122, .elemAddr 5 (.t 120) (.t 121), some (119, false)⟩, ⟨some 123, .fieldAddr 4 (.t 122), some (119, false)⟩, ⟨some 124, .load false 1 (.t 123), some (119, false)⟩, ⟨some 125, .mv (.t 7), some (119, false)⟩, ⟨some 126, .mv (.t 9), some (119, false)⟩, ⟨some 127, .elemAddr 5 (.t 125) (.t 126), some (119, false)⟩, ⟨some 128, .fieldAddr 4 (.t 127), some (119, false)⟩, ⟨some 129, .load false 1 (.t 128), some (119, false)⟩, ⟨some 130, .eqb true (.t 124) (.t 129), some (119, false)⟩, ⟨some 131, .pick (.t 119) (.c (.bool true)) (.t 130), none⟩]) ( (.cond (.t 131) ( (.seq ( .region [] [ ⟨some 4, .mv (.c (.bool false)), none⟩]) ( .ret))) ( .skip))))))) ( .region [] [ ⟨some 67, .mv (.t 9), none⟩, ⟨some 68, .bin .add (.t 67) (.c (.int .i64 1)), none⟩, ⟨some 9, .mv (.t 68), none⟩])))))) :: k) fr L = r := by
  intro q
  have hlX := hX.len
  rw [E5_len] at hlX
  induction q with
  | zero =>
    intro i fr hi g5 g7 g9
    obtain rfl : i = ps.length := by omega
    refine G_loop.trans ?_
    simp (config := { maxSteps := 10000000 }) (disch := omega) only [↓G_seq, ↓G_exit, ↓G_region, ↓G_cond, ↓Gx_code, ↓G_ops_nil, ↓G_op, Gv_some, Gc_false, dec_f, killAll, ↓get_setS, evalOp, ev, b_lss, one, Option.map_some, List.getElem?_cons_zero, List.getElem?_cons_succ, Nat.reduceEqDiff, ↓reduceIte, Nat.succ_ne_self, g5, g9, hlX]
    refine hx _
  | succ q ih =>
    intro i fr hi g5 g7 g9
    obtain ⟨x, hxi⟩ : ∃ x, ps[i]? = some x := ⟨_, List.getElem?_eq_getElem (by omega)⟩
    have hE := hX.el (E5_get hxi)
    have nx := fun fr' => ih (i + 1) fr' (by omega)
    have hil : i + 1 ≤ 1000000 := by omega
    have hlt : i < ps.length := by omega
    clear ih hx hX hi
    refine G_loop.trans ?_
    simp (config := { maxSteps := 10000000 }) (disch := omega) only [beq_self_eq_true, ↓G_seq, ↓G_skip, ↓G_blk, ↓G_region, ↓G_block, ↓G_cond, ↓G_ops_nil, ↓G_op, Gv_some, ↓G_gop, Gw_ff, Gc_true, Gc_false, dec_t, killAll, ↓get_setS, evalOp, ev, b_add, b_neq, b_lss, wrap_i64, one, Option.map_some, asB, List.getElem?_cons_zero, List.getElem?_cons_succ, Nat.reduceEqDiff, ↓reduceIte, Nat.succ_ne_self, decide_true, Bool.not_true, Bool.false_eq_true, pick3, addOff, loadV, Nat.zero_add, Nat.add_zero, g5, g7, g9, hlX, hE]
    refine nx _ ?_ ?_ ?_
    all_goals simp (config := { maxSteps := 10000000 }) (disch := omega) only [↓get_setS, List.getElem?_cons_zero, List.getElem?_cons_succ, Nat.reduceEqDiff, ↓reduceIte, g5, g7]
    congr 1

theorem arg_i64 {v : V} (h : fitSl [.int .i64] v) : ∃ zs, SlV 1 v (I1 zs) ∧ (∀ j, j < zs.length → -9223372036854775808 ≤ Z zs j ∧ Z zs j ≤ 9223372036854775807) ∧ zs.length ≤ 9223372036854775807 := by
  have key : ∀ els : List (List V), (∀ e ∈ els, fitCs [.int .i64] e) → ∃ zs, els = I1 zs ∧ ∀ x ∈ zs, -9223372036854775808 ≤ x ∧ x ≤ 9223372036854775807 := by
    intro els
    induction els with
    | nil => exact fun _ => ⟨[], rfl, by simp⟩
    | cons e es ih =>
      intro h
      obtain ⟨l, rfl, hl⟩ := ih (fun e he => h e (by simp [he]))
      have h0 := h e (by simp)
      obtain ⟨_, _, rfl, ⟨b0, rfl, w0⟩, rfl⟩ := h0
      simp [Lit.wf, IntKind.min, IntKind.max, IntKind.bits, IntKind.signed] at w0
      refine ⟨b0 :: l, rfl, fun x hx => ?_⟩
      rcases List.mem_cons.1 hx with rfl | hx
      · omega
      · exact hl x hx
  rcases h with rfl | ⟨els, rfl, hlen, hels⟩
  · exact ⟨[], .nil, fun j hj => by simp at hj, by simp⟩
  · obtain ⟨zs, rfl, hz⟩ := key els hels
    refine ⟨zs, .any, fun j hj => hz _ ?_, by rw [I1_len] at hlen; exact Nat.le_trans hlen (by decide)⟩
    unfold Z
    rw [List.getElem?_eq_getElem hj, Option.getD_some]
    exact List.getElem_mem hj

set_option maxHeartbeats 2000000 in
theorem l10 {v : V} {zs : List Int} (hv : SlV 1 v (I1 zs)) (hr : ∀ j, j < zs.length → -9223372036854775808 ≤ Z zs j ∧ Z zs j ≤ 9223372036854775807) (hlz : zs.length ≤ 9223372036854775807) (k m1 a1 s1 v1 m2 a2 s2 v2 : Int) : call tblP 10 [.agg [.i k, .i m1, .i a1, .i s1, .i v1, .i m2, .i a2, .i s2, .i v2], v] H = some (.bool true) := by
  refine (call_start (show tblP 10 = some a10 from rfl)).trans ?_
  have h11 := fun H => up (H := H) (c11 (H := H))
  have hlv := hv.len
  rw [I1_len] at hlv
  have hsh := hv.sh
  by_cases q1 : 20 < zs.length
  · clear hv hr
    unfold a10
    simp (config := { maxSteps := 10000000 }) (disch := omega) only [↓G_seq, ↓G_ret, ↓G_region, ↓G_cond, ↓G_ops_nil, ↓G_op, Gv_some, ↓G_gop, Gw_ff, Gw_ft, Gc_true, dec_t, killAll, ↓get_setS, evalOp, ev, evs, Ab.get, b_gtr, one, Option.map_some, Option.bind_some, asB, finish, resVs, resV, outVs, ownsLast, tupOf, callV, V.shifts, List.append_nil, List.all_cons, List.all_nil, Bool.and_self, List.getElem?_cons_zero, List.getElem?_cons_succ, Nat.reduceEqDiff, ↓reduceIte, Nat.succ_ne_self, Bool.not_true, bne_self_eq_false, Bool.false_eq_true, Int.reduceNeg, Int.reduceAdd, V.cells, rget, rset, V.scalar, Nat.reduceAdd, and_self, List.length_cons, List.length_nil, Nat.zero_add, ti_bool, ov_bool, fn_some, h11, hlv]
    done
  by_cases q2 : 1048576 < m2
  · clear hv hr
    unfold a10
    simp (config := { maxSteps := 10000000 }) (disch := omega) only [↓G_seq, ↓G_ret, ↓G_region, ↓G_cond, ↓G_ops_nil, ↓G_op, Gv_some, ↓G_gop, Gw_ff, Gw_ft, Gc_true, dec_t, dec_f, killAll, ↓get_setS, evalOp, ev, evs, Ab.get, b_gtr, one, Option.map_some, Option.bind_some, asB, finish, resVs, resV, outVs, ownsLast, tupOf, callV, V.shift, V.shifts, List.append_nil, List.all_cons, List.all_nil, Bool.and_self, List.getElem?_cons_zero, List.getElem?_cons_succ, Nat.reduceEqDiff, ↓reduceIte, Nat.succ_ne_self, Bool.not_true, bne_self_eq_false, Bool.false_eq_true, Int.reduceNeg, Int.reduceAdd, pick3, V.cells, addOff, loadV, Ab.rowAt, rget, rset, V.scalar, Nat.reduceAdd, and_self, List.length_cons, List.length_nil, List.getD_cons_zero, Nat.zero_add, Nat.add_zero, ti_bool, ov_bool, fn_some, h11, hlv, Nat.zero_lt_succ]
    done
  by_cases q3 : m1 < -1048576
  · clear hv hr
    unfold a10
    simp (config := { maxSteps := 10000000 }) (disch := omega) only [↓G_seq, ↓G_ret, ↓G_region, ↓G_cond, ↓G_ops_nil, ↓G_op, Gv_some, ↓G_gop, Gw_ff, Gw_ft, Gc_true, dec_t, dec_f, killAll, ↓get_setS, evalOp, ev, evs, Ab.get, b_lss, b_gtr, one, Option.map_some, Option.bind_some, asB, finish, resVs, resV, outVs, ownsLast, tupOf, callV, V.shift, V.shifts, List.append_nil, List.all_cons, List.all_nil, Bool.and_self, List.getElem?_cons_zero, List.getElem?_cons_succ, Nat.reduceEqDiff, ↓reduceIte, Nat.succ_ne_self, Bool.not_true, bne_self_eq_false, Bool.false_eq_true, Int.reduceNeg, Int.reduceAdd, pick3, V.cells, addOff, loadV, Ab.rowAt, rget, rset, V.scalar, Nat.reduceAdd, and_self, List.length_cons, List.length_nil, List.getD_cons_zero, Nat.zero_add, Nat.add_zero, ti_bool, ov_bool, fn_some, h11, hlv, Nat.zero_lt_succ]
    done
  obtain ⟨W, hW⟩ : ∃ W, IntKind.i64.wrap (m2 - m1) = W := ⟨_, rfl⟩
  by_cases q4 : 200 < W
  · clear hv hr
    unfold a10
    simp (config := { maxSteps := 10000000 }) (disch := omega) only [↓G_seq, ↓G_ret, ↓G_region, ↓G_cond, ↓G_ops_nil, ↓G_op, Gv_some, ↓G_gop, Gw_ff, Gc_true, dec_t, dec_f, killAll, ↓get_setS, evalOp, ev, evs, Ab.get, b_sub, b_lss, b_gtr, one, Option.map_some, Option.bind_some, asB, finish, resVs, resV, outVs, ownsLast, tupOf, callV, V.shift, V.shifts, List.append_nil, List.all_cons, List.all_nil, Bool.and_self, List.getElem?_cons_zero, List.getElem?_cons_succ, Nat.reduceEqDiff, ↓reduceIte, Nat.succ_ne_self, Bool.not_true, bne_self_eq_false, Bool.false_eq_true, Int.reduceNeg, Int.reduceAdd, pick3, V.cells, addOff, loadV, Ab.rowAt, rget, rset, V.scalar, Nat.reduceAdd, and_self, List.length_cons, List.length_nil, List.getD_cons_zero, Nat.zero_add, Nat.add_zero, ti_bool, ov_bool, fn_some, h11, hlv, hW, Nat.zero_lt_succ]
    done
  have h13 := fun H => up (H := H) (c13 (H := H) k m1 a1 s1 v1 m2 a2 s2 v2)
  have h31 := fun H => c31 (H := H) hv (by omega) k m1 a1 s1 v1 m2 a2 s2 v2
  have h32 := fun H => c32 (H := H) hv (by omega) hr k m1 a1 s1 v1 m2 a2 s2 v2
  have hpl := pcs_len (zs := zs) (m1 := m1) (m2 := m2) (k := zs.length)
  by_cases he : errD (properR k m1 a1 s1 v1 m2 a2 s2 v2) zs m1 = 0
  case neg =>
    simp only [if_neg he] at h31 h32
    generalize errD (properR k m1 a1 s1 v1 m2 a2 s2 v2) zs m1 = e at *
    clear hv hr hpl
    unfold a10
    simp (config := { maxSteps := 10000000 }) (disch := omega) only [↓G_seq, ↓G_skip, ↓G_region, ↓G_block, ↓G_cond, ↓G_ops_nil, ↓G_op, Gv_some, ↓G_gop, Gw_ff, Gc_false, dec_f, killAll, ↓get_setS, evalOp, ev, evs, Ab.get, b_sub, b_neq, b_lss, b_gtr, one, Option.map_some, Option.bind_some, asB, callV, V.shift, V.shifts, List.append_nil, List.map_cons, List.map_nil, List.all_cons, List.all_nil, Bool.and_self, List.getElem?_cons_zero, List.getElem?_cons_succ, Nat.reduceEqDiff, ↓reduceIte, Nat.succ_ne_self, decide_true, Bool.not_true, bne_self_eq_false, Bool.false_eq_true, Int.reduceNeg, Int.reduceAdd, pick3, V.cells, addOff, loadV, Ab.rowAt, rget, rset, V.scalar, Nat.reduceAdd, and_self, List.length_cons, List.length_nil, List.take_succ_cons, List.take_zero, List.drop_zero, Nat.le_refl, List.getD_cons_zero, Nat.zero_add, Nat.add_zero, len_nil, ti_bool, ti_agg, ti_tup_nilsl, st_int, st_nilsl, h11, h13, h31, h32, hlv, hsh, hW, Nat.zero_lt_succ]
    refine G_loop.trans ?_
    simp (config := { maxSteps := 10000000 }) (disch := omega) only [↓G_seq, ↓G_ret, ↓G_exit, ↓G_region, ↓G_cond, ↓Gx_blk, ↓Gx_code, ↓G_ops_nil, ↓G_op, Gv_some, Gc_false, killAll, ↓get_setS, evalOp, ev, b_lss, one, Option.map_some, Option.bind_some, finish, resVs, resV, outVs, ownsLast, tupOf, List.all_nil, List.getElem?_cons_zero, List.getElem?_cons_succ, Nat.reduceEqDiff, ↓reduceIte, Nat.succ_ne_self, decide_false, Int.reduceLT, Nat.reduceLT, len_nil, ov_bool, fn_some]
    done
  simp only [if_pos he] at h31 h32
  have hX := svE_ok 5 (E5 (pcs zs m1 m2 zs.length))
  have hlX := hX.len
  rw [E5_len] at hlX
  have hti := fun b L s vs => hX.ti_tup b L s vs
  have hot := fun L s vs => out_take_tup (L := L) (s := s) (sz := 5) (E5 (pcs zs m1 m2 zs.length)) vs
  have hO := fun k r L hx fr => loop10 (H := H) (k := k) (r := r) (L := L) (by omega) hX hx (pcs zs m1 m2 zs.length).length 0 fr (by omega)
  generalize outAcc 5 (E5 (pcs zs m1 m2 zs.length)) = Y at *
  generalize svE 5 (E5 (pcs zs m1 m2 zs.length)) = X at *
  generalize (pcs zs m1 m2 zs.length).length = N at *
  clear hv hr he hX
  unfold a10
  simp (config := { maxSteps := 10000000 }) (disch := omega) only [↓G_seq, ↓G_skip, ↓G_region, ↓G_block, ↓G_cond, ↓G_ops_nil, ↓G_op, Gv_some, ↓G_gop, Gw_ff, Gc_false, dec_f, killAll, ↓get_setS, evalOp, ev, evs, Ab.get, b_sub, b_neq, b_lss, b_gtr, one, Option.map_some, Option.bind_some, asB, callV, V.shift, V.shifts, List.append_nil, List.map_cons, List.map_nil, List.all_cons, List.all_nil, Bool.and_self, List.getElem?_cons_zero, List.getElem?_cons_succ, Nat.reduceEqDiff, ↓reduceIte, Nat.succ_ne_self, decide_true, Bool.not_true, bne_self_eq_false, Bool.false_eq_true, Int.reduceNeg, Int.reduceAdd, pick3, V.cells, addOff, loadV, Ab.rowAt, rget, rset, V.scalar, Nat.reduceAdd, and_self, List.length_cons, List.length_nil, List.take_succ_cons, List.take_zero, List.drop_zero, Nat.le_refl, List.getD_cons_zero, Nat.zero_add, Nat.add_zero, ti_bool, ti_agg, st_int, h11, h13, h31, h32, hlv, hsh, hW, hti, hot, hlX, Nat.zero_lt_succ]
  refine hO _ _ _ (fun fr' => ?_) _ ?_ ?_ ?_
  all_goals simp (config := { maxSteps := 10000000 }) (disch := omega) only [↓G_seq, ↓G_ret, ↓G_region, ↓Gx_blk, ↓G_ops_nil, ↓G_op, Gv_some, killAll, ↓get_setS, evalOp, ev, Option.map_some, Option.bind_some, finish, resVs, resV, outVs, ownsLast, tupOf, List.all_nil, List.getElem?_cons_zero, List.getElem?_cons_succ, Nat.reduceEqDiff, ↓reduceIte, Nat.succ_ne_self, Int.cast_ofNat_Int, ov_bool, fn_some]

end Go.Proofs.Ytfngllcjikmbkaa

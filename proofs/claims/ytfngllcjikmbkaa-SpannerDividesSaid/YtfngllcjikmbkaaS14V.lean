/-
  Pieces: Divide of the reference.
-/
import Derived.Test.YtfngllcjikmbkaaS14U
namespace Go.Proofs.Ytfngllcjikmbkaa
open Go Go.Ab
set_option linter.unusedVariables false
set_option linter.unnecessarySimpa false
set_option linter.unusedSimpArgs false
set_option maxRecDepth 100000
variable {H : List (List Row)}

theorem loop32 {k : List KI} {v p : V} {zs : List Int} {L : List Row} {r : Option V} (hl : zs.length ≤ 1000000) (hv : SlV 1 v (I1 zs))
    (hx : ∀ fr', Ab.get fr' 1 = v → Ab.get fr' 2 = p → Gx tblP H [.tmp 4, .tmp 5] 0 k fr' L = r) :
    ∀ (q i : Nat) (fr : List V), i + q = zs.length → 1 ≤ i → upB zs q i = true → Ab.get fr 1 = v → Ab.get fr 2 = p → Ab.get fr 7 = .i (i : Nat) →
      G tblP H [.tmp 4, .tmp 5] (.code (.loop ( (.seq ( (.seq ( .region [] [ ⟨some 20, .mv (.t 7), none⟩, ⟨some 21, .mv (.t 1), none⟩, ⟨some 22, .len (.t 21), none⟩, ⟨some 23, .bin .lss (.t 20) (.t 22), none⟩]) ( (.cond (.t 23) ( .skip) ( .exit 0))))) ( (.seq ( (.block 1 ( (.seq ( .region [] [ ⟨some 26, .mv (.t 1), none⟩, ⟨some 27, .mv (.t 7), none⟩, ⟨some 28, .elemAddr 1 (.t 26) (.t 27), none⟩, ⟨some 29, .load false 1 (.t 28), none⟩, ⟨some 30, .mv (.t 1), none⟩, ⟨some 31, .mv (.t 7), none⟩, ⟨some 32, .bin .sub (.t 31) (.c (.int .i64 1)), none⟩, ⟨some 33, .elemAddr 1 (.t 30) (.t 32), none⟩, ⟨some 34, .load false 1 (.t 33), none⟩, ⟨some 35, .bin .leq (.t 29) (.t 34), none⟩]) ( (.cond (.t 35) ( (.seq ( .region [] [ ⟨some 4, .mv (.c .nilsl), none⟩, ⟨some 5, .mv (.c (.int .i64 25)), none⟩]) ( .ret))) ( .skip))))))) ( .region [] [ ⟨some 24, .mv (.t 7), none⟩, ⟨some 25, .bin .add (.t 24) (.c (.int .i64 1)), none⟩, ⟨some 7, .mv (.t 25), none⟩])))))) :: k) fr L = r := by
  intro q
  have hlv := hv.len
  rw [I1_len] at hlv
  induction q with
  | zero =>
    intro i fr hi h1 hu g1 g2 g7
    obtain rfl : i = zs.length := by omega
    refine G_loop.trans ?_
    simp (config := { maxSteps := 10000000 }) (disch := omega) only [↓G_seq, ↓G_exit, ↓G_region, ↓G_cond, ↓Gx_code, ↓G_ops_nil, ↓G_op, Gv_some, Gc_false, dec_f, killAll, ↓get_setS, evalOp, ev, b_lss, one, Option.map_some, List.getElem?_cons_zero, List.getElem?_cons_succ, Nat.reduceEqDiff, ↓reduceIte, Nat.succ_ne_self, g1, g7, hlv]
    refine hx _ ?_ ?_
    all_goals simp (config := { maxSteps := 10000000 }) (disch := omega) only [↓get_setS, List.getElem?_cons_zero, List.getElem?_cons_succ, Nat.reduceEqDiff, ↓reduceIte, g1, g2]
  | succ q ih =>
    intro i fr hi h1 hu g1 g2 g7
    have hE := hv.el (I1_get (zs := zs) (i := i) (by omega))
    have hE2 := hv.el (I1_get (zs := zs) (i := i - 1) (by omega))
    rw [show ((i - 1 : Nat) : Int) = (i : Nat) - 1 by omega] at hE2
    unfold upB at hu
    simp only [Bool.and_eq_true, decide_eq_true_eq] at hu
    obtain ⟨c, hu⟩ := hu
    have nx := fun fr' => ih (i + 1) fr' (by omega) (by omega) hu
    have hil : i + 1 ≤ 1000000 := by omega
    have hlt : i < zs.length := by omega
    clear ih hx hv hi hu
    refine G_loop.trans ?_
    simp (config := { maxSteps := 10000000 }) (disch := omega) only [↓G_seq, ↓G_skip, ↓G_blk, ↓G_region, ↓G_block, ↓G_cond, ↓G_ops_nil, ↓G_op, Gv_some, Gc_true, Gc_false, dec_t, dec_f, killAll, ↓get_setS, evalOp, ev, b_add, b_sub, b_lss, b_leq, wrap_i64, one, Option.map_some, List.getElem?_cons_zero, List.getElem?_cons_succ, Nat.reduceEqDiff, ↓reduceIte, Nat.succ_ne_self, Bool.false_eq_true, pick3, loadV, g1, g7, hlv, hE, hE2]
    refine nx _ ?_ ?_ ?_
    all_goals simp (config := { maxSteps := 10000000 }) (disch := omega) only [↓get_setS, List.getElem?_cons_zero, List.getElem?_cons_succ, Nat.reduceEqDiff, ↓reduceIte, g1, g2]
    congr 1

theorem loop32_bad {k : List KI} {v p : V} {zs : List Int} {L : List Row} (hl : zs.length ≤ 1000000) (hv : SlV 1 v (I1 zs)) :
    ∀ (q i : Nat) (fr : List V), i + q = zs.length → 1 ≤ i → upB zs q i = false → Ab.get fr 1 = v → Ab.get fr 7 = .i (i : Nat) →
      G tblP H [.tmp 4, .tmp 5] (.code (.loop ( (.seq ( (.seq ( .region [] [ ⟨some 20, .mv (.t 7), none⟩, ⟨some 21, .mv (.t 1), none⟩, ⟨some 22, .len (.t 21), none⟩, ⟨some 23, .bin .lss (.t 20) (.t 22), none⟩]) ( (.cond (.t 23) ( .skip) ( .exit 0))))) ( (.seq ( (.block 1 ( (.seq ( .region [] [ ⟨some 26, .mv (.t 1), none⟩, ⟨some 27, .mv (.t 7), none⟩, ⟨some 28, .elemAddr 1 (.t 26) (.t 27), none⟩, ⟨some 29, .load false 1 (.t 28), none⟩, ⟨some 30, .mv (.t 1), none⟩, ⟨some 31, .mv (.t 7), none⟩, ⟨some 32, .bin .sub (.t 31) (.c (.int .i64 1)), none⟩, ⟨some 33, .elemAddr 1 (.t 30) (.t 32), none⟩, ⟨some 34, .load false 1 (.t 33), none⟩, ⟨some 35, .bin .leq (.t 29) (.t 34), none⟩]) ( (.cond (.t 35) ( (.seq ( .region [] [ ⟨some 4, .mv (.c .nilsl), none⟩, ⟨some 5, .mv (.c (.int .i64 25)), none⟩]) ( .ret))) ( .skip))))))) ( .region [] [ ⟨some 24, .mv (.t 7), none⟩, ⟨some 25, .bin .add (.t 24) (.c (.int .i64 1)), none⟩, ⟨some 7, .mv (.t 25), none⟩])))))) :: k) fr L = some (.tup [.nilsl, .i 25]) := by
  intro q
  have hlv := hv.len
  rw [I1_len] at hlv
  induction q with
  | zero =>
    intro i fr hi h1 hu g1 g7
    cases hu
  | succ q ih =>
    intro i fr hi h1 hu g1 g7
    have hE := hv.el (I1_get (zs := zs) (i := i) (by omega))
    have hE2 := hv.el (I1_get (zs := zs) (i := i - 1) (by omega))
    rw [show ((i - 1 : Nat) : Int) = (i : Nat) - 1 by omega] at hE2
    have hil : i + 1 ≤ 1000000 := by omega
    have hlt : i < zs.length := by omega
    unfold upB at hu
    refine G_loop.trans ?_
    by_cases c : Z zs (i - 1) < Z zs i
    · rw [decide_eq_true c, Bool.true_and] at hu
      have nx := fun fr' => ih (i + 1) fr' (by omega) (by omega) hu
      clear ih hv hi hu
      simp (config := { maxSteps := 10000000 }) (disch := omega) only [↓G_seq, ↓G_skip, ↓G_blk, ↓G_region, ↓G_block, ↓G_cond, ↓G_ops_nil, ↓G_op, Gv_some, Gc_true, Gc_false, dec_t, dec_f, killAll, ↓get_setS, evalOp, ev, b_add, b_sub, b_lss, b_leq, wrap_i64, one, Option.map_some, List.getElem?_cons_zero, List.getElem?_cons_succ, Nat.reduceEqDiff, ↓reduceIte, Nat.succ_ne_self, Bool.false_eq_true, pick3, loadV, g1, g7, hlv, hE, hE2]
      refine nx _ ?_ ?_
      all_goals simp (config := { maxSteps := 10000000 }) (disch := omega) only [↓get_setS, List.getElem?_cons_zero, List.getElem?_cons_succ, Nat.reduceEqDiff, ↓reduceIte, g1]
      congr 1
    · clear ih hv hi hu
      simp (config := { maxSteps := 10000000 }) (disch := omega) only [↓G_seq, ↓G_skip, ↓G_ret, ↓G_region, ↓G_block, ↓G_cond, ↓G_ops_nil, ↓G_op, Gv_some, Gc_true, dec_t, killAll, ↓get_setS, evalOp, ev, b_sub, b_lss, b_leq, wrap_i64, one, Option.map_some, Option.bind_some, finish, resVs, resV, outVs, ownsLast, tupOf, List.all_cons, List.all_nil, Bool.and_self, List.getElem?_cons_zero, List.getElem?_cons_succ, Nat.reduceEqDiff, ↓reduceIte, Nat.succ_ne_self, Bool.false_eq_true, pick3, loadV, and_self, ov_int, ov_nilsl, fn_some, g1, g7, hlv, hE, hE2]

theorem E5_len (X : List Pc) : (E5 X).length = X.length := by simp [E5]
theorem E5_last (Y : List Pc) (x : Pc) : (E5 (Y ++ [x]))[Y.length]? = some [.i x.k, .i x.f, .i x.l, .bool x.b, .bool x.e] := by simp [E5]
theorem E5_set (Y : List Pc) (x y : Pc) : (E5 (Y ++ [x])).set Y.length [.i y.k, .i y.f, .i y.l, .bool y.b, .bool y.e] = E5 (Y ++ [y]) := by
  simp [E5]
theorem E5_app (Y : List Pc) (x : Pc) : E5 Y ++ [[.i x.k, .i x.f, .i x.l, .bool x.b, .bool x.e]] = E5 (Y ++ [x]) := by simp [E5]
theorem E5_pure (Y : List Pc) : (E5 Y).all (fun e => e.all V.pure) = true := by simp [E5, V.pure]
theorem E5_ne (Y : List Pc) (x : Pc) : E5 (Y ++ [x]) ≠ [] := by simp [E5]

theorem at_next {zs : List Int} {m : Int} {k : Nat} (ha : Asc zs) (h : At zs (m - 1) k) : At zs m k ∨ (At zs m (k + 1) ∧ Z zs (k + 1) = m) := by
  obtain ⟨h1, h2, h3⟩ := h
  by_cases c : k + 1 < zs.length ∧ Z zs (k + 1) ≤ m
  · have h4 := h3 (k + 1) (by omega) c.1
    have h5 : Z zs (k + 1) = m := by omega
    refine .inr ⟨⟨c.1, by omega, fun j hj hjl => ?_⟩, h5⟩
    have := ha (k + 1) j (by omega) hjl
    omega
  · refine .inl ⟨h1, by omega, fun j hj hjl => ?_⟩
    have hk : k + 1 < zs.length := by omega
    have h6 : m < Z zs (k + 1) := by
      rcases Int.lt_or_le m (Z zs (k + 1)) with h | h
      · exact h
      · exact absurd ⟨hk, h⟩ c
    by_cases e : j = k + 1
    · subst e; exact h6
    · have := ha (k + 1) j (by omega) hjl
      omega

/-- The system that is sought is reached. -/
theorem loop32i {k : List KI} {v p o : V} {zs : List Int} {L : List Row} {m : Int} {K : Nat} {r : Option V} (hl : zs.length ≤ 1000000) (hv : SlV 1 v (I1 zs)) (ha : Asc zs) (hK : At zs m K)
    (hx : ∀ fr', Ab.get fr' 1 = v → Ab.get fr' 2 = p → Ab.get fr' 8 = o → Ab.get fr' 9 = .i (K : Nat) → Ab.get fr' 10 = .i m → Gx tblP H [.tmp 4, .tmp 5] 4 k fr' L = r) :
    ∀ (q i : Nat) (fr : List V), i + q = K → Ab.get fr 1 = v → Ab.get fr 2 = p → Ab.get fr 8 = o → Ab.get fr 9 = .i (i : Nat) → Ab.get fr 10 = .i m →
      G tblP H [.tmp 4, .tmp 5] (.code (.loop ( (.seq ( (.seq ( .region [] [ ⟨some 53, .mv (.t 9), none⟩, ⟨some 54, .bin .add (.t 53) (.c (.int .i64 1)), none⟩, ⟨some 55, .mv (.t 1), none⟩, ⟨some 56, .len (.t 55), none⟩, ⟨some 57, .bin .lss (.t 54) (.t 56), none⟩, ⟨some 58, .mv (.t 57), none⟩, ⟨some 59, .mv (.t 1), some (58, true)⟩, ⟨some 60, .mv (.t 9), some (58, true)⟩, ⟨some 61, .bin .add (.t 60) (.c (.int .i64 1)), some (58, true)⟩, ⟨some 62, .elemAddr 1 (.t 59) (.t 61), some (58, true)⟩, ⟨some 63, .load false 1 (.t 62), some (58, true)⟩, ⟨some 64, .mv (.t 10), some (58, true)⟩, ⟨some 65, .bin .leq (.t 63) (.t 64), some (58, true)⟩, ⟨some 66, .pick (.t 58) (.t 65) (.c (.bool false)), none⟩]) ( (.cond (.t 66) ( .skip) ( .exit 4))))) ( (.block 5 ( .region [] [ ⟨some 67, .mv (.t 9), none⟩, ⟨some 68, .bin .add (.t 67) (.c (.int .i64 1)), none⟩, ⟨some 9, .mv (.t 68), none⟩])))))) :: k) fr L = r := by
  intro q
  have hlv := hv.len
  rw [I1_len] at hlv
  induction q with
  | zero =>
    intro i fr hi g1 g2 g8 g9 g10
    obtain rfl : i = K := by omega
    refine G_loop.trans ?_
    by_cases c : i + 1 < zs.length
    · have hE := hv.el (I1_get (zs := zs) (i := i + 1) c)
      rw [show ((i + 1 : Nat) : Int) = (i : Nat) + 1 by omega] at hE
      have h1 := hK.2.2 (i + 1) (by omega) c
      have hil : i + 1 ≤ 1000000 := by omega
      clear hv ha hK
      simp (config := { maxSteps := 10000000 }) (disch := omega) only [↓G_seq, ↓G_exit, ↓G_region, ↓G_cond, ↓Gx_code, ↓G_ops_nil, ↓G_op, Gv_some, ↓G_gop, Gw_tt, Gc_false, dec_t, dec_f, killAll, ↓get_setS, evalOp, ev, b_add, b_lss, b_leq, wrap_i64, one, Option.map_some, asB, List.getElem?_cons_zero, List.getElem?_cons_succ, Nat.reduceEqDiff, ↓reduceIte, Nat.succ_ne_self, Bool.false_eq_true, pick3, loadV, g1, g9, g10, hlv, hE]
      refine hx _ ?_ ?_ ?_ ?_ ?_
      all_goals simp (config := { maxSteps := 10000000 }) (disch := omega) only [↓get_setS, List.getElem?_cons_zero, List.getElem?_cons_succ, Nat.reduceEqDiff, ↓reduceIte, g1, g2, g8, g9, g10]
    · have hil : i + 1 ≤ 1000000 := by have := hK.1; omega
      clear hv ha hK
      simp (config := { maxSteps := 10000000 }) (disch := omega) only [↓G_seq, ↓G_exit, ↓G_region, ↓G_cond, ↓Gx_code, ↓G_ops_nil, ↓G_op, Gv_some, ↓G_gop, Gw_tf, Gc_false, dec_f, killAll, ↓get_setS, evalOp, ev, b_add, b_lss, wrap_i64, one, Option.map_some, asB, List.getElem?_cons_zero, List.getElem?_cons_succ, Nat.reduceEqDiff, ↓reduceIte, Nat.succ_ne_self, Bool.false_eq_true, g1, g9, hlv]
      refine hx _ ?_ ?_ ?_ ?_ ?_
      all_goals simp (config := { maxSteps := 10000000 }) (disch := omega) only [↓get_setS, List.getElem?_cons_zero, List.getElem?_cons_succ, Nat.reduceEqDiff, ↓reduceIte, g1, g2, g8, g9, g10]
  | succ q ih =>
    intro i fr hi g1 g2 g8 g9 g10
    have hc : i + 1 < zs.length := by have := hK.1; omega
    have hE := hv.el (I1_get (zs := zs) (i := i + 1) hc)
    rw [show ((i + 1 : Nat) : Int) = (i : Nat) + 1 by omega] at hE
    have h1 : Z zs (i + 1) ≤ m := by
      have h2 := hK.2.1
      by_cases e : i + 1 = K
      · rw [e]; exact h2
      · have := ha (i + 1) K (by omega) hK.1
        omega
    have nx := fun fr' => ih (i + 1) fr' (by omega)
    have hil : i + 1 ≤ 1000000 := by omega
    clear ih hx hv ha hK hi
    refine G_loop.trans ?_
    simp (config := { maxSteps := 10000000 }) (disch := omega) only [↓G_seq, ↓G_skip, ↓G_blk, ↓G_region, ↓G_block, ↓G_cond, ↓G_ops_nil, ↓G_op, Gv_some, ↓G_gop, Gw_tt, Gc_true, dec_t, killAll, ↓get_setS, evalOp, ev, b_add, b_lss, b_leq, wrap_i64, one, Option.map_some, asB, List.getElem?_cons_zero, List.getElem?_cons_succ, Nat.reduceEqDiff, ↓reduceIte, Nat.succ_ne_self, Bool.false_eq_true, pick3, loadV, g1, g9, g10, hlv, hE]
    refine nx _ ?_ ?_ ?_ ?_ ?_
    all_goals simp (config := { maxSteps := 10000000 }) (disch := omega) only [↓get_setS, List.getElem?_cons_zero, List.getElem?_cons_succ, Nat.reduceEqDiff, ↓reduceIte, Nat.succ_ne_self, g1, g2, g8, g10]
    congr 1

end Go.Proofs.Ytfngllcjikmbkaa

/-
  Pieces: Divide of the reference, whole.
-/
import Derived.Test.YtfngllcjikmbkaaS14W
namespace Go.Proofs.Ytfngllcjikmbkaa
open Go Go.Ab
set_option linter.unusedVariables false
set_option linter.unnecessarySimpa false
set_option linter.unusedSimpArgs false
set_option maxRecDepth 100000
variable {H : List (List Row)}

theorem at_ex {zs : List Int} {m : Int} (ha : Asc zs) (h0 : 0 < zs.length) (h1 : Z zs 0 ≤ m) : ∃ K, At zs m K := by
  have : ∀ n, n + 1 ≤ zs.length → (∃ K, K ≤ n ∧ Z zs K ≤ m ∧ ∀ j, K < j → j ≤ n → m < Z zs j) := by
    intro n
    induction n with
    | zero => intro _; exact ⟨0, Nat.le_refl _, h1, fun j h h' => by omega⟩
    | succ n ih =>
      intro hn
      by_cases c : Z zs (n + 1) ≤ m
      · exact ⟨n + 1, Nat.le_refl _, c, fun j h h' => by omega⟩
      · obtain ⟨K, h2, h3, h4⟩ := ih (by omega)
        refine ⟨K, by omega, h3, fun j h h' => ?_⟩
        by_cases e : j = n + 1
        · subst e; omega
        · exact h4 j h (by omega)
  obtain ⟨K, h2, h3, h4⟩ := this (zs.length - 1) (by omega)
  exact ⟨K, by omega, h3, fun j h h' => h4 j h (by omega)⟩

theorem at_le {zs : List Int} {m m' : Int} {K K' : Nat} (ha : Asc zs) (h : At zs m K) (h' : At zs m' K') (hm : m ≤ m') : K ≤ K' := by
  rcases Nat.lt_or_ge K' K with c | c
  · have h1 := h'.2.2 K c h.1
    have := h.2.1
    omega
  · exact c

theorem proper_in {k m1 a1 s1 v1 m2 a2 s2 v2 : Int} (h : properR k m1 a1 s1 v1 m2 a2 s2 v2 = 0) : 0 ≤ m1 ∧ m1 ≤ m2 ∧ m2 ≤ 1023 := by
  unfold properR at h
  split at h
  · omega
  · split at h
    · omega
    · rename_i h2
      split at h
      · omega
      · split at h
        · omega
        · rename_i h4
          rw [cmpP_eq] at h4
          have h5 : permR m1 a1 s1 v1 := Classical.not_not.1 (fun z => h2 (.inl z))
          have h6 : permR m2 a2 s2 v2 := Classical.not_not.1 (fun z => h2 (.inr z))
          unfold permR at h5 h6
          refine ⟨h5.1.1, ?_, h6.1.2⟩
          split at h4
          · omega
          · split at h4
            · omega
            · omega

/-- From the first measure on. -/
theorem first32 {k : List KI} {v : V} {zs : List Int} {kd m1 a1 s1 v1 m2 a2 s2 v2 : Int} {K : Nat} {r : Option V} (hl : zs.length ≤ 1000000) (hv : SlV 1 v (I1 zs)) (ha : Asc zs) (hK : At zs m1 K) (hm1 : 0 ≤ m1) (hmm : m1 ≤ m2) (hm2 : m2 ≤ 1023)
    (hx : ∀ fr' L' ver d, At zs m2 (K + d) → Ab.get fr' 8 = .ref 0 2 ver 5 0 (d + 1) → rget L' 2 = ⟨ver, 5, E5 (clP zs m1 K d ++ [opP zs m1 K d m2 true])⟩ → 0 < ver → Gx tblP H [.tmp 4, .tmp 5] 2 k fr' L' = r)
    (fr : List V) (g1 : Ab.get fr 1 = v) (g2 : Ab.get fr 2 = .ptr 0 1 1 0 0) (g8 : Ab.get fr 8 = .nilsl) (g9 : Ab.get fr 9 = .i 0) (g10 : Ab.get fr 10 = .i m1) :
      G tblP H [.tmp 4, .tmp 5] (.code (.loop ( (.seq ( (.seq ( .region [] [ ⟨some 46, .mv (.t 10), none⟩, ⟨some 47, .fieldAddr 5 (.t 2), none⟩, ⟨some 48, .fieldAddr 0 (.t 47), none⟩, ⟨some 49, .load false 1 (.t 48), none⟩, ⟨some 50, .bin .leq (.t 46) (.t 49), none⟩]) ( (.cond (.t 50) ( .skip) ( .exit 2))))) ( (.seq ( (.block 3 ( (.seq ( (.block 4 ( (.loop ( (.seq ( (.seq ( .region [] [ ⟨some 53, .mv (.t 9), none⟩, ⟨some 54, .bin .add (.t 53) (.c (.int .i64 1)), none⟩, ⟨some 55, .mv (.t 1), none⟩, ⟨some 56, .len (.t 55), none⟩, ⟨some 57, .bin .lss (.t 54) (.t 56), none⟩, ⟨some 58, .mv (.t 57), none⟩, ⟨some 59, .mv (.t 1), some (58, true)⟩, ⟨some 60, .mv (.t 9), some (58, true)⟩, ⟨some 61, .bin .add (.t 60) (.c (.int .i64 1)), some (58, true)⟩, ⟨some 62, .elemAddr 1 (.t 59) (.t 61), some (58, true)⟩, ⟨some 63, .load false 1 (.t 62), some (58, true)⟩, ⟨some 64, .mv (.t 10), some (58, true)⟩, ⟨some 65, .bin .leq (.t 63) (.t 64), some (58, true)⟩, ⟨some 66, .pick (.t 58) (.t 65) (.c (.bool false)), none⟩]) ( (.cond (.t 66) ( .skip) ( .exit 4))))) ( (.block 5 ( .region [] [ ⟨some 67, .mv (.t 9), none⟩, ⟨some 68, .bin .add (.t 67) (.c (.int .i64 1)), none⟩, ⟨some 9, .mv (.t 68), none⟩]))))))))) ( (.seq ( (.seq ( .region [] [ ⟨some 69, .mv (.t 8), none⟩, ⟨some 70, .len (.t 69), none⟩, ⟨some 11, .mv (.t 70), none⟩]) ( (.seq ( .region [] [ ⟨some 71, .mv (.t 11), none⟩, ⟨some 72, .bin .gtr (.t 71) (.c (.int .i64 0)), none⟩, ⟨some 73, .mv (.t 72), none⟩, ⟨some 74, .mv (.t 8), some (73, true)⟩, ⟨some 75, .mv (.t 11), some (73, true)⟩, ⟨some 76, .bin .sub (.t 75) (.c (.int .i64 1)), some (73, true)⟩, ⟨some 77, .elemAddr 5 (.t 74) (.t 76), some (73, true)⟩, ⟨some 78, .fieldAddr 0 (.t 77), some (73, true)⟩, ⟨some 79, .load false 1 (.t 78), some (73, true)⟩, ⟨some 80, .mv (.t 9), some (73, true)⟩, ⟨some 81, .bin .eql (.t 79) (.t 80), some (73, true)⟩, ⟨some 82, .pick (.t 73) (.t 81) (.c (.bool false)), none⟩]) ( (.cond (.t 82) ( .region [] [ ⟨some 83, .mv (.t 8), none⟩, ⟨some 84, .mv (.t 11), none⟩, ⟨some 85, .bin .sub (.t 84) (.c (.int .i64 1)), none⟩, ⟨some 86, .mv (.t 10), none⟩, ⟨some 87, .elemAddr 5 (.t 83) (.t 85), none⟩, ⟨some 88, .fieldAddr 2 (.t 87), none⟩, ⟨none, .store 1 (.t 88) (.t 86), none⟩]) ( .region [] [ ⟨some 89, .mv (.t 8), none⟩, ⟨some 90, .mv (.t 9), none⟩, ⟨some 91, .mv (.t 10), none⟩, ⟨some 92, .mv (.t 10), none⟩, ⟨some 93, .mv (.t 10), none⟩, ⟨some 94, .fieldAddr 1 (.t 2), none⟩, ⟨some 95, .fieldAddr 0 (.t 94), none⟩, ⟨some 96, .load false 1 (.t 95), none⟩, ⟨some 97, .bin .eql (.t 93) (.t 96), none⟩, ⟨some 98, .build [(.int .i64 0), (.int .i64 0), (.int .i64 0), (.bool false), (.bool false)] [(0, 1, (.t 90)), (1, 1, (.t 91)), (2, 1, (.t 92)), (3, 1, (.t 97))], none⟩, ⟨some 99, .lit 5 [(.int .i64 0), (.int .i64 0), (.int .i64 0), (.bool false), (.bool false)] 1 [(0, 5, (.t 98))], none⟩, ⟨some 100, .app 2 5 32 (.t 89) (.t 99), none⟩, ⟨some 8, .mv (.t 100), none⟩]))))))) ( (.seq ( .region [] [ ⟨some 101, .mv (.t 10), none⟩, ⟨some 102, .fieldAddr 5 (.t 2), none⟩, ⟨some 103, .fieldAddr 0 (.t 102), none⟩, ⟨some 104, .load false 1 (.t 103), none⟩, ⟨some 105, .bin .eql (.t 101) (.t 104), none⟩]) ( (.cond (.t 105) ( .region [] [ ⟨some 106, .mv (.t 8), none⟩, ⟨some 107, .mv (.t 8), none⟩, ⟨some 108, .len (.t 107), none⟩, ⟨some 109, .bin .sub (.t 108) (.c (.int .i64 1)), none⟩, ⟨some 110, .elemAddr 5 (.t 106) (.t 109), none⟩, ⟨some 111, .fieldAddr 4 (.t 110), none⟩, ⟨none, .store 1 (.t 111) (.c (.bool true)), none⟩]) ( .skip))))))))))) ( .region [] [ ⟨some 51, .mv (.t 10), none⟩, ⟨some 52, .bin .add (.t 51) (.c (.int .i64 1)), none⟩, ⟨some 10, .mv (.t 52), none⟩])))))) :: k) fr [⟨0, 0, []⟩, ⟨1, 9, [[.i kd, .i m1, .i a1, .i s1, .i v1, .i m2, .i a2, .i s2, .i v2]]⟩] = r := by
  have hI := fun k r L hx fr => loop32i (H := H) (k := k) (p := .ptr 0 1 1 0 0) (o := .nilsl) (L := L) (m := m1) (K := K) (r := r) hl hv ha hK hx K 0 fr (by omega)
  have hO := fun k r hx fr L => loop32o (H := H) (k := k) (r := r) (kd := kd) (a1 := a1) (s1 := s1) (v1 := v1) (a2 := a2) (s2 := s2) (v2 := v2) hl hv ha hK hm1 hm2 hx (m2 - m1).toNat (m1 + 1) 0 1 fr L (by omega) (by omega) (by rw [show m1 + 1 - 1 = m1 by omega]; exact hK) (by omega)
  have happ := fun H => (acc_app (L := [⟨0, 0, []⟩, ⟨1, 9, [[.i kd, .i m1, .i a1, .i s1, .i v1, .i m2, .i a2, .i s2, .i v2]]⟩]) (bytes := 32) (H := H) (Acc.nil (site := 2) (sz := 5)) (y := .sl .full 5 [[.i (K : Nat), .i m1, .i m1, .bool true, .bool false]]) (new := [[.i (K : Nat), .i m1, .i m1, .bool true, .bool false]]) rfl (by simp) (by decide) (by simp) rfl).1
  have hlen : (([] : List (List V)).length + [[V.i (K : Nat), .i m1, .i m1, .bool true, .bool false]].length) = 1 := rfl
  rw [hlen] at happ
  have hrow : (rget [(⟨0, 0, []⟩ : Row), ⟨1, 9, [[.i kd, .i m1, .i a1, .i s1, .i v1, .i m2, .i a2, .i s2, .i v2]]⟩] 2).ver = 0 := rfl
  rw [hrow, List.nil_append] at happ
  have hop : ∀ e, E5 (clP zs m1 K 0 ++ [opP zs m1 K 0 m1 e]) = [[.i (K : Nat), .i m1, .i m1, .bool true, .bool e]] := fun e => rfl
  have hO := fun k r hx fr L => hO k r hx fr L
  simp only [show m1 + 1 - 1 = m1 by omega, hop, Nat.add_zero, Nat.zero_add] at hO
  have hkl : (K : Int) ≤ 1000000 := by have := hK.1; omega
  clear hv ha hK hop
  by_cases hme : m1 = m2
  · rw [decide_eq_true hme] at hO
    refine G_loop.trans ?_
    simp (config := { maxSteps := 10000000 }) (disch := omega) only [↓G_seq, ↓G_skip, ↓G_region, ↓G_block, ↓G_cond, ↓G_ops_nil, ↓G_op, Gv_some, Gc_true, dec_t, killAll, ↓get_setS, evalOp, ev, b_leq, one, Option.map_some, Option.bind_some, V.shift, Bool.and_self, List.getElem?_cons_zero, List.getElem?_cons_succ, Nat.reduceEqDiff, ↓reduceIte, Nat.succ_ne_self, Bool.false_eq_true, pick3, addOff, loadV, Ab.rowAt, rget, and_self, List.getD_cons_zero, Nat.zero_add, Nat.add_zero, g2, g10, Nat.zero_lt_succ]
    refine hI _ _ _ (fun fr' e1 e2 e8 e9 e10 => ?_) _ ?_ ?_ ?_ ?_ ?_
    · clear hI
      simp (config := { maxSteps := 10000000 }) (disch := omega) only [↓G_seq, ↓G_blk, ↓G_region, ↓G_cond, ↓Gx_blk, ↓G_ops_nil, ↓G_op, Gv_some, ↓G_gop, Gw_tf, Gc_true, Gc_false, dec_t, killAll, ↓get_setS, ↓get_setN, evalOp, ev, b_add, b_sub, b_eql, b_gtr, wrap_i64, one, Option.map_some, Option.bind_some, asB, V.shift, List.append_nil, List.nil_append, List.cons_append, List.all_cons, List.all_nil, Bool.true_and, Bool.and_self, List.getElem?_cons_zero, List.getElem?_cons_succ, Nat.reduceEqDiff, ↓reduceIte, Nat.succ_ne_self, decide_true, decide_false, Bool.false_eq_true, Int.reduceAdd, Int.reduceSub, Int.reduceLT, Int.reduceLE, pick3, V.cells, fillV, splice, chop, addOff, loadV, storeV, Ab.rowAt, rget, rset, V.scalar, V.pure, Int.reduceToNat, Nat.reduceAdd, Nat.reduceSub, Nat.reduceLT, Nat.reduceLeDiff, true_and, and_self, List.length_cons, List.length_nil, List.take_succ_cons, List.take_zero, List.drop_succ_cons, List.drop_zero, Nat.le_refl, List.set_cons_zero, List.getD_cons_zero, List.replicate, List.flatten_cons, List.flatten_nil, Int.cast_ofNat_Int, Nat.zero_add, Nat.add_zero, len_nil, len_ref, el_ref, e2, e8, e9, e10, happ, Nat.zero_lt_succ]
      refine hO _ _ hx _ _ ?_ ?_ ?_ ?_ ?_ ?_ ?_
      all_goals simp (config := { maxSteps := 10000000 }) (disch := omega) only [↓get_setS, ↓get_setN, List.getElem?_cons_zero, List.getElem?_cons_succ, Nat.reduceEqDiff, ↓reduceIte, Nat.succ_ne_self, rget, e1, e2, e9]
    all_goals simp (config := { maxSteps := 10000000 }) (disch := omega) only [↓get_setS, List.getElem?_cons_zero, List.getElem?_cons_succ, Nat.reduceEqDiff, ↓reduceIte, Int.cast_ofNat_Int, g1, g2, g8, g9, g10]
  · rw [decide_eq_false hme] at hO
    refine G_loop.trans ?_
    simp (config := { maxSteps := 10000000 }) (disch := omega) only [↓G_seq, ↓G_skip, ↓G_region, ↓G_block, ↓G_cond, ↓G_ops_nil, ↓G_op, Gv_some, Gc_true, dec_t, killAll, ↓get_setS, evalOp, ev, b_leq, one, Option.map_some, Option.bind_some, V.shift, Bool.and_self, List.getElem?_cons_zero, List.getElem?_cons_succ, Nat.reduceEqDiff, ↓reduceIte, Nat.succ_ne_self, Bool.false_eq_true, pick3, addOff, loadV, Ab.rowAt, rget, and_self, List.getD_cons_zero, Nat.zero_add, Nat.add_zero, g2, g10, Nat.zero_lt_succ]
    refine hI _ _ _ (fun fr' e1 e2 e8 e9 e10 => ?_) _ ?_ ?_ ?_ ?_ ?_
    · clear hI
      simp (config := { maxSteps := 10000000 }) (disch := omega) only [↓G_seq, ↓G_skip, ↓G_blk, ↓G_region, ↓G_cond, ↓Gx_blk, ↓G_ops_nil, ↓G_op, Gv_some, ↓G_gop, Gw_tf, Gc_false, dec_f, killAll, ↓get_setS, evalOp, ev, b_add, b_eql, b_gtr, wrap_i64, one, Option.map_some, Option.bind_some, asB, V.shift, List.append_nil, List.nil_append, List.cons_append, List.all_cons, List.all_nil, Bool.true_and, Bool.and_self, List.getElem?_cons_zero, List.getElem?_cons_succ, Nat.reduceEqDiff, ↓reduceIte, Nat.succ_ne_self, decide_true, decide_false, Bool.false_eq_true, Int.reduceAdd, Int.reduceLT, pick3, V.cells, fillV, splice, chop, addOff, loadV, Ab.rowAt, rget, rset, V.scalar, V.pure, Nat.reduceAdd, Nat.reduceLT, Nat.reduceLeDiff, true_and, and_self, List.length_cons, List.length_nil, List.take_succ_cons, List.take_zero, List.drop_succ_cons, List.drop_zero, Nat.le_refl, List.getD_cons_zero, List.replicate, List.flatten_cons, List.flatten_nil, Nat.zero_add, Nat.add_zero, len_nil, e2, e8, e9, e10, happ, Nat.zero_lt_succ]
      refine hO _ _ hx _ _ ?_ ?_ ?_ ?_ ?_ ?_ ?_
      all_goals simp (config := { maxSteps := 10000000 }) (disch := omega) only [↓get_setS, List.getElem?_cons_zero, List.getElem?_cons_succ, Nat.reduceEqDiff, ↓reduceIte, Nat.succ_ne_self, rget, e1, e2, e9]
    all_goals simp (config := { maxSteps := 10000000 }) (disch := omega) only [↓get_setS, List.getElem?_cons_zero, List.getElem?_cons_succ, Nat.reduceEqDiff, ↓reduceIte, Int.cast_ofNat_Int, g1, g2, g8, g9, g10]

theorem c32 {v : V} {zs : List Int} (hv : SlV 1 v (I1 zs)) (hl : zs.length ≤ 1000000) (hr : ∀ j, j < zs.length → -9223372036854775808 ≤ Z zs j ∧ Z zs j ≤ 9223372036854775807) (k m1 a1 s1 v1 m2 a2 s2 v2 : Int) : call tblP 32 [.agg [.i k, .i m1, .i a1, .i s1, .i v1, .i m2, .i a2, .i s2, .i v2], v] H =
    some (if errD (properR k m1 a1 s1 v1 m2 a2 s2 v2) zs m1 = 0 then .tup [outAcc 5 (E5 (pcs zs m1 m2 zs.length)), .i 0] else .tup [.nilsl, .i (errD (properR k m1 a1 s1 v1 m2 a2 s2 v2) zs m1)]) := by
  refine (call_start (show tblP 32 = some a32 from rfl)).trans ?_
  have h14 := fun H => up (H := H) (c14 (H := H) k m1 a1 s1 v1 m2 a2 s2 v2)
  have hlv := hv.len
  rw [I1_len] at hlv
  have hsh := hv.sh
  have hE : ∀ X, errD (properR k m1 a1 s1 v1 m2 a2 s2 v2) zs m1 = X → X ≠ 0 → (if errD (properR k m1 a1 s1 v1 m2 a2 s2 v2) zs m1 = 0 then V.tup [outAcc 5 (E5 (pcs zs m1 m2 zs.length)), .i 0] else .tup [.nilsl, .i (errD (properR k m1 a1 s1 v1 m2 a2 s2 v2) zs m1)]) = .tup [.nilsl, .i X] := by
    intro X h1 h2
    rw [h1, if_neg h2]
  by_cases he : properR k m1 a1 s1 v1 m2 a2 s2 v2 = 0
  case neg =>
    rw [hE _ (by unfold errD; rw [if_pos he]) he]
    generalize properR k m1 a1 s1 v1 m2 a2 s2 v2 = e at *
    clear hv hE hr
    unfold a32
    simp (config := { maxSteps := 10000000 }) (disch := omega) only [↓G_seq, ↓G_ret, ↓G_region, ↓G_cond, ↓G_ops_nil, ↓G_op, Gv_some, Gc_true, dec_f, killAll, ↓get_setS, evalOp, ev, evs, Ab.get, b_neq, one, Option.map_some, Option.bind_some, finish, resVs, resV, outVs, ownsLast, tupOf, callV, V.shift, V.shifts, List.append_nil, List.all_cons, List.all_nil, Bool.and_self, List.getElem?_cons_zero, List.getElem?_cons_succ, Nat.reduceEqDiff, ↓reduceIte, Nat.succ_ne_self, Bool.not_false, bne_self_eq_false, Int.reduceAdd, pick3, V.cells, loadV, Ab.rowAt, rget, rset, V.scalar, Nat.reduceAdd, and_self, List.length_cons, List.length_nil, List.take_succ_cons, List.take_zero, List.drop_zero, Nat.le_refl, List.getD_cons_zero, Nat.zero_add, ti_int, ov_int, ov_nilsl, fn_some, h14, Nat.zero_lt_succ]
    done
  rw [he] at h14
  by_cases h0 : zs.length = 0
  · rw [hE 4 (by unfold errD; rw [if_neg (fun z => z he), if_pos h0]) (by decide)]
    rw [h0] at hlv
    clear hv hE hr
    unfold a32
    simp (config := { maxSteps := 10000000 }) (disch := omega) only [↓G_seq, ↓G_skip, ↓G_ret, ↓G_region, ↓G_cond, ↓G_ops_nil, ↓G_op, Gv_some, Gc_true, Gc_false, killAll, ↓get_setS, evalOp, ev, evs, Ab.get, b_eql, b_neq, one, Option.map_some, Option.bind_some, finish, resVs, resV, outVs, ownsLast, tupOf, callV, V.shift, V.shifts, List.append_nil, List.all_cons, List.all_nil, Bool.and_self, List.getElem?_cons_zero, List.getElem?_cons_succ, Nat.reduceEqDiff, ↓reduceIte, Nat.succ_ne_self, decide_true, Bool.not_true, bne_self_eq_false, Int.reduceAdd, pick3, V.cells, loadV, Ab.rowAt, rget, rset, V.scalar, Nat.reduceAdd, and_self, List.length_cons, List.length_nil, List.take_succ_cons, List.take_zero, List.drop_zero, Nat.le_refl, List.getD_cons_zero, Int.cast_ofNat_Int, Nat.zero_add, ti_int, ov_int, ov_nilsl, fn_some, h14, hlv, Nat.zero_lt_succ]
    done
  by_cases hu : upB zs (zs.length - 1) 1 = true
  case neg =>
    rw [hE 25 (by unfold errD; rw [if_neg (fun z => z he), if_neg h0, if_pos (by simpa using hu)]) (by decide)]
    have hA := fun k L fr => loop32_bad (H := H) (k := k) (p := v) (L := L) hl hv (zs.length - 1) 1 fr (by omega) (by omega) (by simpa using hu)
    clear hv hE hr
    unfold a32
    simp (config := { maxSteps := 10000000 }) (disch := omega) only [↓G_seq, ↓G_skip, ↓G_region, ↓G_block, ↓G_cond, ↓G_ops_nil, ↓G_op, Gv_some, Gc_false, dec_f, killAll, ↓get_setS, evalOp, ev, evs, Ab.get, b_eql, b_neq, one, Option.map_some, Option.bind_some, callV, V.shift, V.shifts, List.append_nil, List.all_cons, List.all_nil, Bool.and_self, List.getElem?_cons_zero, List.getElem?_cons_succ, Nat.reduceEqDiff, ↓reduceIte, Nat.succ_ne_self, decide_true, Bool.not_true, bne_self_eq_false, Int.reduceAdd, pick3, V.cells, loadV, Ab.rowAt, rget, rset, V.scalar, Nat.reduceAdd, and_self, List.length_cons, List.length_nil, List.take_succ_cons, List.take_zero, List.drop_zero, Nat.le_refl, List.getD_cons_zero, Nat.zero_add, ti_int, h14, hlv, Nat.zero_lt_succ]
    refine hA _ _ _ ?_ ?_
    all_goals simp (config := { maxSteps := 10000000 }) (disch := omega) only [↓get_setS, Ab.get, List.getElem?_cons_zero, List.getElem?_cons_succ, Nat.reduceEqDiff, ↓reduceIte, Nat.succ_ne_self, Int.cast_ofNat_Int]
  have hA := fun k p r L hx fr => loop32 (H := H) (k := k) (p := p) (r := r) (L := L) hl hv hx (zs.length - 1) 1 fr (by omega) (by omega) hu
  have hZ := hv.el (I1_get (zs := zs) (i := 0) (by omega))
  simp only [Int.ofNat_zero, Int.cast_ofNat_Int] at hZ
  by_cases hm : m1 < Z zs 0
  · rw [hE 2 (by unfold errD; rw [if_neg (fun z => z he), if_neg h0, if_neg (by simp [hu]), if_pos hm]) (by decide)]
    clear hv hE hr
    unfold a32
    simp (config := { maxSteps := 10000000 }) (disch := omega) only [↓G_seq, ↓G_skip, ↓G_region, ↓G_block, ↓G_cond, ↓G_ops_nil, ↓G_op, Gv_some, Gc_false, dec_f, killAll, ↓get_setS, evalOp, ev, evs, Ab.get, b_eql, b_neq, one, Option.map_some, Option.bind_some, callV, V.shift, V.shifts, List.append_nil, List.all_cons, List.all_nil, Bool.and_self, List.getElem?_cons_zero, List.getElem?_cons_succ, Nat.reduceEqDiff, ↓reduceIte, Nat.succ_ne_self, decide_true, Bool.not_true, bne_self_eq_false, Int.reduceAdd, pick3, V.cells, loadV, Ab.rowAt, rget, rset, V.scalar, Nat.reduceAdd, and_self, List.length_cons, List.length_nil, List.take_succ_cons, List.take_zero, List.drop_zero, Nat.le_refl, List.getD_cons_zero, Nat.zero_add, ti_int, h14, hlv, Nat.zero_lt_succ]
    refine hA _ (.ptr 0 1 1 0 0) _ _ (fun fr' g1 g2 => ?_) _ ?_ ?_ ?_
    · simp (config := { maxSteps := 10000000 }) (disch := omega) only [↓G_seq, ↓G_ret, ↓G_region, ↓G_cond, ↓Gx_blk, ↓G_ops_nil, ↓G_op, Gv_some, Gc_true, dec_t, killAll, ↓get_setS, evalOp, ev, b_gtr, one, Option.map_some, Option.bind_some, finish, resVs, resV, outVs, ownsLast, tupOf, V.shift, List.all_cons, List.all_nil, Bool.and_self, List.getElem?_cons_zero, List.getElem?_cons_succ, Nat.reduceEqDiff, ↓reduceIte, Nat.succ_ne_self, Bool.false_eq_true, Int.reduceLT, pick3, addOff, loadV, Ab.rowAt, rget, Nat.reduceLT, and_self, List.getD_cons_zero, Nat.zero_add, Nat.add_zero, ov_int, ov_nilsl, fn_some, g1, g2, hZ]
    all_goals simp (config := { maxSteps := 10000000 }) (disch := omega) only [↓get_setS, Ab.get, List.getElem?_cons_zero, List.getElem?_cons_succ, Nat.reduceEqDiff, ↓reduceIte, Nat.succ_ne_self, Int.cast_ofNat_Int]
  · have hz : errD (properR k m1 a1 s1 v1 m2 a2 s2 v2) zs m1 = 0 := by
      unfold errD
      rw [if_neg (fun z => z he), if_neg h0, if_neg (by simp [hu]), if_neg hm]
    rw [if_pos hz]
    obtain ⟨p1, p2, p3⟩ := proper_in he
    have hasc := asc_of hu
    obtain ⟨K, hK⟩ := at_ex (m := m1) hasc (by omega) (by omega)
    have hF := fun kk r hx fr => first32 (H := H) (k := kk) (r := r) (kd := k) (a1 := a1) (s1 := s1) (v1 := v1) (a2 := a2) (s2 := s2) (v2 := v2) hl hv hasc hK p1 p2 p3 hx fr
    have hfin : ∀ d, At zs m2 (K + d) → outAcc 5 (E5 (pcs zs m1 m2 zs.length)) = .sl .own 5 (E5 (clP zs m1 K d ++ [opP zs m1 K d m2 true])) := by
      intro d h
      rw [pcs_eq hr hasc hK h p2 (by omega)]
      exact if_neg (E5_ne _ _)
    have hpu := fun d => E5_pure (clP zs m1 K d ++ [opP zs m1 K d m2 true])
    have hln : ∀ d, (E5 (clP zs m1 K d ++ [opP zs m1 K d m2 true])).length = d + 1 := by
      intro d
      rw [E5_len, List.length_append, clP_len]
      rfl
    clear hv hE hz hr
    unfold a32
    simp (config := { maxSteps := 10000000 }) (disch := omega) only [↓G_seq, ↓G_skip, ↓G_region, ↓G_block, ↓G_cond, ↓G_ops_nil, ↓G_op, Gv_some, Gc_false, dec_f, killAll, ↓get_setS, evalOp, ev, evs, Ab.get, b_eql, b_neq, one, Option.map_some, Option.bind_some, callV, V.shift, V.shifts, List.append_nil, List.all_cons, List.all_nil, Bool.and_self, List.getElem?_cons_zero, List.getElem?_cons_succ, Nat.reduceEqDiff, ↓reduceIte, Nat.succ_ne_self, decide_true, Bool.not_true, bne_self_eq_false, Int.reduceAdd, pick3, V.cells, loadV, Ab.rowAt, rget, rset, V.scalar, Nat.reduceAdd, and_self, List.length_cons, List.length_nil, List.take_succ_cons, List.take_zero, List.drop_zero, Nat.le_refl, List.getD_cons_zero, Nat.zero_add, ti_int, h14, hlv, Nat.zero_lt_succ]
    refine hA _ (.ptr 0 1 1 0 0) _ _ (fun fr' g1 g2 => ?_) _ ?_ ?_ ?_
    · simp (config := { maxSteps := 10000000 }) (disch := omega) only [↓G_seq, ↓G_skip, ↓G_region, ↓G_block, ↓G_cond, ↓Gx_blk, ↓G_ops_nil, ↓G_op, Gv_some, Gc_false, dec_f, killAll, ↓get_setS, evalOp, ev, b_gtr, one, Option.map_some, Option.bind_some, V.shift, Bool.and_self, List.getElem?_cons_zero, List.getElem?_cons_succ, Nat.reduceEqDiff, ↓reduceIte, Nat.succ_ne_self, Bool.false_eq_true, Int.reduceLT, pick3, addOff, loadV, Ab.rowAt, rget, Nat.reduceLT, and_self, List.getD_cons_zero, Nat.zero_add, Nat.add_zero, g1, g2, hZ]
      refine hF _ _ (fun fr'' L' ver d hat g8 r2 hver => ?_) _ ?_ ?_ ?_ ?_ ?_
      · have hfin := hfin d hat
        have hpu := hpu d
        have hln := hln d
        rw [hfin]
        clear hF hA hfin
        generalize E5 (clP zs m1 K d ++ [opP zs m1 K d m2 true]) = S0 at *
        clear hat
        simp (config := { maxSteps := 10000000 }) (disch := omega) only [↓G_seq, ↓G_ret, ↓G_region, ↓Gx_blk, ↓G_ops_nil, ↓G_op, Gv_some, killAll, ↓get_setS, evalOp, ev, Option.map_some, Option.bind_some, finish, resVs, resV, outVs, ownsLast, tupOf, List.all_cons, List.all_nil, Bool.and_true, Bool.true_and, Bool.and_self, List.getElem?_cons_zero, List.getElem?_cons_succ, ↓reduceIte, Nat.succ_ne_self, Int.reduceLT, Nat.reduceLT, and_true, true_and, and_self, ov_int, ov_ref0, fn_some, ite_ov, g8, r2, hpu, hln]
      all_goals simp (config := { maxSteps := 10000000 }) (disch := omega) only [↓get_setS, List.getElem?_cons_zero, List.getElem?_cons_succ, Nat.reduceEqDiff, ↓reduceIte, Nat.succ_ne_self, g1, g2]
    all_goals simp (config := { maxSteps := 10000000 }) (disch := omega) only [↓get_setS, Ab.get, List.getElem?_cons_zero, List.getElem?_cons_succ, Nat.reduceEqDiff, ↓reduceIte, Nat.succ_ne_self, Int.cast_ofNat_Int]

end Go.Proofs.Ytfngllcjikmbkaa

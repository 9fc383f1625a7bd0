/-
  Line breaks: what Break returns, whole.
-/
import Derived.Test.YtdgifbmimfnmlaaS32F
namespace Go.Proofs.Ytdgifbmimfnmlaa
open Go Go.Ab
set_option linter.unusedVariables false
set_option linter.unnecessarySimpa false
set_option linter.unusedSimpArgs false
set_option maxRecDepth 100000
variable {H : List (List Row)}
open Path (Ch)

theorem loop18a {k : List KI} {v : V} {l : List Me} {w d : Int} {ver : Nat} {r : Option V} (he : errL l = 0) (hp : inP w d) (hv : SlV 5 v (E5 l)) (hver : 0 < ver)
    (hx : ∀ fr' L', Ab.get fr' 9 = .i (l.length : Nat) → Ab.get fr' 10 = .ref 0 1 ver 3 0 (l.length + 1) → rget L' 1 = ⟨ver, 3, T3 (tabN l w d) l.length⟩ → Gx tbl H [.tmp 6, .tmp 7] 0 k fr' L' = r) :
    ∀ (q m : Nat) (fr : List V) (L : List Row), m + q = l.length → Ab.get fr 0 = v → Ab.get fr 1 = .i w → Ab.get fr 2 = .i d → Ab.get fr 9 = .i (l.length : Nat) → Ab.get fr 10 = .ref 0 1 ver 3 0 (l.length + 1) → Ab.get fr 11 = .i ((q : Nat) - 1 : Int) → rget L 1 = ⟨ver, 3, T3 (tab l w d m) l.length⟩ →
      G tbl H [.tmp 6, .tmp 7] (.code (.loop ( (.seq ( (.seq ( .region [] [ ⟨some 40, .mv (.t 11), none⟩, ⟨some 41, .bin .geq (.t 40) (.c (.int .i64 0)), none⟩]) ( (.cond (.t 41) ( .skip) ( .exit 0))))) ( (.seq ( (.block 1 ( (.seq ( .region [] [ ⟨some 44, .mv (.t 1), none⟩, ⟨some 12, .mv (.t 44), none⟩]) ( (.seq ( (.seq ( .region [] [ ⟨some 45, .mv (.t 11), none⟩, ⟨some 46, .bin .eql (.t 45) (.c (.int .i64 0)), none⟩]) ( (.cond (.t 46) ( .region [] [ ⟨some 47, .mv (.t 1), none⟩, ⟨some 48, .mv (.t 2), none⟩, ⟨some 49, .bin .sub (.t 47) (.t 48), none⟩, ⟨some 12, .mv (.t 49), none⟩]) ( .skip))))) ( (.seq ( .region [] [ ⟨some 50, .mv (.t 10), none⟩, ⟨some 51, .mv (.t 11), none⟩, ⟨some 52, .build [(.int .i64 0), (.int .i64 0), (.int .i64 0)] [(0, 1, (.c (.int .i64 1125899906842624)))], none⟩, ⟨some 53, .elemAddr 3 (.t 50) (.t 51), none⟩, ⟨none, .store 3 (.t 53) (.t 52), none⟩]) ( (.seq ( .region [] [ ⟨some 54, .mv (.t 11), none⟩, ⟨some 13, .mv (.t 54), none⟩]) ( (.block 2 ( (.loop ( (.seq ( (.seq ( .region [] [ ⟨some 55, .mv (.t 13), none⟩, ⟨some 56, .mv (.t 9), none⟩, ⟨some 57, .bin .lss (.t 55) (.t 56), none⟩]) ( (.cond (.t 57) ( .skip) ( .exit 2))))) ( (.seq ( (.block 3 ( (.seq ( (.seq ( .region [] [ ⟨some 61, .mv (.t 0), none⟩, ⟨some 62, .mv (.t 11), none⟩, ⟨some 63, .mv (.t 13), none⟩, ⟨some 64, .call 0 (.c (.fn 30 [])) [(.t 61), (.t 62), (.t 63)], none⟩, ⟨some 60, .mv (.t 64), none⟩, ⟨some 65, .ext (.t 60) 0, none⟩, ⟨some 66, .ext (.t 60) 1, none⟩, ⟨some 14, .mv (.t 65), none⟩, ⟨some 15, .mv (.t 66), none⟩]) ( (.seq ( .region [] [ ⟨some 67, .mv (.t 14), none⟩, ⟨some 68, .mv (.t 12), none⟩, ⟨some 69, .bin .gtr (.t 67) (.t 68), none⟩]) ( (.cond (.t 69) ( .exit 2) ( .skip))))))) ( (.seq ( .region [2] [ ⟨some 70, .mv (.t 0), none⟩, ⟨some 71, .mv (.t 11), none⟩, ⟨some 72, .mv (.t 13), none⟩, ⟨some 73, .mv (.t 12), none⟩, ⟨some 74, .call 0 (.c (.fn 28 [])) [(.t 70), (.t 71), (.t 72), (.t 73)], none⟩, ⟨some 75, .mv (.t 10), none⟩, ⟨some 76, .mv (.t 13), none⟩, ⟨some 77, .bin .add (.t 76) (.c (.int .i64 1)), none⟩, ⟨some 78, .elemAddr 3 (.t 75) (.t 77), none⟩, ⟨some 79, .load true 3 (.t 78), none⟩, ⟨some 17, .alloc 2 [(.int .i64 0), (.int .i64 0), (.int .i64 0)], none⟩, ⟨some 16, .mv (.t 74), none⟩, ⟨none, .store 3 (.t 17) (.t 79), none⟩]) ( (.seq ( (.seq ( .region [] [ ⟨some 80, .mv (.t 16), none⟩, ⟨some 81, .bin .geq (.t 80) (.c (.int .i64 1125899906842624)), none⟩, ⟨some 82, .mv (.t 81), none⟩, ⟨some 83, .fieldAddr 0 (.t 17), some (82, false)⟩, ⟨some 84, .load false 1 (.t 83), some (82, false)⟩, ⟨some 85, .bin .geq (.t 84) (.c (.int .i64 1125899906842624)), some (82, false)⟩, ⟨some 86, .pick (.t 82) (.c (.bool true)) (.t 85), none⟩]) ( (.cond (.t 86) ( .exit 3) ( .skip))))) ( (.seq ( .region [] [ ⟨some 87, .mv (.t 16), none⟩, ⟨some 88, .fieldAddr 0 (.t 17), none⟩, ⟨some 89, .load false 1 (.t 88), none⟩, ⟨some 90, .bin .add (.t 87) (.t 89), none⟩, ⟨some 91, .fieldAddr 1 (.t 17), none⟩, ⟨some 92, .load false 1 (.t 91), none⟩, ⟨some 93, .bin .add (.t 92) (.c (.int .i64 1)), none⟩, ⟨some 94, .mv (.t 13), none⟩, ⟨some 95, .bin .add (.t 94) (.c (.int .i64 1)), none⟩, ⟨some 96, .build [(.int .i64 0), (.int .i64 0), (.int .i64 0)] [(0, 1, (.t 90)), (1, 1, (.t 93)), (2, 1, (.t 95))], none⟩, ⟨some 18, .alloc 3 [(.int .i64 0), (.int .i64 0), (.int .i64 0)], none⟩, ⟨none, .store 3 (.t 18) (.t 96), none⟩]) ( (.seq ( .region [] [ ⟨some 97, .mv (.t 10), none⟩, ⟨some 98, .mv (.t 11), none⟩, ⟨some 99, .elemAddr 3 (.t 97) (.t 98), none⟩, ⟨some 100, .fieldAddr 0 (.t 99), none⟩, ⟨some 101, .load false 1 (.t 100), none⟩, ⟨some 102, .bin .geq (.t 101) (.c (.int .i64 1125899906842624)), none⟩, ⟨some 103, .mv (.t 102), none⟩, ⟨some 104, .load true 3 (.t 18), some (103, false)⟩, ⟨some 105, .mv (.t 10), some (103, false)⟩, ⟨some 106, .mv (.t 11), some (103, false)⟩, ⟨some 107, .elemAddr 3 (.t 105) (.t 106), some (103, false)⟩, ⟨some 108, .load true 3 (.t 107), some (103, false)⟩, ⟨some 109, .call 0 (.c (.fn 31 [])) [(.t 104), (.t 108)], some (103, false)⟩, ⟨some 110, .pick (.t 103) (.c (.bool true)) (.t 109), none⟩]) ( (.cond (.t 110) ( .region [] [ ⟨some 111, .mv (.t 10), none⟩, ⟨some 112, .mv (.t 11), none⟩, ⟨some 113, .load true 3 (.t 18), none⟩, ⟨some 114, .elemAddr 3 (.t 111) (.t 112), none⟩, ⟨none, .store 3 (.t 114) (.t 113), none⟩]) ( .skip))))))))))))))) ( .region [] [ ⟨some 58, .mv (.t 13), none⟩, ⟨some 59, .bin .add (.t 58) (.c (.int .i64 1)), none⟩, ⟨some 13, .mv (.t 59), none⟩]))))))))))))))))))) ( .region [] [ ⟨some 42, .mv (.t 11), none⟩, ⟨some 43, .bin .sub (.t 42) (.c (.int .i64 1)), none⟩, ⟨some 11, .mv (.t 43), none⟩])))))) :: k) fr L = r := by
  intro q
  obtain ⟨hl0, hl1, _⟩ := errL_ok he
  induction q with
  | zero =>
    intro m fr L hm h0 h1 h2 h9 h10 h11 r1
    obtain rfl : m = l.length := by omega
    refine G_loop.trans ?_
    simp (config := { maxSteps := 10000000 }) (disch := omega) only [↓G_seq, ↓G_exit, ↓G_region, ↓G_cond, ↓Gx_code, ↓G_ops_nil, ↓G_op, Gv_some, Gc_false, killAll, ↓get_setS, evalOp, ev, b_geq, one, Option.map_some, List.getElem?_cons_zero, List.getElem?_cons_succ, ↓reduceIte, decide_false, Int.reduceNeg, Int.reduceSub, Int.reduceLE, Nat.reduceSub, Int.cast_ofNat_Int, h11]
    refine hx _ _ ?_ ?_ r1
    all_goals simp (config := { maxSteps := 10000000 }) (disch := omega) only [↓get_setS, List.getElem?_cons_zero, List.getElem?_cons_succ, Nat.reduceEqDiff, ↓reduceIte, h9, h10]
  | succ q ih =>
    intro m fr L hm h0 h1 h2 h9 h10 h11 r1
    have hq : ((q + 1 : Nat) : Int) - 1 = (q : Nat) := by omega
    rw [hq] at h11
    have hF := tab_in (w := w) (d := d) hl1 m (by omega)
    have fin := fun k hx => loop18b (H := H) (k := k) (w := w) (d := d) (F := tab l w d m) (i := q) (R := scan l w d (tab l w d m) q (m + 1) (q + 1) init) (r := r) he hv hF (by omega) hver hx (m + 1) (q + 1) init
    have htab : upd (tab l w d m) q (scan l w d (tab l w d m) q (m + 1) (q + 1) init) = tab l w d (m + 1) := by
      conv => rhs; unfold tab
      rw [show l.length - m - 1 = q by omega, show l.length - m = q + 1 by omega]
    rw [htab] at fin
    have hT := T3_lt (F := tab l w d m) (n := l.length) (j := q) (by omega)
    have hset : (T3 (tab l w d m) l.length).set q [.i 1125899906842624, .int .i64 0, .int .i64 0] = T3 (upd (tab l w d m) q init) l.length := T3_set (F := tab l w d m) (o := init) (show q < l.length by omega)
    have hqn : (q : Int) < ((l.length + 1 : Nat) : Int) := by omega
    have hxx := fun fr' L' => ih (m + 1) fr' L' (by omega)
    unfold inP at hp
    obtain ⟨hp1, hp2⟩ := hp
    have rmc : (q = 0 ∧ room w d q = w - d) ∨ (¬ q = 0 ∧ room w d q = w) := by
      unfold room
      by_cases c : q = 0
      · rw [if_pos c]; exact .inl ⟨c, rfl⟩
      · rw [if_neg c]; exact .inr ⟨c, rfl⟩
    have hR : ∀ R, R = scan l w d (tab l w d m) q (m + 1) (q + 1) init → R = R := fun _ _ => rfl
    have hine : inE l.length q init := init_in (by omega)
    generalize hTT : T3 (tab l w d m) l.length = T at *
    generalize hTU : T3 (upd (tab l w d m) q init) l.length = T' at *
    generalize T3 (tab l w d (m + 1)) l.length = T2 at *
    generalize room w d q = rm at *
    have hq2 : ((q + 1 : Nat) : Int) - 1 = (q : Nat) := hq
    clear ih hx hF htab hTT hv he
    refine G_loop.trans ?_
    rcases rmc with ⟨c1, rfl⟩ | ⟨c1, rfl⟩
    all_goals
      simp (config := { maxSteps := 10000000 }) (disch := omega) only [↓G_seq, ↓G_skip, ↓G_region, ↓G_block, ↓G_cond, ↓G_ops_nil, ↓G_op, Gv_some, Gc_true, Gc_false, dec_t, dec_f, killAll, ↓get_setS, ↓get_setN, evalOp, ev, b_sub, b_eql, b_geq, wrap_i64, one, Option.map_some, Option.bind_some, List.nil_append, List.cons_append, List.all_cons, List.all_nil, Bool.and_true, Bool.true_and, Bool.and_self, List.getElem?_cons_zero, List.getElem?_cons_succ, Nat.reduceEqDiff, ↓reduceIte, Nat.succ_ne_self, decide_true, Int.reduceAdd, V.cells, fillV, splice, storeV, V.scalar, Nat.reduceAdd, Nat.reduceLeDiff, and_true, true_and, and_self, List.length_cons, List.length_nil, List.take_zero, List.drop_succ_cons, List.drop_zero, Nat.le_refl, Nat.zero_add, el_ref, nn, ite_ov, Int.toNat_natCast, h1, h2, h10, h11, r1, hT, hset, hqn, Nat.zero_add]
      refine fin _ (fun fr' L' g0 g1 g2 g9 g10 g11 q1 => ?_) _ _ (by omega) (Nat.lt_succ_self _) rfl hine (Nat.zero_lt_succ _) ?_ ?_ ?_ ?_ ?_ ?_ ?_ ?_ ?_
      · clear fin
        simp (config := { maxSteps := 10000000 }) (disch := omega) only [↓G_blk, ↓G_region, ↓Gx_blk, ↓G_ops_nil, ↓G_op, Gv_some, killAll, ↓get_setS, evalOp, ev, b_sub, wrap_i64, one, Option.map_some, List.getElem?_cons_zero, List.getElem?_cons_succ, ↓reduceIte, g11]
        refine hxx _ _ ?_ ?_ ?_ ?_ ?_ ?_ q1
        all_goals simp (config := { maxSteps := 10000000 }) (disch := omega) only [↓get_setS, List.getElem?_cons_zero, List.getElem?_cons_succ, Nat.reduceEqDiff, reduceCtorEq, ↓reduceIte, Nat.succ_ne_self, g0, g1, g2, g9, g10]
      all_goals clear fin hxx
      all_goals simp (config := { maxSteps := 10000000 }) (disch := omega) only [↓get_setS, ↓get_setN, rget_rset, List.getElem?_cons_zero, List.getElem?_cons_succ, Nat.reduceEqDiff, reduceCtorEq, ↓reduceIte, Nat.succ_ne_self, h0, h1, h2, h9, h10, h11, hq2]

theorem loop18c {k : List KI} {l : List Me} {w d : Int} {ver : Nat} {r : Option V} {R : List Nat} (he : errL l = 0) (hver : 0 < ver)
    (hx : ∀ fr' L', Acc 4 1 L' (Ab.get fr' 19) (I1 (zs R)) → Gx tbl H [.tmp 6, .tmp 7] 4 k fr' L' = r) :
    ∀ (q i : Nat) (acc : List Nat) (fr : List V) (L : List Row), l.length - i ≤ q → i ≤ l.length → (i < l.length → (tabN l w d i).c < inf) → acc.length ≤ i → R = acc ++ Path.path (tabB l w d) l.length q i true →
      Ab.get fr 9 = .i (l.length : Nat) → Ab.get fr 10 = .ref 0 1 ver 3 0 (l.length + 1) → Ab.get fr 20 = .i (i : Nat) → rget L 1 = ⟨ver, 3, T3 (tabN l w d) l.length⟩ → Acc 4 1 L (Ab.get fr 19) (I1 (zs acc)) →
      G tbl H [.tmp 6, .tmp 7] (.code (.loop ( (.seq ( (.seq ( .region [] [ ⟨some 120, .mv (.t 20), none⟩, ⟨some 121, .mv (.t 9), none⟩, ⟨some 122, .bin .lss (.t 120) (.t 121), none⟩]) ( (.cond (.t 122) ( .skip) ( .exit 4))))) ( (.seq ( (.block 5 ( .region [] [ ⟨some 128, .mv (.t 19), none⟩, ⟨some 129, .mv (.t 20), none⟩, ⟨some 130, .lit 1 [(.int .i64 0)] 1 [(0, 1, (.t 129))], none⟩, ⟨some 131, .app 4 1 8 (.t 128) (.t 130), none⟩, ⟨some 19, .mv (.t 131), none⟩]))) ( .region [] [ ⟨some 123, .mv (.t 10), none⟩, ⟨some 124, .mv (.t 20), none⟩, ⟨some 125, .elemAddr 3 (.t 123) (.t 124), none⟩, ⟨some 126, .fieldAddr 2 (.t 125), none⟩, ⟨some 127, .load false 1 (.t 126), none⟩, ⟨some 20, .mv (.t 127), none⟩])))))) :: k) fr L = r := by
  intro q
  obtain ⟨hl0, hl1, _⟩ := errL_ok he
  have done : ∀ (i : Nat) (acc : List Nat) (fr : List V) (L : List Row), l.length ≤ i → i ≤ l.length → R = acc → Ab.get fr 9 = .i (l.length : Nat) → Ab.get fr 20 = .i (i : Nat) → Acc 4 1 L (Ab.get fr 19) (I1 (zs acc)) → G tbl H [.tmp 6, .tmp 7] (.code (.loop ( (.seq ( (.seq ( .region [] [ ⟨some 120, .mv (.t 20), none⟩, ⟨some 121, .mv (.t 9), none⟩, ⟨some 122, .bin .lss (.t 120) (.t 121), none⟩]) ( (.cond (.t 122) ( .skip) ( .exit 4))))) ( (.seq ( (.block 5 ( .region [] [ ⟨some 128, .mv (.t 19), none⟩, ⟨some 129, .mv (.t 20), none⟩, ⟨some 130, .lit 1 [(.int .i64 0)] 1 [(0, 1, (.t 129))], none⟩, ⟨some 131, .app 4 1 8 (.t 128) (.t 130), none⟩, ⟨some 19, .mv (.t 131), none⟩]))) ( .region [] [ ⟨some 123, .mv (.t 10), none⟩, ⟨some 124, .mv (.t 20), none⟩, ⟨some 125, .elemAddr 3 (.t 123) (.t 124), none⟩, ⟨some 126, .fieldAddr 2 (.t 125), none⟩, ⟨some 127, .load false 1 (.t 126), none⟩, ⟨some 20, .mv (.t 127), none⟩])))))) :: k) fr L = r := by
    intro i acc fr L hi hi2 hR h9 h20 h19
    subst hR
    refine G_loop.trans ?_
    simp (config := { maxSteps := 10000000 }) (disch := omega) only [↓G_seq, ↓G_exit, ↓G_region, ↓G_cond, ↓Gx_code, ↓G_ops_nil, ↓G_op, Gv_some, Gc_false, dec_f, killAll, ↓get_setS, evalOp, ev, b_lss, one, Option.map_some, List.getElem?_cons_zero, List.getElem?_cons_succ, Nat.reduceEqDiff, ↓reduceIte, Nat.succ_ne_self, h9, h20]
    refine hx _ _ ?_
    simp (config := { maxSteps := 10000000 }) (disch := omega) only [↓get_setS, List.getElem?_cons_zero, List.getElem?_cons_succ, Nat.reduceEqDiff, ↓reduceIte]
    exact h19
  have hpB : ∀ (q i : Nat) (s : Bool), Path.path (tabB l w d) l.length q i s = Path.path (tabB l w d) l.length q i true := by
    intro q
    induction q with
    | zero => intro i s; rfl
    | succ q ihq =>
      intro i s
      simp only [Path.path]
      rw [ihq _ (!s), ihq _ (!true)]
  induction q with
  | zero =>
    intro i acc fr L hq hi hc hal hR h9 h10 h20 r1 h19
    exact done i acc fr L (by omega) hi (by rw [hR]; simp [Path.path]) h9 h20 h19
  | succ q ih =>
    intro i acc fr L hq hi hc hal hR h9 h10 h20 r1 h19
    rcases Nat.lt_or_ge i l.length with hil | hil
    case inr =>
      exact done i acc fr L hil hi (by rw [hR, Path.path_end hil]; simp) h9 h20 h19
    clear done
    have hc := hc hil
    have hsp := tabN_spec (w := w) (d := d) he i hil true
    rcases hsp with ⟨z, _⟩ | ⟨_, x1, x2, x3, _, _⟩
    · change (tabN l w d i).c = inf at z
      omega
    change i < (tabN l w d i).x at x1
    change (tabN l w d i).x ≤ l.length at x2
    have hT := T3_lt (F := tabN l w d) (n := l.length) (j := i) (by omega)
    rw [Path.path, if_pos hil, hpB] at hR
    have hxc : (tabN l w d i).x < l.length → (tabN l w d (tabN l w d i).x).c < inf := by
      intro _
      have h1 := (cst_pos l (room w d i) i (tabN l w d i).x).1
      have : (tabN l w d i).c = cst l (room w d i) i (tabN l w d i).x + (tabN l w d (tabN l w d i).x).c := x3
      omega
    have nx := fun fr' L' => ih (tabN l w d i).x (acc ++ [i]) fr' L' (by omega) x2 hxc (by simp; omega) (by rw [hR]; simp)
    generalize hv19 : Ab.get fr 19 = v19 at *
    have hap := acc_app (H := H) (bytes := 8) (y := .sl .full 1 [[.i (i : Nat)]]) (new := [[.i (i : Nat)]]) h19 rfl (by simp) (by omega) (by rw [I1_len, zs_len]; simp; omega) (by simp [V.scalar])
    have hz : I1 (zs acc) ++ [[V.i (i : Nat)]] = I1 (zs (acc ++ [i])) := by simp [I1, zs]
    rw [hz] at hap
    obtain ⟨hap1, hap2⟩ := hap
    have hin : (i : Int) < ((l.length + 1 : Nat) : Int) := by omega
    clear ih hx h19 hR hxc x3 hpB
    refine G_loop.trans ?_
    simp (config := { maxSteps := 10000000 }) (disch := omega) only [↓G_seq, ↓G_skip, ↓G_blk, ↓G_region, ↓G_block, ↓G_cond, ↓G_ops_nil, ↓G_op, Gv_some, Gc_true, dec_t, killAll, ↓get_setS, evalOp, ev, rget_rset, b_lss, one, Option.map_some, Option.bind_some, V.shift, List.append_nil, List.nil_append, List.all_cons, List.all_nil, Bool.true_and, Bool.and_self, List.getElem?_cons_zero, List.getElem?_cons_succ, Nat.reduceEqDiff, ↓reduceIte, Nat.succ_ne_self, Bool.false_eq_true, pick3, V.cells, fillV, splice, chop, addOff, loadV, Ab.rowAt, V.scalar, V.pure, true_and, and_self, List.length_cons, List.length_nil, List.take_succ_cons, List.take_zero, List.drop_succ_cons, List.drop_zero, Nat.le_refl, List.getD_cons_zero, List.replicate, List.flatten_cons, List.flatten_nil, Nat.zero_add, el_ref, nn, ite_ov, Int.toNat_natCast, h9, h10, h20, r1, hT, hin, hv19, hap1, Nat.zero_lt_succ, Nat.zero_add]
    refine nx _ _ ?_ ?_ ?_ ?_ ?_
    all_goals simp (config := { maxSteps := 10000000 }) (disch := omega) only [↓get_setS, rget_rset, List.getElem?_cons_zero, List.getElem?_cons_succ, Nat.reduceEqDiff, ↓reduceIte, Nat.succ_ne_self, h9, h10, r1]
    all_goals try exact hap2

theorem mks18 {L : List Row} {n : Nat} (hn : n ≤ 1024) : mksV L 1 3 [V.int .i64 0, .int .i64 0, .int .i64 0] 24 (.int .i64 ((n : Nat) + 1 : Int)) (.int .i64 ((n : Nat) + 1 : Int)) = some (.ref 0 1 ((rget L 1).ver + 1) 3 0 (n + 1), rset L 1 ⟨(rget L 1).ver + 1, 3, List.replicate (n + 1) [V.int .i64 0, .int .i64 0, .int .i64 0]⟩) := by
  simp only [mksV]
  rw [if_pos ⟨by omega, by omega, by omega, by omega, rfl, rfl⟩, show ((n : Nat) + 1 : Int).toNat = n + 1 by omega]

/-- What Break returns. -/
def brkR (l : List Me) (w d : Int) : V := if inf ≤ (tabN l w d 0).c then .tup [.nilsl, .i 28] else .tup [outAcc 1 (I1 (zs (bestD l w d))), .i 0]

theorem c18e {v : V} {l : List Me} {w d : Int} (hm : l.length ≤ 9223372036854775807) (he : errA l w d ≠ 0) (hv : SlV 5 v (E5 l)) : call tbl 18 [v, .i w, .i d] H = some (.tup [.nilsl, .i (errA l w d)]) := by
  refine (call_start (show tbl 18 = some a18 from rfl)).trans ?_
  have h26 := fun H => c26 (H := H) (w := w) (d := d) hm hv
  have hsh := hv.sh
  generalize errA l w d = e at *
  unfold a18
  simp (config := { maxSteps := 10000000 }) (disch := omega) only [↓G_seq, ↓G_ret, ↓G_region, ↓G_cond, ↓G_ops_nil, ↓G_op, Gv_some, Gc_true, dec_f, killAll, ↓get_setS, evalOp, ev, evs, Ab.get, b_neq, one, Option.map_some, Option.bind_some, finish, resVs, resV, outVs, ownsLast, tupOf, callV, V.shift, V.shifts, List.append_nil, List.all_cons, List.all_nil, Bool.and_self, List.getElem?_cons_zero, List.getElem?_cons_succ, Nat.reduceEqDiff, reduceCtorEq, ↓reduceIte, Nat.succ_ne_self, Bool.not_false, bne_self_eq_false, and_self, ti_int, ov_int, ov_nilsl, fn_some, hsh, h26]

theorem c18 {v : V} {l : List Me} {w d : Int} (he : errL l = 0) (hp : inP w d) (hv : SlV 5 v (E5 l)) : call tbl 18 [v, .i w, .i d] H = some (brkR l w d) := by
  refine (call_start (show tbl 18 = some a18 from rfl)).trans ?_
  have hlv := hv.len
  rw [E5_len] at hlv
  obtain ⟨hl0, hl1, _⟩ := errL_ok he
  have h26 := fun H => c26 (H := H) (w := w) (d := d) (by omega) hv
  rw [show errA l w d = 0 by unfold errA errP; rw [if_pos he, if_pos hp]] at h26
  have hsh := hv.sh
  have hmk := fun L => mks18 (L := L) hl1
  have h0T := T3_0 (n := l.length)
  have hrep : (List.replicate (l.length + 1) [V.int .i64 0, .int .i64 0, .int .i64 0])[l.length]? = some [V.int .i64 0, .int .i64 0, .int .i64 0] := by rw [List.getElem?_replicate, if_pos (by omega)]
  have hnn : (l.length : Int) < ((l.length + 1 : Nat) : Int) := by omega
  generalize List.replicate (l.length + 1) [V.int .i64 0, .int .i64 0, .int .i64 0] = Z at *
  have fin := fun k hx => loop18a (H := H) (k := k) (r := some (brkR l w d)) (ver := 1) he hp hv (by omega) hx l.length 0
  have hin := tab_in (w := w) (d := d) hl1 l.length (Nat.le_refl _) 0 (Nat.zero_le _)
  change inE l.length 0 (tabN l w d 0) at hin
  unfold inE at hin
  unfold a18
  simp (config := { maxSteps := 10000000 }) (disch := omega) only [↓G_seq, ↓G_skip, ↓G_region, ↓G_block, ↓G_cond, ↓G_ops_nil, ↓G_op, Gv_some, Gc_false, killAll, ↓get_setS, ↓get_setN, evalOp, ev, evs, Ab.get, b_add, b_sub, b_neq, wrap_i64, one, Option.map_some, Option.bind_some, callV, V.shift, V.shifts, List.append_nil, List.nil_append, List.cons_append, List.all_cons, List.all_nil, Bool.and_self, List.getElem?_cons_zero, List.getElem?_cons_succ, Nat.reduceEqDiff, reduceCtorEq, ↓reduceIte, Nat.succ_ne_self, decide_true, Bool.not_true, bne_self_eq_false, Int.reduceAdd, V.cells, fillV, splice, storeV, rget, rset, V.scalar, Nat.reduceAdd, and_self, List.length_cons, List.length_nil, List.take_succ_cons, List.take_zero, List.drop_succ_cons, List.drop_zero, Nat.le_refl, Nat.zero_add, el_ref, ti_int, nn, Int.toNat_natCast, hlv, hsh, h26, hmk, hrep, h0T, hnn, Nat.zero_lt_succ, Nat.zero_add]
  refine fin _ (fun fr' L' g9 g10 q1 => ?_) _ _ (by omega) ?_ ?_ ?_ ?_ ?_ ?_ ?_
  · clear fin
    unfold brkR
    have hT := T3_lt (F := tabN l w d) (n := l.length) (j := 0) (by omega)
    have hinf' := hinf
    have fin2 := fun k hx => loop18c (H := H) (k := k) (w := w) (d := d) (R := bestD l w d) (ver := 1) (r := some (.tup [outAcc 1 (I1 (zs (bestD l w d))), .i 0])) he (by omega) hx l.length 0 []
    by_cases h1 : inf ≤ (tabN l w d 0).c
    · rw [if_pos h1]
      clear fin2
      simp (config := { maxSteps := 10000000 }) (disch := omega) only [↓G_seq, ↓G_ret, ↓G_region, ↓G_cond, ↓Gx_blk, ↓G_ops_nil, ↓G_op, Gv_some, Gc_true, dec_t, killAll, ↓get_setS, evalOp, ev, b_geq, one, Option.map_some, Option.bind_some, finish, resVs, resV, outVs, ownsLast, tupOf, V.shift, List.all_cons, List.all_nil, Bool.true_and, Bool.and_self, List.getElem?_cons_zero, List.getElem?_cons_succ, ↓reduceIte, Nat.succ_ne_self, Bool.false_eq_true, Int.reduceLE, pick3, addOff, loadV, Ab.rowAt, true_and, and_self, List.getD_cons_zero, Nat.add_zero, el_ref, ov_int, ov_nilsl, fn_some, ite_ov, g10, q1, hT, Nat.zero_lt_succ, Int.toNat_zero]
    · rw [if_neg h1]
      simp (config := { maxSteps := 10000000 }) (disch := omega) only [↓G_seq, ↓G_skip, ↓G_region, ↓G_block, ↓G_cond, ↓Gx_blk, ↓G_ops_nil, ↓G_op, Gv_some, Gc_false, dec_f, killAll, ↓get_setS, evalOp, ev, b_geq, one, Option.map_some, Option.bind_some, V.shift, Bool.true_and, Bool.and_self, List.getElem?_cons_zero, List.getElem?_cons_succ, ↓reduceIte, Bool.false_eq_true, Int.reduceLE, pick3, addOff, loadV, Ab.rowAt, true_and, and_self, List.getD_cons_zero, Nat.add_zero, el_ref, ite_ov, g10, q1, hT, Nat.zero_lt_succ, Int.toNat_zero]
      refine fin2 _ (fun fr'' L'' hacc => ?_) _ _ (by omega) (by omega) (fun _ => by omega) (by simp) (by simp [bestD]) ?_ ?_ ?_ q1 ?_
      · clear fin2
        have hp := I1_pure (zs (bestD l w d))
        have hacco := hacc.out (by omega) hp
        simp (config := { maxSteps := 10000000 }) (disch := omega) only [↓G_seq, ↓G_ret, ↓G_region, ↓Gx_blk, ↓G_ops_nil, ↓G_op, Gv_some, killAll, ↓get_setS, evalOp, ev, Option.map_some, Option.bind_some, finish, resVs, resV, outVs, ownsLast, tupOf, List.all_cons, List.all_nil, Bool.and_self, List.getElem?_cons_zero, List.getElem?_cons_succ, ↓reduceIte, Nat.succ_ne_self, and_self, ov_int, fn_some, hacco]
      all_goals clear fin2
      all_goals simp (config := { maxSteps := 10000000 }) (disch := omega) only [↓get_setS, List.getElem?_cons_zero, List.getElem?_cons_succ, Nat.reduceEqDiff, ↓reduceIte, Nat.succ_ne_self, Int.cast_ofNat_Int, g9, g10]
      all_goals exact Acc.nil
  all_goals clear fin
  all_goals simp (config := { maxSteps := 10000000 }) (disch := omega) only [↓get_setS, ↓get_setN, Ab.get, List.getElem?_cons_zero, List.getElem?_cons_succ, Nat.reduceEqDiff, reduceCtorEq, ↓reduceIte, Nat.succ_ne_self, rget]
  all_goals rfl

end Go.Proofs.Ytdgifbmimfnmlaa

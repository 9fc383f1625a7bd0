/-
  Page breaks: Break.
-/
import Derived.Test.YtgghbckhdchcaaaS33L
namespace Go.Proofs.Ytgghbckhdchcaaa
open Go Go.Ab
set_option linter.unusedVariables false
set_option linter.unnecessarySimpa false
set_option linter.unusedSimpArgs false
set_option maxRecDepth 100000
variable {H : List (List Row)}
open Path (Ch)

theorem c28 {v : V} {l : List Sy} {ph pt : Int} {F : Nat → Bool → Ch} {M : List Row} {ver i : Nat} {s : Bool} (he : errC l ph pt = 0) (hv : SlV 4 v (E4 l)) (hi : i < l.length) (hF : inT F l.length)
    (hM : rget M 2 = ⟨ver, 6, T6 F l.length⟩) (hver : 0 < ver) :
    call tbl 28 [.agg [.i ph, .i pt], v, .i (i : Nat), .i (sd s), .ref 1 2 ver 6 0 (l.length + 1)] (M :: H) = some (.agg [.i (scan l ph pt F i s (l.length - i) (i + 1) (init l)).c, .i ((scan l ph pt F i s (l.length - i) (i + 1) (init l)).p : Nat), .i ((scan l ph pt F i s (l.length - i) (i + 1) (init l)).x : Nat)]) := by
  refine (call_start (show tbl 28 = some a28 from rfl)).trans ?_
  have hlv := hv.len
  rw [E4_len] at hlv
  obtain ⟨ho, _⟩ := errC_ok he
  obtain ⟨z, hz⟩ : ∃ z, l[i]? = some z := ⟨_, List.getElem?_eq_getElem hi⟩
  have hE := hv.el (E4_get l i z hz)
  obtain ⟨bz1, bz2, bz3⟩ := errC_in he z (List.mem_of_getElem? hz)
  have fin := fun k r hx => loop28 (H := H) (k := k) (r := r) (s := s) he hv hi hF hM hver hx (l.length - i) (i + 1) (-z.g) (init l)
  have hh : -z.g + ((l[i + 1 - 1]?.getD z0).g + (l[i + 1 - 1]?.getD z0).h) = hgt (sl l i (i + 1)) := by
    rw [show i + 1 - 1 = i by omega, hz, Option.getD_some]
    obtain ⟨y, hy, hc⟩ := sl_cons (l := l) (a := i) (b := i + 1) (by omega) (by omega)
    rw [hz] at hy
    injection hy with hy
    subst hy
    rw [hc, sl_nil (Nat.le_refl _)]
    simp only [hgt, hsum]
    omega
  unfold a28
  simp (config := { maxSteps := 10000000 }) (disch := omega) only [↓G_seq, ↓G_region, ↓G_block, ↓G_ops_nil, ↓G_op, Gv_some, killAll, ↓get_setS, ↓get_setN, evalOp, ev, Ab.get, b_add, wrap_i64, one, Option.map_some, Option.bind_some, List.nil_append, List.cons_append, List.all_cons, List.all_nil, Bool.and_self, List.getElem?_cons_zero, List.getElem?_cons_succ, Nat.reduceEqDiff, ↓reduceIte, Nat.succ_ne_self, Bool.false_eq_true, Int.reduceAdd, pick3, V.cells, fillV, splice, addOff, loadV, storeV, rget, rset, V.scalar, Nat.reduceAdd, Nat.reduceLeDiff, and_self, List.length_cons, List.length_nil, List.take_succ_cons, List.take_zero, List.drop_succ_cons, List.drop_zero, Nat.le_refl, List.set_cons_zero, Nat.zero_add, hlv, hE, Nat.zero_lt_succ]
  refine fin _ (fun o => some (.agg [.i o.c, .i (o.p : Nat), .i (o.x : Nat)])) (fun fr' L' o g10 g11 q2 q3 => ?_) _ _ (by omega) (by omega) (fun _ => hh) (by omega) ⟨show (0 : Int) ≤ inf by decide, Int.le_refl _⟩ (by simp [init]; omega) ?_ ?_ ?_ ?_ ?_ ?_ ?_ ?_ ?_ ?_ ?_ ?_
  · clear fin
    simp (config := { maxSteps := 10000000 }) (disch := omega) only [↓G_seq, ↓G_ret, ↓G_region, ↓Gx_blk, ↓G_ops_nil, ↓G_op, Gv_some, killAll, ↓get_setS, ↓get_setN, evalOp, ev, rget_rset, one, Option.map_some, Option.bind_some, finish, resVs, resV, outVs, ownsLast, tupOf, V.shift, V.shifts, List.nil_append, List.cons_append, List.all_cons, List.all_nil, Bool.and_self, List.getElem?_cons_zero, List.getElem?_cons_succ, Nat.reduceEqDiff, ↓reduceIte, Int.reduceAdd, pick3, V.cells, splice, loadV, storeV, Ab.rowAt, V.scalar, V.pure, Nat.reduceAdd, and_self, List.length_cons, List.length_nil, List.take_succ_cons, List.take_zero, List.drop_succ_cons, List.drop_zero, Nat.le_refl, List.set_cons_zero, List.getD_cons_zero, Nat.zero_add, ov_agg, fn_some, g10, g11, q2, q3, Nat.zero_lt_succ]
  all_goals clear fin
  all_goals try simp (config := { maxSteps := 10000000 }) (disch := omega) only [↓get_setS, ↓get_setN, Ab.get, List.getElem?_cons_zero, List.getElem?_cons_succ, Nat.reduceEqDiff, ↓reduceIte, Nat.succ_ne_self, rget]
  all_goals first | rfl | (congr 1; omega)

theorem T6_set0 {F : Nat → Bool → Ch} {n i : Nat} {o : Ch} (hi : i ≤ n) : (T6 F n).set i [.i o.c, .i (o.p : Nat), .i (o.x : Nat), .i (F i false).c, .i ((F i false).p : Nat), .i ((F i false).x : Nat)] = T6 (upd F i true o) n := by
  apply List.ext_getElem?
  intro j
  rw [List.getElem?_set, T6_len]
  by_cases h : i = j
  · subst h
    rw [if_pos rfl, if_pos (by omega), T6_get hi]
    simp [upd]
  · rw [if_neg h]
    by_cases hj : j ≤ n
    · rw [T6_get hj, T6_get hj]
      simp [upd, show ¬ j = i from fun e => h e.symm]
    · rw [List.getElem?_eq_none (by rw [T6_len]; omega), List.getElem?_eq_none (by rw [T6_len]; omega)]
theorem T6_set1 {F : Nat → Bool → Ch} {n i : Nat} {o : Ch} (hi : i ≤ n) : (T6 F n).set i [.i (F i true).c, .i ((F i true).p : Nat), .i ((F i true).x : Nat), .i o.c, .i (o.p : Nat), .i (o.x : Nat)] = T6 (upd F i false o) n := by
  apply List.ext_getElem?
  intro j
  rw [List.getElem?_set, T6_len]
  by_cases h : i = j
  · subst h
    rw [if_pos rfl, if_pos (by omega), T6_get hi]
    simp [upd]
  · rw [if_neg h]
    by_cases hj : j ≤ n
    · rw [T6_get hj, T6_get hj]
      simp [upd, show ¬ j = i from fun e => h e.symm]
    · rw [List.getElem?_eq_none (by rw [T6_len]; omega), List.getElem?_eq_none (by rw [T6_len]; omega)]


/-- Both sides of a system. -/
theorem loop14b {k : List KI} {v : V} {l : List Sy} {ph pt : Int} {ver i m : Nat} {r : Option V} {L : List Row} {fr : List V} (he : errC l ph pt = 0) (hv : SlV 4 v (E4 l)) (hi : i = l.length - m - 1) (hm : m < l.length) (hver : 0 < ver)
    (h0 : Ab.get fr 0 = v) (h3 : Ab.get fr 3 = .ptr 0 1 1 0 0) (h7 : Ab.get fr 7 = .i (l.length : Nat)) (h8 : Ab.get fr 8 = .ref 0 2 ver 6 0 (l.length + 1)) (h9 : Ab.get fr 9 = .i (i : Nat)) (h31 : Ab.get fr 31 = .i 0)
    (r1 : rget L 1 = ⟨1, 2, [[.i ph, .i pt]]⟩) (r2 : rget L 2 = ⟨ver, 6, T6 (tab l ph pt m) l.length⟩)
    (hx : ∀ fr' L', Ab.get fr' 0 = v → Ab.get fr' 3 = .ptr 0 1 1 0 0 → Ab.get fr' 7 = .i (l.length : Nat) → Ab.get fr' 8 = .ref 0 2 ver 6 0 (l.length + 1) → Ab.get fr' 9 = .i (i : Nat) → rget L' 1 = ⟨1, 2, [[.i ph, .i pt]]⟩ → rget L' 2 = ⟨ver, 6, T6 (tab l ph pt (m + 1)) l.length⟩ → Gx tbl H [.tmp 4, .tmp 5] 2 k fr' L' = r) :
    G tbl H [.tmp 4, .tmp 5] (.code (.loop ( (.seq ( .region [] [ ⟨some 32, .bin .lss (.t 31) (.c (.int .i64 2)), none⟩]) ( (.seq ( (.cond (.t 32) ( .skip) ( .exit 2))) ( (.seq ( (.block 3 ( (.seq ( .region [] [ ⟨some 33, .mv (.t 31), none⟩, ⟨some 10, .mv (.t 33), none⟩]) ( .region [] [ ⟨some 34, .mv (.t 8), none⟩, ⟨some 35, .mv (.t 9), none⟩, ⟨some 36, .mv (.t 10), none⟩, ⟨some 37, .load true 2 (.t 3), none⟩, ⟨some 38, .mv (.t 0), none⟩, ⟨some 39, .mv (.t 9), none⟩, ⟨some 40, .mv (.t 10), none⟩, ⟨some 41, .mv (.t 8), none⟩, ⟨some 42, .call 0 (.c (.fn 28 [])) [(.t 37), (.t 38), (.t 39), (.t 40), (.t 41)], none⟩, ⟨some 43, .elemAddr 6 (.t 34) (.t 35), none⟩, ⟨some 44, .arrAddr 2 3 (.t 43) (.t 36), none⟩, ⟨none, .store 3 (.t 44) (.t 42), none⟩]))))) ( .region [] [ ⟨some 45, .bin .add (.t 31) (.c (.int .i64 1)), none⟩, ⟨some 31, .mv (.t 45), none⟩])))))))) :: k) fr L = r := by
  have hin := tab_in (ph := ph) (pt := pt) he m (by omega)
  have hsh := hv.sh
  have h28 := fun (M : List Row) (H : List (List Row)) => c28 (H := H) (M := M) (F := tab l ph pt m) (i := i) (s := true) (ver := ver) he hv (by omega) hin
  have hT := T6_get (F := tab l ph pt m) (n := l.length) (j := i) (by omega)
  rw [show l.length - i = m + 1 by omega, show i + 1 = l.length - m by omega] at h28
  generalize ho : scan l ph pt (tab l ph pt m) i true (m + 1) (l.length - m) (init l) = o at *
  have hset := T6_set0 (F := tab l ph pt m) (o := o) (show i ≤ l.length by omega)
  have hin2 : inT (upd (tab l ph pt m) i true o) l.length := by
    intro j s hj
    unfold upd
    split
    · rename_i h
      rw [h.1, ← ho]
      exact scan_in he hin (m + 1) (l.length - m) (init l) (by omega) (by omega) ⟨show (0 : Int) ≤ inf by decide, Int.le_refl _, by simp [init]; omega, by simp [init]⟩
    · exact hin j s hj
  have h28' := fun (M : List Row) (H : List (List Row)) => c28 (H := H) (M := M) (F := upd (tab l ph pt m) i true o) (i := i) (s := false) (ver := ver) he hv (by omega) hin2
  have hcg : scan l ph pt (upd (tab l ph pt m) i true o) i false (m + 1) (l.length - m) (init l) = scan l ph pt (tab l ph pt m) i false (m + 1) (l.length - m) (init l) := scan_congr _ _ _ (fun j' a => by unfold upd; rw [if_neg (by omega)])
  simp only [show l.length - i = m + 1 by omega, show i + 1 = l.length - m by omega, hcg] at h28'
  generalize ho' : scan l ph pt (tab l ph pt m) i false (m + 1) (l.length - m) (init l) = o' at *
  have hT' := T6_get (F := upd (tab l ph pt m) i true o) (n := l.length) (j := i) (by omega)
  have hset' := T6_set1 (F := upd (tab l ph pt m) i true o) (o := o') (show i ≤ l.length by omega)
  have htab : upd (upd (tab l ph pt m) i true o) i false o' = tab l ph pt (m + 1) := by
    conv => rhs; unfold tab
    rw [← hi, ho, ho']
  rw [htab] at hset'
  have hob : upd (tab l ph pt m) i true o i true = o := by simp [upd]
  have hobf : upd (tab l ph pt m) i true o i false = tab l ph pt m i false := by simp [upd]
  simp only [hob, hobf] at hT' hset'
  obtain ⟨hml, _⟩ := errC_ok he
  have hil : (i : Int) < ((l.length + 1 : Nat) : Int) := by omega
  generalize T6 (upd (tab l ph pt m) i true o) l.length = T1 at *
  generalize T6 (tab l ph pt (m + 1)) l.length = T2 at *
  generalize T6 (tab l ph pt m) l.length = T0 at *
  have e28 := fun H => h28 L H r2 hver
  have e28' := fun H => h28' (rset L 2 ⟨ver, 6, T1⟩) H (by rw [rget_rset, if_pos rfl]) hver
  simp only [sd, if_true, Bool.false_eq_true, if_false] at e28 e28'
  clear h28 h28' hin hin2 htab hv ho ho' hob hobf
  refine G_loop.trans ?_
  simp (config := { maxSteps := 10000000 }) (disch := omega) only [↓G_seq, ↓G_skip, ↓G_blk, ↓G_region, ↓G_block, ↓G_cond, ↓G_ops_nil, ↓G_op, Gv_some, Gc_true, killAll, ↓get_setS, ↓get_setN, evalOp, ev, evs, b_add, b_lss, wrap_i64, one, Option.map_some, Option.bind_some, callV, V.shift, V.shifts, List.append_nil, List.nil_append, List.cons_append, List.all_cons, List.all_nil, Bool.and_true, Bool.true_and, Bool.and_self, List.getElem?_cons_zero, List.getElem?_cons_succ, Nat.reduceEqDiff, reduceCtorEq, ↓reduceIte, Nat.succ_ne_self, decide_true, bne_self_eq_false, Int.reduceAdd, Int.reduceLT, Int.reduceLE, pick3, V.cells, splice, arrV, loadV, storeV, Ab.rowAt, V.scalar, Int.reduceToNat, Nat.reduceAdd, Nat.reduceLT, Nat.reduceLeDiff, and_true, true_and, and_self, List.length_cons, List.length_nil, List.take_succ_cons, List.take_zero, List.drop_succ_cons, List.drop_zero, Nat.le_refl, List.getD_cons_zero, Int.cast_ofNat_Int, Nat.zero_add, Nat.add_zero, Nat.zero_mul, el_ref, ti_agg, nn, ite_ov, Int.toNat_natCast, h0, h3, h8, h9, h31, r1, r2, hT, hset, hsh, hil, e28, Nat.zero_lt_succ, Nat.zero_add]
  refine G_loop.trans ?_
  simp (config := { maxSteps := 10000000 }) (disch := omega) only [↓G_seq, ↓G_skip, ↓G_blk, ↓G_region, ↓G_block, ↓G_cond, ↓G_ops_nil, ↓G_op, Gv_some, Gc_true, killAll, ↓get_setS, ↓get_setN, evalOp, ev, evs, rget_rset, b_add, b_lss, wrap_i64, one, Option.map_some, Option.bind_some, callV, V.shift, V.shifts, List.append_nil, List.nil_append, List.cons_append, List.all_cons, List.all_nil, Bool.and_true, Bool.true_and, Bool.and_self, List.getElem?_cons_zero, List.getElem?_cons_succ, Nat.reduceEqDiff, reduceCtorEq, ↓reduceIte, Nat.succ_ne_self, decide_true, bne_self_eq_false, Int.reduceAdd, Int.reduceLT, Int.reduceLE, pick3, V.cells, splice, arrV, loadV, storeV, Ab.rowAt, V.scalar, Int.reduceToNat, Nat.reduceAdd, Nat.reduceLT, and_true, true_and, and_self, List.length_cons, List.length_nil, List.take_succ_cons, List.take_zero, List.drop_succ_cons, List.drop_zero, Nat.le_refl, List.getD_cons_zero, Int.cast_ofNat_Int, Nat.zero_add, Nat.one_mul, el_ref, ti_agg, nn, ite_ov, Int.toNat_natCast, h0, h3, h8, h9, r1, hT', hset', hsh, hil, e28', rset_rset, Nat.zero_lt_succ, Nat.zero_add]
  refine G_loop.trans ?_
  simp (config := { maxSteps := 10000000 }) (disch := omega) only [↓G_seq, ↓G_exit, ↓G_region, ↓G_cond, ↓Gx_code, ↓G_ops_nil, ↓G_op, Gv_some, Gc_false, killAll, ↓get_setS, evalOp, ev, b_lss, one, Option.map_some, List.getElem?_cons_zero, List.getElem?_cons_succ, ↓reduceIte, decide_false, Int.reduceLT, Nat.reduceLT]
  refine hx _ _ ?_ ?_ ?_ ?_ ?_ ?_ ?_
  all_goals simp (config := { maxSteps := 10000000 }) (disch := omega) only [↓get_setS, ↓get_setN, rget_rset, List.getElem?_cons_zero, List.getElem?_cons_succ, Nat.reduceEqDiff, reduceCtorEq, ↓reduceIte, Nat.succ_ne_self, h0, h3, h7, h8, h9, r1]

theorem loop14a {k : List KI} {v : V} {l : List Sy} {ph pt : Int} {ver : Nat} {r : Option V} (he : errC l ph pt = 0) (hv : SlV 4 v (E4 l)) (hver : 0 < ver)
    (hx : ∀ fr' L', Ab.get fr' 0 = v → Ab.get fr' 3 = .ptr 0 1 1 0 0 → Ab.get fr' 7 = .i (l.length : Nat) → Ab.get fr' 8 = .ref 0 2 ver 6 0 (l.length + 1) → rget L' 1 = ⟨1, 2, [[.i ph, .i pt]]⟩ → rget L' 2 = ⟨ver, 6, T6 (tabN l ph pt) l.length⟩ → Gx tbl H [.tmp 4, .tmp 5] 0 k fr' L' = r) :
    ∀ (q m : Nat) (fr : List V) (L : List Row), m + q = l.length → Ab.get fr 0 = v → Ab.get fr 3 = .ptr 0 1 1 0 0 → Ab.get fr 7 = .i (l.length : Nat) → Ab.get fr 8 = .ref 0 2 ver 6 0 (l.length + 1) → Ab.get fr 9 = .i ((q : Nat) - 1 : Int) → rget L 1 = ⟨1, 2, [[.i ph, .i pt]]⟩ → rget L 2 = ⟨ver, 6, T6 (tab l ph pt m) l.length⟩ →
      G tbl H [.tmp 4, .tmp 5] (.code (.loop ( (.seq ( (.seq ( .region [] [ ⟨some 27, .mv (.t 9), none⟩, ⟨some 28, .bin .geq (.t 27) (.c (.int .i64 0)), none⟩]) ( (.cond (.t 28) ( .skip) ( .exit 0))))) ( (.seq ( (.block 1 ( (.seq ( .region [] [ ⟨some 31, .mv (.c (.int .i64 0)), none⟩]) ( (.block 2 ( (.loop ( (.seq ( .region [] [ ⟨some 32, .bin .lss (.t 31) (.c (.int .i64 2)), none⟩]) ( (.seq ( (.cond (.t 32) ( .skip) ( .exit 2))) ( (.seq ( (.block 3 ( (.seq ( .region [] [ ⟨some 33, .mv (.t 31), none⟩, ⟨some 10, .mv (.t 33), none⟩]) ( .region [] [ ⟨some 34, .mv (.t 8), none⟩, ⟨some 35, .mv (.t 9), none⟩, ⟨some 36, .mv (.t 10), none⟩, ⟨some 37, .load true 2 (.t 3), none⟩, ⟨some 38, .mv (.t 0), none⟩, ⟨some 39, .mv (.t 9), none⟩, ⟨some 40, .mv (.t 10), none⟩, ⟨some 41, .mv (.t 8), none⟩, ⟨some 42, .call 0 (.c (.fn 28 [])) [(.t 37), (.t 38), (.t 39), (.t 40), (.t 41)], none⟩, ⟨some 43, .elemAddr 6 (.t 34) (.t 35), none⟩, ⟨some 44, .arrAddr 2 3 (.t 43) (.t 36), none⟩, ⟨none, .store 3 (.t 44) (.t 42), none⟩]))))) ( .region [] [ ⟨some 45, .bin .add (.t 31) (.c (.int .i64 1)), none⟩, ⟨some 31, .mv (.t 45), none⟩]))))))))))))))) ( .region [] [ ⟨some 29, .mv (.t 9), none⟩, ⟨some 30, .bin .sub (.t 29) (.c (.int .i64 1)), none⟩, ⟨some 9, .mv (.t 30), none⟩])))))) :: k) fr L = r := by
  intro q
  obtain ⟨hml, _⟩ := errC_ok he
  induction q with
  | zero =>
    intro m fr L hm h0 h3 h7 h8 h9 r1 r2
    obtain rfl : m = l.length := by omega
    refine G_loop.trans ?_
    simp (config := { maxSteps := 10000000 }) (disch := omega) only [↓G_seq, ↓G_exit, ↓G_region, ↓G_cond, ↓Gx_code, ↓G_ops_nil, ↓G_op, Gv_some, Gc_false, killAll, ↓get_setS, evalOp, ev, b_geq, one, Option.map_some, List.getElem?_cons_zero, List.getElem?_cons_succ, ↓reduceIte, decide_false, Int.reduceNeg, Int.reduceSub, Int.reduceLE, Nat.reduceSub, Int.cast_ofNat_Int, h9]
    refine hx _ _ ?_ ?_ ?_ ?_ r1 r2
    all_goals simp (config := { maxSteps := 10000000 }) (disch := omega) only [↓get_setS, List.getElem?_cons_zero, List.getElem?_cons_succ, Nat.reduceEqDiff, reduceCtorEq, ↓reduceIte, h0, h3, h7, h8]
  | succ q ih =>
    intro m fr L hm h0 h3 h7 h8 h9 r1 r2
    have hq : ((q + 1 : Nat) : Int) - 1 = (q : Nat) := by omega
    rw [hq] at h9
    refine G_loop.trans ?_
    simp (config := { maxSteps := 10000000 }) (disch := omega) only [↓G_seq, ↓G_skip, ↓G_region, ↓G_block, ↓G_cond, ↓G_ops_nil, ↓G_op, Gv_some, Gc_true, killAll, ↓get_setS, evalOp, ev, b_geq, one, Option.map_some, List.getElem?_cons_zero, List.getElem?_cons_succ, ↓reduceIte, decide_true, nn, h9]
    refine loop14b (i := q) (m := m) he hv (by omega) (by omega) hver ?_ ?_ ?_ ?_ ?_ ?_ r1 r2 (fun fr' L' g0 g3 g7 g8 g9 q1 q2 => ?_)
    · simp (config := { maxSteps := 10000000 }) (disch := omega) only [↓get_setS, List.getElem?_cons_zero, List.getElem?_cons_succ, reduceCtorEq, ↓reduceIte, h0]
    · simp (config := { maxSteps := 10000000 }) (disch := omega) only [↓get_setS, List.getElem?_cons_zero, List.getElem?_cons_succ, Nat.reduceEqDiff, ↓reduceIte, h3]
    · simp (config := { maxSteps := 10000000 }) (disch := omega) only [↓get_setS, List.getElem?_cons_zero, List.getElem?_cons_succ, Nat.reduceEqDiff, ↓reduceIte, h7]
    · simp (config := { maxSteps := 10000000 }) (disch := omega) only [↓get_setS, List.getElem?_cons_zero, List.getElem?_cons_succ, Nat.reduceEqDiff, ↓reduceIte, h8]
    · simp (config := { maxSteps := 10000000 }) (disch := omega) only [↓get_setS, List.getElem?_cons_zero, List.getElem?_cons_succ, Nat.reduceEqDiff, ↓reduceIte, h9]
    · simp (config := { maxSteps := 10000000 }) (disch := omega) only [↓get_setS, List.getElem?_cons_zero, List.getElem?_cons_succ, ↓reduceIte]
    · simp (config := { maxSteps := 10000000 }) (disch := omega) only [↓G_blk, ↓G_region, ↓Gx_blk, ↓G_ops_nil, ↓G_op, Gv_some, killAll, ↓get_setS, evalOp, ev, b_sub, wrap_i64, one, Option.map_some, List.getElem?_cons_zero, List.getElem?_cons_succ, ↓reduceIte, g9]
      refine ih (m + 1) _ _ (by omega) ?_ ?_ ?_ ?_ ?_ q1 q2
      all_goals simp (config := { maxSteps := 10000000 }) (disch := omega) only [↓get_setS, List.getElem?_cons_zero, List.getElem?_cons_succ, Nat.reduceEqDiff, reduceCtorEq, ↓reduceIte, Nat.succ_ne_self, g0, g3, g7, g8]

theorem loop14c {k : List KI} {l : List Sy} {ph pt : Int} {ver : Nat} {r : Option V} {R : List Nat} (he : errC l ph pt = 0) (hver : 0 < ver)
    (hx : ∀ fr' L', Acc 3 1 L' (Ab.get fr' 11) (I1 (zs R)) → Gx tbl H [.tmp 4, .tmp 5] 4 k fr' L' = r) :
    ∀ (q i : Nat) (s : Bool) (acc : List Nat) (fr : List V) (L : List Row), l.length - i ≤ q → i ≤ l.length → (i < l.length → (tabN l ph pt i s).c < inf) → acc.length ≤ i → R = acc ++ Path.path (tabN l ph pt) l.length q i s →
      Ab.get fr 7 = .i (l.length : Nat) → Ab.get fr 8 = .ref 0 2 ver 6 0 (l.length + 1) → Ab.get fr 12 = .i (i : Nat) → Ab.get fr 13 = .i (sd s) → rget L 2 = ⟨ver, 6, T6 (tabN l ph pt) l.length⟩ → Acc 3 1 L (Ab.get fr 11) (I1 (zs acc)) →
      G tbl H [.tmp 4, .tmp 5] (.code (.loop ( (.seq ( (.seq ( .region [] [ ⟨some 46, .mv (.t 12), none⟩, ⟨some 47, .mv (.t 7), none⟩, ⟨some 48, .bin .lss (.t 46) (.t 47), none⟩]) ( (.cond (.t 48) ( .skip) ( .exit 4))))) ( (.seq ( (.block 5 ( (.seq ( (.seq ( .region [] [ ⟨some 51, .mv (.t 8), none⟩, ⟨some 52, .mv (.t 12), none⟩, ⟨some 53, .mv (.t 13), none⟩, ⟨some 54, .elemAddr 6 (.t 51) (.t 52), none⟩, ⟨some 55, .arrAddr 2 3 (.t 54) (.t 53), none⟩, ⟨some 56, .fieldAddr 0 (.t 55), none⟩, ⟨some 57, .load false 1 (.t 56), none⟩, ⟨some 58, .bin .geq (.t 57) (.c (.int .i64 1125899906842624)), none⟩]) ( (.cond (.t 58) ( (.seq ( .region [] [ ⟨some 4, .mv (.c .nilsl), none⟩, ⟨some 5, .mv (.c (.int .i64 28)), none⟩]) ( .ret))) ( .skip))))) ( (.seq ( .region [] [ ⟨some 59, .mv (.t 11), none⟩, ⟨some 60, .mv (.t 12), none⟩, ⟨some 61, .lit 1 [(.int .i64 0)] 1 [(0, 1, (.t 60))], none⟩, ⟨some 62, .app 3 1 8 (.t 59) (.t 61), none⟩, ⟨some 11, .mv (.t 62), none⟩]) ( .region [] [ ⟨some 63, .mv (.t 8), none⟩, ⟨some 64, .mv (.t 12), none⟩, ⟨some 65, .mv (.t 13), none⟩, ⟨some 66, .elemAddr 6 (.t 63) (.t 64), none⟩, ⟨some 67, .arrAddr 2 3 (.t 66) (.t 65), none⟩, ⟨some 68, .fieldAddr 2 (.t 67), none⟩, ⟨some 69, .load false 1 (.t 68), none⟩, ⟨some 12, .mv (.t 69), none⟩]))))))) ( .region [] [ ⟨some 49, .mv (.t 13), none⟩, ⟨some 50, .bin .sub (.c (.int .i64 1)) (.t 49), none⟩, ⟨some 13, .mv (.t 50), none⟩])))))) :: k) fr L = r := by
  intro q
  obtain ⟨hml, _⟩ := errC_ok he
  have done : ∀ (i : Nat) (acc : List Nat) (fr : List V) (L : List Row), l.length ≤ i → i ≤ l.length → R = acc → Ab.get fr 7 = .i (l.length : Nat) → Ab.get fr 12 = .i (i : Nat) → Acc 3 1 L (Ab.get fr 11) (I1 (zs acc)) → G tbl H [.tmp 4, .tmp 5] (.code (.loop ( (.seq ( (.seq ( .region [] [ ⟨some 46, .mv (.t 12), none⟩, ⟨some 47, .mv (.t 7), none⟩, ⟨some 48, .bin .lss (.t 46) (.t 47), none⟩]) ( (.cond (.t 48) ( .skip) ( .exit 4))))) ( (.seq ( (.block 5 ( (.seq ( (.seq ( .region [] [ ⟨some 51, .mv (.t 8), none⟩, ⟨some 52, .mv (.t 12), none⟩, ⟨some 53, .mv (.t 13), none⟩, ⟨some 54, .elemAddr 6 (.t 51) (.t 52), none⟩, ⟨some 55, .arrAddr 2 3 (.t 54) (.t 53), none⟩, ⟨some 56, .fieldAddr 0 (.t 55), none⟩, ⟨some 57, .load false 1 (.t 56), none⟩, ⟨some 58, .bin .geq (.t 57) (.c (.int .i64 1125899906842624)), none⟩]) ( (.cond (.t 58) ( (.seq ( .region [] [ ⟨some 4, .mv (.c .nilsl), none⟩, ⟨some 5, .mv (.c (.int .i64 28)), none⟩]) ( .ret))) ( .skip))))) ( (.seq ( .region [] [ ⟨some 59, .mv (.t 11), none⟩, ⟨some 60, .mv (.t 12), none⟩, ⟨some 61, .lit 1 [(.int .i64 0)] 1 [(0, 1, (.t 60))], none⟩, ⟨some 62, .app 3 1 8 (.t 59) (.t 61), none⟩, ⟨some 11, .mv (.t 62), none⟩]) ( .region [] [ ⟨some 63, .mv (.t 8), none⟩, ⟨some 64, .mv (.t 12), none⟩, ⟨some 65, .mv (.t 13), none⟩, ⟨some 66, .elemAddr 6 (.t 63) (.t 64), none⟩, ⟨some 67, .arrAddr 2 3 (.t 66) (.t 65), none⟩, ⟨some 68, .fieldAddr 2 (.t 67), none⟩, ⟨some 69, .load false 1 (.t 68), none⟩, ⟨some 12, .mv (.t 69), none⟩]))))))) ( .region [] [ ⟨some 49, .mv (.t 13), none⟩, ⟨some 50, .bin .sub (.c (.int .i64 1)) (.t 49), none⟩, ⟨some 13, .mv (.t 50), none⟩])))))) :: k) fr L = r := by
    intro i acc fr L hi hi2 hR h7 h12 h11
    subst hR
    refine G_loop.trans ?_
    simp (config := { maxSteps := 10000000 }) (disch := omega) only [↓G_seq, ↓G_exit, ↓G_region, ↓G_cond, ↓Gx_code, ↓G_ops_nil, ↓G_op, Gv_some, Gc_false, dec_f, killAll, ↓get_setS, evalOp, ev, b_lss, one, Option.map_some, List.getElem?_cons_zero, List.getElem?_cons_succ, Nat.reduceEqDiff, ↓reduceIte, Nat.succ_ne_self, h7, h12]
    refine hx _ _ ?_
    simp (config := { maxSteps := 10000000 }) (disch := omega) only [↓get_setS, List.getElem?_cons_zero, List.getElem?_cons_succ, Nat.reduceEqDiff, ↓reduceIte]
    exact h11
  induction q with
  | zero =>
    intro i s acc fr L hq hi hc hal hR h7 h8 h12 h13 r2 h11
    exact done i acc fr L (by omega) hi (by rw [hR]; simp [Path.path]) h7 h12 h11
  | succ q ih =>
    intro i s acc fr L hq hi hc hal hR h7 h8 h12 h13 r2 h11
    rcases Nat.lt_or_ge i l.length with hil | hil
    case inr =>
      exact done i acc fr L hil hi (by rw [hR, Path.path_end hil]; simp) h7 h12 h11
    clear done
    have hc := hc hil
    have hsp := tabN_spec he i hil s
    have hin := tab_in (ph := ph) (pt := pt) he l.length (Nat.le_refl _)
    rcases hsp with ⟨z, _⟩ | ⟨_, x1, x2, x3, _, _⟩
    · omega
    have hT := T6_get (F := tabN l ph pt) (n := l.length) (j := i) (by omega)
    rw [Path.path, if_pos hil] at hR
    have hxc : (tabN l ph pt i s).x < l.length → (tabN l ph pt (tabN l ph pt i s).x (!s)).c < inf := by
      intro _
      have h1 := cst_pos he i (tabN l ph pt i s).x s (decide ((tabN l ph pt i s).x = l.length))
      simp only [Path.cand, cstF] at x3
      omega
    have hpos := (hin i s (by omega)).1
    change 0 ≤ (tabN l ph pt i s).c at hpos
    have nx := fun fr' L' => ih (tabN l ph pt i s).x (!s) (acc ++ [i]) fr' L' (by omega) x2 hxc (by simp; omega) (by rw [hR]; simp)
    generalize hv11 : Ab.get fr 11 = v11 at *
    have hap := acc_app (H := H) (bytes := 8) (y := .sl .full 1 [[.i (i : Nat)]]) (new := [[.i (i : Nat)]]) h11 rfl (by simp) (by omega) (by rw [I1_len, zs_len]; simp; omega) (by simp [V.scalar])
    have hz : I1 (zs acc) ++ [[V.i (i : Nat)]] = I1 (zs (acc ++ [i])) := by simp [I1, zs]
    rw [hz] at hap
    obtain ⟨hap1, hap2⟩ := hap
    have hinf' := hinf
    clear ih hx h11 hR hxc hin x3
    refine G_loop.trans ?_
    cases s
    all_goals
      simp only [sd, Bool.not_false, Bool.not_true, if_true, if_false, Bool.false_eq_true] at *
      simp (config := { maxSteps := 10000000 }) (disch := omega) only [↓G_seq, ↓G_skip, ↓G_blk, ↓G_region, ↓G_block, ↓G_cond, ↓G_ops_nil, ↓G_op, Gv_some, Gc_true, Gc_false, dec_t, dec_f, killAll, ↓get_setS, evalOp, ev, rget_rset, b_sub, b_lss, b_geq, wrap_i64, one, Option.map_some, Option.bind_some, V.shift, List.append_nil, List.nil_append, List.all_cons, List.all_nil, Bool.true_and, Bool.and_self, List.getElem?_cons_zero, List.getElem?_cons_succ, Nat.reduceEqDiff, ↓reduceIte, Nat.succ_ne_self, Bool.false_eq_true, Int.reduceAdd, Int.reduceSub, Int.reduceLT, Int.reduceLE, pick3, V.cells, fillV, splice, chop, arrV, addOff, loadV, Ab.rowAt, V.scalar, V.pure, Int.reduceToNat, Nat.reduceAdd, Nat.reduceSub, Nat.reduceLT, true_and, and_self, List.length_cons, List.length_nil, List.take_succ_cons, List.take_zero, List.drop_succ_cons, List.drop_zero, Nat.le_refl, List.getD_cons_zero, List.replicate, List.flatten_cons, List.flatten_nil, Int.cast_ofNat_Int, Nat.zero_add, Nat.add_zero, Nat.zero_mul, Nat.one_mul, el_ref, nn, ite_ov, Int.toNat_natCast, h7, h8, h12, h13, r2, hT, hv11, hap1, Nat.zero_lt_succ, Nat.zero_add]
      refine nx _ _ ?_ ?_ ?_ ?_ ?_ ?_
      all_goals simp (config := { maxSteps := 10000000 }) (disch := omega) only [↓get_setS, rget_rset, List.getElem?_cons_zero, List.getElem?_cons_succ, Nat.reduceEqDiff, ↓reduceIte, Nat.succ_ne_self, h7, h8, r2]
      all_goals try exact hap2

theorem mks14 {L : List Row} {n : Nat} (hn : n ≤ 1024) : mksV L 2 6 [V.int .i64 0, .int .i64 0, .int .i64 0, .int .i64 0, .int .i64 0, .int .i64 0] 48 (.int .i64 ((n : Nat) + 1 : Int)) (.int .i64 ((n : Nat) + 1 : Int)) = some (.ref 0 2 ((rget L 2).ver + 1) 6 0 (n + 1), rset L 2 ⟨(rget L 2).ver + 1, 6, T6 (fun _ _ => ⟨0, 0, 0⟩) n⟩) := by
  have h : List.replicate (n + 1) [V.int .i64 0, .int .i64 0, .int .i64 0, .int .i64 0, .int .i64 0, .int .i64 0] = T6 (fun _ _ => ⟨0, 0, 0⟩) n := by
    apply List.ext_getElem?
    intro j
    by_cases hj : j ≤ n
    · rw [T6_get hj, List.getElem?_replicate, if_pos (by omega)]
      rfl
    · rw [List.getElem?_eq_none (by simp; omega), List.getElem?_eq_none (by rw [T6_len]; omega)]
  simp only [mksV]
  rw [if_pos ⟨by omega, by omega, by omega, by omega, rfl, rfl⟩, show ((n : Nat) + 1 : Int).toNat = n + 1 by omega, h]

/-- What Break returns. -/
def brkR (l : List Sy) (ph pt : Int) : V :=
  if l.length = 0 then .tup [.nilsl, .i 0] else if inf ≤ (tabN l ph pt 0 true).c then .tup [.nilsl, .i 28] else .tup [outAcc 1 (I1 (zs (bestD l ph pt))), .i 0]

theorem c14e {v : V} {l : List Sy} {ph pt : Int} (hm : l.length ≤ 9223372036854775807) (he : errC l ph pt ≠ 0) (hv : SlV 4 v (E4 l)) : call tbl 14 [v, .agg [.i ph, .i pt]] H = some (.tup [.nilsl, .i (errC l ph pt)]) := by
  refine (call_start (show tbl 14 = some a14 from rfl)).trans ?_
  have h12 := fun H => c12 (H := H) (ph := ph) (pt := pt) hm hv
  have hsh := hv.sh
  generalize errC l ph pt = e at *
  unfold a14
  simp (config := { maxSteps := 10000000 }) (disch := omega) only [↓G_seq, ↓G_ret, ↓G_region, ↓G_cond, ↓G_ops_nil, ↓G_op, Gv_some, Gc_true, dec_f, killAll, ↓get_setS, evalOp, ev, evs, Ab.get, b_neq, one, Option.map_some, Option.bind_some, finish, resVs, resV, outVs, ownsLast, tupOf, callV, V.shift, V.shifts, List.append_nil, List.all_cons, List.all_nil, Bool.and_self, List.getElem?_cons_zero, List.getElem?_cons_succ, Nat.reduceEqDiff, reduceCtorEq, ↓reduceIte, Nat.succ_ne_self, Bool.not_false, bne_self_eq_false, Int.reduceAdd, pick3, V.cells, loadV, Ab.rowAt, rget, rset, V.scalar, Nat.reduceAdd, and_self, List.length_cons, List.length_nil, List.take_succ_cons, List.take_zero, List.drop_zero, Nat.le_refl, List.getD_cons_zero, Nat.zero_add, ti_int, ov_int, ov_nilsl, fn_some, hsh, h12, Nat.zero_lt_succ]

theorem c14 {v : V} {l : List Sy} {ph pt : Int} (hm : l.length ≤ 9223372036854775807) (he : errC l ph pt = 0) (hv : SlV 4 v (E4 l)) : call tbl 14 [v, .agg [.i ph, .i pt]] H = some (brkR l ph pt) := by
  refine (call_start (show tbl 14 = some a14 from rfl)).trans ?_
  have hlv := hv.len
  rw [E4_len] at hlv
  have h12 := fun H => c12 (H := H) (ph := ph) (pt := pt) hm hv
  simp only [he] at h12
  have hsh := hv.sh
  obtain ⟨hml, _⟩ := errC_ok he
  have hmk := fun L => mks14 (L := L) hml
  have hin := tab_in (ph := ph) (pt := pt) he l.length (Nat.le_refl _) 0 true (Nat.zero_le _)
  change 0 ≤ (tabN l ph pt 0 true).c ∧ (tabN l ph pt 0 true).c ≤ inf ∧ _ at hin
  unfold a14
  simp (config := { maxSteps := 10000000 }) (disch := omega) only [↓G_seq, ↓G_skip, ↓G_region, ↓G_block, ↓G_cond, ↓G_ops_nil, ↓G_op, Gv_some, Gc_false, killAll, ↓get_setS, evalOp, ev, evs, Ab.get, b_add, b_sub, b_neq, wrap_i64, one, Option.map_some, Option.bind_some, callV, V.shift, V.shifts, List.append_nil, List.all_cons, List.all_nil, Bool.and_self, List.getElem?_cons_zero, List.getElem?_cons_succ, Nat.reduceEqDiff, reduceCtorEq, ↓reduceIte, Nat.succ_ne_self, decide_true, Bool.not_true, bne_self_eq_false, Int.reduceAdd, pick3, V.cells, loadV, Ab.rowAt, rget, rset, V.scalar, Nat.reduceAdd, and_self, List.length_cons, List.length_nil, List.take_succ_cons, List.take_zero, List.drop_zero, Nat.le_refl, List.getD_cons_zero, Nat.zero_add, ti_int, hlv, hsh, h12, hmk, Nat.zero_lt_succ]
  refine loop14a (ver := 1) he hv (by omega) (fun fr' L' g0 g3 g7 g8 q1 q2 => ?_) l.length 0 _ _ (by omega) ?_ ?_ ?_ ?_ ?_ ?_ ?_
  · unfold brkR
    by_cases h0 : l.length = 0
    · rw [if_pos h0]
      rw [h0] at g7
      simp (config := { maxSteps := 10000000 }) (disch := omega) only [↓G_seq, ↓G_region, ↓G_block, ↓Gx_blk, ↓G_ops_nil, ↓G_op, Gv_some, killAll, evalOp, ev, List.getElem?_cons_zero, List.getElem?_cons_succ, ↓reduceIte]
      refine G_loop.trans ?_
      simp (config := { maxSteps := 10000000 }) (disch := omega) only [↓G_seq, ↓G_ret, ↓G_exit, ↓G_region, ↓G_cond, ↓Gx_blk, ↓Gx_code, ↓G_ops_nil, ↓G_op, Gv_some, Gc_false, killAll, ↓get_setS, evalOp, ev, b_lss, one, Option.map_some, Option.bind_some, finish, resVs, resV, outVs, ownsLast, tupOf, List.all_cons, List.all_nil, Bool.and_self, List.getElem?_cons_zero, List.getElem?_cons_succ, Nat.reduceEqDiff, ↓reduceIte, Nat.succ_ne_self, decide_false, Int.reduceLT, Nat.reduceLT, and_self, Int.cast_ofNat_Int, ov_int, ov_nilsl, fn_some, g7]
    rw [if_neg h0]
    have hT := T6_get (F := tabN l ph pt) (n := l.length) (j := 0) (by omega)
    have hinf' := hinf
    by_cases h1 : inf ≤ (tabN l ph pt 0 true).c
    · rw [if_pos h1]
      simp (config := { maxSteps := 10000000 }) (disch := omega) only [↓G_seq, ↓G_region, ↓G_block, ↓Gx_blk, ↓G_ops_nil, ↓G_op, Gv_some, killAll, evalOp, ev, List.getElem?_cons_zero, List.getElem?_cons_succ, ↓reduceIte]
      refine G_loop.trans ?_
      simp (config := { maxSteps := 10000000 }) (disch := omega) only [↓G_seq, ↓G_skip, ↓G_ret, ↓G_region, ↓G_block, ↓G_cond, ↓G_ops_nil, ↓G_op, Gv_some, Gc_true, dec_t, killAll, ↓get_setS, evalOp, ev, b_lss, b_geq, one, Option.map_some, Option.bind_some, finish, resVs, resV, outVs, ownsLast, tupOf, V.shift, List.all_cons, List.all_nil, Bool.true_and, Bool.and_self, List.getElem?_cons_zero, List.getElem?_cons_succ, Nat.reduceEqDiff, ↓reduceIte, Nat.succ_ne_self, Bool.false_eq_true, Int.reduceLT, Int.reduceLE, pick3, arrV, addOff, loadV, Ab.rowAt, Nat.reduceLT, true_and, and_self, List.getD_cons_zero, Int.cast_ofNat_Int, Nat.add_zero, Nat.zero_mul, el_ref, ov_int, ov_nilsl, fn_some, ite_ov, g7, g8, q2, hT, Nat.zero_lt_succ, Int.toNat_zero]
    · rw [if_neg h1]
      simp (config := { maxSteps := 10000000 }) (disch := omega) only [↓G_seq, ↓G_region, ↓G_block, ↓Gx_blk, ↓G_ops_nil, ↓G_op, Gv_some, killAll, evalOp, ev, List.getElem?_cons_zero, List.getElem?_cons_succ, ↓reduceIte]
      refine loop14c (ver := 1) (R := bestD l ph pt) he (by omega) (fun fr'' L'' hacc => ?_) l.length 0 true [] _ _ (by omega) (by omega) (fun _ => by omega) (by simp) (by simp [bestD]) ?_ ?_ ?_ ?_ q2 ?_
      · have hp := I1_pure (zs (bestD l ph pt))
        have hacco := hacc.out (by omega) hp
        simp (config := { maxSteps := 10000000 }) (disch := omega) only [↓G_seq, ↓G_ret, ↓G_region, ↓Gx_blk, ↓G_ops_nil, ↓G_op, Gv_some, killAll, ↓get_setS, evalOp, ev, Option.map_some, Option.bind_some, finish, resVs, resV, outVs, ownsLast, tupOf, List.all_cons, List.all_nil, Bool.and_self, List.getElem?_cons_zero, List.getElem?_cons_succ, ↓reduceIte, Nat.succ_ne_self, and_self, ov_int, fn_some, hacco]
      · simp (config := { maxSteps := 10000000 }) (disch := omega) only [↓get_setS, List.getElem?_cons_zero, List.getElem?_cons_succ, Nat.reduceEqDiff, ↓reduceIte, g7]
      · simp (config := { maxSteps := 10000000 }) (disch := omega) only [↓get_setS, List.getElem?_cons_zero, List.getElem?_cons_succ, Nat.reduceEqDiff, ↓reduceIte, g8]
      · simp (config := { maxSteps := 10000000 }) (disch := omega) only [↓get_setS, List.getElem?_cons_zero, List.getElem?_cons_succ, ↓reduceIte, Nat.succ_ne_self, Int.cast_ofNat_Int]
      · simp (config := { maxSteps := 10000000 }) (disch := omega) only [↓get_setS, List.getElem?_cons_zero, List.getElem?_cons_succ, ↓reduceIte]
        rfl
      · simp (config := { maxSteps := 10000000 }) (disch := omega) only [↓get_setS, List.getElem?_cons_zero, List.getElem?_cons_succ, Nat.reduceEqDiff, ↓reduceIte, Nat.succ_ne_self]
        exact Acc.nil
  all_goals simp (config := { maxSteps := 10000000 }) (disch := omega) only [↓get_setS, Ab.get, List.getElem?_cons_zero, List.getElem?_cons_succ, Nat.reduceEqDiff, reduceCtorEq, ↓reduceIte, Nat.succ_ne_self, rget]
  all_goals try rfl

end Go.Proofs.Ytgghbckhdchcaaa

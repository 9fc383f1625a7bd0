/-
  The law AccidentalLimit as an equation.
-/
import Derived.Test.YthnjcaioeaepjaaS10P
namespace Go.Proofs.Ythnjcaioeaepjaa
open Go Go.Ab
set_option linter.unusedVariables false
set_option linter.unnecessarySimpa false
set_option linter.unusedSimpArgs false
set_option maxRecDepth 100000
variable {H : List (List Row)}

def limN (a : Int) : Nt := ⟨a, 0, 0, 0, false, 0⟩
def limP (a : Int) : Pl := ⟨a, 0, 0, 0, false, false, 0⟩

theorem limN_err (a : Int) (ha : 0 ≤ a) : ∀ (n : Nat) (b : Int), b ≤ a → errL b (List.replicate n (limN a)) = 0
  | 0, _, _ => rfl
  | n + 1, b, h => by
    have hok : okN b (limN a) = 0 := okN_ok (by simp only [limN]; omega) (by unfold inN; simp [limN]) (by simp [limN])
    rw [List.replicate_succ, errL_0 hok]
    exact limN_err a ha n a (Int.le_refl a)
theorem limP_err (a : Int) (ha : 0 ≤ a) : ∀ (n : Nat) (b : Int), b ≤ a → errP b (List.replicate n (limP a)) = 0
  | 0, _, _ => rfl
  | n + 1, b, h => by
    have hok : okP b (limP a) = 0 := okP_ok (by simp only [limP]; omega) (by unfold inP; simp [limP]) (by simp [limP]) (by simp [limP])
    rw [List.replicate_succ, errP_0 hok]
    exact limP_err a ha n a (Int.le_refl a)

theorem E7_set (l : List Pl) (i : Nat) (p : Pl) : (E7 l).set i [.i p.at_, .i p.s, .i p.o, .i p.kd, .bool p.pr, .bool p.h, .i p.be] = E7 (l.set i p) := by simp [E7, List.map_set, Pl.cells]

theorem loop12 {k : List KI} {rs : List ARes} {r : Option V} {a : Int} {n : Nat} {f0 : V} {v1 v2 : Nat} (hn : n ≤ 4096) (ha : 0 ≤ a ∧ a ≤ 255) (hv1 : 0 < v1) (hv2 : 0 < v2)
    (hr : ∀ fr' L', Ab.get fr' 0 = f0 → Ab.get fr' 5 = .i (n : Nat) → Ab.get fr' 6 = .ref 0 1 v1 6 0 n → Ab.get fr' 7 = .ref 0 2 v2 7 0 n → rget L' 1 = ⟨v1, 6, E6 (List.replicate n (limN a))⟩ → rget L' 2 = ⟨v2, 7, E7 (List.replicate n (limP a))⟩ → Gx tbl H rs 0 k fr' L' = r) :
    ∀ (q i : Nat) (c : List Nt) (d : List Pl) (fr : List V) (L : List Row), i + q = n → c.length = n → d.length = n → (∀ j, j < i → c[j]? = some (limN a)) → (∀ j, j < i → d[j]? = some (limP a)) → (∀ j, i ≤ j → j < n → c[j]? = some (limN 0)) → (∀ j, i ≤ j → j < n → d[j]? = some (limP 0)) →
    Ab.get fr 0 = f0 → Ab.get fr 1 = .int .u8 a → Ab.get fr 5 = .i (n : Nat) → Ab.get fr 6 = .ref 0 1 v1 6 0 n → Ab.get fr 7 = .ref 0 2 v2 7 0 n → Ab.get fr 8 = .i (i : Nat) →
    rget L 1 = ⟨v1, 6, E6 c⟩ → rget L 2 = ⟨v2, 7, E7 d⟩ → G tbl H rs (.code (.loop ( (.seq ( (.seq ( .region [] [ ⟨some 20, .mv (.t 8), none⟩, ⟨some 21, .mv (.t 5), none⟩, ⟨some 22, .bin .lss (.t 20) (.t 21), none⟩]) ( (.cond (.t 22) ( .skip) ( .exit 0))))) ( (.seq ( (.block 1 ( .region [] [ ⟨some 25, .mv (.t 6), none⟩, ⟨some 26, .mv (.t 8), none⟩, ⟨some 27, .mv (.t 7), none⟩, ⟨some 28, .mv (.t 8), none⟩, ⟨some 29, .mv (.t 1), none⟩, ⟨some 30, .conv .i64 (.t 29), none⟩, ⟨some 31, .mv (.t 1), none⟩, ⟨some 32, .conv .i64 (.t 31), none⟩, ⟨some 33, .elemAddr 6 (.t 25) (.t 26), none⟩, ⟨some 34, .fieldAddr 0 (.t 33), none⟩, ⟨none, .store 1 (.t 34) (.t 30), none⟩, ⟨some 35, .elemAddr 7 (.t 27) (.t 28), none⟩, ⟨some 36, .fieldAddr 0 (.t 35), none⟩, ⟨none, .store 1 (.t 36) (.t 32), none⟩]))) ( .region [] [ ⟨some 23, .mv (.t 8), none⟩, ⟨some 24, .bin .add (.t 23) (.c (.int .i64 1)), none⟩, ⟨some 8, .mv (.t 24), none⟩])))))) :: k) fr L = r := by
  intro q
  induction q with
  | zero =>
    intro i c d fr L hi hc hd b1 b2 b3 b4 h0 h1 h5 h6 h7 h8 r1 r2
    have hcc : c = List.replicate n (limN a) := by
      apply List.ext_getElem?
      intro j
      rcases Nat.lt_or_ge j n with hj | hj
      · rw [b1 j (by omega), List.getElem?_replicate, if_pos hj]
      · rw [List.getElem?_eq_none (by omega), List.getElem?_eq_none (by simp; omega)]
    have hdd : d = List.replicate n (limP a) := by
      apply List.ext_getElem?
      intro j
      rcases Nat.lt_or_ge j n with hj | hj
      · rw [b2 j (by omega), List.getElem?_replicate, if_pos hj]
      · rw [List.getElem?_eq_none (by omega), List.getElem?_eq_none (by simp; omega)]
    subst hcc hdd
    clear b1 b2 b3 b4
    refine G_loop.trans ?_
    simp (config := { maxSteps := 10000000 }) (disch := omega) only [↓G_seq, ↓G_exit, ↓G_region, ↓G_cond, ↓Gx_code, ↓G_ops_nil, ↓G_op, Gv_some, Gc_false, dec_f, killAll, ↓get_setS, evalOp, ev, b_lss, one, Option.map_some, List.getElem?_cons_zero, List.getElem?_cons_succ, Nat.reduceEqDiff, ↓reduceIte, Nat.succ_ne_self, h5, h8]
    refine hr _ _ ?_ ?_ ?_ ?_ ?_ ?_
    all_goals simp (config := { maxSteps := 10000000 }) (disch := omega) only [↓get_setS, List.getElem?_cons_zero, List.getElem?_cons_succ, Nat.reduceEqDiff, reduceCtorEq, ↓reduceIte, h0, h5, h6, h7, r1, r2]
  | succ q ih =>
    intro i c d fr L hi hc hd b1 b2 b3 b4 h0 h1 h5 h6 h7 h8 r1 r2
    have hE := E6_get c i _ (b3 i (Nat.le_refl _) (by omega))
    have hE' := E7_get d i _ (b4 i (Nat.le_refl _) (by omega))
    have hs1 := E6_set c i (limN a)
    have hs2 := E7_set d i (limP a)
    simp only [limN, limP] at hE hE' hs1 hs2
    refine G_loop.trans ?_
    have hw : IntKind.i64.wrap a = a := wrap_i64 (by omega)
    have nx := fun fr' L' => ih (i + 1) (c.set i (limN a)) (d.set i (limP a)) fr' L' (by omega) (by simpa using hc) (by simpa using hd)
      (by
        intro j hj
        rw [List.getElem?_set]
        by_cases e : i = j
        · subst e; rw [if_pos rfl, if_pos (by omega)]
        · rw [if_neg e]; exact b1 j (by omega))
      (by
        intro j hj
        rw [List.getElem?_set]
        by_cases e : i = j
        · subst e; rw [if_pos rfl, if_pos (by omega)]
        · rw [if_neg e]; exact b2 j (by omega))
      (by intro j h1 h2; rw [List.getElem?_set, if_neg (by omega)]; exact b3 j (by omega) h2)
      (by intro j h1 h2; rw [List.getElem?_set, if_neg (by omega)]; exact b4 j (by omega) h2)
    clear ih b1 b2 b3 b4
    simp (config := { maxSteps := 10000000 }) (disch := omega) only [↓G_seq, ↓G_skip, ↓G_blk, ↓G_region, ↓G_block, ↓G_cond, ↓G_ops_nil, ↓G_op, Gv_some, Gc_true, dec_t, killAll, ↓get_setS, ↓get_setN, evalOp, ev, rget_rset, b_add, b_lss, wrap_i64, one, Option.map_some, Option.bind_some, List.nil_append, List.cons_append, List.all_cons, List.all_nil, Bool.and_true, Bool.true_and, Bool.and_self, List.getElem?_cons_zero, List.getElem?_cons_succ, Nat.reduceEqDiff, ↓reduceIte, Nat.succ_ne_self, Int.reduceAdd, V.cells, splice, addOff, storeV, V.scalar, Nat.reduceAdd, Nat.reduceLeDiff, and_true, true_and, and_self, List.length_cons, List.length_nil, List.take_zero, List.drop_succ_cons, List.drop_zero, Nat.zero_add, Nat.add_zero, el_ref, nn, ite_ov, Int.toNat_natCast, h1, h5, h6, h7, h8, r1, r2, hE, hE', hs1, hs2, hw]
    refine nx _ _ ?_ ?_ ?_ ?_ ?_ ?_ ?_ ?_
    · simp (config := { maxSteps := 10000000 }) (disch := omega) only [↓get_setS, ↓get_setN, List.getElem?_cons_zero, List.getElem?_cons_succ, reduceCtorEq, ↓reduceIte, h0]
    · simp (config := { maxSteps := 10000000 }) (disch := omega) only [↓get_setS, ↓get_setN, List.getElem?_cons_zero, List.getElem?_cons_succ, Nat.reduceEqDiff, ↓reduceIte, h1]
    · simp (config := { maxSteps := 10000000 }) (disch := omega) only [↓get_setS, ↓get_setN, List.getElem?_cons_zero, List.getElem?_cons_succ, Nat.reduceEqDiff, ↓reduceIte, h5]
    · simp (config := { maxSteps := 10000000 }) (disch := omega) only [↓get_setS, ↓get_setN, List.getElem?_cons_zero, List.getElem?_cons_succ, Nat.reduceEqDiff, ↓reduceIte, h6]
    · simp (config := { maxSteps := 10000000 }) (disch := omega) only [↓get_setS, ↓get_setN, List.getElem?_cons_zero, List.getElem?_cons_succ, Nat.reduceEqDiff, ↓reduceIte, Nat.succ_ne_self, h7]
    · simp (config := { maxSteps := 10000000 }) (disch := omega) only [↓get_setS, List.getElem?_cons_zero, List.getElem?_cons_succ, ↓reduceIte]
      congr 1
    · simp (config := { maxSteps := 10000000 }) (disch := omega) only [rget_rset, List.getElem?_cons_zero, List.getElem?_cons_succ, ↓reduceIte, Nat.succ_ne_self]
      rfl
    · simp (config := { maxSteps := 10000000 }) (disch := omega) only [rget_rset, List.getElem?_cons_zero, List.getElem?_cons_succ, ↓reduceIte]
      rfl

theorem mks6 {H L : List Row} {n : Nat} (hn : n ≤ 4096) : mksV L 1 6 [V.int .i64 0, .int .i64 0, .int .i64 0, .int .i64 0, .bool false, .int .i64 0] 48 (.i (n : Nat)) (.i (n : Nat)) =
    some (.ref 0 1 ((rget L 1).ver + 1) 6 0 n, rset L 1 ⟨(rget L 1).ver + 1, 6, E6 (List.replicate n (limN 0))⟩) := by
  simp only [mksV]
  rw [if_pos ⟨by omega, by omega, by omega, by omega, rfl, rfl⟩]
  simp [E6, limN, Nt.cells]
theorem mks7 {H L : List Row} {n : Nat} (hn : n ≤ 4096) : mksV L 2 7 [V.int .i64 0, .int .i64 0, .int .i64 0, .int .i64 0, .bool false, .bool false, .int .i64 0] 56 (.i (n : Nat)) (.i (n : Nat)) =
    some (.ref 0 2 ((rget L 2).ver + 1) 7 0 n, rset L 2 ⟨(rget L 2).ver + 1, 7, E7 (List.replicate n (limP 0))⟩) := by
  simp only [mksV]
  rw [if_pos ⟨by omega, by omega, by omega, by omega, rfl, rfl⟩]
  simp [E7, limP, Pl.cells]

/-- What the law asks of Display and of Read. -/
structure Lim (H : List (List Row)) (b : Bool) (a : Int) (n : Nat) : Prop where
  disp : ∃ w, (∀ H, call tbl 14 [.i 0, .sl .any 6 (E6 (List.replicate n (limN a)))] H = some (.tup [w, .i (if b = true then 9 else 0)])) ∧ ∃ v, (∀ L s vs, takeIn false L s (.tup (w :: vs)) = (.tup (v :: vs.map Ab.settle), L)) ∧ lenV v = some (.i (if b = true then 0 else n : Nat))
  read : ∃ w, (∀ H, call tbl 23 [.i 0, .sl .any 7 (E7 (List.replicate n (limP a)))] H = some (.tup [w, .i (if b = true then 9 else 0)])) ∧ ∃ v, (∀ L s vs, takeIn false L s (.tup (w :: vs)) = (.tup (v :: vs.map Ab.settle), L)) ∧ lenV v = some (.i (if b = true then 0 else n : Nat))

theorem lim_f (a : Int) (ha : 0 ≤ a) : Lim H false a 2560 := by
  have hN : errR 0 (List.replicate 2560 (limN a)) = 0 := by
    rw [errR_0 (by unfold guardR; rw [if_neg (by decide), if_neg (by simp)])]
    exact limN_err a ha 2560 0 ha
  have hP : errQ 0 (List.replicate 2560 (limP a)) = 0 := by
    rw [errQ_0 (by unfold guardR; rw [if_neg (by decide), if_neg (by simp)])]
    exact limP_err a ha 2560 0 ha
  refine ⟨⟨_, fun H => c14 (H := H) hN .any, svE 2 (M2 (dispR (List.replicate 2560 (limN a)) (List.replicate 2560 (limN a)) (startR 0)).1), fun L s vs => out_take_tup _ vs, ?_⟩,
    ⟨_, fun H => c23 (H := H) hP .any, svE 1 (I1 (readR (List.replicate 2560 (limP a)) (startR 0))), fun L s vs => out_take_tup _ vs, ?_⟩⟩
  · rw [(svE_ok _ _).len, M2_len, (dispR_len _ _ _).1, List.length_replicate]
    rfl
  · rw [(svE_ok _ _).len, I1_len, readR_len, List.length_replicate]
    rfl

theorem lim_t (a : Int) : Lim H true a 2561 := by
  have hN : errR 0 (List.replicate 2561 (limN a)) = 9 := errR_e (by unfold guardR; rw [if_neg (by decide), if_pos (by simp)]) (by decide)
  have hP : errQ 0 (List.replicate 2561 (limP a)) = 9 := errQ_e (by unfold guardR; rw [if_neg (by decide), if_pos (by simp)]) (by decide)
  refine ⟨⟨.nilsl, fun H => (c14_e (H := H) (by rw [hN]; decide) .any).trans (by rw [hN]; rfl), .nilsl, fun L s vs => rfl, rfl⟩,
    ⟨.nilsl, fun H => (c23_e (H := H) (by rw [hP]; decide) .any).trans (by rw [hP]; rfl), .nilsl, fun L s vs => rfl, rfl⟩⟩

theorem sub12 {n v1 : Nat} : subV 6 (.ref 0 1 v1 6 0 n) none (some (.i (n : Nat))) (some (.i (n : Nat))) = some (.ref 0 1 v1 6 0 n) := by
  simp [subV, bounds]

theorem l12_f (a : Int) (ha : 0 ≤ a ∧ a ≤ 255) : call tbl 12 [.bool false, .int .u8 a] H = some (.bool true) := by
  refine (call_start (show tbl 12 = some a12 from rfl)).trans ?_
  obtain ⟨⟨w1, h14, x1, t1, y1⟩, ⟨w2, h23, x2, t2, y2⟩⟩ := lim_f (H := H) a ha.1
  have hl := fun k r hr fr L => loop12 (H := H) (k := k) (rs := [.tmp 4]) (r := r) (a := a) (n := 2560) (f0 := .bool false) (v1 := 1) (v2 := 1) (by omega) ha (by omega) (by omega) hr 2560 0 (List.replicate 2560 (limN 0)) (List.replicate 2560 (limP 0)) fr L (by omega) (by rw [List.length_replicate]) (by rw [List.length_replicate])
    (by intro j hj; omega) (by intro j hj; omega) (by intro j _ hj; rw [List.getElem?_replicate, if_pos hj]) (by intro j _ hj; rw [List.getElem?_replicate, if_pos hj])
  have p6 := E6_pure (List.replicate 2560 (limN a))
  have p7 := E7_pure (List.replicate 2560 (limP a))
  have e6 : (E6 (List.replicate 2560 (limN a))).length = 2560 := by rw [E6_len, List.length_replicate]
  have e7 : (E7 (List.replicate 2560 (limP a))).length = 2560 := by rw [E7_len, List.length_replicate]
  have q6 : List.take 2560 (E6 (List.replicate 2560 (limN a))) = E6 (List.replicate 2560 (limN a)) := List.take_of_length_le (by omega)
  have q7 : List.take 2560 (E7 (List.replicate 2560 (limP a))) = E7 (List.replicate 2560 (limP a)) := List.take_of_length_le (by omega)
  have m6 := fun L => mks6 (H := []) (L := L) (n := 2560) (by omega)
  have m7 := fun L => mks7 (H := []) (L := L) (n := 2560) (by omega)
  have hs := sub12 (n := 2560) (v1 := 1)
  simp only [Bool.false_eq_true, if_false, Int.cast_ofNat_Int] at h14 h23 y1 y2 m6 m7 hs
  generalize E6 (List.replicate 2560 (limN 0)) = Z6 at *
  generalize E7 (List.replicate 2560 (limP 0)) = Z7 at *
  generalize E6 (List.replicate 2560 (limN a)) = A6 at *
  generalize E7 (List.replicate 2560 (limP a)) = A7 at *
  unfold a12
  simp (config := { maxSteps := 10000000 }) (disch := omega) only [↓G_seq, ↓G_skip, ↓G_region, ↓G_block, ↓G_cond, ↓G_ops_nil, ↓G_op, Gv_some, Gc_false, killAll, ↓get_setS, evalOp, ev, Ab.get, List.getElem?_cons_zero, List.getElem?_cons_succ, Nat.reduceEqDiff, reduceCtorEq, ↓reduceIte, Nat.succ_ne_self, rget, rset, Nat.zero_add, m6, m7]
  refine hl _ _ (fun fr' L' g0 g5 g6 g7 s1 s2 => ?_) _ _ ?_ ?_ ?_ ?_ ?_ ?_ ?_ ?_
  · clear hl
    rw [show (((2560 : Nat) : Int)) = 2560 from rfl] at g5
    simp (config := { maxSteps := 10000000 }) (disch := omega) only [↓G_seq, ↓G_skip, ↓G_ret, ↓G_region, ↓G_cond, ↓Gx_blk, ↓G_ops_nil, ↓G_op, Gv_some, ↓G_gop, Gw_tt, Gc_false, killAll, ↓get_setS, evalOp, ev, evs, rget_rset, b_eql, one, Option.map_some, Option.bind_some, Option.map_none, asB, finish, resVs, resV, outVs, ownsLast, tupOf, callV, V.shift, V.shifts, List.append_nil, List.map_cons, List.map_nil, List.all_nil, Bool.true_and, Bool.and_self, List.getElem?_cons_zero, List.getElem?_cons_succ, Nat.reduceEqDiff, reduceCtorEq, ↓reduceIte, Nat.succ_ne_self, decide_true, bne_self_eq_false, Int.reduceAdd, Nat.reduceAdd, true_and, and_self, List.drop_zero, Nat.le_refl, Nat.zero_add, ti_bool, st_int, ov_bool, fn_some, fz_nil, fz_cons, fz_int, fz_ref0, g0, g5, g6, g7, s1, s2, hs, p6, p7, e6, e7, q6, q7, h14, h23, ↓t1, ↓t2, y1, y2, c13, Nat.zero_lt_succ]
  all_goals simp (config := { maxSteps := 10000000 }) (disch := omega) only [↓get_setS, Ab.get, List.getElem?_cons_zero, List.getElem?_cons_succ, Nat.reduceEqDiff, reduceCtorEq, ↓reduceIte, Nat.succ_ne_self, rget, Int.cast_ofNat_Int]

theorem l12_t (a : Int) (ha : 0 ≤ a ∧ a ≤ 255) : call tbl 12 [.bool true, .int .u8 a] H = some (.bool true) := by
  refine (call_start (show tbl 12 = some a12 from rfl)).trans ?_
  obtain ⟨⟨w1, h14, x1, t1, y1⟩, ⟨w2, h23, x2, t2, y2⟩⟩ := lim_t (H := H) a
  have hl := fun k r hr fr L => loop12 (H := H) (k := k) (rs := [.tmp 4]) (r := r) (a := a) (n := 2561) (f0 := .bool true) (v1 := 1) (v2 := 1) (by omega) ha (by omega) (by omega) hr 2561 0 (List.replicate 2561 (limN 0)) (List.replicate 2561 (limP 0)) fr L (by omega) (by rw [List.length_replicate]) (by rw [List.length_replicate])
    (by intro j hj; omega) (by intro j hj; omega) (by intro j _ hj; rw [List.getElem?_replicate, if_pos hj]) (by intro j _ hj; rw [List.getElem?_replicate, if_pos hj])
  have p6 := E6_pure (List.replicate 2561 (limN a))
  have p7 := E7_pure (List.replicate 2561 (limP a))
  have e6 : (E6 (List.replicate 2561 (limN a))).length = 2561 := by rw [E6_len, List.length_replicate]
  have e7 : (E7 (List.replicate 2561 (limP a))).length = 2561 := by rw [E7_len, List.length_replicate]
  have q6 : List.take 2561 (E6 (List.replicate 2561 (limN a))) = E6 (List.replicate 2561 (limN a)) := List.take_of_length_le (by omega)
  have q7 : List.take 2561 (E7 (List.replicate 2561 (limP a))) = E7 (List.replicate 2561 (limP a)) := List.take_of_length_le (by omega)
  have m6 := fun L => mks6 (H := []) (L := L) (n := 2561) (by omega)
  have m7 := fun L => mks7 (H := []) (L := L) (n := 2561) (by omega)
  have hs := sub12 (n := 2561) (v1 := 1)
  simp only [if_true, Int.cast_ofNat_Int] at h14 h23 y1 y2 m6 m7 hs
  generalize E6 (List.replicate 2561 (limN 0)) = Z6 at *
  generalize E7 (List.replicate 2561 (limP 0)) = Z7 at *
  generalize E6 (List.replicate 2561 (limN a)) = A6 at *
  generalize E7 (List.replicate 2561 (limP a)) = A7 at *
  unfold a12
  simp (config := { maxSteps := 10000000 }) (disch := omega) only [↓G_seq, ↓G_region, ↓G_block, ↓G_cond, ↓G_ops_nil, ↓G_op, Gv_some, Gc_true, killAll, ↓get_setS, evalOp, ev, Ab.get, b_add, wrap_i64, one, Option.map_some, List.getElem?_cons_zero, List.getElem?_cons_succ, Nat.reduceEqDiff, reduceCtorEq, ↓reduceIte, Nat.succ_ne_self, Int.reduceAdd, rget, rset, Nat.reduceAdd, Nat.zero_add, m6, m7]
  refine hl _ _ (fun fr' L' g0 g5 g6 g7 s1 s2 => ?_) _ _ ?_ ?_ ?_ ?_ ?_ ?_ ?_ ?_
  · clear hl
    rw [show (((2561 : Nat) : Int)) = 2561 from rfl] at g5
    simp (config := { maxSteps := 10000000 }) (disch := omega) only [↓G_seq, ↓G_ret, ↓G_region, ↓G_cond, ↓Gx_blk, ↓G_ops_nil, ↓G_op, Gv_some, ↓G_gop, Gw_tt, Gc_true, killAll, ↓get_setS, evalOp, ev, evs, rget_rset, b_eql, one, Option.map_some, Option.bind_some, Option.map_none, asB, finish, resVs, resV, outVs, ownsLast, tupOf, callV, V.shift, V.shifts, List.append_nil, List.map_cons, List.map_nil, List.all_nil, Bool.true_and, Bool.and_self, List.getElem?_cons_zero, List.getElem?_cons_succ, Nat.reduceEqDiff, reduceCtorEq, ↓reduceIte, Nat.succ_ne_self, decide_true, bne_self_eq_false, Int.reduceAdd, Nat.reduceAdd, true_and, and_self, List.drop_zero, Nat.le_refl, Nat.zero_add, ti_bool, st_int, ov_bool, fn_some, fz_nil, fz_cons, fz_int, fz_ref0, g0, g5, g6, g7, s1, s2, hs, p6, p7, e6, e7, q6, q7, h14, h23, ↓t1, ↓t2, y1, y2, c13, Nat.zero_lt_succ]
  all_goals simp (config := { maxSteps := 10000000 }) (disch := omega) only [↓get_setS, Ab.get, List.getElem?_cons_zero, List.getElem?_cons_succ, Nat.reduceEqDiff, reduceCtorEq, ↓reduceIte, Nat.succ_ne_self, rget, Int.cast_ofNat_Int]

theorem l12 (b : Bool) (a : Int) (ha : 0 ≤ a ∧ a ≤ 255) : call tbl 12 [.bool b, .int .u8 a] H = some (.bool true) := by
  cases b
  · exact l12_f a ha
  · exact l12_t a ha

end Go.Proofs.Ythnjcaioeaepjaa

/-
  Page breaks: the reference's divisions and the best of them; the law PagebreakBest.
-/
import Derived.Test.YtgghbckhdchcaaaS33N
namespace Go.Proofs.Ytgghbckhdchcaaa
open Go Go.Ab
set_option linter.unusedVariables false
set_option linter.unnecessarySimpa false
set_option linter.unusedSimpArgs false
set_option maxRecDepth 100000
variable {H : List (List Row)}
open Path (Ch)

theorem bin_shr {x j : Nat} (h : j ≤ 62) : binV .shr (.i (x : Nat)) (.i (j : Nat)) = some (.i ((x / 2 ^ j : Nat) : Int)) := by
  have e : ¬ ((j : Nat) : Int) < 0 := by omega
  simp only [binV, shiftBin, or_true, if_true, if_neg e, IntKind.bits]
  rw [Int.toNat_natCast, Nat.min_eq_left (by omega), Int.fdiv_eq_ediv_of_nonneg _ (by exact_mod_cast Nat.zero_le _)]
  simp
theorem bin_and {x : Nat} (h : x < 4096) : binV .and (.i (x : Nat)) (.i 1) = some (.i ((x % 2 : Nat) : Int)) := by
  simp only [binV, reduceCtorEq, or_self, if_false, if_true, intBin]
  have : (BitVec.ofInt 64 ((x : Nat) : Int) &&& BitVec.ofInt 64 1).toNat = x % 2 := by
    rw [BitVec.toNat_and]
    have h1 : (BitVec.ofInt 64 ((x : Nat) : Int)).toNat = x := by
      simp
      omega
    rw [h1]
    exact Nat.and_one_is_mod x
  change some (V.int .i64 (IntKind.i64.wrap ((BitVec.ofInt 64 ((x : Nat) : Int) &&& BitVec.ofInt 64 1).toNat : Nat))) = _
  rw [this, wrap_i64 (by omega)]
theorem bin_shl {j : Nat} (h : j ≤ 30) : binV .shl (.i 1) (.i (j : Nat)) = some (.i ((2 ^ j : Nat) : Int)) := by
  have e : ¬ ((j : Nat) : Int) < 0 := by omega
  have h2 : 2 ^ j ≤ 2 ^ 30 := Nat.pow_le_pow_right (by omega) h
  simp only [binV, shiftBin, true_or, if_true, if_neg e, IntKind.bits]
  rw [Int.toNat_natCast, Nat.min_eq_left (by omega), Int.one_mul]
  have e2 : ((2 : Int) ^ j) = ((2 ^ j : Nat) : Int) := by simp
  rw [e2]
  generalize 2 ^ j = p at *
  rw [wrap_i64 (by omega)]
theorem sk_full : (SK.full != SK.own) = true := rfl
theorem sk_any : (SK.any != SK.own) = true := rfl

/-- The numbers from i on whose bit is set. -/
def rest2 : Nat → Nat → Nat → List Nat
  | _, _, 0 => []
  | m, i, k + 1 => if m % 2 = 1 then i :: rest2 (m / 2) (i + 1) k else rest2 (m / 2) (i + 1) k
def dvl (n m : Nat) : List Nat := 0 :: rest2 m 1 (n - 1)
def allD (n : Nat) : List (List Nat) := if n = 0 then [[]] else (List.range (2 ^ (n - 1))).map (dvl n)

theorem rest2_D {n : Nat} : ∀ (k m i p : Nat), p < i → i + k = n → p < n → Path.isD n (p :: rest2 m i k)
  | 0, m, i, p, h1, h2, h3 => h3
  | k + 1, m, i, p, h1, h2, h3 => by
    unfold rest2
    split
    · exact ⟨h1, rest2_D k (m / 2) (i + 1) i (by omega) (by omega) (by omega)⟩
    · exact rest2_D k (m / 2) (i + 1) p (by omega) (by omega) h3
theorem rest2_all {n : Nat} : ∀ (k i p : Nat) (t : List Nat), p < i → i + k = n → Path.isD n (p :: t) → (∀ x u, t = x :: u → i ≤ x) → ∃ m, m < 2 ^ k ∧ rest2 m i k = t
  | 0, i, p, t, h1, h2, h3, h4 => by
    cases t with
    | nil => exact ⟨0, by simp, rfl⟩
    | cons x u =>
      have := h4 x u rfl
      have := isD_hd _ _ h3.2
      omega
  | k + 1, i, p, t, h1, h2, h3, h4 => by
    have hp : 2 ^ (k + 1) = 2 * 2 ^ k := by rw [Nat.pow_succ]; omega
    cases t with
    | nil =>
      obtain ⟨m, q1, q2⟩ := rest2_all (n := n) k (i + 1) p [] (by omega) (by omega) h3 (fun x u e => by cases e)
      refine ⟨2 * m, by omega, ?_⟩
      unfold rest2
      rw [if_neg (by omega), show 2 * m / 2 = m by omega, q2]
    | cons x u =>
      by_cases hx : x = i
      · subst hx
        obtain ⟨m, q1, q2⟩ := rest2_all (n := n) k (x + 1) x u (by omega) (by omega) h3.2 (fun y w e => by subst e; exact h3.2.1)
        refine ⟨2 * m + 1, by omega, ?_⟩
        unfold rest2
        rw [if_pos (by omega), show (2 * m + 1) / 2 = m by omega, q2]
      · have := h4 x u rfl
        obtain ⟨m, q1, q2⟩ := rest2_all (n := n) k (i + 1) p (x :: u) (by omega) (by omega) h3 (fun y w e => by injection e with e1 _; omega)
        refine ⟨2 * m, by omega, ?_⟩
        unfold rest2
        rw [if_neg (by omega), show 2 * m / 2 = m by omega, q2]
theorem rest2_len : ∀ (k m i : Nat), (rest2 m i k).length ≤ k
  | 0, _, _ => by simp [rest2]
  | k + 1, m, i => by
    have := rest2_len k (m / 2) (i + 1)
    unfold rest2
    split
    · simp only [List.length_cons]; omega
    · omega
theorem allD_Dv {n : Nat} {d : List Nat} (h : d ∈ allD n) : Dv n d := by
  unfold allD at h
  split at h
  · rename_i h0
    simp only [List.mem_cons, List.not_mem_nil, or_false] at h
    exact .inl ⟨h0, h⟩
  · rename_i h0
    simp only [List.mem_map] at h
    obtain ⟨m, _, rfl⟩ := h
    exact .inr ⟨_, rfl, rest2_D (n - 1) m 1 0 (by omega) (by omega) (by omega)⟩
theorem Dv_allD {n : Nat} {d : List Nat} (h : Dv n d) : d ∈ allD n := by
  unfold allD
  rcases h with ⟨rfl, rfl⟩ | ⟨t, rfl, h⟩
  · simp
  · have h0 := isD_hd _ _ h
    rw [if_neg (by omega)]
    obtain ⟨m, q1, q2⟩ := rest2_all (n := n) (n - 1) 1 0 t (by omega) (by omega) h (fun x u e => by subst e; exact h.1)
    exact List.mem_map.2 ⟨m, by simpa using q1, by unfold dvl; rw [q2]⟩
theorem allD_len {n : Nat} (h : n ≤ 9) : (allD n).length ≤ 256 := by
  unfold allD
  split
  · simp
  · simp only [List.length_map, List.length_range]
    have := Nat.pow_le_pow_right (n := 2) (by omega) (show n - 1 ≤ 8 by omega)
    omega

theorem loop29b {k : List KI} {n m0 : Nat} {r : Option V} {v3 : V} {R : List Nat} {row : Row} (hn : n ≤ 9) (hm0 : m0 < 256)
    (hx : ∀ fr' L', Ab.get fr' 0 = .i (n : Nat) → Ab.get fr' 3 = v3 → Ab.get fr' 4 = .i (m0 : Nat) → rget L' 2 = row → Acc1 1 L' (Ab.get fr' 5) (I1 (zs R)) → Gx tbl H [.tmp 2] 2 k fr' L' = r) :
    ∀ (q i m : Nat) (acc : List Nat) (fr : List V) (L : List Row), i + q = n → 1 ≤ i → m = m0 / 2 ^ (i - 1) → R = acc ++ rest2 m i q → acc.length ≤ i → Ab.get fr 0 = .i (n : Nat) → Ab.get fr 3 = v3 → Ab.get fr 4 = .i (m0 : Nat) → rget L 2 = row → Acc1 1 L (Ab.get fr 5) (I1 (zs acc)) → Ab.get fr 6 = .i (i : Nat) →
      G tbl H [.tmp 2] (.code (.loop ( (.seq ( (.seq ( .region [] [ ⟨some 18, .mv (.t 6), none⟩, ⟨some 19, .mv (.t 0), none⟩, ⟨some 20, .bin .lss (.t 18) (.t 19), none⟩]) ( (.cond (.t 20) ( .skip) ( .exit 2))))) ( (.seq ( (.block 3 ( (.seq ( .region [] [ ⟨some 23, .mv (.t 4), none⟩, ⟨some 24, .mv (.t 6), none⟩, ⟨some 25, .bin .sub (.t 24) (.c (.int .i64 1)), none⟩, ⟨some 26, .bin .shr (.t 23) (.t 25), none⟩, ⟨some 27, .bin .and (.t 26) (.c (.int .i64 1)), none⟩, ⟨some 28, .bin .eql (.t 27) (.c (.int .i64 1)), none⟩]) ( (.cond (.t 28) ( .region [] [ ⟨some 29, .mv (.t 5), none⟩, ⟨some 30, .mv (.t 6), none⟩, ⟨some 31, .lit 1 [(.int .i64 0)] 1 [(0, 1, (.t 30))], none⟩, ⟨some 32, .app 1 1 8 (.t 29) (.t 31), none⟩, ⟨some 5, .mv (.t 32), none⟩]) ( .skip))))))) ( .region [] [ ⟨some 21, .mv (.t 6), none⟩, ⟨some 22, .bin .add (.t 21) (.c (.int .i64 1)), none⟩, ⟨some 6, .mv (.t 22), none⟩])))))) :: k) fr L = r := by
  intro q
  induction q with
  | zero =>
    intro i m acc fr L hi hi1 hm hR hal h0 h3 h4 hrow h5 h6
    rw [rest2, List.append_nil] at hR
    subst hR
    refine G_loop.trans ?_
    simp (config := { maxSteps := 10000000 }) (disch := omega) only [↓G_seq, ↓G_exit, ↓G_region, ↓G_cond, ↓Gx_code, ↓G_ops_nil, ↓G_op, Gv_some, Gc_false, dec_f, killAll, ↓get_setS, evalOp, ev, b_lss, one, Option.map_some, List.getElem?_cons_zero, List.getElem?_cons_succ, reduceCtorEq, ↓reduceIte, Nat.succ_ne_self, h0, h6]
    refine hx _ _ ?_ ?_ ?_ hrow ?_
    · simp (config := { maxSteps := 10000000 }) (disch := omega) only [↓get_setS, List.getElem?_cons_zero, List.getElem?_cons_succ, reduceCtorEq, ↓reduceIte, h0]
    · simp (config := { maxSteps := 10000000 }) (disch := omega) only [↓get_setS, List.getElem?_cons_zero, List.getElem?_cons_succ, Nat.reduceEqDiff, ↓reduceIte, h3]
    · simp (config := { maxSteps := 10000000 }) (disch := omega) only [↓get_setS, List.getElem?_cons_zero, List.getElem?_cons_succ, Nat.reduceEqDiff, ↓reduceIte, h4]
    · simp (config := { maxSteps := 10000000 }) (disch := omega) only [↓get_setS, List.getElem?_cons_zero, List.getElem?_cons_succ, Nat.reduceEqDiff, ↓reduceIte]
      exact h5
  | succ q ih =>
    intro i m acc fr L hi hi1 hm hR hal h0 h3 h4 hrow h5 h6
    have hj : ((i : Nat) : Int) - 1 = ((i - 1 : Nat) : Int) := by omega
    have hsr := bin_shr (x := m0) (j := i - 1) (by omega)
    rw [← hm] at hsr
    have hm1 : m ≤ m0 := by rw [hm]; exact Nat.div_le_self _ _
    have han := bin_and (x := m) (by omega)
    have hm2 : m / 2 = m0 / 2 ^ (i + 1 - 1) := by
      rw [hm, Nat.div_div_eq_div_mul, ← Nat.pow_succ]
      congr 2
      omega
    unfold rest2 at hR
    by_cases c : m % 2 = 1
    · rw [if_pos c] at hR
      obtain ⟨hap1, hap2⟩ := h5.app (M := H) (bytes := 8) (y := .sl .full 1 [[.i (i : Nat)]]) (x := .i (i : Nat)) rfl (by omega) (by rw [I1_len, zs_len]; omega) (I1_sc _) rfl
      have hz : I1 (zs acc) ++ [[V.i (i : Nat)]] = I1 (zs (acc ++ [i])) := by simp [I1, zs]
      rw [hz] at hap1 hap2
      rw [c] at han
      have nx := fun fr' L' => ih (i + 1) (m / 2) (acc ++ [i]) fr' L' (by omega) (by omega) hm2 (by rw [hR]; simp) (by simp; omega)
      generalize hv5 : Ab.get fr 5 = v5 at *
      clear ih hx h5 hR hm hm2 hz
      refine G_loop.trans ?_
      simp (config := { maxSteps := 10000000 }) (disch := omega) only [↓G_seq, ↓G_skip, ↓G_blk, ↓G_region, ↓G_block, ↓G_cond, ↓G_ops_nil, ↓G_op, Gv_some, Gc_true, dec_t, killAll, ↓get_setS, evalOp, ev, b_add, b_sub, b_eql, b_lss, wrap_i64, one, Option.map_some, Option.bind_some, List.append_nil, List.nil_append, List.all_cons, List.all_nil, Bool.true_and, Bool.and_self, List.getElem?_cons_zero, List.getElem?_cons_succ, Nat.reduceEqDiff, reduceCtorEq, ↓reduceIte, Nat.succ_ne_self, decide_true, Int.reduceLT, V.cells, fillV, splice, chop, V.scalar, V.pure, Nat.reduceLT, true_and, and_self, List.length_cons, List.length_nil, List.take_succ_cons, List.take_zero, List.drop_succ_cons, List.drop_zero, Nat.le_refl, List.replicate, List.flatten_cons, List.flatten_nil, Int.cast_ofNat_Int, Nat.zero_add, h0, h4, h6, hj, hsr, han, hv5, hap1, Int.cast_ofNat_Int]
      refine nx _ _ ?_ ?_ ?_ ?_ ?_ ?_
      all_goals simp (config := { maxSteps := 10000000 }) (disch := omega) only [↓get_setS, rget_rset, List.getElem?_cons_zero, List.getElem?_cons_succ, Nat.reduceEqDiff, reduceCtorEq, ↓reduceIte, Nat.succ_ne_self, h0, h3, h4, hrow]
      · exact hap2
      · congr 1
    · rw [if_neg c] at hR
      have c0 : m % 2 = 0 := by omega
      rw [c0] at han
      have nx := fun fr' L' => ih (i + 1) (m / 2) acc fr' L' (by omega) (by omega) hm2 hR (by omega)
      clear ih hx hR hm hm2
      refine G_loop.trans ?_
      simp (config := { maxSteps := 10000000 }) (disch := omega) only [↓G_seq, ↓G_skip, ↓G_blk, ↓G_region, ↓G_block, ↓G_cond, ↓G_ops_nil, ↓G_op, Gv_some, Gc_true, Gc_false, dec_t, killAll, ↓get_setS, evalOp, ev, b_add, b_sub, b_eql, b_lss, wrap_i64, one, Option.map_some, List.getElem?_cons_zero, List.getElem?_cons_succ, Nat.reduceEqDiff, reduceCtorEq, ↓reduceIte, Nat.succ_ne_self, decide_false, Int.reduceEq, Int.cast_ofNat_Int, h0, h4, h6, hj, hsr, han, Int.cast_ofNat_Int]
      refine nx _ _ ?_ ?_ ?_ ?_ ?_ ?_
      all_goals simp (config := { maxSteps := 10000000 }) (disch := omega) only [↓get_setS, List.getElem?_cons_zero, List.getElem?_cons_succ, Nat.reduceEqDiff, reduceCtorEq, ↓reduceIte, Nat.succ_ne_self, h0, h3, h4, hrow]
      · exact h5
      · congr 1

/-- A list of lists. -/
def E1 (a : List (List Nat)) : List (List V) := a.map fun d => [svT (zs d)]
theorem E1_len (a : List (List Nat)) : (E1 a).length = a.length := by simp [E1]
theorem E1_pure (a : List (List Nat)) : (E1 a).all (fun e => e.all V.pure) = true := by
  simp only [E1, List.all_map, List.all_eq_true]
  intro d _
  simp [(svT_ok (zs d)).pure]

theorem loop29a {k : List KI} {n : Nat} {r : Option V} (hn : n ≤ 9) (hn0 : 0 < n)
    (hx : ∀ fr' L', Acc 2 1 L' (Ab.get fr' 3) (E1 (allD n)) → Gx tbl H [.tmp 2] 0 k fr' L' = r) :
    ∀ (q m : Nat) (fr : List V) (L : List Row), m + q = 2 ^ (n - 1) → Ab.get fr 0 = .i (n : Nat) → Ab.get fr 4 = .i (m : Nat) → Acc 2 1 L (Ab.get fr 3) (E1 ((List.range m).map (dvl n))) →
      G tbl H [.tmp 2] (.code (.loop ( (.seq ( (.seq ( .region [] [ ⟨some 10, .mv (.t 4), none⟩, ⟨some 11, .mv (.t 0), none⟩, ⟨some 12, .bin .sub (.t 11) (.c (.int .i64 1)), none⟩, ⟨some 13, .bin .shl (.c (.int .i64 1)) (.t 12), none⟩, ⟨some 14, .bin .lss (.t 10) (.t 13), none⟩]) ( (.cond (.t 14) ( .skip) ( .exit 0))))) ( (.seq ( (.block 1 ( (.seq ( .region [] [ ⟨some 17, .lit 1 [(.int .i64 0)] 1 [(0, 1, (.c (.int .i64 0)))], none⟩, ⟨some 5, .mv (.t 17), none⟩]) ( (.seq ( (.seq ( .region [] [ ⟨some 6, .mv (.c (.int .i64 1)), none⟩]) ( (.block 2 ( (.loop ( (.seq ( (.seq ( .region [] [ ⟨some 18, .mv (.t 6), none⟩, ⟨some 19, .mv (.t 0), none⟩, ⟨some 20, .bin .lss (.t 18) (.t 19), none⟩]) ( (.cond (.t 20) ( .skip) ( .exit 2))))) ( (.seq ( (.block 3 ( (.seq ( .region [] [ ⟨some 23, .mv (.t 4), none⟩, ⟨some 24, .mv (.t 6), none⟩, ⟨some 25, .bin .sub (.t 24) (.c (.int .i64 1)), none⟩, ⟨some 26, .bin .shr (.t 23) (.t 25), none⟩, ⟨some 27, .bin .and (.t 26) (.c (.int .i64 1)), none⟩, ⟨some 28, .bin .eql (.t 27) (.c (.int .i64 1)), none⟩]) ( (.cond (.t 28) ( .region [] [ ⟨some 29, .mv (.t 5), none⟩, ⟨some 30, .mv (.t 6), none⟩, ⟨some 31, .lit 1 [(.int .i64 0)] 1 [(0, 1, (.t 30))], none⟩, ⟨some 32, .app 1 1 8 (.t 29) (.t 31), none⟩, ⟨some 5, .mv (.t 32), none⟩]) ( .skip))))))) ( .region [] [ ⟨some 21, .mv (.t 6), none⟩, ⟨some 22, .bin .add (.t 21) (.c (.int .i64 1)), none⟩, ⟨some 6, .mv (.t 22), none⟩]))))))))))) ( .region [] [ ⟨some 33, .mv (.t 3), none⟩, ⟨some 34, .mv (.t 5), none⟩, ⟨some 35, .litf 1 [.nilsl] 1 [(0, 1, (.t 34))], none⟩, ⟨some 36, .app 2 1 24 (.t 33) (.t 35), none⟩, ⟨some 3, .mv (.t 36), none⟩]))))))) ( .region [] [ ⟨some 15, .mv (.t 4), none⟩, ⟨some 16, .bin .add (.t 15) (.c (.int .i64 1)), none⟩, ⟨some 4, .mv (.t 16), none⟩])))))) :: k) fr L = r := by
  intro q
  have hp := Nat.pow_le_pow_right (n := 2) (by omega) (show n - 1 ≤ 8 by omega)
  have hsl := bin_shl (j := n - 1) (by omega)
  have hj : ((n : Nat) : Int) - 1 = ((n - 1 : Nat) : Int) := by omega
  generalize hP : 2 ^ (n - 1) = P at *
  simp only [Nat.reducePow] at hp
  induction q with
  | zero =>
    intro m fr L hm h0 h4 h3
    obtain rfl : m = P := by omega
    refine G_loop.trans ?_
    simp (config := { maxSteps := 10000000 }) (disch := omega) only [↓G_seq, ↓G_exit, ↓G_region, ↓G_cond, ↓Gx_code, ↓G_ops_nil, ↓G_op, Gv_some, Gc_false, dec_f, killAll, ↓get_setS, evalOp, ev, b_sub, b_lss, wrap_i64, one, Option.map_some, List.getElem?_cons_zero, List.getElem?_cons_succ, Nat.reduceEqDiff, reduceCtorEq, ↓reduceIte, Nat.succ_ne_self, h0, h4, hj, hsl]
    refine hx _ _ ?_
    simp (config := { maxSteps := 10000000 }) (disch := omega) only [↓get_setS, List.getElem?_cons_zero, List.getElem?_cons_succ, Nat.reduceEqDiff, ↓reduceIte]
    rw [show allD n = (List.range m).map (dvl n) by unfold allD; rw [if_neg (by omega), hP]]
    exact h3
  | succ q ih =>
    intro m fr L hm h0 h4 h3
    have nx := fun fr' L' => ih (m + 1) fr' L' (by omega)
    clear ih hx
    refine G_loop.trans ?_
    simp (config := { maxSteps := 10000000 }) (disch := omega) only [↓G_seq, ↓G_skip, ↓G_region, ↓G_block, ↓G_cond, ↓G_ops_nil, ↓G_op, Gv_some, Gc_true, dec_t, killAll, ↓get_setS, evalOp, ev, b_sub, b_lss, wrap_i64, one, Option.map_some, Option.bind_some, List.append_nil, List.nil_append, List.all_cons, List.all_nil, Bool.true_and, Bool.and_self, List.getElem?_cons_zero, List.getElem?_cons_succ, Nat.reduceEqDiff, reduceCtorEq, ↓reduceIte, Nat.succ_ne_self, Int.reduceLT, V.cells, fillV, splice, chop, V.scalar, V.pure, Nat.reduceLT, true_and, and_self, List.length_cons, List.length_nil, List.take_succ_cons, List.take_zero, List.drop_succ_cons, List.drop_zero, Nat.le_refl, List.replicate, List.flatten_cons, List.flatten_nil, Nat.zero_add, h0, h4, hj, hsl]
    refine loop29b (n := n) (m0 := m) (v3 := Ab.get fr 3) (row := rget L 2) (R := dvl n m) hn (by omega) (fun fr' L' g0 g3 g4 hrow g5 => ?_) (n - 1) 1 m [0] _ _ (by omega) (by omega) (by simp) (by simp [dvl]) (by simp) ?_ ?_ ?_ rfl ?_ ?_
    · have h3' := h3.mono (L' := L') hrow
      rw [← g3] at h3'
      rw [List.range_succ, List.map_append] at nx
      have hsv := svT_ok (zs (dvl n m))
      have hapE : ∀ L', Acc 2 1 L' (Ab.get fr' 3) (E1 ((List.range m).map (dvl n))) → _ := fun L' h => acc_app (H := H) (bytes := 24) (y := .sl .full 1 [[svT (zs (dvl n m))]]) (new := [[svT (zs (dvl n m))]]) h rfl (by simp) (by omega) (by rw [E1_len]; simp; omega) (by simp [hsv.scalar])
      have hE : E1 ((List.range m).map (dvl n)) ++ [[svT (zs (dvl n m))]] = E1 ((List.range m).map (dvl n) ++ [dvl n m]) := by simp [E1]
      rw [hE] at hapE
      simp only [List.map_cons, List.map_nil] at nx
      generalize E1 ((List.range m).map (dvl n) ++ [dvl n m]) = E' at *
      generalize E1 ((List.range m).map (dvl n)) = E at *
      generalize hv3 : Ab.get fr' 3 = v3 at *
      generalize zs (dvl n m) = R at *
      have hlR := I1_len R
      have hpR := I1_pure R
      unfold svT at hapE hE
      rcases g5 with ⟨g5, hl⟩ | ⟨hl, ver, hver, g5, hrow5⟩
      · rw [if_pos (by omega)] at hapE hE
        obtain ⟨ha1, ha2⟩ := hapE L' h3'
        clear hapE
        generalize I1 R = A at *
        simp (config := { maxSteps := 10000000 }) (disch := omega) only [frzP, fillW, ↓G_blk, ↓G_region, ↓Gx_blk, ↓G_ops_nil, ↓G_op, Gv_some, killAll, ↓get_setS, evalOp, ev, b_add, wrap_i64, one, Option.map_some, Option.bind_some, List.append_nil, List.nil_append, List.all_cons, List.all_nil, Bool.true_and, Bool.and_self, List.getElem?_cons_zero, List.getElem?_cons_succ, Nat.reduceEqDiff, ↓reduceIte, Nat.succ_ne_self, Int.reduceLT, V.cells, splice, chop, V.scalar, V.pure, Nat.reduceLT, true_and, and_self, List.length_cons, List.length_nil, List.take_succ_cons, List.take_zero, List.drop_succ_cons, List.drop_zero, Nat.le_refl, List.replicate, List.flatten_cons, List.flatten_nil, Nat.zero_add, fz_full, g4, g5, hv3, ha1, sk_full]
        refine nx _ _ ?_ ?_ ?_
        · simp (config := { maxSteps := 10000000 }) (disch := omega) only [↓get_setS, List.getElem?_cons_zero, List.getElem?_cons_succ, reduceCtorEq, ↓reduceIte, g0]
        · simp (config := { maxSteps := 10000000 }) (disch := omega) only [↓get_setS, List.getElem?_cons_zero, List.getElem?_cons_succ, ↓reduceIte]
          congr 1
        · simp (config := { maxSteps := 10000000 }) (disch := omega) only [↓get_setS, List.getElem?_cons_zero, List.getElem?_cons_succ, Nat.reduceEqDiff, ↓reduceIte, Nat.succ_ne_self]
          exact ha2
      · rw [if_neg (by omega)] at hapE hE
        obtain ⟨ha1, ha2⟩ := hapE (rset L' 1 ⟨ver + 1, 0, []⟩) (h3'.mono (by rw [rget_rset, if_neg (by decide)]))
        clear hapE
        generalize I1 R = A at *
        simp (config := { maxSteps := 10000000 }) (disch := omega) only [frzP, fillW, ↓G_blk, ↓G_region, ↓Gx_blk, ↓G_ops_nil, ↓G_op, Gv_some, killAll, ↓get_setS, evalOp, ev, rget_rset, b_add, wrap_i64, one, Option.map_some, Option.bind_some, List.append_nil, List.nil_append, List.all_cons, List.all_nil, Bool.and_true, Bool.true_and, Bool.and_self, List.getElem?_cons_zero, List.getElem?_cons_succ, Nat.reduceEqDiff, ↓reduceIte, Nat.succ_ne_self, Int.reduceLT, V.cells, splice, chop, V.scalar, V.pure, Nat.reduceLT, and_true, true_and, and_self, List.length_cons, List.length_nil, List.take_succ_cons, List.take_zero, List.drop_succ_cons, List.drop_zero, Nat.le_refl, List.replicate, List.flatten_cons, List.flatten_nil, Nat.zero_add, fz_ref0, ite_ov, g4, g5, hv3, ha1, sk_any, hrow5, hpR, List.take_length, Nat.zero_add]
        refine nx _ _ ?_ ?_ ?_
        · simp (config := { maxSteps := 10000000 }) (disch := omega) only [↓get_setS, List.getElem?_cons_zero, List.getElem?_cons_succ, reduceCtorEq, ↓reduceIte, g0]
        · simp (config := { maxSteps := 10000000 }) (disch := omega) only [↓get_setS, List.getElem?_cons_zero, List.getElem?_cons_succ, ↓reduceIte]
          congr 1
        · simp (config := { maxSteps := 10000000 }) (disch := omega) only [↓get_setS, List.getElem?_cons_zero, List.getElem?_cons_succ, Nat.reduceEqDiff, ↓reduceIte, Nat.succ_ne_self]
          simpa [rget_rset] using ha2
    · simp (config := { maxSteps := 10000000 }) (disch := omega) only [↓get_setS, List.getElem?_cons_zero, List.getElem?_cons_succ, reduceCtorEq, ↓reduceIte, h0]
    · simp (config := { maxSteps := 10000000 }) (disch := omega) only [↓get_setS, List.getElem?_cons_zero, List.getElem?_cons_succ, Nat.reduceEqDiff, ↓reduceIte]
    · simp (config := { maxSteps := 10000000 }) (disch := omega) only [↓get_setS, List.getElem?_cons_zero, List.getElem?_cons_succ, Nat.reduceEqDiff, ↓reduceIte, Nat.succ_ne_self, h4]
    · simp (config := { maxSteps := 10000000 }) (disch := omega) only [↓get_setS, List.getElem?_cons_zero, List.getElem?_cons_succ, ↓reduceIte, Nat.succ_ne_self]
      exact .inl ⟨rfl, rfl⟩
    · simp (config := { maxSteps := 10000000 }) (disch := omega) only [↓get_setS, List.getElem?_cons_zero, List.getElem?_cons_succ, ↓reduceIte, Int.cast_ofNat_Int]

/-- The divisions, as a caller has them. -/
def allV (n : Nat) : V := if n = 0 then .sl .full 1 [[.nilsl]] else .sl .any 1 (E1 (allD n))
def allO (n : Nat) : V := if n = 0 then .sl .full 1 [[.nilsl]] else .sl .own 1 (E1 (allD n))
theorem c29 {n : Nat} (hn : n ≤ 9) : call tbl 29 [.i (n : Nat)] H = some (allO n) := by
  refine (call_start (show tbl 29 = some a29 from rfl)).trans ?_
  unfold allO
  by_cases h0 : n = 0
  · subst h0
    rw [if_pos rfl]
    simp only [Int.ofNat_zero, Int.cast_ofNat_Int]
    unfold a29
    simp (config := { maxSteps := 10000000 }) (disch := omega) only [frzP, fillW, ↓G_seq, ↓G_ret, ↓G_region, ↓G_cond, ↓G_ops_nil, ↓G_op, Gv_some, Gc_true, killAll, ↓get_setS, evalOp, ev, Ab.get, b_eql, one, Option.map_some, Option.bind_some, finish, resVs, resV, outVs, ownsLast, tupOf, List.append_nil, List.nil_append, List.all_cons, List.all_nil, Bool.true_and, Bool.and_self, List.getElem?_cons_zero, List.getElem?_cons_succ, reduceCtorEq, ↓reduceIte, decide_true, Int.reduceLT, V.cells, splice, chop, V.scalar, V.pure, Nat.reduceLT, true_and, and_self, List.length_cons, List.length_nil, List.take_succ_cons, List.take_zero, List.drop_succ_cons, List.drop_zero, Nat.le_refl, List.replicate, List.flatten_cons, List.flatten_nil, Nat.zero_add, ov_full, fn_some, fz_nilsl]
  · rw [if_neg h0]
    have e : outAcc 1 (E1 (allD n)) = .sl .own 1 (E1 (allD n)) := by
      unfold outAcc
      rw [if_neg]
      intro e
      have := congrArg List.length e
      rw [E1_len] at this
      unfold allD at this
      rw [if_neg h0] at this
      simp only [List.length_map, List.length_range, List.length_nil] at this
      have := Nat.two_pow_pos (n - 1)
      omega
    unfold a29
    simp (config := { maxSteps := 10000000 }) (disch := omega) only [↓G_seq, ↓G_skip, ↓G_region, ↓G_block, ↓G_cond, ↓G_ops_nil, ↓G_op, Gv_some, Gc_false, dec_f, killAll, ↓get_setS, evalOp, ev, Ab.get, b_eql, one, Option.map_some, List.getElem?_cons_zero, List.getElem?_cons_succ, reduceCtorEq, ↓reduceIte]
    refine loop29a (n := n) hn (by omega) (fun fr' L' hacc => ?_) (2 ^ (n - 1)) 0 _ _ (by omega) ?_ ?_ ?_
    · have ho := hacc.out (by omega) (E1_pure _)
      rw [e] at ho
      simp (config := { maxSteps := 10000000 }) (disch := omega) only [↓G_seq, ↓G_ret, ↓G_region, ↓Gx_blk, ↓G_ops_nil, ↓G_op, Gv_some, killAll, ↓get_setS, evalOp, ev, Option.map_some, Option.bind_some, finish, resVs, resV, outVs, ownsLast, tupOf, List.all_nil, List.getElem?_cons_zero, List.getElem?_cons_succ, ↓reduceIte, fn_some, ho]
    all_goals simp (config := { maxSteps := 10000000 }) (disch := omega) only [↓get_setS, Ab.get, List.getElem?_cons_zero, List.getElem?_cons_succ, reduceCtorEq, ↓reduceIte, Nat.succ_ne_self, Int.cast_ofNat_Int]
    exact Acc.nil

end Go.Proofs.Ytgghbckhdchcaaa

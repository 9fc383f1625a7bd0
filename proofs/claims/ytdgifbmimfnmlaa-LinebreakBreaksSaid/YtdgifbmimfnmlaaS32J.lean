/-
  Line breaks: the law Breaks: of all divisions of a few measures.
-/
import Derived.Test.YtdgifbmimfnmlaaS32L
import Derived.Test.YtdgifbmimfnmlaaS32H
namespace Go.Proofs.Ytdgifbmimfnmlaa
open Go Go.Ab
set_option linter.unusedVariables false
set_option linter.unnecessarySimpa false
set_option linter.unusedSimpArgs false
set_option maxRecDepth 100000
variable {H : List (List Row)}
open Path (Ch)

theorem bin_shr {x j : Nat} (h : j ≤ 62) : binV .shr (.i (x : Nat)) (.i (j : Nat)) = some (.i ((x / 2 ^ j : Nat) : Int)) := by
  have e : ¬ ((j : Nat) : Int) < 0 := by omega
  simp only [binV, shiftBin, or_true, if_true, if_neg e, IntKind.bits]
  rw [Int.toNat_natCast, Nat.min_eq_left (by omega), Int.fdiv_eq_ediv_of_nonneg _ (by exact_mod_cast Nat.zero_le _)]
  simp
theorem bin_and {x : Nat} (h : x < 4096) : binV .and (.i (x : Nat)) (.i 1) = some (.i ((x % 2 : Nat) : Int)) := by
  simp only [binV, reduceCtorEq, or_self, if_false, if_true, intBin]
  have : (BitVec.ofInt 64 ((x : Nat) : Int) &&& BitVec.ofInt 64 1).toNat = x % 2 := by
    rw [BitVec.toNat_and]
    have h1 : (BitVec.ofInt 64 ((x : Nat) : Int)).toNat = x := by
      simp
      omega
    rw [h1]
    exact Nat.and_one_is_mod x
  change some (V.int .i64 (IntKind.i64.wrap ((BitVec.ofInt 64 ((x : Nat) : Int) &&& BitVec.ofInt 64 1).toNat : Nat))) = _
  rw [this, wrap_i64 (by omega)]
theorem bin_shl {j : Nat} (h : j ≤ 30) : binV .shl (.i 1) (.i (j : Nat)) = some (.i ((2 ^ j : Nat) : Int)) := by
  have e : ¬ ((j : Nat) : Int) < 0 := by omega
  have h2 : 2 ^ j ≤ 2 ^ 30 := Nat.pow_le_pow_right (by omega) h
  simp only [binV, shiftBin, true_or, if_true, if_neg e, IntKind.bits]
  rw [Int.toNat_natCast, Nat.min_eq_left (by omega), Int.one_mul]
  have e2 : ((2 : Int) ^ j) = ((2 ^ j : Nat) : Int) := by simp
  rw [e2]
  generalize 2 ^ j = p at *
  rw [wrap_i64 (by omega)]
/-- The numbers from i on whose bit is set. -/
def rest2 : Nat → Nat → Nat → List Nat
  | _, _, 0 => []
  | m, i, k + 1 => if m % 2 = 1 then i :: rest2 (m / 2) (i + 1) k else rest2 (m / 2) (i + 1) k
def dvl (n m : Nat) : List Nat := 0 :: rest2 m 1 (n - 1)
theorem rest2_D {n : Nat} : ∀ (k m i p : Nat), p < i → i + k = n → p < n → Path.isD n (p :: rest2 m i k)
  | 0, m, i, p, h1, h2, h3 => h3
  | k + 1, m, i, p, h1, h2, h3 => by
    unfold rest2
    split
    · exact ⟨h1, rest2_D k (m / 2) (i + 1) i (by omega) (by omega) (by omega)⟩
    · exact rest2_D k (m / 2) (i + 1) p (by omega) (by omega) h3
theorem rest2_all {n : Nat} : ∀ (k i p : Nat) (t : List Nat), p < i → i + k = n → Path.isD n (p :: t) → (∀ x u, t = x :: u → i ≤ x) → ∃ m, m < 2 ^ k ∧ rest2 m i k = t
  | 0, i, p, t, h1, h2, h3, h4 => by
    cases t with
    | nil => exact ⟨0, by simp, rfl⟩
    | cons x u =>
      have := h4 x u rfl
      have := isD_hd _ _ h3.2
      omega
  | k + 1, i, p, t, h1, h2, h3, h4 => by
    have hp : 2 ^ (k + 1) = 2 * 2 ^ k := by rw [Nat.pow_succ]; omega
    cases t with
    | nil =>
      obtain ⟨m, q1, q2⟩ := rest2_all (n := n) k (i + 1) p [] (by omega) (by omega) h3 (fun x u e => by cases e)
      refine ⟨2 * m, by omega, ?_⟩
      unfold rest2
      rw [if_neg (by omega), show 2 * m / 2 = m by omega, q2]
    | cons x u =>
      by_cases hx : x = i
      · subst hx
        obtain ⟨m, q1, q2⟩ := rest2_all (n := n) k (x + 1) x u (by omega) (by omega) h3.2 (fun y w e => by subst e; exact h3.2.1)
        refine ⟨2 * m + 1, by omega, ?_⟩
        unfold rest2
        rw [if_pos (by omega), show (2 * m + 1) / 2 = m by omega, q2]
      · have := h4 x u rfl
        obtain ⟨m, q1, q2⟩ := rest2_all (n := n) k (i + 1) p (x :: u) (by omega) (by omega) h3 (fun y w e => by injection e with e1 _; omega)
        refine ⟨2 * m, by omega, ?_⟩
        unfold rest2
        rw [if_neg (by omega), show 2 * m / 2 = m by omega, q2]
theorem rest2_len : ∀ (k m i : Nat), (rest2 m i k).length ≤ k
  | 0, _, _ => by simp [rest2]
  | k + 1, m, i => by
    have := rest2_len k (m / 2) (i + 1)
    unfold rest2
    split
    · simp only [List.length_cons]; omega
    · omega
/-- A list that is built up, begun by a literal. -/
def Acc1 (site : Nat) (L : List Row) (v : V) (acc : List (List V)) : Prop := (v = .sl .full 1 acc ∧ acc.length = 1) ∨ (1 < acc.length ∧ ∃ ver, 0 < ver ∧ v = .ref 0 site ver 1 0 acc.length ∧ rget L site = ⟨ver, 1, acc⟩)
theorem Acc1.len {site : Nat} {L : List Row} {v : V} {acc : List (List V)} (h : Acc1 site L v acc) : lenV v = some (.i (acc.length : Nat)) := by
  rcases h with ⟨rfl, _⟩ | ⟨_, ver, _, rfl, _⟩ <;> rfl
theorem Acc1.load {site : Nat} {L : List Row} {v : V} {acc : List (List V)} (h : Acc1 site L v acc) {n : Int} {x : V} {M : List (List Row)} (h0 : 0 ≤ n) (hx : acc[n.toNat]? = some [x]) (hp : V.shift 0 x = x) :
    ∃ p, elemV 1 v (.i n) = some p ∧ loadV (L :: M) false 1 p = some x := by
  rcases h with ⟨rfl, _⟩ | ⟨_, ver, hv, rfl, hr⟩
  · exact ⟨.eptr [x] 0, by simp [elemV, h0, hx], by simp [loadV, pick3]⟩
  · have hlt : n < acc.length := by
      have := (List.getElem?_eq_some_iff.1 hx).1
      omega
    refine ⟨.ptr 0 site ver n.toNat 0, by simp [elemV, h0, hlt], ?_⟩
    simp [loadV, Ab.rowAt, hr, hv, hx, pick3, hp]
theorem Acc1.app {site bytes : Nat} {L : List Row} {M : List (List Row)} {v y : V} {acc : List (List V)} {x : V} (h : Acc1 site L v acc) (hy : elsOf (L :: M) y = some [[x]]) (hb : bytes ≤ 16384) (hl : acc.length < 4294967296) (ha : ∀ e ∈ acc, e.length = 1 ∧ e.all V.scalar = true) (hx : V.scalar x = true) :
    appV (L :: M) site 1 bytes v y = some (.ref 0 site ((rget L site).ver + 1) 1 0 (acc.length + 1), rset L site ⟨(rget L site).ver + 1, 1, acc ++ [[x]]⟩) ∧
    Acc1 site (rset L site ⟨(rget L site).ver + 1, 1, acc ++ [[x]]⟩) (.ref 0 site ((rget L site).ver + 1) 1 0 (acc.length + 1)) (acc ++ [[x]]) := by
  have h1 : 0 < acc.length := by rcases h with ⟨_, h⟩ | ⟨h, _⟩ <;> omega
  refine ⟨?_, .inr ⟨by simp; omega, (rget L site).ver + 1, by omega, by simp, by rw [rget_rset, if_pos rfl]⟩⟩
  rcases h with ⟨rfl, h0⟩ | ⟨h0, ver, hv, rfl, hr⟩
  · simp only [appV, hy, Option.bind_some, List.isEmpty_cons, Bool.false_eq_true, if_false, List.getD_cons_zero]
    rw [if_pos ⟨by simp [roomy, hb]; omega, by
      rw [List.all_append]
      simp only [List.all_cons, List.all_nil, List.length_cons, List.length_nil, hx, Bool.and_true]
      rw [List.all_eq_true.2 (fun e he => by simpa using ha e he)]
      rfl⟩]
    simp
  · simp only [appV, hy, Option.bind_some, List.getD_cons_zero, hr]
    rw [if_pos ⟨trivial, hv, trivial, trivial, trivial, by simp [roomy, hb]; omega, by simp [hx]⟩]
    simp
/-- The list as a call returns it, and as its caller has it. -/
def outT (R : List Int) : V := .sl (if R.length = 1 then .full else .own) 1 (I1 R)
def svT (R : List Int) : V := .sl (if R.length = 1 then .full else .any) 1 (I1 R)
theorem svT_ok (R : List Int) : SlV 1 (svT R) (I1 R) := by
  refine .inr ⟨_, ?_, rfl⟩
  split <;> simp
theorem take_T {L : List Row} {s : Nat} {R : List Int} : takeIn false L s (outT R) = (svT R, L) := by
  unfold outT svT
  by_cases h : R.length = 1
  · rw [if_pos h, if_pos h]; rfl
  · rw [if_neg h, if_neg h]; rfl
theorem take_Tt {L : List Row} {s : Nat} {R : List Int} {vs : List V} : takeIn false L s (.tup (outT R :: vs)) = (.tup (svT R :: vs.map Ab.settle), L) := by
  unfold outT svT
  by_cases h : R.length = 1
  · rw [if_pos h, if_pos h]; rfl
  · rw [if_neg h, if_neg h]; rfl
theorem Acc1.out {site : Nat} {L : List Row} {v : V} {R : List Int} (h : Acc1 site L v (I1 R)) : outV L v = some (outT R) := by
  have hp := I1_pure R
  unfold outT
  rcases h with ⟨rfl, h0⟩ | ⟨h0, ver, hv, rfl, hr⟩
  · rw [I1_len] at h0
    rw [if_pos h0]
    simp [outV]
  · rw [I1_len] at h0
    rw [if_neg (by omega)]
    simp only [outV, hr]
    rw [if_pos ⟨trivial, hv, trivial, trivial, by omega, hp⟩]

theorem loop32 {k : List KI} {n m0 : Nat} {r : Option V} {R : List Nat} (hn : n ≤ 9) (hm0 : m0 < 256)
    (hx : ∀ fr' L', Acc1 1 L' (Ab.get fr' 5) (I1 (zs R)) → Gx tbl H [.tmp 4] 0 k fr' L' = r) :
    ∀ (q i m : Nat) (acc : List Nat) (fr : List V) (L : List Row), i + q = n → 1 ≤ i → m = m0 / 2 ^ (i - 1) → R = acc ++ rest2 m i q → acc.length ≤ i → Ab.get fr 0 = .i (m0 : Nat) → Ab.get fr 1 = .i (n : Nat) → Acc1 1 L (Ab.get fr 5) (I1 (zs acc)) → Ab.get fr 6 = .i (i : Nat) →
      G tbl H [.tmp 4] (.code (.loop ( (.seq ( (.seq ( .region [] [ ⟨some 8, .mv (.t 6), none⟩, ⟨some 9, .mv (.t 1), none⟩, ⟨some 10, .bin .lss (.t 8) (.t 9), none⟩]) ( (.cond (.t 10) ( .skip) ( .exit 0))))) ( (.seq ( (.block 1 ( (.seq ( .region [] [ ⟨some 13, .mv (.t 0), none⟩, ⟨some 14, .mv (.t 6), none⟩, ⟨some 15, .bin .sub (.t 14) (.c (.int .i64 1)), none⟩, ⟨some 16, .bin .shr (.t 13) (.t 15), none⟩, ⟨some 17, .bin .and (.t 16) (.c (.int .i64 1)), none⟩, ⟨some 18, .bin .eql (.t 17) (.c (.int .i64 1)), none⟩]) ( (.cond (.t 18) ( .region [] [ ⟨some 19, .mv (.t 5), none⟩, ⟨some 20, .mv (.t 6), none⟩, ⟨some 21, .lit 1 [(.int .i64 0)] 1 [(0, 1, (.t 20))], none⟩, ⟨some 22, .app 1 1 8 (.t 19) (.t 21), none⟩, ⟨some 5, .mv (.t 22), none⟩]) ( .skip))))))) ( .region [] [ ⟨some 11, .mv (.t 6), none⟩, ⟨some 12, .bin .add (.t 11) (.c (.int .i64 1)), none⟩, ⟨some 6, .mv (.t 12), none⟩])))))) :: k) fr L = r := by
  intro q
  induction q with
  | zero =>
    intro i m acc fr L hi hi1 hm hR hal h0 h1 h5 h6
    rw [rest2, List.append_nil] at hR
    subst hR
    refine G_loop.trans ?_
    simp (config := { maxSteps := 10000000 }) (disch := omega) only [↓G_seq, ↓G_exit, ↓G_region, ↓G_cond, ↓Gx_code, ↓G_ops_nil, ↓G_op, Gv_some, Gc_false, dec_f, killAll, ↓get_setS, evalOp, ev, b_lss, one, Option.map_some, List.getElem?_cons_zero, List.getElem?_cons_succ, Nat.reduceEqDiff, ↓reduceIte, Nat.succ_ne_self, h1, h6]
    refine hx _ _ ?_
    simp (config := { maxSteps := 10000000 }) (disch := omega) only [↓get_setS, List.getElem?_cons_zero, List.getElem?_cons_succ, Nat.reduceEqDiff, ↓reduceIte]
    exact h5
  | succ q ih =>
    intro i m acc fr L hi hi1 hm hR hal h0 h1 h5 h6
    have hj : ((i : Nat) : Int) - 1 = ((i - 1 : Nat) : Int) := by omega
    have hsr := bin_shr (x := m0) (j := i - 1) (by omega)
    rw [← hm] at hsr
    have hm1 : m ≤ m0 := by rw [hm]; exact Nat.div_le_self _ _
    have han := bin_and (x := m) (by omega)
    have hm2 : m / 2 = m0 / 2 ^ (i + 1 - 1) := by
      rw [hm, Nat.div_div_eq_div_mul, ← Nat.pow_succ]
      congr 2
      omega
    unfold rest2 at hR
    by_cases c : m % 2 = 1
    · rw [if_pos c] at hR
      obtain ⟨hap1, hap2⟩ := h5.app (M := H) (bytes := 8) (y := .sl .full 1 [[.i (i : Nat)]]) (x := .i (i : Nat)) rfl (by omega) (by rw [I1_len, zs_len]; omega) (I1_sc _) rfl
      have hz : I1 (zs acc) ++ [[V.i (i : Nat)]] = I1 (zs (acc ++ [i])) := by simp [I1, zs]
      rw [hz] at hap1 hap2
      rw [c] at han
      have nx := fun fr' L' => ih (i + 1) (m / 2) (acc ++ [i]) fr' L' (by omega) (by omega) hm2 (by rw [hR]; simp) (by simp; omega)
      generalize hv5 : Ab.get fr 5 = v5 at *
      clear ih hx h5 hR hm hm2 hz
      refine G_loop.trans ?_
      simp (config := { maxSteps := 10000000 }) (disch := omega) only [↓G_seq, ↓G_skip, ↓G_blk, ↓G_region, ↓G_block, ↓G_cond, ↓G_ops_nil, ↓G_op, Gv_some, Gc_true, dec_t, killAll, ↓get_setS, evalOp, ev, b_add, b_sub, b_eql, b_lss, wrap_i64, one, Option.map_some, Option.bind_some, List.append_nil, List.nil_append, List.all_cons, List.all_nil, Bool.true_and, Bool.and_self, List.getElem?_cons_zero, List.getElem?_cons_succ, Nat.reduceEqDiff, reduceCtorEq, ↓reduceIte, Nat.succ_ne_self, decide_true, Int.reduceLT, V.cells, fillV, splice, chop, V.scalar, V.pure, Nat.reduceLT, true_and, and_self, List.length_cons, List.length_nil, List.take_succ_cons, List.take_zero, List.drop_succ_cons, List.drop_zero, Nat.le_refl, List.replicate, List.flatten_cons, List.flatten_nil, Int.cast_ofNat_Int, Nat.zero_add, h0, h1, h6, hj, hsr, han, hv5, hap1, Int.cast_ofNat_Int]
      refine nx _ _ ?_ ?_ ?_ ?_
      all_goals simp (config := { maxSteps := 10000000 }) (disch := omega) only [↓get_setS, List.getElem?_cons_zero, List.getElem?_cons_succ, Nat.reduceEqDiff, reduceCtorEq, ↓reduceIte, Nat.succ_ne_self, h0, h1]
      · exact hap2
      · congr 1
    · rw [if_neg c] at hR
      have c0 : m % 2 = 0 := by omega
      rw [c0] at han
      have nx := fun fr' L' => ih (i + 1) (m / 2) acc fr' L' (by omega) (by omega) hm2 hR (by omega)
      clear ih hx hR hm hm2
      refine G_loop.trans ?_
      simp (config := { maxSteps := 10000000 }) (disch := omega) only [↓G_seq, ↓G_skip, ↓G_blk, ↓G_region, ↓G_block, ↓G_cond, ↓G_ops_nil, ↓G_op, Gv_some, Gc_true, Gc_false, dec_t, killAll, ↓get_setS, evalOp, ev, b_add, b_sub, b_eql, b_lss, wrap_i64, one, Option.map_some, List.getElem?_cons_zero, List.getElem?_cons_succ, Nat.reduceEqDiff, reduceCtorEq, ↓reduceIte, Nat.succ_ne_self, decide_false, Int.reduceEq, Int.cast_ofNat_Int, h0, h1, h6, hj, hsr, han, Int.cast_ofNat_Int]
      refine nx _ _ ?_ ?_ ?_ ?_
      all_goals simp (config := { maxSteps := 10000000 }) (disch := omega) only [↓get_setS, List.getElem?_cons_zero, List.getElem?_cons_succ, Nat.reduceEqDiff, reduceCtorEq, ↓reduceIte, Nat.succ_ne_self, h0, h1]
      · exact h5
      · congr 1

theorem c32 {n m : Nat} (hn : n ≤ 9) (hn0 : 0 < n) (hm : m < 256) : call tbl 32 [.i (m : Nat), .i (n : Nat)] H = some (outT (zs (dvl n m))) := by
  refine (call_start (show tbl 32 = some a32 from rfl)).trans ?_
  have fin := fun k hx => loop32 (H := H) (k := k) (n := n) (m0 := m) (R := dvl n m) (r := some (outT (zs (dvl n m)))) hn hm hx (n - 1) 1 m [0]
  unfold a32
  simp (config := { maxSteps := 10000000 }) (disch := omega) only [↓G_seq, ↓G_region, ↓G_block, ↓G_ops_nil, ↓G_op, Gv_some, killAll, ↓get_setS, evalOp, ev, Option.bind_some, List.append_nil, List.nil_append, List.all_cons, List.all_nil, Bool.true_and, Bool.and_self, List.getElem?_cons_zero, List.getElem?_cons_succ, ↓reduceIte, Int.reduceLT, V.cells, fillV, splice, chop, V.scalar, V.pure, Nat.reduceLT, true_and, and_self, List.length_cons, List.length_nil, List.take_succ_cons, List.take_zero, List.drop_succ_cons, List.drop_zero, Nat.le_refl, List.replicate, List.flatten_cons, List.flatten_nil, Nat.zero_add]
  refine fin _ (fun fr' L' h5 => ?_) _ _ (by omega) (by omega) (by simp) (by simp [dvl]) (by simp) ?_ ?_ ?_ ?_
  · have ho := h5.out
    clear fin
    generalize outT (zs (dvl n m)) = O at *
    simp (config := { maxSteps := 10000000 }) (disch := omega) only [↓G_seq, ↓G_ret, ↓G_region, ↓Gx_blk, ↓G_ops_nil, ↓G_op, Gv_some, killAll, ↓get_setS, evalOp, ev, Option.map_some, Option.bind_some, finish, resVs, resV, outVs, ownsLast, tupOf, List.all_nil, List.getElem?_cons_zero, List.getElem?_cons_succ, ↓reduceIte, fn_some, ho]
  all_goals clear fin
  all_goals simp (config := { maxSteps := 10000000 }) (disch := omega) only [↓get_setS, Ab.get, List.getElem?_cons_zero, List.getElem?_cons_succ, Nat.reduceEqDiff, reduceCtorEq, ↓reduceIte, Nat.succ_ne_self, Int.cast_ofNat_Int]
  exact .inl ⟨rfl, rfl⟩

/-! ### The best of all -/
def betr (T : List Nat → Int) (d : List Nat) (st : List Nat × Int) : Prop := T d < st.2 ∨ (T d = st.2 ∧ T d < inf ∧ Path.bet d st.1 = true)
instance (T : List Nat → Int) (d : List Nat) (st : List Nat × Int) : Decidable (betr T d st) := by unfold betr; exact inferInstance
def bfold (T : List Nat → Int) : List (List Nat) → List Nat × Int → List Nat × Int
  | [], st => st
  | d :: t, st => bfold T t (if betr T d st then (d, T d) else st)
theorem bfold_none {T : List Nat → Int} : ∀ (t : List (List Nat)) (a : List Nat), (∀ d ∈ t, inf ≤ T d) → bfold T t (a, inf) = (a, inf)
  | [], _, _ => rfl
  | d :: t, a, h => by
    unfold bfold
    have := h d (by simp)
    rw [if_neg (by unfold betr; simp only; omega)]
    exact bfold_none t a (fun x hx => h x (by simp [hx]))
theorem bfold_best {T : List Nat → Int} {all : List (List Nat)} {D : List Nat} (hD : T D < inf) (hbest : ∀ d ∈ all, d = D ∨ T D < T d ∨ (T D = T d ∧ Path.bet D d = true)) :
    ∀ (t : List (List Nat)) (st : List Nat × Int), (∀ d ∈ t, d ∈ all) → (st.1 = D ∧ st.2 = T D) ∨ (D ∈ t ∧ (st.2 = inf ∨ (st.1 ∈ all ∧ st.2 = T st.1 ∧ st.1 ≠ D))) → bfold T t st = (D, T D)
  | [], st, _, h => by
    rcases h with ⟨h1, h2⟩ | ⟨h, _⟩
    · exact Prod.ext h1 h2
    · cases h
  | d :: t, st, ht, h => by
    have hd := hbest d (ht d (by simp))
    unfold bfold
    refine bfold_best hD hbest t _ (fun x hx => ht x (by simp [hx])) ?_
    rcases h with ⟨h1, h2⟩ | ⟨h1, h2⟩
    · refine .inl ?_
      rw [if_neg]
      · exact ⟨h1, h2⟩
      · unfold betr
        rw [h1, h2]
        rintro (h | ⟨h3, _, h4⟩)
        · rcases hd with rfl | hd | ⟨hd, _⟩ <;> omega
        · rcases hd with rfl | hd | ⟨_, hd⟩
          · rw [Path.bet_irr] at h4
            cases h4
          · omega
          · rw [Path.bet_asym hd] at h4
            cases h4
    · by_cases c : d = D
      · subst c
        refine .inl ?_
        rw [if_pos]
        · exact ⟨rfl, rfl⟩
        · unfold betr
          rcases h2 with h2 | ⟨h3, h4, h5⟩
          · exact .inl (by omega)
          · rw [h4]
            rcases hbest st.1 h3 with h6 | h6 | ⟨h6, h7⟩
            · exact absurd h6 h5
            · exact .inl h6
            · exact .inr ⟨h6, hD, h7⟩
      · refine .inr ⟨?_, ?_⟩
        · rcases List.mem_cons.1 h1 with h | h
          · exact absurd h.symm c
          · exact h
        · split
          · exact .inr ⟨ht d (by simp), rfl, c⟩
          · exact h2

def ov (D : List Nat) : V := if D = [] then .nilsl else svT (zs D)
theorem ov_ok (D : List Nat) : SlV 1 (ov D) (I1 (zs D)) := by
  unfold ov
  split
  · rename_i h
    subst h
    exact .nil
  · exact svT_ok _
theorem ov_dvl (n m : Nat) : ov (dvl n m) = svT (zs (dvl n m)) := if_neg (by simp [dvl])
theorem dvl_D {n m : Nat} (hn : 0 < n) : Path.isD n (dvl n m) := rest2_D (n - 1) m 1 0 (by omega) (by omega) hn

theorem loop19 {k : List KI} {v : V} {l : List Me} {w d : Int} {L : List Row} {r : Option V} {S : List Nat × Int} (he : errL l = 0) (hp : inP w d) (hn : l.length ≤ 9) (hv : SlV 5 v (E5 l))
    (hx : ∀ fr', Ab.get fr' 8 = ov S.1 → Ab.get fr' 9 = .i S.2 → Gx tbl H [.tmp 6, .tmp 7] 0 k fr' L = r) :
    ∀ (q m : Nat) (st : List Nat × Int) (fr : List V), m + q = 2 ^ (l.length - 1) → st.1.length ≤ 9 → 0 ≤ st.2 ∧ st.2 ≤ inf → Ab.get fr 0 = v → Ab.get fr 1 = .i w → Ab.get fr 2 = .i d → Ab.get fr 8 = ov st.1 → Ab.get fr 9 = .i st.2 → Ab.get fr 10 = .i (m : Nat) →
      S = bfold (tt l w d true) ((List.range' m q).map (dvl l.length)) st →
      G tbl H [.tmp 6, .tmp 7] (.code (.loop ( (.seq ( (.seq ( .region [] [ ⟨some 13, .mv (.t 10), none⟩, ⟨some 14, .mv (.t 0), none⟩, ⟨some 15, .len (.t 14), none⟩, ⟨some 16, .bin .sub (.t 15) (.c (.int .i64 1)), none⟩, ⟨some 17, .bin .shl (.c (.int .i64 1)) (.t 16), none⟩, ⟨some 18, .bin .lss (.t 13) (.t 17), none⟩]) ( (.cond (.t 18) ( .skip) ( .exit 0))))) ( (.seq ( (.block 1 ( (.seq ( .region [] [ ⟨some 21, .mv (.t 10), none⟩, ⟨some 22, .mv (.t 0), none⟩, ⟨some 23, .len (.t 22), none⟩, ⟨some 24, .call 0 (.c (.fn 32 [])) [(.t 21), (.t 23)], none⟩, ⟨some 11, .mv (.t 24), none⟩]) ( (.seq ( .region [] [ ⟨some 25, .mv (.t 0), none⟩, ⟨some 26, .mv (.t 11), none⟩, ⟨some 27, .mv (.t 1), none⟩, ⟨some 28, .mv (.t 2), none⟩, ⟨some 29, .call 0 (.c (.fn 17 [])) [(.t 25), (.t 26), (.t 27), (.t 28)], none⟩, ⟨some 12, .mv (.t 29), none⟩]) ( (.seq ( .region [] [ ⟨some 30, .mv (.t 12), none⟩, ⟨some 31, .mv (.t 9), none⟩, ⟨some 32, .bin .lss (.t 30) (.t 31), none⟩, ⟨some 33, .mv (.t 32), none⟩, ⟨some 34, .mv (.t 12), some (33, false)⟩, ⟨some 35, .mv (.t 9), some (33, false)⟩, ⟨some 36, .bin .eql (.t 34) (.t 35), some (33, false)⟩, ⟨some 37, .mv (.t 36), some (33, false)⟩, ⟨some 38, .mv (.t 12), some (37, true)⟩, ⟨some 39, .bin .lss (.t 38) (.c (.int .i64 1125899906842624)), some (37, true)⟩, ⟨some 40, .pick (.t 37) (.t 39) (.c (.bool false)), some (33, false)⟩, ⟨some 41, .mv (.t 40), some (33, false)⟩, ⟨some 42, .mv (.t 11), some (41, true)⟩, ⟨some 43, .mv (.t 8), some (41, true)⟩, ⟨some 44, .call 0 (.c (.fn 23 [])) [(.t 42), (.t 43)], some (41, true)⟩, ⟨some 45, .pick (.t 41) (.t 44) (.c (.bool false)), some (33, false)⟩, ⟨some 46, .pick (.t 33) (.c (.bool true)) (.t 45), none⟩]) ( (.cond (.t 46) ( .region [] [ ⟨some 47, .mv (.t 11), none⟩, ⟨some 48, .mv (.t 12), none⟩, ⟨some 8, .mv (.t 47), none⟩, ⟨some 9, .mv (.t 48), none⟩]) ( .skip))))))))))) ( .region [] [ ⟨some 19, .mv (.t 10), none⟩, ⟨some 20, .bin .add (.t 19) (.c (.int .i64 1)), none⟩, ⟨some 10, .mv (.t 20), none⟩])))))) :: k) fr L = r := by
  intro q
  obtain ⟨hl0, hl1, _⟩ := errL_ok he
  have hpw := Nat.pow_le_pow_right (n := 2) (by omega) (show l.length - 1 ≤ 8 by omega)
  have hsl := bin_shl (j := l.length - 1) (by omega)
  have hj : ((l.length : Nat) : Int) - 1 = ((l.length - 1 : Nat) : Int) := by omega
  have hlv := hv.len
  rw [E5_len] at hlv
  have hsh := hv.sh
  generalize 2 ^ (l.length - 1) = P at *
  simp only [Nat.reducePow] at hpw
  induction q with
  | zero =>
    intro m st fr hm hsl1 hs2 h0 h1 h2 h8 h9 h10 hS
    obtain rfl : m = P := by omega
    simp only [List.range'_zero, List.map_nil, bfold] at hS
    subst hS
    refine G_loop.trans ?_
    simp (config := { maxSteps := 10000000 }) (disch := omega) only [↓G_seq, ↓G_exit, ↓G_region, ↓G_cond, ↓Gx_code, ↓G_ops_nil, ↓G_op, Gv_some, Gc_false, dec_f, killAll, ↓get_setS, evalOp, ev, b_sub, b_lss, wrap_i64, one, Option.map_some, List.getElem?_cons_zero, List.getElem?_cons_succ, Nat.reduceEqDiff, reduceCtorEq, ↓reduceIte, Nat.succ_ne_self, h0, h10, hlv, hj, hsl]
    refine hx _ ?_ ?_
    all_goals simp (config := { maxSteps := 10000000 }) (disch := omega) only [↓get_setS, List.getElem?_cons_zero, List.getElem?_cons_succ, Nat.reduceEqDiff, ↓reduceIte, h8, h9]
  | succ q ih =>
    intro m st fr hm hsl1 hs2 h0 h1 h2 h8 h9 h10 hS
    have h32 := fun H => c32 (H := H) (n := l.length) (m := m) hn hl0 (by omega)
    have hD := dvl_D (m := m) hl0
    have hdl : (dvl l.length m).length ≤ 9 := by
      have := rest2_len (l.length - 1) m 1
      simp only [dvl, List.length_cons]
      omega
    have h17 := fun H => c17 (H := H) (D := rest2 m 1 (l.length - 1)) he hp hv (svT_ok _) hD
    have h23 := fun H => c23 (H := H) (a := zs (dvl l.length m)) (b := zs st.1) (by rw [zs_len]; omega) (by rw [zs_len]; omega) (svT_ok _) (ov_ok st.1)
    rw [betI_zs] at h23
    have hb := tt_Bd l w d (dvl l.length m) true (by omega)
    have hT : 0 ≤ tt l w d true (dvl l.length m) ∧ tt l w d true (dvl l.length m) ≤ inf := by
      have := hinf
      unfold Bd at hb
      omega
    change ∀ H, call tbl 17 [v, svT (zs (dvl l.length m)), .i w, .i d] H = some (.i (tt l w d true (dvl l.length m))) at h17
    have htk := fun L s => take_T (L := L) (s := s) (R := zs (dvl l.length m))
    have hwh := (svT_ok (zs (dvl l.length m))).sh
    have hoh := (ov_ok st.1).sh
    rw [List.range'_succ, List.map_cons] at hS
    unfold bfold at hS
    have hov := ov_dvl l.length m
    have yes : betr (tt l w d true) (dvl l.length m) st → ∀ fr', Ab.get fr' 0 = v → Ab.get fr' 1 = .i w → Ab.get fr' 2 = .i d → Ab.get fr' 8 = svT (zs (dvl l.length m)) → Ab.get fr' 9 = .i (tt l w d true (dvl l.length m)) → Ab.get fr' 10 = .i ((m : Nat) + 1) →
        G tbl H [.tmp 6, .tmp 7] (.code (.loop ( (.seq ( (.seq ( .region [] [ ⟨some 13, .mv (.t 10), none⟩, ⟨some 14, .mv (.t 0), none⟩, ⟨some 15, .len (.t 14), none⟩, ⟨some 16, .bin .sub (.t 15) (.c (.int .i64 1)), none⟩, ⟨some 17, .bin .shl (.c (.int .i64 1)) (.t 16), none⟩, ⟨some 18, .bin .lss (.t 13) (.t 17), none⟩]) ( (.cond (.t 18) ( .skip) ( .exit 0))))) ( (.seq ( (.block 1 ( (.seq ( .region [] [ ⟨some 21, .mv (.t 10), none⟩, ⟨some 22, .mv (.t 0), none⟩, ⟨some 23, .len (.t 22), none⟩, ⟨some 24, .call 0 (.c (.fn 32 [])) [(.t 21), (.t 23)], none⟩, ⟨some 11, .mv (.t 24), none⟩]) ( (.seq ( .region [] [ ⟨some 25, .mv (.t 0), none⟩, ⟨some 26, .mv (.t 11), none⟩, ⟨some 27, .mv (.t 1), none⟩, ⟨some 28, .mv (.t 2), none⟩, ⟨some 29, .call 0 (.c (.fn 17 [])) [(.t 25), (.t 26), (.t 27), (.t 28)], none⟩, ⟨some 12, .mv (.t 29), none⟩]) ( (.seq ( .region [] [ ⟨some 30, .mv (.t 12), none⟩, ⟨some 31, .mv (.t 9), none⟩, ⟨some 32, .bin .lss (.t 30) (.t 31), none⟩, ⟨some 33, .mv (.t 32), none⟩, ⟨some 34, .mv (.t 12), some (33, false)⟩, ⟨some 35, .mv (.t 9), some (33, false)⟩, ⟨some 36, .bin .eql (.t 34) (.t 35), some (33, false)⟩, ⟨some 37, .mv (.t 36), some (33, false)⟩, ⟨some 38, .mv (.t 12), some (37, true)⟩, ⟨some 39, .bin .lss (.t 38) (.c (.int .i64 1125899906842624)), some (37, true)⟩, ⟨some 40, .pick (.t 37) (.t 39) (.c (.bool false)), some (33, false)⟩, ⟨some 41, .mv (.t 40), some (33, false)⟩, ⟨some 42, .mv (.t 11), some (41, true)⟩, ⟨some 43, .mv (.t 8), some (41, true)⟩, ⟨some 44, .call 0 (.c (.fn 23 [])) [(.t 42), (.t 43)], some (41, true)⟩, ⟨some 45, .pick (.t 41) (.t 44) (.c (.bool false)), some (33, false)⟩, ⟨some 46, .pick (.t 33) (.c (.bool true)) (.t 45), none⟩]) ( (.cond (.t 46) ( .region [] [ ⟨some 47, .mv (.t 11), none⟩, ⟨some 48, .mv (.t 12), none⟩, ⟨some 8, .mv (.t 47), none⟩, ⟨some 9, .mv (.t 48), none⟩]) ( .skip))))))))))) ( .region [] [ ⟨some 19, .mv (.t 10), none⟩, ⟨some 20, .bin .add (.t 19) (.c (.int .i64 1)), none⟩, ⟨some 10, .mv (.t 20), none⟩])))))) :: k) fr' L = r := by
      intro hc fr' g0 g1 g2 g8 g9 g10
      rw [if_pos hc] at hS
      exact ih (m + 1) _ fr' (by omega) hdl hT g0 g1 g2 (by rw [hov]; exact g8) g9 (by rw [g10]; congr 1) hS
    have no : ¬ betr (tt l w d true) (dvl l.length m) st → ∀ fr', Ab.get fr' 0 = v → Ab.get fr' 1 = .i w → Ab.get fr' 2 = .i d → Ab.get fr' 8 = ov st.1 → Ab.get fr' 9 = .i st.2 → Ab.get fr' 10 = .i ((m : Nat) + 1) →
        G tbl H [.tmp 6, .tmp 7] (.code (.loop ( (.seq ( (.seq ( .region [] [ ⟨some 13, .mv (.t 10), none⟩, ⟨some 14, .mv (.t 0), none⟩, ⟨some 15, .len (.t 14), none⟩, ⟨some 16, .bin .sub (.t 15) (.c (.int .i64 1)), none⟩, ⟨some 17, .bin .shl (.c (.int .i64 1)) (.t 16), none⟩, ⟨some 18, .bin .lss (.t 13) (.t 17), none⟩]) ( (.cond (.t 18) ( .skip) ( .exit 0))))) ( (.seq ( (.block 1 ( (.seq ( .region [] [ ⟨some 21, .mv (.t 10), none⟩, ⟨some 22, .mv (.t 0), none⟩, ⟨some 23, .len (.t 22), none⟩, ⟨some 24, .call 0 (.c (.fn 32 [])) [(.t 21), (.t 23)], none⟩, ⟨some 11, .mv (.t 24), none⟩]) ( (.seq ( .region [] [ ⟨some 25, .mv (.t 0), none⟩, ⟨some 26, .mv (.t 11), none⟩, ⟨some 27, .mv (.t 1), none⟩, ⟨some 28, .mv (.t 2), none⟩, ⟨some 29, .call 0 (.c (.fn 17 [])) [(.t 25), (.t 26), (.t 27), (.t 28)], none⟩, ⟨some 12, .mv (.t 29), none⟩]) ( (.seq ( .region [] [ ⟨some 30, .mv (.t 12), none⟩, ⟨some 31, .mv (.t 9), none⟩, ⟨some 32, .bin .lss (.t 30) (.t 31), none⟩, ⟨some 33, .mv (.t 32), none⟩, ⟨some 34, .mv (.t 12), some (33, false)⟩, ⟨some 35, .mv (.t 9), some (33, false)⟩, ⟨some 36, .bin .eql (.t 34) (.t 35), some (33, false)⟩, ⟨some 37, .mv (.t 36), some (33, false)⟩, ⟨some 38, .mv (.t 12), some (37, true)⟩, ⟨some 39, .bin .lss (.t 38) (.c (.int .i64 1125899906842624)), some (37, true)⟩, ⟨some 40, .pick (.t 37) (.t 39) (.c (.bool false)), some (33, false)⟩, ⟨some 41, .mv (.t 40), some (33, false)⟩, ⟨some 42, .mv (.t 11), some (41, true)⟩, ⟨some 43, .mv (.t 8), some (41, true)⟩, ⟨some 44, .call 0 (.c (.fn 23 [])) [(.t 42), (.t 43)], some (41, true)⟩, ⟨some 45, .pick (.t 41) (.t 44) (.c (.bool false)), some (33, false)⟩, ⟨some 46, .pick (.t 33) (.c (.bool true)) (.t 45), none⟩]) ( (.cond (.t 46) ( .region [] [ ⟨some 47, .mv (.t 11), none⟩, ⟨some 48, .mv (.t 12), none⟩, ⟨some 8, .mv (.t 47), none⟩, ⟨some 9, .mv (.t 48), none⟩]) ( .skip))))))))))) ( .region [] [ ⟨some 19, .mv (.t 10), none⟩, ⟨some 20, .bin .add (.t 19) (.c (.int .i64 1)), none⟩, ⟨some 10, .mv (.t 20), none⟩])))))) :: k) fr' L = r := by
      intro hc fr' g0 g1 g2 g8 g9 g10
      rw [if_neg hc] at hS
      exact ih (m + 1) _ fr' (by omega) hsl1 hs2 g0 g1 g2 g8 g9 (by rw [g10]; congr 1) hS
    unfold betr at yes no
    have hinf' := hinf
    clear ih hx hv he hb hS hD hov
    generalize hTT : tt l w d true (dvl l.length m) = T at *
    generalize svT (zs (dvl l.length m)) = W at *
    generalize outT (zs (dvl l.length m)) = O at *
    generalize ov st.1 = U at *
    generalize hbt : Path.bet (dvl l.length m) st.1 = B at *
    generalize hs2' : st.2 = c at *
    have cs : T < c ∨ (T = c ∧ inf ≤ T) ∨ (T = c ∧ T < inf ∧ B = true) ∨ (T = c ∧ T < inf ∧ B = false) ∨ c < T := by
      cases B
      · simp; omega
      · simp; omega
    rcases cs with c1 | ⟨c1, c2⟩ | ⟨c1, c2, c3⟩ | ⟨c1, c2, c3⟩ | c1
    · have nx := yes (.inl c1)
      clear yes no
      refine G_loop.trans ?_
      simp (config := { maxSteps := 10000000 }) (disch := omega) only [↓G_seq, ↓G_skip, ↓G_blk, ↓G_region, ↓G_block, ↓G_cond, ↓G_ops_nil, ↓G_op, Gv_some, ↓G_gop, Gw_ft, Gw_tup, Gc_true, dec_t, killAll, ↓get_setS, evalOp, ev, evs, b_add, b_sub, b_lss, wrap_i64, one, Option.map_some, asB, callV, V.shift, V.shifts, List.append_nil, List.getElem?_cons_zero, List.getElem?_cons_succ, Nat.reduceEqDiff, reduceCtorEq, ↓reduceIte, Nat.succ_ne_self, bne_self_eq_false, ti_int, h0, h1, h2, h9, h10, hlv, hj, hsl, h32, h17, htk, hsh, hwh]
      refine nx _ ?_ ?_ ?_ ?_ ?_ ?_
      all_goals simp (config := { maxSteps := 10000000 }) (disch := omega) only [↓get_setS, List.getElem?_cons_zero, List.getElem?_cons_succ, Nat.reduceEqDiff, reduceCtorEq, ↓reduceIte, Nat.succ_ne_self, h0, h1, h2]
    · have nx := no (by omega)
      clear yes no
      refine G_loop.trans ?_
      simp (config := { maxSteps := 10000000 }) (disch := omega) only [↓G_seq, ↓G_skip, ↓G_blk, ↓G_region, ↓G_block, ↓G_cond, ↓G_ops_nil, ↓G_op, Gv_some, ↓G_gop, Gw_tt, Gw_ff, Gw_tf, Gc_true, Gc_false, dec_t, dec_f, killAll, ↓get_setS, evalOp, ev, evs, b_add, b_sub, b_eql, b_lss, wrap_i64, one, Option.map_some, asB, callV, V.shift, V.shifts, List.append_nil, List.getElem?_cons_zero, List.getElem?_cons_succ, Nat.reduceEqDiff, reduceCtorEq, ↓reduceIte, Nat.succ_ne_self, bne_self_eq_false, Bool.false_eq_true, ti_int, h0, h1, h2, h9, h10, hlv, hj, hsl, h32, h17, htk, hsh, hwh]
      refine nx _ ?_ ?_ ?_ ?_ ?_ ?_
      all_goals simp (config := { maxSteps := 10000000 }) (disch := omega) only [↓get_setS, List.getElem?_cons_zero, List.getElem?_cons_succ, Nat.reduceEqDiff, reduceCtorEq, ↓reduceIte, Nat.succ_ne_self, h0, h1, h2, h8, h9]
    · have nx := yes (.inr ⟨c1, c2, c3⟩)
      rw [c3] at h23
      clear yes no
      refine G_loop.trans ?_
      simp (config := { maxSteps := 10000000 }) (disch := omega) only [↓G_seq, ↓G_skip, ↓G_blk, ↓G_region, ↓G_block, ↓G_cond, ↓G_ops_nil, ↓G_op, Gv_some, ↓G_gop, Gw_tt, Gw_ff, Gc_true, dec_t, dec_f, killAll, ↓get_setS, evalOp, ev, evs, b_add, b_sub, b_eql, b_lss, wrap_i64, one, Option.map_some, asB, callV, V.shift, V.shifts, List.append_nil, List.getElem?_cons_zero, List.getElem?_cons_succ, Nat.reduceEqDiff, reduceCtorEq, ↓reduceIte, Nat.succ_ne_self, bne_self_eq_false, Bool.false_eq_true, ti_bool, ti_int, h0, h1, h2, h8, h9, h10, hlv, hj, hsl, h32, h17, h23, htk, hsh, hwh, hoh]
      refine nx _ ?_ ?_ ?_ ?_ ?_ ?_
      all_goals simp (config := { maxSteps := 10000000 }) (disch := omega) only [↓get_setS, List.getElem?_cons_zero, List.getElem?_cons_succ, Nat.reduceEqDiff, reduceCtorEq, ↓reduceIte, Nat.succ_ne_self, h0, h1, h2]
    · have nx := no (by rw [c3]; simp; omega)
      rw [c3] at h23
      clear yes no
      refine G_loop.trans ?_
      simp (config := { maxSteps := 10000000 }) (disch := omega) only [↓G_seq, ↓G_skip, ↓G_blk, ↓G_region, ↓G_block, ↓G_cond, ↓G_ops_nil, ↓G_op, Gv_some, ↓G_gop, Gw_tt, Gw_ff, Gc_true, Gc_false, dec_t, dec_f, killAll, ↓get_setS, evalOp, ev, evs, b_add, b_sub, b_eql, b_lss, wrap_i64, one, Option.map_some, asB, callV, V.shift, V.shifts, List.append_nil, List.getElem?_cons_zero, List.getElem?_cons_succ, Nat.reduceEqDiff, reduceCtorEq, ↓reduceIte, Nat.succ_ne_self, bne_self_eq_false, Bool.false_eq_true, ti_bool, ti_int, h0, h1, h2, h8, h9, h10, hlv, hj, hsl, h32, h17, h23, htk, hsh, hwh, hoh]
      refine nx _ ?_ ?_ ?_ ?_ ?_ ?_
      all_goals simp (config := { maxSteps := 10000000 }) (disch := omega) only [↓get_setS, List.getElem?_cons_zero, List.getElem?_cons_succ, Nat.reduceEqDiff, reduceCtorEq, ↓reduceIte, Nat.succ_ne_self, h0, h1, h2, h8, h9]
    · have nx := no (by omega)
      clear yes no
      refine G_loop.trans ?_
      simp (config := { maxSteps := 10000000 }) (disch := omega) only [↓G_seq, ↓G_skip, ↓G_blk, ↓G_region, ↓G_block, ↓G_cond, ↓G_ops_nil, ↓G_op, Gv_some, ↓G_gop, Gw_ff, Gw_tf, Gc_true, Gc_false, dec_t, dec_f, killAll, ↓get_setS, evalOp, ev, evs, b_add, b_sub, b_eql, b_lss, wrap_i64, one, Option.map_some, asB, callV, V.shift, V.shifts, List.append_nil, List.getElem?_cons_zero, List.getElem?_cons_succ, Nat.reduceEqDiff, reduceCtorEq, ↓reduceIte, Nat.succ_ne_self, bne_self_eq_false, Bool.false_eq_true, ti_int, h0, h1, h2, h9, h10, hlv, hj, hsl, h32, h17, htk, hsh, hwh]
      refine nx _ ?_ ?_ ?_ ?_ ?_ ?_
      all_goals simp (config := { maxSteps := 10000000 }) (disch := omega) only [↓get_setS, List.getElem?_cons_zero, List.getElem?_cons_succ, Nat.reduceEqDiff, reduceCtorEq, ↓reduceIte, Nat.succ_ne_self, h0, h1, h2, h8, h9]

/-- What the reference's best returns. -/
def bestV (l : List Me) (w d : Int) : V := if inf ≤ (tabN l w d 0).c then .tup [.nilsl, .i inf] else .tup [svT (zs (bestD l w d)), .i (tabN l w d 0).c]
theorem c19 {v : V} {l : List Me} {w d : Int} (he : errL l = 0) (hp : inP w d) (hn : l.length ≤ 9) (hv : SlV 5 v (E5 l)) : call tbl 19 [v, .i w, .i d] H = some (bestV l w d) := by
  refine (call_start (show tbl 19 = some a19 from rfl)).trans ?_
  obtain ⟨hl0, hl1, _⟩ := errL_ok he
  have hb := bestD_ok (w := w) (d := d) he
  have hinf' := hinf
  have hmem : ∀ D ∈ (List.range' 0 (2 ^ (l.length - 1))).map (dvl l.length), ∃ t, D = 0 :: t ∧ Path.isD l.length (0 :: t) := by
    intro D hD
    obtain ⟨m, _, rfl⟩ := List.mem_map.1 hD
    exact ⟨_, rfl, dvl_D hl0⟩
  have hS : bfold (tt l w d true) ((List.range' 0 (2 ^ (l.length - 1))).map (dvl l.length)) ([], inf) = if inf ≤ (tabN l w d 0).c then ([], inf) else (bestD l w d, (tabN l w d 0).c) := by
    by_cases h1 : inf ≤ (tabN l w d 0).c
    · rw [if_pos h1]
      refine bfold_none _ _ (fun D hD => ?_)
      obtain ⟨t, rfl, h⟩ := hmem D hD
      exact hb.1 h1 t h
    · rw [if_neg h1]
      obtain ⟨⟨q, a1⟩, a2, a3, a4⟩ := hb.2 (by omega)
      have := bfold_best (T := tt l w d true) (all := (List.range' 0 (2 ^ (l.length - 1))).map (dvl l.length)) (D := bestD l w d) (by omega) (fun D hD => by
        obtain ⟨t, rfl, h⟩ := hmem D hD
        rw [a3]
        exact a4 t h) ((List.range' 0 (2 ^ (l.length - 1))).map (dvl l.length)) ([], inf) (fun _ h => h) (.inr ⟨by
          rw [a1] at a2 ⊢
          obtain ⟨m, q1, q2⟩ := rest2_all (n := l.length) (l.length - 1) 1 0 q (by omega) (by omega) a2 (fun x u e => by subst e; exact a2.1)
          exact List.mem_map.2 ⟨m, by simp [List.mem_range']; omega, by unfold dvl; rw [q2]⟩, .inl rfl⟩)
      rw [this, a3]
  have fin := fun k L hx => loop19 (H := H) (k := k) (L := L) (r := some (bestV l w d)) (S := if inf ≤ (tabN l w d 0).c then ([], inf) else (bestD l w d, (tabN l w d 0).c)) he hp hn hv hx (2 ^ (l.length - 1)) 0 ([], inf)
  unfold a19
  simp (config := { maxSteps := 10000000 }) (disch := omega) only [↓G_seq, ↓G_region, ↓G_block, ↓G_ops_nil, ↓G_op, Gv_some, killAll, evalOp, ev, List.getElem?_cons_zero, List.getElem?_cons_succ]
  refine fin _ _ (fun fr' g8 g9 => ?_) _ (by omega) (by simp) ⟨by decide, Int.le_refl _⟩ ?_ ?_ ?_ ?_ ?_ ?_ hS.symm
  · clear fin hS hmem
    unfold bestV
    by_cases h1 : inf ≤ (tabN l w d 0).c
    · rw [if_pos h1] at g8 g9 ⊢
      simp only [ov, if_true] at g8
      simp (config := { maxSteps := 10000000 }) (disch := omega) only [↓G_seq, ↓G_ret, ↓G_region, ↓Gx_blk, ↓G_ops_nil, ↓G_op, Gv_some, killAll, ↓get_setS, evalOp, ev, Option.map_some, Option.bind_some, finish, resVs, resV, outVs, ownsLast, tupOf, List.all_cons, List.all_nil, Bool.and_self, List.getElem?_cons_zero, List.getElem?_cons_succ, Nat.reduceEqDiff, ↓reduceIte, Nat.succ_ne_self, and_self, ov_int, ov_nilsl, fn_some, g8, g9]
    · rw [if_neg h1] at g8 g9 ⊢
      obtain ⟨⟨q, a1⟩, _⟩ := hb.2 (by omega)
      have ho := fun L => (svT_ok (zs (bestD l w d))).out L
      rw [show ov (bestD l w d, (tabN l w d 0).c).1 = svT (zs (bestD l w d)) from if_neg (by simp [a1])] at g8
      generalize svT (zs (bestD l w d)) = W at *
      generalize (tabN l w d 0).c = C at *
      simp (config := { maxSteps := 10000000 }) (disch := omega) only [↓G_seq, ↓G_ret, ↓G_region, ↓Gx_blk, ↓G_ops_nil, ↓G_op, Gv_some, killAll, ↓get_setS, evalOp, ev, Option.map_some, Option.bind_some, finish, resVs, resV, outVs, ownsLast, tupOf, List.all_cons, List.all_nil, Bool.and_self, List.getElem?_cons_zero, List.getElem?_cons_succ, Nat.reduceEqDiff, ↓reduceIte, Nat.succ_ne_self, and_self, ov_int, fn_some, g8, g9, ho]
  all_goals clear fin hS hmem
  all_goals simp (config := { maxSteps := 10000000 }) (disch := omega) only [↓get_setS, Ab.get, List.getElem?_cons_zero, List.getElem?_cons_succ, Nat.reduceEqDiff, reduceCtorEq, ↓reduceIte, Nat.succ_ne_self, Int.cast_ofNat_Int]
  all_goals rfl

/-! ### The law -/
theorem loop20 {k : List KI} {v y : V} {a b : List Int} (hl : a.length ≤ 4611686018427387904) (hab : a.length = b.length) (hv : SlV 1 v (I1 a)) (hy : SlV 1 y (I1 b))
    (hx : ∀ fr' L', Gx tbl H [.tmp 4] 0 k fr' L' = some (.bool true)) :
    ∀ (t s : List Int) (i : Nat) (fr : List V) (L : List Row), a.drop i = t → b.drop i = s → i ≤ a.length → Ab.get fr 0 = v → Ab.get fr 1 = y → Ab.get fr 5 = .i (i : Nat) →
    G tbl H [.tmp 4] (.code (.loop ( (.seq ( (.seq ( .region [] [ ⟨some 11, .mv (.t 5), none⟩, ⟨some 12, .mv (.t 0), none⟩, ⟨some 13, .len (.t 12), none⟩, ⟨some 14, .bin .lss (.t 11) (.t 13), none⟩]) ( (.cond (.t 14) ( .skip) ( .exit 0))))) ( (.seq ( (.block 1 ( (.seq ( .region [] [ ⟨some 17, .mv (.t 0), none⟩, ⟨some 18, .mv (.t 5), none⟩, ⟨some 19, .elemAddr 1 (.t 17) (.t 18), none⟩, ⟨some 20, .load false 1 (.t 19), none⟩, ⟨some 21, .mv (.t 1), none⟩, ⟨some 22, .mv (.t 5), none⟩, ⟨some 23, .elemAddr 1 (.t 21) (.t 22), none⟩, ⟨some 24, .load false 1 (.t 23), none⟩, ⟨some 25, .bin .neq (.t 20) (.t 24), none⟩]) ( (.cond (.t 25) ( (.seq ( .region [] [ ⟨some 4, .mv (.c (.bool false)), none⟩]) ( .ret))) ( .skip))))))) ( .region [] [ ⟨some 15, .mv (.t 5), none⟩, ⟨some 16, .bin .add (.t 15) (.c (.int .i64 1)), none⟩, ⟨some 5, .mv (.t 16), none⟩])))))) :: k) fr L = some (.bool (decide (t = s))) := by
  intro t
  have hlen := hv.len
  rw [I1_len] at hlen
  induction t with
  | nil =>
    intro s i fr L ht hs hi h0 h1 h5
    have := drop_nil ht
    have hs' : s = [] := by rw [← hs, List.drop_of_length_le (by omega)]
    subst hs'
    rw [decide_eq_true rfl]
    refine G_loop.trans ?_
    simp (config := { maxSteps := 10000000 }) (disch := omega) only [↓G_seq, ↓G_exit, ↓G_region, ↓G_cond, ↓Gx_code, ↓G_ops_nil, ↓G_op, Gv_some, Gc_false, dec_f, killAll, ↓get_setS, evalOp, ev, b_lss, one, Option.map_some, List.getElem?_cons_zero, List.getElem?_cons_succ, Nat.reduceEqDiff, reduceCtorEq, ↓reduceIte, Nat.succ_ne_self, h0, h5, hlen, hx]
  | cons x t ih =>
    intro s i fr L ht hs hi h0 h1 h5
    obtain ⟨e1, e2, e3⟩ := drop_cons ht
    cases s with
    | nil => have := drop_nil hs; omega
    | cons z s =>
      obtain ⟨f1, f2, f3⟩ := drop_cons hs
      have hE := hv.el (I1_get _ i _ e1)
      have hE2 := hy.el (I1_get _ i _ f1)
      by_cases c : x = z
      · rw [show decide (x :: t = z :: s) = decide (t = s) by simp [c]]
        have nx := fun fr' L' => ih s (i + 1) fr' L' e2 f2 (by omega)
        clear ih hx
        refine G_loop.trans ?_
        simp (config := { maxSteps := 10000000 }) (disch := omega) only [↓G_seq, ↓G_skip, ↓G_blk, ↓G_region, ↓G_block, ↓G_cond, ↓G_ops_nil, ↓G_op, Gv_some, Gc_true, Gc_false, dec_t, killAll, ↓get_setS, evalOp, ev, b_add, b_neq, b_lss, wrap_i64, one, Option.map_some, List.getElem?_cons_zero, List.getElem?_cons_succ, Nat.reduceEqDiff, reduceCtorEq, ↓reduceIte, Nat.succ_ne_self, Bool.not_true, Bool.false_eq_true, pick3, loadV, h0, h1, h5, hlen, hE, hE2]
        refine nx _ _ ?_ ?_ ?_
        all_goals simp (config := { maxSteps := 10000000 }) (disch := omega) only [↓get_setS, List.getElem?_cons_zero, List.getElem?_cons_succ, Nat.reduceEqDiff, reduceCtorEq, ↓reduceIte, h0, h1]
        congr 1
      · rw [decide_eq_false (show ¬ (x :: t = z :: s) from fun e => c (by injection e))]
        clear ih hx
        refine G_loop.trans ?_
        simp (config := { maxSteps := 10000000 }) (disch := omega) only [↓G_seq, ↓G_skip, ↓G_ret, ↓G_region, ↓G_block, ↓G_cond, ↓G_ops_nil, ↓G_op, Gv_some, Gc_true, dec_t, dec_f, killAll, ↓get_setS, evalOp, ev, b_neq, b_lss, one, Option.map_some, Option.bind_some, finish, resVs, resV, outVs, ownsLast, tupOf, List.all_nil, List.getElem?_cons_zero, List.getElem?_cons_succ, Nat.reduceEqDiff, reduceCtorEq, ↓reduceIte, Nat.succ_ne_self, Bool.not_false, Bool.false_eq_true, pick3, loadV, ov_bool, fn_some, h0, h1, h5, hlen, hE, hE2]

theorem c20 {v y : V} {a : List Int} (hl : a.length ≤ 4611686018427387904) (hv : SlV 1 v (I1 a)) (hy : SlV 1 y (I1 a)) : call tbl 20 [v, y] H = some (.bool true) := by
  refine (call_start (show tbl 20 = some a20 from rfl)).trans ?_
  have hlv := hv.len
  rw [I1_len] at hlv
  have hly := hy.len
  rw [I1_len] at hly
  have fin := fun k hx => loop20 (H := H) (k := k) hl rfl hv hy hx a a 0
  rw [decide_eq_true rfl] at fin
  unfold a20
  simp (config := { maxSteps := 10000000 }) (disch := omega) only [↓G_seq, ↓G_skip, ↓G_region, ↓G_block, ↓G_cond, ↓G_ops_nil, ↓G_op, Gv_some, Gc_false, killAll, ↓get_setS, evalOp, ev, Ab.get, b_neq, one, Option.map_some, List.getElem?_cons_zero, List.getElem?_cons_succ, Nat.reduceEqDiff, reduceCtorEq, ↓reduceIte, Nat.succ_ne_self, decide_true, Bool.not_true, hlv, hly]
  refine fin _ (fun fr' L' => ?_) _ _ rfl rfl (by omega) ?_ ?_ ?_
  all_goals clear fin
  all_goals simp (config := { maxSteps := 10000000 }) (disch := omega) only [↓G_seq, ↓G_ret, ↓G_region, ↓Gx_blk, ↓G_ops_nil, ↓G_op, Gv_some, killAll, ↓get_setS, evalOp, ev, Ab.get, Option.map_some, Option.bind_some, finish, resVs, resV, outVs, ownsLast, tupOf, List.all_nil, List.getElem?_cons_zero, List.getElem?_cons_succ, Nat.reduceEqDiff, reduceCtorEq, ↓reduceIte, Int.cast_ofNat_Int, ov_bool, fn_some]

theorem l5 {v : V} {l : List Me} {w d : Int} (hm : l.length ≤ 9223372036854775807) (hv : SlV 5 v (E5 l)) : call tbl 5 [.agg [v, .i w, .i d]] H = some (.bool true) := by
  refine (call_start (show tbl 5 = some a5 from rfl)).trans ?_
  have hsc := hv.scalar
  unfold V.scalar at hsc
  have hlv := hv.len
  rw [E5_len] at hlv
  have h13 := fun H => c13 (H := H) hm hv
  have hsh := hv.sh
  by_cases g1 : 9 < l.length
  · unfold a5
    simp (config := { maxSteps := 10000000 }) (disch := omega) only [↓G_seq, ↓G_ret, ↓G_region, ↓G_cond, ↓G_ops_nil, ↓G_op, Gv_some, ↓G_gop, Gw_ff, Gc_true, dec_t, killAll, ↓get_setS, evalOp, ev, evs, Ab.get, b_gtr, one, Option.map_some, Option.bind_some, asB, finish, resVs, resV, outVs, ownsLast, tupOf, callV, V.shifts, List.append_nil, List.all_cons, List.all_nil, Bool.and_self, List.getElem?_cons_zero, List.getElem?_cons_succ, Nat.reduceEqDiff, ↓reduceIte, Nat.succ_ne_self, Bool.not_true, bne_self_eq_false, Bool.false_eq_true, Int.reduceAdd, pick3, V.cells, addOff, loadV, Ab.rowAt, rget, rset, V.scalar, Nat.reduceAdd, and_self, List.length_cons, List.length_nil, List.getD_cons_zero, Nat.zero_add, Nat.add_zero, ti_bool, ov_bool, fn_some, hsc, hlv, hsh, c10, Nat.zero_lt_succ]
    done
  have h15 := fun H => c15 (H := H) (w := w) (d := d) hv
  by_cases he : errL l = 0
  case neg =>
    have hA : errA l w d = errL l := if_neg he
    have h18 := fun H => c18e (H := H) (w := w) (d := d) hm (by rw [hA]; exact he) hv
    simp only [hA] at h18
    have : errL l < 0 ∨ 0 < errL l := by omega
    generalize errL l = e at *
    unfold a5
    simp (config := { maxSteps := 10000000 }) (disch := omega) only [↓G_seq, ↓G_skip, ↓G_ret, ↓G_region, ↓G_cond, ↓G_ops_nil, ↓G_op, Gv_some, ↓G_gop, Gw_tt, Gw_ff, Gc_true, Gc_false, dec_f, killAll, ↓get_setS, evalOp, ev, evs, Ab.get, b_eql, b_neq, b_gtr, one, Option.map_some, Option.bind_some, asB, finish, resVs, resV, outVs, ownsLast, tupOf, callV, V.shift, V.shifts, List.append_nil, List.map_cons, List.map_nil, List.all_cons, List.all_nil, Bool.and_self, List.getElem?_cons_zero, List.getElem?_cons_succ, Nat.reduceEqDiff, ↓reduceIte, Nat.succ_ne_self, decide_true, Bool.not_true, Bool.not_false, bne_self_eq_false, Bool.false_eq_true, Int.reduceAdd, pick3, V.cells, addOff, loadV, Ab.rowAt, rget, rset, V.scalar, Nat.reduceAdd, and_self, List.length_cons, List.length_nil, List.getD_cons_zero, Nat.zero_add, Nat.add_zero, len_nil, ti_bool, ti_int, ti_tup_nilsl, st_int, st_nilsl, ov_bool, fn_some, hsc, hlv, h13, h18, hsh, c10, Nat.zero_lt_succ]
    done
  simp only [he] at h13
  obtain ⟨hl0, hl1, _⟩ := errL_ok he
  by_cases hp : inP w d
  case neg =>
    have hA : errA l w d = 2 := by unfold errA errP; rw [if_pos he, if_neg hp]
    have h18 := fun H => c18e (H := H) (w := w) (d := d) hm (by rw [hA]; decide) hv
    simp only [hA] at h18
    rw [show errP w d = 2 by unfold errP; rw [if_neg hp]] at h15
    unfold a5
    simp (config := { maxSteps := 10000000 }) (disch := omega) only [↓G_seq, ↓G_skip, ↓G_ret, ↓G_region, ↓G_cond, ↓G_ops_nil, ↓G_op, Gv_some, ↓G_gop, Gw_tt, Gw_ff, Gc_true, Gc_false, dec_f, killAll, ↓get_setS, evalOp, ev, evs, Ab.get, b_eql, b_neq, b_gtr, one, Option.map_some, Option.bind_some, asB, finish, resVs, resV, outVs, ownsLast, tupOf, callV, V.shift, V.shifts, List.append_nil, List.map_cons, List.map_nil, List.all_cons, List.all_nil, Bool.and_self, List.getElem?_cons_zero, List.getElem?_cons_succ, Nat.reduceEqDiff, ↓reduceIte, Nat.succ_ne_self, decide_true, decide_false, Bool.not_true, Bool.not_false, bne_self_eq_false, Bool.false_eq_true, Int.reduceAdd, Int.reduceEq, pick3, V.cells, addOff, loadV, Ab.rowAt, rget, rset, V.scalar, Nat.reduceAdd, and_self, List.length_cons, List.length_nil, List.take_succ_cons, List.take_zero, List.drop_zero, Nat.le_refl, List.getD_cons_zero, Nat.zero_add, Nat.add_zero, len_nil, ti_bool, ti_int, ti_tup_nilsl, st_int, st_nilsl, ov_bool, fn_some, hsc, hlv, h13, h15, h18, hsh, c10, Nat.zero_lt_succ]
    done
  rw [show errP w d = 0 by unfold errP; rw [if_pos hp]] at h15
  have h18 := fun H => c18 (H := H) he hp hv
  have h19 := fun H => c19 (H := H) he hp (by omega) hv
  have hb := bestD_ok (w := w) (d := d) he
  have hinf' := hinf
  unfold brkR at h18
  unfold bestV at h19
  by_cases h1 : inf ≤ (tabN l w d 0).c
  · simp only [if_pos h1] at h18 h19
    simp only [hinf] at h19
    clear hb hv
    unfold a5
    simp (config := { maxSteps := 10000000 }) (disch := omega) only [↓G_seq, ↓G_skip, ↓G_ret, ↓G_region, ↓G_cond, ↓G_ops_nil, ↓G_op, Gv_some, ↓G_gop, Gw_tt, Gw_ff, Gc_true, Gc_false, dec_f, killAll, ↓get_setS, evalOp, ev, evs, Ab.get, b_eql, b_neq, b_gtr, one, Option.map_some, Option.bind_some, asB, finish, resVs, resV, outVs, ownsLast, tupOf, callV, V.shift, V.shifts, List.append_nil, List.map_cons, List.map_nil, List.all_cons, List.all_nil, Bool.and_self, List.getElem?_cons_zero, List.getElem?_cons_succ, Nat.reduceEqDiff, ↓reduceIte, Nat.succ_ne_self, decide_true, Bool.not_true, bne_self_eq_false, Bool.false_eq_true, Int.reduceAdd, pick3, V.cells, addOff, loadV, Ab.rowAt, rget, rset, V.scalar, Nat.reduceAdd, and_self, List.length_cons, List.length_nil, List.take_succ_cons, List.take_zero, List.drop_zero, Nat.le_refl, List.getD_cons_zero, Nat.zero_add, Nat.add_zero, len_nil, ti_bool, ti_int, ti_tup_nilsl, st_int, st_nilsl, ov_bool, fn_some, hsc, hlv, h13, h15, h18, h19, hsh, c10, Nat.zero_lt_succ]
    done
  simp only [if_neg h1] at h18 h19
  obtain ⟨⟨q, a1⟩, a2, a3, _⟩ := hb.2 (by omega)
  have hBv := svE_ok 1 (I1 (zs (bestD l w d)))
  have out := brk_take (l := l) (w := w) (d := d)
  have hti := fun keep L s vs => (svT_ok (zs (bestD l w d))).ti_tup keep L s vs
  have hWv := svT_ok (zs (bestD l w d))
  have hql := isD_len q 0 (by rw [← a1]; exact a2)
  have h20 := fun H => c20 (H := H) (by rw [zs_len, a1]; simp only [List.length_cons]; omega) hBv hWv
  have hBh := hBv.sh
  have hWh := hWv.sh
  generalize svE 1 (I1 (zs (bestD l w d))) = B at *
  generalize svT (zs (bestD l w d)) = W at *
  generalize outAcc 1 (I1 (zs (bestD l w d))) = O at *
  generalize (tabN l w d 0).c = C at *
  clear hb hv hBv hWv a3
  unfold a5
  simp (config := { maxSteps := 10000000 }) (disch := omega) only [↓G_seq, ↓G_skip, ↓G_ret, ↓G_region, ↓G_cond, ↓G_ops_nil, ↓G_op, Gv_some, ↓G_gop, Gw_tt, Gw_ff, Gc_true, Gc_false, dec_f, killAll, ↓get_setS, evalOp, ev, evs, Ab.get, b_eql, b_neq, b_gtr, one, Option.map_some, Option.bind_some, asB, finish, resVs, resV, outVs, ownsLast, tupOf, callV, V.shift, V.shifts, List.append_nil, List.map_cons, List.map_nil, List.all_cons, List.all_nil, Bool.and_self, List.getElem?_cons_zero, List.getElem?_cons_succ, Nat.reduceEqDiff, ↓reduceIte, Nat.succ_ne_self, decide_true, Bool.not_true, bne_self_eq_false, Bool.false_eq_true, Int.reduceAdd, pick3, V.cells, addOff, loadV, Ab.rowAt, rget, rset, V.scalar, Nat.reduceAdd, and_self, List.length_cons, List.length_nil, List.take_succ_cons, List.take_zero, List.drop_zero, Nat.le_refl, List.getD_cons_zero, Nat.zero_add, Nat.add_zero, ti_bool, ti_int, st_int, ov_bool, fn_some, hsc, hlv, h13, h15, h18, h19, h20, hsh, hBh, hWh, c10, out, hti, Nat.zero_lt_succ]

end Go.Proofs.Ytdgifbmimfnmlaa

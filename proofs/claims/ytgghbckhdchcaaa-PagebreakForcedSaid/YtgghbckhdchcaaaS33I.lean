/-
  Page breaks: the places of systems, by the program and by the reference; the law PagebreakTops.
-/
import Derived.Test.YtgghbckhdchcaaaS33H
namespace Go.Proofs.Ytgghbckhdchcaaa
open Go Go.Ab
set_option linter.unusedVariables false
set_option linter.unnecessarySimpa false
set_option linter.unusedSimpArgs false
set_option maxRecDepth 100000
variable {H : List (List Row)}

/-- What is added above the i-th system of a page. -/
def more (left gaps : Int) (i : Nat) : Int := left / gaps + (if (i : Int) ≤ left % gaps then 1 else 0)
/-- The places of systems from the i-th on: p is the place of the one before, of height h. -/
def topsL (left gaps : Int) (p h : Int) : Nat → List Sy → List Int
  | _, [] => []
  | i, s :: t => (p + h + s.g + more left gaps i) :: topsL left gaps (p + h + s.g + more left gaps i) s.h (i + 1) t
def topsR (left gaps : Int) : List Sy → List Int
  | [] => []
  | s :: t => 0 :: topsL left gaps 0 s.h 1 t

theorem more_in {left gaps : Int} {i : Nat} (h1 : 0 ≤ left) (h2 : 1 ≤ gaps) : 0 ≤ left / gaps ∧ left / gaps ≤ left ∧ 0 ≤ left % gaps ∧ left % gaps < gaps ∧ 0 ≤ more left gaps i ∧ more left gaps i ≤ left + 1 := by
  have a1 := Int.ediv_nonneg h1 (show 0 ≤ gaps by omega)
  have a2 := Int.ediv_le_self gaps h1
  have a3 := Int.emod_nonneg left (show gaps ≠ 0 by omega)
  have a4 := Int.emod_lt_of_pos left (show 0 < gaps by omega)
  refine ⟨a1, a2, a3, a4, ?_⟩
  unfold more
  split <;> omega

/-- A list that is built up, begun by a literal. -/
def Acc1 (site : Nat) (L : List Row) (v : V) (acc : List (List V)) : Prop := (v = .sl .full 1 acc ∧ acc.length = 1) ∨ (1 < acc.length ∧ ∃ ver, 0 < ver ∧ v = .ref 0 site ver 1 0 acc.length ∧ rget L site = ⟨ver, 1, acc⟩)
theorem Acc1.len {site : Nat} {L : List Row} {v : V} {acc : List (List V)} (h : Acc1 site L v acc) : lenV v = some (.i (acc.length : Nat)) := by
  rcases h with ⟨rfl, _⟩ | ⟨_, ver, _, rfl, _⟩ <;> rfl
theorem Acc1.load {site : Nat} {L : List Row} {v : V} {acc : List (List V)} (h : Acc1 site L v acc) {n : Int} {x : V} {M : List (List Row)} (h0 : 0 ≤ n) (hx : acc[n.toNat]? = some [x]) (hp : V.shift 0 x = x) :
    ∃ p, elemV 1 v (.i n) = some p ∧ loadV (L :: M) false 1 p = some x := by
  rcases h with ⟨rfl, _⟩ | ⟨_, ver, hv, rfl, hr⟩
  · exact ⟨.eptr [x] 0, by simp [elemV, h0, hx], by simp [loadV, pick3]⟩
  · have hlt : n < acc.length := by
      have := (List.getElem?_eq_some_iff.1 hx).1
      omega
    refine ⟨.ptr 0 site ver n.toNat 0, by simp [elemV, h0, hlt], ?_⟩
    simp [loadV, Ab.rowAt, hr, hv, hx, pick3, hp]
theorem Acc1.app {site bytes : Nat} {L : List Row} {M : List (List Row)} {v y : V} {acc : List (List V)} {x : V} (h : Acc1 site L v acc) (hy : elsOf (L :: M) y = some [[x]]) (hb : bytes ≤ 16384) (hl : acc.length < 4294967296) (ha : ∀ e ∈ acc, e.length = 1 ∧ e.all V.scalar = true) (hx : V.scalar x = true) :
    appV (L :: M) site 1 bytes v y = some (.ref 0 site ((rget L site).ver + 1) 1 0 (acc.length + 1), rset L site ⟨(rget L site).ver + 1, 1, acc ++ [[x]]⟩) ∧
    Acc1 site (rset L site ⟨(rget L site).ver + 1, 1, acc ++ [[x]]⟩) (.ref 0 site ((rget L site).ver + 1) 1 0 (acc.length + 1)) (acc ++ [[x]]) := by
  have h1 : 0 < acc.length := by rcases h with ⟨_, h⟩ | ⟨h, _⟩ <;> omega
  refine ⟨?_, .inr ⟨by simp; omega, (rget L site).ver + 1, by omega, by simp, by rw [rget_rset, if_pos rfl]⟩⟩
  rcases h with ⟨rfl, h0⟩ | ⟨h0, ver, hv, rfl, hr⟩
  · simp only [appV, hy, Option.bind_some, List.isEmpty_cons, Bool.false_eq_true, if_false, List.getD_cons_zero]
    rw [if_pos ⟨by simp [roomy, hb]; omega, by
      rw [List.all_append]
      simp only [List.all_cons, List.all_nil, List.length_cons, List.length_nil, hx, Bool.and_true]
      rw [List.all_eq_true.2 (fun e he => by simpa using ha e he)]
      rfl⟩]
    simp
  · simp only [appV, hy, Option.bind_some, List.getD_cons_zero, hr]
    rw [if_pos ⟨trivial, hv, trivial, trivial, trivial, by simp [roomy, hb]; omega, by simp [hx]⟩]
    simp
/-- The list as a call returns it, and as its caller has it. -/
def outT (R : List Int) : V := .sl (if R.length = 1 then .full else .own) 1 (I1 R)
def svT (R : List Int) : V := .sl (if R.length = 1 then .full else .any) 1 (I1 R)
theorem svT_ok (R : List Int) : SlV 1 (svT R) (I1 R) := by
  refine .inr ⟨_, ?_, rfl⟩
  split <;> simp
theorem take_T {L : List Row} {s : Nat} {R : List Int} : takeIn false L s (outT R) = (svT R, L) := by
  unfold outT svT
  by_cases h : R.length = 1
  · rw [if_pos h, if_pos h]; rfl
  · rw [if_neg h, if_neg h]; rfl
theorem take_Tt {L : List Row} {s : Nat} {R : List Int} {vs : List V} : takeIn false L s (.tup (outT R :: vs)) = (.tup (svT R :: vs.map Ab.settle), L) := by
  unfold outT svT
  by_cases h : R.length = 1
  · rw [if_pos h, if_pos h]; rfl
  · rw [if_neg h, if_neg h]; rfl
theorem Acc1.out {site : Nat} {L : List Row} {v : V} {R : List Int} (h : Acc1 site L v (I1 R)) : outV L v = some (outT R) := by
  have hp := I1_pure R
  unfold outT
  rcases h with ⟨rfl, h0⟩ | ⟨h0, ver, hv, rfl, hr⟩
  · rw [I1_len] at h0
    rw [if_pos h0]
    simp [outV]
  · rw [I1_len] at h0
    rw [if_neg (by omega)]
    simp only [outV, hr]
    rw [if_pos ⟨trivial, hv, trivial, trivial, by omega, hp⟩]
theorem I1_sc (R : List Int) : ∀ e ∈ I1 R, e.length = 1 ∧ e.all V.scalar = true := by
  intro e he
  simp only [I1, List.mem_map] at he
  obtain ⟨x, _, rfl⟩ := he
  exact ⟨rfl, rfl⟩

theorem loop26 {k : List KI} {x : V} {q : List Sy} {left gaps : Int} {r : Option V} (hq : q.length ≤ 1024) (hin : ∀ s ∈ q, inS s) (hx : SlV 4 x (E4 q)) (hl : 0 ≤ left ∧ left ≤ 16777216) (hg : 1 ≤ gaps ∧ gaps ≤ 1024) (R : List Int)
    (hr : ∀ fr' L', Acc1 2 L' (Ab.get fr' 16) (I1 R) → Gx tbl H [.tmp 10, .tmp 11] 0 k fr' L' = r) :
    ∀ (t : List Sy) (j : Nat) (s : Sy) (p : Int) (P : List Int) (fr : List V) (L : List Row), q.drop (j + 1) = t → j < q.length → q[j]? = some s → P.length = j + 1 → P[j]? = some p → 0 ≤ p → p ≤ j * 67108864 → R = P ++ topsL left gaps p s.h (j + 1) t →
    Ab.get fr 13 = x → Ab.get fr 14 = .i left → Ab.get fr 15 = .i gaps → Acc1 2 L (Ab.get fr 16) (I1 P) → Ab.get fr 17 = .i ((j + 1 : Nat)) →
    G tbl H [.tmp 10, .tmp 11] (.code (.loop ( (.seq ( (.seq ( .region [] [ ⟨some 49, .mv (.t 17), none⟩, ⟨some 50, .mv (.t 13), none⟩, ⟨some 51, .len (.t 50), none⟩, ⟨some 52, .bin .lss (.t 49) (.t 51), none⟩]) ( (.cond (.t 52) ( .skip) ( .exit 0))))) ( (.seq ( (.block 1 ( (.seq ( .region [] [ ⟨some 55, .mv (.t 14), none⟩, ⟨some 56, .mv (.t 15), none⟩, ⟨some 57, .bin .quo (.t 55) (.t 56), none⟩, ⟨some 18, .mv (.t 57), none⟩]) ( (.seq ( (.seq ( .region [] [ ⟨some 58, .mv (.t 17), none⟩, ⟨some 59, .mv (.t 14), none⟩, ⟨some 60, .mv (.t 15), none⟩, ⟨some 61, .bin .rem (.t 59) (.t 60), none⟩, ⟨some 62, .bin .leq (.t 58) (.t 61), none⟩]) ( (.cond (.t 62) ( .region [] [ ⟨some 63, .mv (.t 18), none⟩, ⟨some 64, .bin .add (.t 63) (.c (.int .i64 1)), none⟩, ⟨some 18, .mv (.t 64), none⟩]) ( .skip))))) ( .region [] [ ⟨some 65, .mv (.t 16), none⟩, ⟨some 66, .mv (.t 16), none⟩, ⟨some 67, .mv (.t 17), none⟩, ⟨some 68, .bin .sub (.t 67) (.c (.int .i64 1)), none⟩, ⟨some 69, .elemAddr 1 (.t 66) (.t 68), none⟩, ⟨some 70, .load false 1 (.t 69), none⟩, ⟨some 71, .mv (.t 13), none⟩, ⟨some 72, .mv (.t 17), none⟩, ⟨some 73, .bin .sub (.t 72) (.c (.int .i64 1)), none⟩, ⟨some 74, .elemAddr 4 (.t 71) (.t 73), none⟩, ⟨some 75, .fieldAddr 0 (.t 74), none⟩, ⟨some 76, .load false 1 (.t 75), none⟩, ⟨some 77, .bin .add (.t 70) (.t 76), none⟩, ⟨some 78, .mv (.t 13), none⟩, ⟨some 79, .mv (.t 17), none⟩, ⟨some 80, .elemAddr 4 (.t 78) (.t 79), none⟩, ⟨some 81, .fieldAddr 1 (.t 80), none⟩, ⟨some 82, .load false 1 (.t 81), none⟩, ⟨some 83, .bin .add (.t 77) (.t 82), none⟩, ⟨some 84, .mv (.t 18), none⟩, ⟨some 85, .bin .add (.t 83) (.t 84), none⟩, ⟨some 86, .lit 1 [(.int .i64 0)] 1 [(0, 1, (.t 85))], none⟩, ⟨some 87, .app 2 1 8 (.t 65) (.t 86), none⟩, ⟨some 16, .mv (.t 87), none⟩]))))))) ( .region [] [ ⟨some 53, .mv (.t 17), none⟩, ⟨some 54, .bin .add (.t 53) (.c (.int .i64 1)), none⟩, ⟨some 17, .mv (.t 54), none⟩])))))) :: k) fr L = r := by
  intro t
  have hlx := hx.len
  rw [E4_len] at hlx
  induction t with
  | nil =>
    intro j s p P fr L ht hj hs hP hp hp0 hp1 hR h13 h14 h15 h16 h17
    have := drop_nil ht
    rw [topsL, List.append_nil] at hR
    subst hR
    refine G_loop.trans ?_
    simp (config := { maxSteps := 10000000 }) (disch := omega) only [↓G_seq, ↓G_exit, ↓G_region, ↓G_cond, ↓Gx_code, ↓G_ops_nil, ↓G_op, Gv_some, Gc_false, dec_f, killAll, ↓get_setS, evalOp, ev, b_lss, one, Option.map_some, List.getElem?_cons_zero, List.getElem?_cons_succ, Nat.reduceEqDiff, ↓reduceIte, Nat.succ_ne_self, h13, h17, hlx]
    refine hr _ _ ?_
    simp (config := { maxSteps := 10000000 }) (disch := omega) only [↓get_setS, List.getElem?_cons_zero, List.getElem?_cons_succ, Nat.reduceEqDiff, ↓reduceIte]
    exact h16
  | cons s' t ih =>
    intro j s p P fr L ht hj hs hP hp hp0 hp1 hR h13 h14 h15 h16 h17
    obtain ⟨e1, e2, e3⟩ := drop_cons ht
    have hE := hx.el (E4_get q j s hs)
    have hE2 := hx.el (E4_get q (j + 1) s' e1)
    obtain ⟨b1, b2, b3⟩ := hin s (List.mem_of_getElem? hs)
    obtain ⟨d1, d2, d3⟩ := hin s' (List.mem_of_getElem? e1)
    obtain ⟨a1, a2, a3, a4, a5, a6⟩ := more_in (i := j + 1) hl.1 hg.1
    have hj1 : ((j + 1 : Nat) : Int) - 1 = (j : Nat) := by omega
    have hIP := I1_get P j p hp
    have h16' : (Ab.get fr 16 = .sl .full 1 (I1 P)) ∨ (∃ ver, 0 < ver ∧ Ab.get fr 16 = .ref 0 2 ver 1 0 (j + 1) ∧ rget L 2 = ⟨ver, 1, I1 P⟩) := by
      rcases h16 with ⟨h, _⟩ | ⟨_, ver, h, h', h''⟩
      · exact .inl h
      · rw [I1_len, hP] at h'
        exact .inr ⟨ver, h, h', h''⟩
    have hq1 : left.tdiv gaps = left / gaps := tdiv_pos hl.1
    have hq2 : left.tmod gaps = left % gaps := tmod_pos hl.1
    have hap := fun y => h16.app (M := H) (bytes := 8) (y := .sl .full 1 [[.i y]]) (x := .i y) rfl (by omega) (by rw [I1_len]; omega) (I1_sc P) rfl
    simp only [I1_len, hP] at hap
    generalize hv16 : Ab.get fr 16 = v16 at *
    have next : ∀ (m : Int), m = more left gaps (j + 1) → ∀ (fr' : List V) (L' : List Row), Ab.get fr' 13 = x → Ab.get fr' 14 = .i left → Ab.get fr' 15 = .i gaps → Ab.get fr' 17 = .i (((j + 1 : Nat) : Int) + 1) →
        Ab.get fr' 16 = .ref 0 2 ((rget L 2).ver + 1) 1 0 (j + 1 + 1) → L' = rset L 2 ⟨(rget L 2).ver + 1, 1, I1 P ++ [[.i (p + s.h + s'.g + m)]]⟩ →
        G tbl H [.tmp 10, .tmp 11] (.code (.loop ( (.seq ( (.seq ( .region [] [ ⟨some 49, .mv (.t 17), none⟩, ⟨some 50, .mv (.t 13), none⟩, ⟨some 51, .len (.t 50), none⟩, ⟨some 52, .bin .lss (.t 49) (.t 51), none⟩]) ( (.cond (.t 52) ( .skip) ( .exit 0))))) ( (.seq ( (.block 1 ( (.seq ( .region [] [ ⟨some 55, .mv (.t 14), none⟩, ⟨some 56, .mv (.t 15), none⟩, ⟨some 57, .bin .quo (.t 55) (.t 56), none⟩, ⟨some 18, .mv (.t 57), none⟩]) ( (.seq ( (.seq ( .region [] [ ⟨some 58, .mv (.t 17), none⟩, ⟨some 59, .mv (.t 14), none⟩, ⟨some 60, .mv (.t 15), none⟩, ⟨some 61, .bin .rem (.t 59) (.t 60), none⟩, ⟨some 62, .bin .leq (.t 58) (.t 61), none⟩]) ( (.cond (.t 62) ( .region [] [ ⟨some 63, .mv (.t 18), none⟩, ⟨some 64, .bin .add (.t 63) (.c (.int .i64 1)), none⟩, ⟨some 18, .mv (.t 64), none⟩]) ( .skip))))) ( .region [] [ ⟨some 65, .mv (.t 16), none⟩, ⟨some 66, .mv (.t 16), none⟩, ⟨some 67, .mv (.t 17), none⟩, ⟨some 68, .bin .sub (.t 67) (.c (.int .i64 1)), none⟩, ⟨some 69, .elemAddr 1 (.t 66) (.t 68), none⟩, ⟨some 70, .load false 1 (.t 69), none⟩, ⟨some 71, .mv (.t 13), none⟩, ⟨some 72, .mv (.t 17), none⟩, ⟨some 73, .bin .sub (.t 72) (.c (.int .i64 1)), none⟩, ⟨some 74, .elemAddr 4 (.t 71) (.t 73), none⟩, ⟨some 75, .fieldAddr 0 (.t 74), none⟩, ⟨some 76, .load false 1 (.t 75), none⟩, ⟨some 77, .bin .add (.t 70) (.t 76), none⟩, ⟨some 78, .mv (.t 13), none⟩, ⟨some 79, .mv (.t 17), none⟩, ⟨some 80, .elemAddr 4 (.t 78) (.t 79), none⟩, ⟨some 81, .fieldAddr 1 (.t 80), none⟩, ⟨some 82, .load false 1 (.t 81), none⟩, ⟨some 83, .bin .add (.t 77) (.t 82), none⟩, ⟨some 84, .mv (.t 18), none⟩, ⟨some 85, .bin .add (.t 83) (.t 84), none⟩, ⟨some 86, .lit 1 [(.int .i64 0)] 1 [(0, 1, (.t 85))], none⟩, ⟨some 87, .app 2 1 8 (.t 65) (.t 86), none⟩, ⟨some 16, .mv (.t 87), none⟩]))))))) ( .region [] [ ⟨some 53, .mv (.t 17), none⟩, ⟨some 54, .bin .add (.t 53) (.c (.int .i64 1)), none⟩, ⟨some 17, .mv (.t 54), none⟩])))))) :: k) fr' L' = r := by
      intro m hm fr' L' g13 g14 g15 g17 g16 hL'
      have h := (hap (p + s.h + s'.g + m)).2
      rw [← hL', I1_app] at h
      refine ih (j + 1) s' (p + s.h + s'.g + m) (P ++ [p + s.h + s'.g + m]) fr' L' e2 e3 e1 (by simp [hP]) ?_ (by omega) (by omega) ?_ g13 g14 g15 (by rw [g16]; exact h) (by rw [g17]; congr 1)
      · rw [List.getElem?_append_right (by omega), hP]
        simp
      · rw [hR, hm, List.append_assoc]
        rfl
    have hap1 := fun y => (hap y).1
    clear hap ih hr hR hx hin h16
    unfold more at next a5 a6
    generalize left / gaps = Q at *
    generalize left % gaps = W at *
    generalize I1 P = IP at *
    refine G_loop.trans ?_
    rcases h16' with hv | ⟨ver, hver, hv, hL⟩
    · subst hv
      by_cases c : ((j + 1 : Nat) : Int) ≤ W
      · rw [if_pos c] at next a6
        have nx := next _ rfl
        clear next
        simp (config := { maxSteps := 10000000 }) (disch := omega) only [↓G_seq, ↓G_skip, ↓G_blk, ↓G_region, ↓G_block, ↓G_cond, ↓G_ops_nil, ↓G_op, Gv_some, Gc_true, dec_t, killAll, ↓get_setS, evalOp, ev, b_add, b_sub, b_lss, b_leq, b_rem, b_quo, wrap_i64, one, Option.map_some, Option.bind_some, List.append_nil, List.nil_append, List.all_cons, List.all_nil, Bool.true_and, Bool.and_self, List.getElem?_cons_zero, List.getElem?_cons_succ, Nat.reduceEqDiff, ↓reduceIte, Nat.succ_ne_self, Bool.false_eq_true, Int.reduceLT, pick3, V.cells, fillV, splice, chop, addOff, loadV, V.scalar, V.pure, Nat.reduceLT, true_and, and_self, List.length_cons, List.length_nil, List.take_succ_cons, List.take_zero, List.drop_succ_cons, List.drop_zero, Nat.le_refl, List.replicate, List.flatten_cons, List.flatten_nil, Nat.zero_add, Nat.add_zero, el_full, nn, Int.toNat_natCast, h13, h14, h15, h17, hv16, hlx, hE, hE2, hj1, hIP, hq1, hq2, hap1]
        refine nx _ _ ?_ ?_ ?_ ?_ ?_ rfl
        all_goals simp (config := { maxSteps := 10000000 }) (disch := omega) only [↓get_setS, List.getElem?_cons_zero, List.getElem?_cons_succ, Nat.reduceEqDiff, ↓reduceIte, Nat.succ_ne_self, h13, h14, h15]
      · rw [if_neg c] at next a6
        have nx := next Q (by omega)
        clear next
        simp (config := { maxSteps := 10000000 }) (disch := omega) only [↓G_seq, ↓G_skip, ↓G_blk, ↓G_region, ↓G_block, ↓G_cond, ↓G_ops_nil, ↓G_op, Gv_some, Gc_true, Gc_false, dec_t, dec_f, killAll, ↓get_setS, evalOp, ev, b_add, b_sub, b_lss, b_leq, b_rem, b_quo, wrap_i64, one, Option.map_some, Option.bind_some, List.append_nil, List.nil_append, List.all_cons, List.all_nil, Bool.true_and, Bool.and_self, List.getElem?_cons_zero, List.getElem?_cons_succ, Nat.reduceEqDiff, ↓reduceIte, Nat.succ_ne_self, Bool.false_eq_true, Int.reduceLT, pick3, V.cells, fillV, splice, chop, addOff, loadV, V.scalar, V.pure, Nat.reduceLT, true_and, and_self, List.length_cons, List.length_nil, List.take_succ_cons, List.take_zero, List.drop_succ_cons, List.drop_zero, Nat.le_refl, List.replicate, List.flatten_cons, List.flatten_nil, Nat.zero_add, Nat.add_zero, el_full, nn, Int.toNat_natCast, h13, h14, h15, h17, hv16, hlx, hE, hE2, hj1, hIP, hq1, hq2, hap1]
        refine nx _ _ ?_ ?_ ?_ ?_ ?_ rfl
        all_goals simp (config := { maxSteps := 10000000 }) (disch := omega) only [↓get_setS, List.getElem?_cons_zero, List.getElem?_cons_succ, Nat.reduceEqDiff, ↓reduceIte, Nat.succ_ne_self, h13, h14, h15]
    · subst hv
      by_cases c : ((j + 1 : Nat) : Int) ≤ W
      · rw [if_pos c] at next a6
        have nx := next _ rfl
        clear next
        simp (config := { maxSteps := 10000000 }) (disch := omega) only [↓G_seq, ↓G_skip, ↓G_blk, ↓G_region, ↓G_block, ↓G_cond, ↓G_ops_nil, ↓G_op, Gv_some, Gc_true, dec_t, killAll, ↓get_setS, evalOp, ev, b_add, b_sub, b_lss, b_leq, b_rem, b_quo, wrap_i64, one, Option.map_some, Option.bind_some, V.shift, List.append_nil, List.nil_append, List.all_cons, List.all_nil, Bool.true_and, Bool.and_self, List.getElem?_cons_zero, List.getElem?_cons_succ, Nat.reduceEqDiff, ↓reduceIte, Nat.succ_ne_self, Bool.false_eq_true, Int.reduceLT, pick3, V.cells, fillV, splice, chop, addOff, loadV, Ab.rowAt, V.scalar, V.pure, Nat.reduceLT, true_and, and_self, List.length_cons, List.length_nil, List.take_succ_cons, List.take_zero, List.drop_succ_cons, List.drop_zero, Nat.le_refl, List.getD_cons_zero, List.replicate, List.flatten_cons, List.flatten_nil, Nat.zero_add, Nat.add_zero, el_ref, nn, ite_ov, Int.toNat_natCast, h13, h14, h15, h17, hv16, hlx, hE, hE2, hj1, hIP, hL, Nat.zero_add, hq1, hq2, hap1]
        refine nx _ _ ?_ ?_ ?_ ?_ ?_ (by rw [hL])
        all_goals simp (config := { maxSteps := 10000000 }) (disch := omega) only [↓get_setS, List.getElem?_cons_zero, List.getElem?_cons_succ, Nat.reduceEqDiff, ↓reduceIte, Nat.succ_ne_self, h13, h14, h15, hL]
      · rw [if_neg c] at next a6
        have nx := next Q (by omega)
        clear next
        simp (config := { maxSteps := 10000000 }) (disch := omega) only [↓G_seq, ↓G_skip, ↓G_blk, ↓G_region, ↓G_block, ↓G_cond, ↓G_ops_nil, ↓G_op, Gv_some, Gc_true, Gc_false, dec_t, dec_f, killAll, ↓get_setS, evalOp, ev, b_add, b_sub, b_lss, b_leq, b_rem, b_quo, wrap_i64, one, Option.map_some, Option.bind_some, V.shift, List.append_nil, List.nil_append, List.all_cons, List.all_nil, Bool.true_and, Bool.and_self, List.getElem?_cons_zero, List.getElem?_cons_succ, Nat.reduceEqDiff, ↓reduceIte, Nat.succ_ne_self, Bool.false_eq_true, Int.reduceLT, pick3, V.cells, fillV, splice, chop, addOff, loadV, Ab.rowAt, V.scalar, V.pure, Nat.reduceLT, true_and, and_self, List.length_cons, List.length_nil, List.take_succ_cons, List.take_zero, List.drop_succ_cons, List.drop_zero, Nat.le_refl, List.getD_cons_zero, List.replicate, List.flatten_cons, List.flatten_nil, Nat.zero_add, Nat.add_zero, el_ref, nn, ite_ov, Int.toNat_natCast, h13, h14, h15, h17, hv16, hlx, hE, hE2, hj1, hIP, hL, Nat.zero_add, hq1, hq2, hap1]
        refine nx _ _ ?_ ?_ ?_ ?_ ?_ (by rw [hL])
        all_goals simp (config := { maxSteps := 10000000 }) (disch := omega) only [↓get_setS, List.getElem?_cons_zero, List.getElem?_cons_succ, Nat.reduceEqDiff, ↓reduceIte, Nat.succ_ne_self, h13, h14, h15, hL]

theorem sl_get {l : List Sy} {a b j : Nat} {s : Sy} (hb : b ≤ l.length) (h : (sl l a b)[j]? = some s) : l[a + j]? = some s ∧ a + j < b := by
  have h1 : j < (sl l a b).length := (List.getElem?_eq_some_iff.1 h).1
  rw [sl_len hb] at h1
  refine ⟨?_, by omega⟩
  unfold sl at h
  rw [List.getElem?_drop, List.getElem?_take_of_lt (by omega)] at h
  exact h

def gapsR (n : Nat) (just : Bool) : Int := if just = true ∧ n ≠ 1 then n - 1 else 1
def leftR' (n : Nat) (just : Bool) (left : Int) : Int := if just = true ∧ n ≠ 1 then left else 0
/-- The places of the systems of a page. -/
def places (l : List Sy) (ph : Int) (a b : Nat) (just : Bool) : List Int := topsR (leftR' (b - a) just (ph - hgt (sl l a b))) (gapsR (b - a) just) (sl l a b)

theorem c26 {v : V} {l : List Sy} {a b : Nat} {ph pt : Int} {just : Bool} (hm : l.length ≤ 9223372036854775807) (hv : SlV 4 v (E4 l)) (hab : a < b) (hb : b ≤ l.length) (he : errC l ph pt = 0) (hh : hgt (sl l a b) ≤ ph) :
    call tbl 26 [v, .agg [.i ph, .i pt], .i (a : Nat), .i ((b : Nat) - 1 : Int), .bool just] H = some (.tup [outT (places l ph a b just), .i 0]) := by
  refine (call_start (show tbl 26 = some a26 from rfl)).trans ?_
  have h34 := fun H => c34 (H := H) (ph := ph) (pt := pt) (a := (a : Nat)) (b := (b : Nat) - 1) hm hv
  simp only [errG_ok he (show ¬ badR l.length (a : Nat) ((b : Nat) - 1) by unfold badR; omega)] at h34
  obtain ⟨w, hs, hw⟩ := part hv (Nat.le_of_lt hab) hb
  obtain ⟨ho, hpg, _⟩ := errC_ok he
  obtain ⟨⟨p1, p2⟩, p3⟩ := hpg
  have h33 := fun H => c33' (H := H) (by rw [sl_len hb]; omega) (by rw [sl_len hb]; omega) (fun x hx => errC_in he x (sl_mem hx)) hw
  have hsh := hv.sh
  have hwh := hw.sh
  have hlw := hw.len
  have hsl := sl_len (a := a) hb
  rw [E4_len, hsl] at hlw
  have hg := hgt_in (sl l a b) (fun x hx => errC_in he x (sl_mem hx))
  have hn : ((b - a : Nat) : Int) - 1 = (b : Int) - a - 1 := by omega
  have fin : ∀ (left gaps : Int), 0 ≤ left ∧ left ≤ 16777216 → 1 ≤ gaps ∧ gaps ≤ 1024 → left = leftR' (b - a) just (ph - hgt (sl l a b)) → gaps = gapsR (b - a) just → ∀ (fr : List V) (L : List Row), Ab.get fr 13 = w → Ab.get fr 14 = .i left → Ab.get fr 15 = .i gaps → Ab.get fr 16 = .sl .full 1 [[.i 0]] → Ab.get fr 17 = .i 1 →
      ∀ k : List KI, (∀ fr' L', Acc1 2 L' (Ab.get fr' 16) (I1 (places l ph a b just)) → Gx tbl H [.tmp 10, .tmp 11] 0 k fr' L' = some (.tup [outT (places l ph a b just), .i 0])) →
      G tbl H [.tmp 10, .tmp 11] (.code (.loop ( (.seq ( (.seq ( .region [] [ ⟨some 49, .mv (.t 17), none⟩, ⟨some 50, .mv (.t 13), none⟩, ⟨some 51, .len (.t 50), none⟩, ⟨some 52, .bin .lss (.t 49) (.t 51), none⟩]) ( (.cond (.t 52) ( .skip) ( .exit 0))))) ( (.seq ( (.block 1 ( (.seq ( .region [] [ ⟨some 55, .mv (.t 14), none⟩, ⟨some 56, .mv (.t 15), none⟩, ⟨some 57, .bin .quo (.t 55) (.t 56), none⟩, ⟨some 18, .mv (.t 57), none⟩]) ( (.seq ( (.seq ( .region [] [ ⟨some 58, .mv (.t 17), none⟩, ⟨some 59, .mv (.t 14), none⟩, ⟨some 60, .mv (.t 15), none⟩, ⟨some 61, .bin .rem (.t 59) (.t 60), none⟩, ⟨some 62, .bin .leq (.t 58) (.t 61), none⟩]) ( (.cond (.t 62) ( .region [] [ ⟨some 63, .mv (.t 18), none⟩, ⟨some 64, .bin .add (.t 63) (.c (.int .i64 1)), none⟩, ⟨some 18, .mv (.t 64), none⟩]) ( .skip))))) ( .region [] [ ⟨some 65, .mv (.t 16), none⟩, ⟨some 66, .mv (.t 16), none⟩, ⟨some 67, .mv (.t 17), none⟩, ⟨some 68, .bin .sub (.t 67) (.c (.int .i64 1)), none⟩, ⟨some 69, .elemAddr 1 (.t 66) (.t 68), none⟩, ⟨some 70, .load false 1 (.t 69), none⟩, ⟨some 71, .mv (.t 13), none⟩, ⟨some 72, .mv (.t 17), none⟩, ⟨some 73, .bin .sub (.t 72) (.c (.int .i64 1)), none⟩, ⟨some 74, .elemAddr 4 (.t 71) (.t 73), none⟩, ⟨some 75, .fieldAddr 0 (.t 74), none⟩, ⟨some 76, .load false 1 (.t 75), none⟩, ⟨some 77, .bin .add (.t 70) (.t 76), none⟩, ⟨some 78, .mv (.t 13), none⟩, ⟨some 79, .mv (.t 17), none⟩, ⟨some 80, .elemAddr 4 (.t 78) (.t 79), none⟩, ⟨some 81, .fieldAddr 1 (.t 80), none⟩, ⟨some 82, .load false 1 (.t 81), none⟩, ⟨some 83, .bin .add (.t 77) (.t 82), none⟩, ⟨some 84, .mv (.t 18), none⟩, ⟨some 85, .bin .add (.t 83) (.t 84), none⟩, ⟨some 86, .lit 1 [(.int .i64 0)] 1 [(0, 1, (.t 85))], none⟩, ⟨some 87, .app 2 1 8 (.t 65) (.t 86), none⟩, ⟨some 16, .mv (.t 87), none⟩]))))))) ( .region [] [ ⟨some 53, .mv (.t 17), none⟩, ⟨some 54, .bin .add (.t 53) (.c (.int .i64 1)), none⟩, ⟨some 17, .mv (.t 54), none⟩])))))) :: k) fr L = some (.tup [outT (places l ph a b just), .i 0]) := by
    intro left gaps hl1 hg1 e1 e2 fr L g13 g14 g15 g16 g17 k hk
    obtain ⟨s, hs1, hc⟩ := sl_cons hab hb
    have hq : (sl l a b).drop (0 + 1) = sl l (a + 1) b := by rw [hc]; rfl
    refine loop26 (q := sl l a b) (by omega) (fun x hx => errC_in he x (sl_mem hx)) hw hl1 hg1 (places l ph a b just) hk (sl l (a + 1) b) 0 s 0 [0] fr L hq (by omega) (by rw [hc]; rfl) rfl rfl (Int.le_refl _) (by omega) ?_ g13 g14 g15 (by rw [g16]; exact .inl ⟨rfl, rfl⟩) g17
    unfold places
    rw [← e1, ← e2, hc]
    rfl
  generalize hP : places l ph a b just = P at *
  clear hP
  generalize hgt (sl l a b) = h at *
  cases just
  · have fin' := fin 0 1 (by omega) (by omega) (by simp [leftR']) (by simp [gapsR])
    clear fin hv hw he
    unfold a26
    simp (config := { maxSteps := 10000000 }) (disch := omega) only [↓G_seq, ↓G_skip, ↓G_region, ↓G_block, ↓G_cond, ↓G_ops_nil, ↓G_op, Gv_some, ↓G_gop, Gw_ft, Gc_true, Gc_false, dec_f, killAll, ↓get_setS, evalOp, ev, evs, Ab.get, b_add, b_sub, b_neq, b_lss, wrap_i64, one, Option.map_some, Option.bind_some, Option.map_none, asB, callV, V.shift, V.shifts, List.append_nil, List.nil_append, List.all_cons, List.all_nil, Bool.true_and, Bool.and_self, List.getElem?_cons_zero, List.getElem?_cons_succ, Nat.reduceEqDiff, reduceCtorEq, ↓reduceIte, Nat.succ_ne_self, decide_true, Bool.not_true, Bool.not_false, bne_self_eq_false, Bool.false_eq_true, Int.reduceAdd, pick3, V.cells, fillV, splice, chop, addOff, loadV, Ab.rowAt, rget, rset, V.scalar, V.pure, Nat.reduceAdd, true_and, and_self, List.length_cons, List.length_nil, List.take_succ_cons, List.take_zero, List.drop_succ_cons, List.drop_zero, Nat.le_refl, List.getD_cons_zero, List.replicate, List.flatten_cons, List.flatten_nil, Nat.zero_add, Nat.add_zero, ti_int, hsh, hwh, h34, hs, h33, hlw, Int.sub_add_cancel, Nat.zero_lt_succ]
    refine fin' _ _ ?_ ?_ ?_ ?_ ?_ _ fun fr' L' hacc => ?_
    all_goals try simp (config := { maxSteps := 10000000 }) (disch := omega) only [↓G_seq, ↓G_ret, ↓G_region, ↓Gx_blk, ↓G_ops_nil, ↓G_op, Gv_some, killAll, ↓get_setS, evalOp, ev, Option.map_some, Option.bind_some, finish, resVs, resV, outVs, List.getElem?_cons_zero, List.getElem?_cons_succ, Nat.reduceEqDiff, ↓reduceIte, Nat.succ_ne_self, ov_int]
    have ho := hacc.out
    simp (config := { maxSteps := 10000000 }) (disch := omega) only [Option.bind_some, ownsLast, tupOf, List.all_cons, List.all_nil, Bool.and_self, List.getElem?_cons_zero, List.getElem?_cons_succ, ↓reduceIte, and_self, fn_some, ho]
  · by_cases hc : b - a = 1
    · have fin' := fin 0 1 (by omega) (by omega) (by simp [leftR', hc]) (by simp [gapsR, hc])
      clear fin hv hw he
      unfold a26
      simp (config := { maxSteps := 10000000 }) (disch := omega) only [↓G_seq, ↓G_skip, ↓G_region, ↓G_block, ↓G_cond, ↓G_ops_nil, ↓G_op, Gv_some, ↓G_gop, Gw_ff, Gc_true, Gc_false, dec_t, dec_f, killAll, ↓get_setS, evalOp, ev, evs, Ab.get, b_add, b_sub, b_eql, b_neq, b_lss, wrap_i64, one, Option.map_some, Option.bind_some, Option.map_none, asB, callV, V.shift, V.shifts, List.append_nil, List.nil_append, List.all_cons, List.all_nil, Bool.true_and, Bool.and_self, List.getElem?_cons_zero, List.getElem?_cons_succ, Nat.reduceEqDiff, reduceCtorEq, ↓reduceIte, Nat.succ_ne_self, decide_true, Bool.not_true, bne_self_eq_false, Bool.false_eq_true, Int.reduceAdd, pick3, V.cells, fillV, splice, chop, addOff, loadV, Ab.rowAt, rget, rset, V.scalar, V.pure, Nat.reduceAdd, true_and, and_self, List.length_cons, List.length_nil, List.take_succ_cons, List.take_zero, List.drop_succ_cons, List.drop_zero, Nat.le_refl, List.getD_cons_zero, List.replicate, List.flatten_cons, List.flatten_nil, Nat.zero_add, Nat.add_zero, ti_int, hsh, hwh, h34, hs, h33, hlw, Int.sub_add_cancel, Nat.zero_lt_succ]
      refine fin' _ _ ?_ ?_ ?_ ?_ ?_ _ fun fr' L' hacc => ?_
      all_goals try simp (config := { maxSteps := 10000000 }) (disch := omega) only [↓G_seq, ↓G_ret, ↓G_region, ↓Gx_blk, ↓G_ops_nil, ↓G_op, Gv_some, killAll, ↓get_setS, evalOp, ev, Option.map_some, Option.bind_some, finish, resVs, resV, outVs, List.getElem?_cons_zero, List.getElem?_cons_succ, Nat.reduceEqDiff, ↓reduceIte, Nat.succ_ne_self, ov_int]
      have ho := hacc.out
      simp (config := { maxSteps := 10000000 }) (disch := omega) only [Option.bind_some, ownsLast, tupOf, List.all_cons, List.all_nil, Bool.and_self, List.getElem?_cons_zero, List.getElem?_cons_succ, ↓reduceIte, and_self, fn_some, ho]
    · have fin' := fin (ph - h) ((b - a : Nat) - 1 : Int) (by omega) (by omega) (by simp [leftR', hc]) (by simp [gapsR, hc])
      clear fin hv hw he
      unfold a26
      simp (config := { maxSteps := 10000000 }) (disch := omega) only [↓G_seq, ↓G_skip, ↓G_region, ↓G_block, ↓G_cond, ↓G_ops_nil, ↓G_op, Gv_some, ↓G_gop, Gw_ff, Gc_false, dec_f, killAll, ↓get_setS, evalOp, ev, evs, Ab.get, b_add, b_sub, b_eql, b_neq, b_lss, wrap_i64, one, Option.map_some, Option.bind_some, Option.map_none, asB, callV, V.shift, V.shifts, List.append_nil, List.nil_append, List.all_cons, List.all_nil, Bool.true_and, Bool.and_self, List.getElem?_cons_zero, List.getElem?_cons_succ, Nat.reduceEqDiff, reduceCtorEq, ↓reduceIte, Nat.succ_ne_self, decide_true, Bool.not_true, bne_self_eq_false, Bool.false_eq_true, Int.reduceAdd, pick3, V.cells, fillV, splice, chop, addOff, loadV, Ab.rowAt, rget, rset, V.scalar, V.pure, Nat.reduceAdd, true_and, and_self, List.length_cons, List.length_nil, List.take_succ_cons, List.take_zero, List.drop_succ_cons, List.drop_zero, Nat.le_refl, List.getD_cons_zero, List.replicate, List.flatten_cons, List.flatten_nil, Nat.zero_add, Nat.add_zero, ti_int, hsh, hwh, h34, hs, h33, hlw, Int.sub_add_cancel, Nat.zero_lt_succ]
      refine fin' _ _ ?_ ?_ ?_ ?_ ?_ _ fun fr' L' hacc => ?_
      all_goals try simp (config := { maxSteps := 10000000 }) (disch := omega) only [↓G_seq, ↓G_ret, ↓G_region, ↓Gx_blk, ↓G_ops_nil, ↓G_op, Gv_some, killAll, ↓get_setS, evalOp, ev, Option.map_some, Option.bind_some, finish, resVs, resV, outVs, List.getElem?_cons_zero, List.getElem?_cons_succ, Nat.reduceEqDiff, ↓reduceIte, Nat.succ_ne_self, ov_int]
      have ho := hacc.out
      simp (config := { maxSteps := 10000000 }) (disch := omega) only [Option.bind_some, ownsLast, tupOf, List.all_cons, List.all_nil, Bool.and_self, List.getElem?_cons_zero, List.getElem?_cons_succ, ↓reduceIte, and_self, fn_some, ho]

theorem c26e {v : V} {l : List Sy} {a b e ph pt : Int} {just : Bool} (hm : l.length ≤ 9223372036854775807) (hv : SlV 4 v (E4 l)) (he : errG l ph pt a b = e) (h0 : e ≠ 0) : call tbl 26 [v, .agg [.i ph, .i pt], .i a, .i b, .bool just] H = some (.tup [.nilsl, .i e]) := by
  refine (call_start (show tbl 26 = some a26 from rfl)).trans ?_
  have h34 := fun H => c34 (H := H) (ph := ph) (pt := pt) (a := a) (b := b) hm hv
  simp only [he] at h34
  have hsh := hv.sh
  unfold a26
  simp (config := { maxSteps := 10000000 }) (disch := omega) only [↓G_seq, ↓G_ret, ↓G_region, ↓G_cond, ↓G_ops_nil, ↓G_op, Gv_some, Gc_true, dec_f, killAll, ↓get_setS, evalOp, ev, evs, Ab.get, b_neq, one, Option.map_some, Option.bind_some, finish, resVs, resV, outVs, ownsLast, tupOf, callV, V.shift, V.shifts, List.append_nil, List.all_cons, List.all_nil, Bool.and_self, List.getElem?_cons_zero, List.getElem?_cons_succ, Nat.reduceEqDiff, reduceCtorEq, ↓reduceIte, Nat.succ_ne_self, Bool.not_false, bne_self_eq_false, Int.reduceAdd, pick3, V.cells, loadV, Ab.rowAt, rget, rset, V.scalar, Nat.reduceAdd, and_self, List.length_cons, List.length_nil, List.take_succ_cons, List.take_zero, List.drop_zero, Nat.le_refl, List.getD_cons_zero, Nat.zero_add, ti_int, ov_int, ov_nilsl, fn_some, hsh, h34, Nat.zero_lt_succ]

theorem c26s {v : V} {l : List Sy} {a b : Nat} {ph pt : Int} {just : Bool} (hm : l.length ≤ 9223372036854775807) (hv : SlV 4 v (E4 l)) (hab : a < b) (hb : b ≤ l.length) (he : errC l ph pt = 0) (hh : ph < hgt (sl l a b)) :
    call tbl 26 [v, .agg [.i ph, .i pt], .i (a : Nat), .i ((b : Nat) - 1 : Int), .bool just] H = some (.tup [.nilsl, .i 28]) := by
  refine (call_start (show tbl 26 = some a26 from rfl)).trans ?_
  have h34 := fun H => c34 (H := H) (ph := ph) (pt := pt) (a := (a : Nat)) (b := (b : Nat) - 1) hm hv
  simp only [errG_ok he (show ¬ badR l.length (a : Nat) ((b : Nat) - 1) by unfold badR; omega)] at h34
  obtain ⟨w, hs, hw⟩ := part hv (Nat.le_of_lt hab) hb
  obtain ⟨ho, hpg, _⟩ := errC_ok he
  obtain ⟨⟨p1, p2⟩, p3⟩ := hpg
  have h33 := fun H => c33' (H := H) (by rw [sl_len hb]; omega) (by rw [sl_len hb]; omega) (fun x hx => errC_in he x (sl_mem hx)) hw
  have hsh := hv.sh
  have hwh := hw.sh
  have hg := hgt_in (sl l a b) (fun x hx => errC_in he x (sl_mem hx))
  have hsl := sl_len (a := a) hb
  generalize hgt (sl l a b) = h at *
  unfold a26
  simp (config := { maxSteps := 10000000 }) (disch := omega) only [↓G_seq, ↓G_skip, ↓G_ret, ↓G_region, ↓G_cond, ↓G_ops_nil, ↓G_op, Gv_some, Gc_true, Gc_false, dec_t, killAll, ↓get_setS, evalOp, ev, evs, Ab.get, b_add, b_sub, b_neq, b_lss, wrap_i64, one, Option.map_some, Option.bind_some, Option.map_none, finish, resVs, resV, outVs, ownsLast, tupOf, callV, V.shift, V.shifts, List.append_nil, List.all_cons, List.all_nil, Bool.and_self, List.getElem?_cons_zero, List.getElem?_cons_succ, Nat.reduceEqDiff, reduceCtorEq, ↓reduceIte, Nat.succ_ne_self, decide_true, Bool.not_true, bne_self_eq_false, Bool.false_eq_true, Int.reduceAdd, pick3, V.cells, addOff, loadV, Ab.rowAt, rget, rset, V.scalar, Nat.reduceAdd, and_self, List.length_cons, List.length_nil, List.take_succ_cons, List.take_zero, List.drop_zero, Nat.le_refl, List.getD_cons_zero, Nat.zero_add, Nat.add_zero, ti_int, ov_int, ov_nilsl, fn_some, hsh, hwh, h34, hs, h33, Int.sub_add_cancel, Nat.zero_lt_succ]

theorem loop27 {k : List KI} {v : V} {l : List Sy} {a b : Nat} {just : Bool} {left gaps left' gaps' : Int} {r : Option V} (hq : l.length ≤ 1024) (hab : a < b) (hb : b ≤ l.length) (hin : ∀ s ∈ l, inS s) (hv : SlV 4 v (E4 l)) (hl : 0 ≤ left' ∧ left' ≤ 16777216) (hg : 1 ≤ gaps' ∧ gaps' ≤ 1024)
    (hj : (just = true ∧ left = left' ∧ gaps = gaps') ∨ (just = false ∧ left' = 0 ∧ gaps' = 1)) (R : List Int)
    (hr : ∀ fr' L', Acc1 2 L' (Ab.get fr' 11) (I1 R) → Gx tbl H [.tmp 10] 0 k fr' L' = r) :
    ∀ (t : List Sy) (j : Nat) (s : Sy) (p : Int) (P : List Int) (fr : List V) (L : List Row), (sl l a b).drop (j + 1) = t → a + j < b → (sl l a b)[j]? = some s → P.length = j + 1 → P[j]? = some p → 0 ≤ p → p ≤ j * 67108864 → R = P ++ topsL left' gaps' p s.h (j + 1) t →
    Ab.get fr 0 = v → Ab.get fr 2 = .i (a : Nat) → Ab.get fr 3 = .i ((b : Nat) - 1 : Int) → Ab.get fr 4 = .bool just → Ab.get fr 12 = .i left → Ab.get fr 13 = .i gaps → Acc1 2 L (Ab.get fr 11) (I1 P) → Ab.get fr 14 = .i ((a + j + 1 : Nat)) →
    G tbl H [.tmp 10] (.code (.loop ( (.seq ( (.seq ( .region [] [ ⟨some 29, .mv (.t 14), none⟩, ⟨some 30, .mv (.t 3), none⟩, ⟨some 31, .bin .leq (.t 29) (.t 30), none⟩]) ( (.cond (.t 31) ( .skip) ( .exit 0))))) ( (.seq ( (.block 1 ( (.seq ( .region [] [ ⟨some 15, .mv (.c (.int .i64 0)), none⟩]) ( (.seq ( (.seq ( .region [] [ ⟨some 34, .mv (.t 4), none⟩]) ( (.cond (.t 34) ( (.seq ( .region [] [ ⟨some 35, .mv (.t 12), none⟩, ⟨some 36, .mv (.t 13), none⟩, ⟨some 37, .bin .quo (.t 35) (.t 36), none⟩, ⟨some 15, .mv (.t 37), none⟩]) ( (.seq ( .region [] [ ⟨some 38, .mv (.t 14), none⟩, ⟨some 39, .mv (.t 2), none⟩, ⟨some 40, .bin .sub (.t 38) (.t 39), none⟩, ⟨some 41, .mv (.t 12), none⟩, ⟨some 42, .mv (.t 13), none⟩, ⟨some 43, .bin .rem (.t 41) (.t 42), none⟩, ⟨some 44, .bin .leq (.t 40) (.t 43), none⟩]) ( (.cond (.t 44) ( .region [] [ ⟨some 45, .mv (.t 15), none⟩, ⟨some 46, .bin .add (.t 45) (.c (.int .i64 1)), none⟩, ⟨some 15, .mv (.t 46), none⟩]) ( .skip))))))) ( .skip))))) ( .region [] [ ⟨some 47, .mv (.t 11), none⟩, ⟨some 48, .mv (.t 11), none⟩, ⟨some 49, .mv (.t 11), none⟩, ⟨some 50, .len (.t 49), none⟩, ⟨some 51, .bin .sub (.t 50) (.c (.int .i64 1)), none⟩, ⟨some 52, .elemAddr 1 (.t 48) (.t 51), none⟩, ⟨some 53, .load false 1 (.t 52), none⟩, ⟨some 54, .mv (.t 0), none⟩, ⟨some 55, .mv (.t 14), none⟩, ⟨some 56, .bin .sub (.t 55) (.c (.int .i64 1)), none⟩, ⟨some 57, .elemAddr 4 (.t 54) (.t 56), none⟩, ⟨some 58, .fieldAddr 0 (.t 57), none⟩, ⟨some 59, .load false 1 (.t 58), none⟩, ⟨some 60, .bin .add (.t 53) (.t 59), none⟩, ⟨some 61, .mv (.t 0), none⟩, ⟨some 62, .mv (.t 14), none⟩, ⟨some 63, .elemAddr 4 (.t 61) (.t 62), none⟩, ⟨some 64, .fieldAddr 1 (.t 63), none⟩, ⟨some 65, .load false 1 (.t 64), none⟩, ⟨some 66, .bin .add (.t 60) (.t 65), none⟩, ⟨some 67, .mv (.t 15), none⟩, ⟨some 68, .bin .add (.t 66) (.t 67), none⟩, ⟨some 69, .lit 1 [(.int .i64 0)] 1 [(0, 1, (.t 68))], none⟩, ⟨some 70, .app 2 1 8 (.t 47) (.t 69), none⟩, ⟨some 11, .mv (.t 70), none⟩]))))))) ( .region [] [ ⟨some 32, .mv (.t 14), none⟩, ⟨some 33, .bin .add (.t 32) (.c (.int .i64 1)), none⟩, ⟨some 14, .mv (.t 33), none⟩])))))) :: k) fr L = r := by
  intro t
  have hsl := sl_len (a := a) hb
  induction t with
  | nil =>
    intro j s p P fr L ht hjb hs hP hp hp0 hp1 hR h0 h2 h3 h4 h12 h13 h11 h14
    have := drop_nil ht
    rw [topsL, List.append_nil] at hR
    subst hR
    refine G_loop.trans ?_
    simp (config := { maxSteps := 10000000 }) (disch := omega) only [↓G_seq, ↓G_exit, ↓G_region, ↓G_cond, ↓Gx_code, ↓G_ops_nil, ↓G_op, Gv_some, Gc_false, dec_f, killAll, ↓get_setS, evalOp, ev, b_leq, one, Option.map_some, List.getElem?_cons_zero, List.getElem?_cons_succ, Nat.reduceEqDiff, ↓reduceIte, Nat.succ_ne_self, h3, h14]
    refine hr _ _ ?_
    simp (config := { maxSteps := 10000000 }) (disch := omega) only [↓get_setS, List.getElem?_cons_zero, List.getElem?_cons_succ, Nat.reduceEqDiff, ↓reduceIte]
    exact h11
  | cons s' t ih =>
    intro j s p P fr L ht hjb hs hP hp hp0 hp1 hR h0 h2 h3 h4 h12 h13 h11 h14
    obtain ⟨e1, e2, e3⟩ := drop_cons ht
    obtain ⟨f1, f2⟩ := sl_get hb hs
    obtain ⟨g1, g2⟩ := sl_get hb e1
    have hE := hv.el (E4_get l (a + j) s f1)
    have hE2 := hv.el (E4_get l (a + j + 1) s' g1)
    obtain ⟨b1, b2, b3⟩ := hin s (List.mem_of_getElem? f1)
    obtain ⟨d1, d2, d3⟩ := hin s' (List.mem_of_getElem? g1)
    obtain ⟨a1, a2, a3, a4, a5, a6⟩ := more_in (i := j + 1) hl.1 hg.1
    have hj1 : ((a + j + 1 : Nat) : Int) - 1 = (a + j : Nat) := by omega
    have hj2 : ((j + 1 : Nat) : Int) - 1 = (j : Nat) := by omega
    have hj3 : ((a + j + 1 : Nat) : Int) - (a : Nat) = (j + 1 : Nat) := by omega
    have hIP := I1_get P j p hp
    have h16' : (Ab.get fr 11 = .sl .full 1 (I1 P)) ∨ (∃ ver, 0 < ver ∧ Ab.get fr 11 = .ref 0 2 ver 1 0 (j + 1) ∧ rget L 2 = ⟨ver, 1, I1 P⟩) := by
      rcases h11 with ⟨h, _⟩ | ⟨_, ver, h, h', h''⟩
      · exact .inl h
      · rw [I1_len, hP] at h'
        exact .inr ⟨ver, h, h', h''⟩
    have hlP : (I1 P).length = j + 1 := by rw [I1_len, hP]
    have hq1 : left'.tdiv gaps' = left' / gaps' := tdiv_pos hl.1
    have hq2 : left'.tmod gaps' = left' % gaps' := tmod_pos hl.1
    have hap := fun y => h11.app (M := H) (bytes := 8) (y := .sl .full 1 [[.i y]]) (x := .i y) rfl (by omega) (by rw [I1_len]; omega) (I1_sc P) rfl
    simp only [I1_len, hP] at hap
    generalize hv16 : Ab.get fr 11 = v16 at *
    have next : ∀ (m : Int), m = more left' gaps' (j + 1) → ∀ (fr' : List V) (L' : List Row), Ab.get fr' 0 = v → Ab.get fr' 2 = .i (a : Nat) → Ab.get fr' 3 = .i ((b : Nat) - 1 : Int) → Ab.get fr' 4 = .bool just → Ab.get fr' 12 = .i left → Ab.get fr' 13 = .i gaps → Ab.get fr' 14 = .i (((a + j + 1 : Nat) : Int) + 1) →
        Ab.get fr' 11 = .ref 0 2 ((rget L 2).ver + 1) 1 0 (j + 1 + 1) → L' = rset L 2 ⟨(rget L 2).ver + 1, 1, I1 P ++ [[.i (p + s.h + s'.g + m)]]⟩ →
        G tbl H [.tmp 10] (.code (.loop ( (.seq ( (.seq ( .region [] [ ⟨some 29, .mv (.t 14), none⟩, ⟨some 30, .mv (.t 3), none⟩, ⟨some 31, .bin .leq (.t 29) (.t 30), none⟩]) ( (.cond (.t 31) ( .skip) ( .exit 0))))) ( (.seq ( (.block 1 ( (.seq ( .region [] [ ⟨some 15, .mv (.c (.int .i64 0)), none⟩]) ( (.seq ( (.seq ( .region [] [ ⟨some 34, .mv (.t 4), none⟩]) ( (.cond (.t 34) ( (.seq ( .region [] [ ⟨some 35, .mv (.t 12), none⟩, ⟨some 36, .mv (.t 13), none⟩, ⟨some 37, .bin .quo (.t 35) (.t 36), none⟩, ⟨some 15, .mv (.t 37), none⟩]) ( (.seq ( .region [] [ ⟨some 38, .mv (.t 14), none⟩, ⟨some 39, .mv (.t 2), none⟩, ⟨some 40, .bin .sub (.t 38) (.t 39), none⟩, ⟨some 41, .mv (.t 12), none⟩, ⟨some 42, .mv (.t 13), none⟩, ⟨some 43, .bin .rem (.t 41) (.t 42), none⟩, ⟨some 44, .bin .leq (.t 40) (.t 43), none⟩]) ( (.cond (.t 44) ( .region [] [ ⟨some 45, .mv (.t 15), none⟩, ⟨some 46, .bin .add (.t 45) (.c (.int .i64 1)), none⟩, ⟨some 15, .mv (.t 46), none⟩]) ( .skip))))))) ( .skip))))) ( .region [] [ ⟨some 47, .mv (.t 11), none⟩, ⟨some 48, .mv (.t 11), none⟩, ⟨some 49, .mv (.t 11), none⟩, ⟨some 50, .len (.t 49), none⟩, ⟨some 51, .bin .sub (.t 50) (.c (.int .i64 1)), none⟩, ⟨some 52, .elemAddr 1 (.t 48) (.t 51), none⟩, ⟨some 53, .load false 1 (.t 52), none⟩, ⟨some 54, .mv (.t 0), none⟩, ⟨some 55, .mv (.t 14), none⟩, ⟨some 56, .bin .sub (.t 55) (.c (.int .i64 1)), none⟩, ⟨some 57, .elemAddr 4 (.t 54) (.t 56), none⟩, ⟨some 58, .fieldAddr 0 (.t 57), none⟩, ⟨some 59, .load false 1 (.t 58), none⟩, ⟨some 60, .bin .add (.t 53) (.t 59), none⟩, ⟨some 61, .mv (.t 0), none⟩, ⟨some 62, .mv (.t 14), none⟩, ⟨some 63, .elemAddr 4 (.t 61) (.t 62), none⟩, ⟨some 64, .fieldAddr 1 (.t 63), none⟩, ⟨some 65, .load false 1 (.t 64), none⟩, ⟨some 66, .bin .add (.t 60) (.t 65), none⟩, ⟨some 67, .mv (.t 15), none⟩, ⟨some 68, .bin .add (.t 66) (.t 67), none⟩, ⟨some 69, .lit 1 [(.int .i64 0)] 1 [(0, 1, (.t 68))], none⟩, ⟨some 70, .app 2 1 8 (.t 47) (.t 69), none⟩, ⟨some 11, .mv (.t 70), none⟩]))))))) ( .region [] [ ⟨some 32, .mv (.t 14), none⟩, ⟨some 33, .bin .add (.t 32) (.c (.int .i64 1)), none⟩, ⟨some 14, .mv (.t 33), none⟩])))))) :: k) fr' L' = r := by
      intro m hm fr' L' g0 g2' g3 g4 g12 g13 g14 g11 hL'
      have h := (hap (p + s.h + s'.g + m)).2
      rw [← hL', I1_app] at h
      refine ih (j + 1) s' (p + s.h + s'.g + m) (P ++ [p + s.h + s'.g + m]) fr' L' e2 (by omega) e1 (by simp [hP]) ?_ (by omega) (by omega) ?_ g0 g2' g3 g4 g12 g13 (by rw [g11]; exact h) (by rw [g14]; congr 1)
      · rw [List.getElem?_append_right (by omega), hP]
        simp
      · rw [hR, hm, List.append_assoc]
        rfl
    have hap1 := fun y => (hap y).1
    have hne : left' = 0 → gaps' = 1 → more left' gaps' (j + 1) = 0 := by
      intro z1 z2
      subst z1 z2
      unfold more
      rw [if_neg (by omega)]
      rfl
    clear hap ih hr hR hv hin h11
    refine G_loop.trans ?_
    rcases hj with ⟨rfl, rfl, rfl⟩ | ⟨rfl, z1, z2⟩
    · clear hne
      unfold more at next a5 a6
      generalize left / gaps = Q at *
      generalize left % gaps = W at *
      generalize I1 P = IP at *
      rcases h16' with hv | ⟨ver, hver, hv, hL⟩
      · subst hv
        by_cases c : ((j + 1 : Nat) : Int) ≤ W
        · rw [if_pos c] at next a6
          have nx := next _ rfl
          clear next
          simp (config := { maxSteps := 10000000 }) (disch := omega) only [↓G_seq, ↓G_skip, ↓G_blk, ↓G_region, ↓G_block, ↓G_cond, ↓G_ops_nil, ↓G_op, Gv_some, Gc_true, dec_t, killAll, ↓get_setS, evalOp, ev, b_add, b_sub, b_leq, b_rem, b_quo, wrap_i64, one, Option.map_some, Option.bind_some, List.append_nil, List.nil_append, List.all_cons, List.all_nil, Bool.true_and, Bool.and_self, List.getElem?_cons_zero, List.getElem?_cons_succ, Nat.reduceEqDiff, reduceCtorEq, ↓reduceIte, Nat.succ_ne_self, Bool.false_eq_true, Int.reduceLT, pick3, V.cells, fillV, splice, chop, addOff, loadV, V.scalar, V.pure, Nat.reduceLT, true_and, and_self, List.length_cons, List.length_nil, List.take_succ_cons, List.take_zero, List.drop_succ_cons, List.drop_zero, Nat.le_refl, List.replicate, List.flatten_cons, List.flatten_nil, Nat.zero_add, Nat.add_zero, len_full, el_full, nn, Int.toNat_natCast, h0, h2, h3, h4, h12, h13, h14, hv16, hE, hE2, hj1, hj2, hj3, hlP, hIP, hq1, hq2, hap1]
          refine nx _ _ ?_ ?_ ?_ ?_ ?_ ?_ ?_ ?_ rfl
          all_goals simp (config := { maxSteps := 10000000 }) (disch := omega) only [↓get_setS, List.getElem?_cons_zero, List.getElem?_cons_succ, Nat.reduceEqDiff, reduceCtorEq, ↓reduceIte, Nat.succ_ne_self, h0, h2, h3, h4, h12, h13]
        · rw [if_neg c] at next a6
          have nx := next Q (by omega)
          clear next
          simp (config := { maxSteps := 10000000 }) (disch := omega) only [↓G_seq, ↓G_skip, ↓G_blk, ↓G_region, ↓G_block, ↓G_cond, ↓G_ops_nil, ↓G_op, Gv_some, Gc_true, Gc_false, dec_t, dec_f, killAll, ↓get_setS, evalOp, ev, b_add, b_sub, b_leq, b_rem, b_quo, wrap_i64, one, Option.map_some, Option.bind_some, List.append_nil, List.nil_append, List.all_cons, List.all_nil, Bool.true_and, Bool.and_self, List.getElem?_cons_zero, List.getElem?_cons_succ, Nat.reduceEqDiff, reduceCtorEq, ↓reduceIte, Nat.succ_ne_self, Bool.false_eq_true, Int.reduceLT, pick3, V.cells, fillV, splice, chop, addOff, loadV, V.scalar, V.pure, Nat.reduceLT, true_and, and_self, List.length_cons, List.length_nil, List.take_succ_cons, List.take_zero, List.drop_succ_cons, List.drop_zero, Nat.le_refl, List.replicate, List.flatten_cons, List.flatten_nil, Nat.zero_add, Nat.add_zero, len_full, el_full, nn, Int.toNat_natCast, h0, h2, h3, h4, h12, h13, h14, hv16, hE, hE2, hj1, hj2, hj3, hlP, hIP, hq1, hq2, hap1]
          refine nx _ _ ?_ ?_ ?_ ?_ ?_ ?_ ?_ ?_ rfl
          all_goals simp (config := { maxSteps := 10000000 }) (disch := omega) only [↓get_setS, List.getElem?_cons_zero, List.getElem?_cons_succ, Nat.reduceEqDiff, reduceCtorEq, ↓reduceIte, Nat.succ_ne_self, h0, h2, h3, h4, h12, h13]
      · subst hv
        by_cases c : ((j + 1 : Nat) : Int) ≤ W
        · rw [if_pos c] at next a6
          have nx := next _ rfl
          clear next
          simp (config := { maxSteps := 10000000 }) (disch := omega) only [↓G_seq, ↓G_skip, ↓G_blk, ↓G_region, ↓G_block, ↓G_cond, ↓G_ops_nil, ↓G_op, Gv_some, Gc_true, dec_t, killAll, ↓get_setS, evalOp, ev, b_add, b_sub, b_leq, b_rem, b_quo, wrap_i64, one, Option.map_some, Option.bind_some, V.shift, List.append_nil, List.nil_append, List.all_cons, List.all_nil, Bool.true_and, Bool.and_self, List.getElem?_cons_zero, List.getElem?_cons_succ, Nat.reduceEqDiff, reduceCtorEq, ↓reduceIte, Nat.succ_ne_self, Bool.false_eq_true, Int.reduceLT, pick3, V.cells, fillV, splice, chop, addOff, loadV, Ab.rowAt, V.scalar, V.pure, Nat.reduceLT, true_and, and_self, List.length_cons, List.length_nil, List.take_succ_cons, List.take_zero, List.drop_succ_cons, List.drop_zero, Nat.le_refl, List.getD_cons_zero, List.replicate, List.flatten_cons, List.flatten_nil, Nat.zero_add, Nat.add_zero, len_ref, el_ref, nn, ite_ov, Int.toNat_natCast, h0, h2, h3, h4, h12, h13, h14, hv16, hE, hE2, hj1, hj2, hj3, hIP, hL, hq1, hq2, hap1, Nat.zero_add]
          refine nx _ _ ?_ ?_ ?_ ?_ ?_ ?_ ?_ ?_ (by rw [hL])
          all_goals simp (config := { maxSteps := 10000000 }) (disch := omega) only [↓get_setS, List.getElem?_cons_zero, List.getElem?_cons_succ, Nat.reduceEqDiff, reduceCtorEq, ↓reduceIte, Nat.succ_ne_self, h0, h2, h3, h4, h12, h13, hL]
        · rw [if_neg c] at next a6
          have nx := next Q (by omega)
          clear next
          simp (config := { maxSteps := 10000000 }) (disch := omega) only [↓G_seq, ↓G_skip, ↓G_blk, ↓G_region, ↓G_block, ↓G_cond, ↓G_ops_nil, ↓G_op, Gv_some, Gc_true, Gc_false, dec_t, dec_f, killAll, ↓get_setS, evalOp, ev, b_add, b_sub, b_leq, b_rem, b_quo, wrap_i64, one, Option.map_some, Option.bind_some, V.shift, List.append_nil, List.nil_append, List.all_cons, List.all_nil, Bool.true_and, Bool.and_self, List.getElem?_cons_zero, List.getElem?_cons_succ, Nat.reduceEqDiff, reduceCtorEq, ↓reduceIte, Nat.succ_ne_self, Bool.false_eq_true, Int.reduceLT, pick3, V.cells, fillV, splice, chop, addOff, loadV, Ab.rowAt, V.scalar, V.pure, Nat.reduceLT, true_and, and_self, List.length_cons, List.length_nil, List.take_succ_cons, List.take_zero, List.drop_succ_cons, List.drop_zero, Nat.le_refl, List.getD_cons_zero, List.replicate, List.flatten_cons, List.flatten_nil, Nat.zero_add, Nat.add_zero, len_ref, el_ref, nn, ite_ov, Int.toNat_natCast, h0, h2, h3, h4, h12, h13, h14, hv16, hE, hE2, hj1, hj2, hj3, hIP, hL, hq1, hq2, hap1, Nat.zero_add]
          refine nx _ _ ?_ ?_ ?_ ?_ ?_ ?_ ?_ ?_ (by rw [hL])
          all_goals simp (config := { maxSteps := 10000000 }) (disch := omega) only [↓get_setS, List.getElem?_cons_zero, List.getElem?_cons_succ, Nat.reduceEqDiff, reduceCtorEq, ↓reduceIte, Nat.succ_ne_self, h0, h2, h3, h4, h12, h13, hL]
    · have nx := next 0 (hne z1 z2).symm
      clear next hne
      generalize I1 P = IP at *
      rcases h16' with hv | ⟨ver, hver, hv, hL⟩
      · subst hv
        simp (config := { maxSteps := 10000000 }) (disch := omega) only [↓G_seq, ↓G_skip, ↓G_blk, ↓G_region, ↓G_block, ↓G_cond, ↓G_ops_nil, ↓G_op, Gv_some, Gc_true, Gc_false, dec_t, killAll, ↓get_setS, evalOp, ev, b_add, b_sub, b_leq, wrap_i64, one, Option.map_some, Option.bind_some, List.append_nil, List.nil_append, List.all_cons, List.all_nil, Bool.true_and, Bool.and_self, List.getElem?_cons_zero, List.getElem?_cons_succ, Nat.reduceEqDiff, reduceCtorEq, ↓reduceIte, Nat.succ_ne_self, Bool.false_eq_true, Int.reduceLT, pick3, V.cells, fillV, splice, chop, addOff, loadV, V.scalar, V.pure, Nat.reduceLT, true_and, and_self, List.length_cons, List.length_nil, List.take_succ_cons, List.take_zero, List.drop_succ_cons, List.drop_zero, Nat.le_refl, List.replicate, List.flatten_cons, List.flatten_nil, Nat.zero_add, Nat.add_zero, len_full, el_full, nn, Int.toNat_natCast, h0, h3, h4, h14, hv16, hE, hE2, hj1, hj2, hlP, hIP, hap1]
        refine nx _ _ ?_ ?_ ?_ ?_ ?_ ?_ ?_ ?_ rfl
        all_goals simp (config := { maxSteps := 10000000 }) (disch := omega) only [↓get_setS, List.getElem?_cons_zero, List.getElem?_cons_succ, Nat.reduceEqDiff, reduceCtorEq, ↓reduceIte, Nat.succ_ne_self, h0, h2, h3, h4, h12, h13]
      · subst hv
        simp (config := { maxSteps := 10000000 }) (disch := omega) only [↓G_seq, ↓G_skip, ↓G_blk, ↓G_region, ↓G_block, ↓G_cond, ↓G_ops_nil, ↓G_op, Gv_some, Gc_true, Gc_false, dec_t, killAll, ↓get_setS, evalOp, ev, b_add, b_sub, b_leq, wrap_i64, one, Option.map_some, Option.bind_some, V.shift, List.append_nil, List.nil_append, List.all_cons, List.all_nil, Bool.true_and, Bool.and_self, List.getElem?_cons_zero, List.getElem?_cons_succ, Nat.reduceEqDiff, reduceCtorEq, ↓reduceIte, Nat.succ_ne_self, Bool.false_eq_true, Int.reduceLT, pick3, V.cells, fillV, splice, chop, addOff, loadV, Ab.rowAt, V.scalar, V.pure, Nat.reduceLT, true_and, and_self, List.length_cons, List.length_nil, List.take_succ_cons, List.take_zero, List.drop_succ_cons, List.drop_zero, Nat.le_refl, List.getD_cons_zero, List.replicate, List.flatten_cons, List.flatten_nil, Nat.zero_add, Nat.add_zero, len_ref, el_ref, nn, ite_ov, Int.toNat_natCast, h0, h3, h4, h14, hv16, hE, hE2, hj1, hj2, hIP, hL, hap1, Nat.zero_add]
        refine nx _ _ ?_ ?_ ?_ ?_ ?_ ?_ ?_ ?_ (by rw [hL])
        all_goals simp (config := { maxSteps := 10000000 }) (disch := omega) only [↓get_setS, List.getElem?_cons_zero, List.getElem?_cons_succ, Nat.reduceEqDiff, reduceCtorEq, ↓reduceIte, Nat.succ_ne_self, h0, h2, h3, h4, h12, h13, hL]

theorem c27 {v : V} {l : List Sy} {a b : Nat} {ph pt : Int} {just : Bool} (hv : SlV 4 v (E4 l)) (hab : a < b) (hb : b ≤ l.length) (he : errC l ph pt = 0) (hh : hgt (sl l a b) ≤ ph) :
    call tbl 27 [v, .agg [.i ph, .i pt], .i (a : Nat), .i ((b : Nat) - 1 : Int), .bool just] H = some (outT (places l ph a b just)) := by
  refine (call_start (show tbl 27 = some a27 from rfl)).trans ?_
  obtain ⟨ho, hpg, _⟩ := errC_ok he
  obtain ⟨⟨p1, p2⟩, p3⟩ := hpg
  have h24 := fun H => c24 (H := H) ho hab hb (errC_in he) hv
  have hsh := hv.sh
  have hsl := sl_len (a := a) hb
  have hg := hgt_in (sl l a b) (fun x hx => errC_in he x (sl_mem hx))
  obtain ⟨s, hs1, hc⟩ := sl_cons hab hb
  have hq : (sl l a b).drop (0 + 1) = sl l (a + 1) b := by rw [hc]; rfl
  have hl0 : 0 ≤ leftR' (b - a) just (ph - hgt (sl l a b)) ∧ leftR' (b - a) just (ph - hgt (sl l a b)) ≤ 16777216 := by
    unfold leftR'
    split <;> omega
  have hg0 : 1 ≤ gapsR (b - a) just ∧ gapsR (b - a) just ≤ 1024 := by
    unfold gapsR
    split <;> omega
  -- one system alone: the loop does nothing
  by_cases h1 : b - a = 1
  · have hP : places l ph a b just = [0] := by
      unfold places
      rw [hc, sl_nil (show b ≤ a + 1 by omega)]
      rfl
    rw [hP]
    generalize hgt (sl l a b) = h at *
    have hA : ∀ L, Acc1 2 L (.sl .full 1 [[.i 0]]) (I1 [0]) := fun L => .inl ⟨rfl, rfl⟩
    have hA' := fun L => (hA L).out
    obtain rfl : b = a + 1 := by omega
    have e : ((a + 1 : Nat) : Int) - 1 = (a : Nat) := by omega
    rw [e] at h24 ⊢
    clear hA
    unfold a27
    simp (config := { maxSteps := 10000000 }) (disch := omega) only [↓G_seq, ↓G_region, ↓G_block, ↓G_ops_nil, ↓G_op, Gv_some, killAll, ↓get_setS, evalOp, ev, evs, Ab.get, b_add, b_sub, wrap_i64, one, Option.map_some, Option.bind_some, callV, V.shift, V.shifts, List.append_nil, List.nil_append, List.all_cons, List.all_nil, Bool.true_and, Bool.and_self, List.getElem?_cons_zero, List.getElem?_cons_succ, Nat.reduceEqDiff, reduceCtorEq, ↓reduceIte, Nat.succ_ne_self, bne_self_eq_false, Bool.false_eq_true, Int.reduceAdd, pick3, V.cells, fillV, splice, chop, addOff, loadV, Ab.rowAt, rget, rset, V.scalar, V.pure, Nat.reduceAdd, true_and, and_self, List.length_cons, List.length_nil, List.take_succ_cons, List.take_zero, List.drop_succ_cons, List.drop_zero, Nat.le_refl, List.getD_cons_zero, List.replicate, List.flatten_cons, List.flatten_nil, Nat.zero_add, Nat.add_zero, ti_int, hsh, h24, Nat.zero_lt_succ]
    refine G_loop.trans ?_
    simp (config := { maxSteps := 10000000 }) (disch := omega) only [↓G_seq, ↓G_ret, ↓G_exit, ↓G_region, ↓G_cond, ↓Gx_blk, ↓Gx_code, ↓G_ops_nil, ↓G_op, Gv_some, Gc_false, dec_f, killAll, ↓get_setS, evalOp, ev, Ab.get, b_leq, one, Option.map_some, Option.bind_some, finish, resVs, resV, outVs, ownsLast, tupOf, List.all_nil, List.getElem?_cons_zero, List.getElem?_cons_succ, Nat.reduceEqDiff, ↓reduceIte, Nat.succ_ne_self, fn_some, hA']
  · have fin := fun (left gaps : Int) (hj : (just = true ∧ left = leftR' (b - a) just (ph - hgt (sl l a b)) ∧ gaps = gapsR (b - a) just) ∨ (just = false ∧ leftR' (b - a) just (ph - hgt (sl l a b)) = 0 ∧ gapsR (b - a) just = 1)) (k : List KI) (hr : ∀ fr' L', Acc1 2 L' (Ab.get fr' 11) (I1 (places l ph a b just)) → Gx tbl H [.tmp 10] 0 k fr' L' = some (outT (places l ph a b just))) (fr : List V) (L : List Row) (h16 : Acc1 2 L (Ab.get fr 11) (I1 [0])) =>
      fun g0 g2 g3 g4 g12 g13 g14 => loop27 (left := left) (gaps := gaps) ho hab hb (errC_in he) hv hl0 hg0 hj (places l ph a b just) hr (sl l (a + 1) b) 0 s 0 [0] fr L hq (by omega) (by rw [hc]; rfl) rfl rfl (Int.le_refl _) (by omega) (by unfold places; rw [hc]; rfl) g0 g2 g3 g4 g12 g13 h16 g14
    have fin' := fin (ph - hgt (sl l a b)) ((b : Nat) - 1 - (a : Nat) : Int) (by
      cases just
      · exact .inr ⟨rfl, by simp [leftR'], by simp [gapsR]⟩
      · refine .inl ⟨rfl, by simp [leftR', h1], ?_⟩
        simp only [gapsR, h1, ne_eq, not_false_eq_true, and_self, if_true]
        omega)
    clear fin hl0 hg0
    generalize places l ph a b just = P at *
    generalize hgt (sl l a b) = h at *
    unfold a27
    simp (config := { maxSteps := 10000000 }) (disch := omega) only [↓G_seq, ↓G_region, ↓G_block, ↓G_ops_nil, ↓G_op, Gv_some, killAll, ↓get_setS, evalOp, ev, evs, Ab.get, b_add, b_sub, wrap_i64, one, Option.map_some, Option.bind_some, callV, V.shift, V.shifts, List.append_nil, List.nil_append, List.all_cons, List.all_nil, Bool.true_and, Bool.and_self, List.getElem?_cons_zero, List.getElem?_cons_succ, Nat.reduceEqDiff, reduceCtorEq, ↓reduceIte, Nat.succ_ne_self, bne_self_eq_false, Bool.false_eq_true, Int.reduceAdd, pick3, V.cells, fillV, splice, chop, addOff, loadV, Ab.rowAt, rget, rset, V.scalar, V.pure, Nat.reduceAdd, true_and, and_self, List.length_cons, List.length_nil, List.take_succ_cons, List.take_zero, List.drop_succ_cons, List.drop_zero, Nat.le_refl, List.getD_cons_zero, List.replicate, List.flatten_cons, List.flatten_nil, Nat.zero_add, Nat.add_zero, ti_int, hsh, h24, Nat.zero_lt_succ]
    refine fin' _ (fun fr' L' hacc => ?_) _ _ ?_ ?_ ?_ ?_ ?_ ?_ ?_ ?_
    · have ho := hacc.out
      simp (config := { maxSteps := 10000000 }) (disch := omega) only [↓G_seq, ↓G_ret, ↓G_region, ↓Gx_blk, ↓G_ops_nil, ↓G_op, Gv_some, killAll, ↓get_setS, evalOp, ev, Option.map_some, Option.bind_some, finish, resVs, resV, outVs, ownsLast, tupOf, List.all_nil, List.getElem?_cons_zero, List.getElem?_cons_succ, ↓reduceIte, fn_some, ho]
    all_goals simp (config := { maxSteps := 10000000 }) (disch := omega) only [↓get_setS, Ab.get, List.getElem?_cons_zero, List.getElem?_cons_succ, Nat.reduceEqDiff, reduceCtorEq, ↓reduceIte, Nat.succ_ne_self, Nat.add_zero]
    · exact .inl ⟨rfl, rfl⟩
    · congr 1

end Go.Proofs.Ytgghbckhdchcaaa

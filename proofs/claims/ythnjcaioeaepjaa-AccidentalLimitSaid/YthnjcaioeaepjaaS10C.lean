/-
  Notes that disagree: the program's search among neighbours, and the reference's among all.
-/
import Derived.Test.YthnjcaioeaepjaaS10B
namespace Go.Proofs.Ythnjcaioeaepjaa
open Go Go.Ab
set_option linter.unusedVariables false
set_option linter.unnecessarySimpa false
set_option linter.unusedSimpArgs false
set_option maxRecDepth 100000
variable {H : List (List Row)}

theorem Same.trans : ∀ {js : List Nat} {a b c : List V}, Same js a b → Same js b c → Same js a c
  | [], _, _, _, _, _ => trivial
  | j :: js, a, b, c, h, k => ⟨k.1.trans h.1, Same.trans h.2 k.2⟩

def hitC (a b : Nt) : Prop := b.s = a.s ∧ b.o = a.o ∧ ¬ b.al = a.al
instance (a b : Nt) : Decidable (hitC a b) := by unfold hitC; exact inferInstance
def hitB (a b : Nt) : Bool := decide (b.at_ = a.at_) && decide (hitC a b)
def scan (a : Nt) : List Nt → Bool
  | [] => false
  | b :: t => if b.at_ = a.at_ then (if hitC a b then true else scan a t) else false

theorem loop26 {k : List KI} {v : V} {l : List Nt} {i : Nat} {a : Nt} (hl : l.length ≤ 4096) (hv : SlV 6 v (E6 l)) (ha : l[i]? = some a)
    (hx : ∀ fr' L', Gx tbl H [.tmp 4] 0 k fr' L' = some (.bool false)) :
    ∀ (t : List Nt) (j : Nat) (fr : List V) (L : List Row), l.drop j = t → j ≤ l.length → Ab.get fr 0 = v → Ab.get fr 1 = .i (i : Nat) → Ab.get fr 5 = .i (j : Nat) →
    G tbl H [.tmp 4] (.code (.loop ( (.seq ( (.seq ( .region [] [ ⟨some 6, .mv (.t 5), none⟩, ⟨some 7, .mv (.t 0), none⟩, ⟨some 8, .len (.t 7), none⟩, ⟨some 9, .bin .lss (.t 6) (.t 8), none⟩]) ( (.cond (.t 9) ( .skip) ( .exit 0))))) ( (.seq ( (.block 1 ( (.seq ( .region [] [ ⟨some 12, .mv (.t 0), none⟩, ⟨some 13, .mv (.t 5), none⟩, ⟨some 14, .elemAddr 6 (.t 12) (.t 13), none⟩, ⟨some 15, .fieldAddr 0 (.t 14), none⟩, ⟨some 16, .load false 1 (.t 15), none⟩, ⟨some 17, .mv (.t 0), none⟩, ⟨some 18, .mv (.t 1), none⟩, ⟨some 19, .elemAddr 6 (.t 17) (.t 18), none⟩, ⟨some 20, .fieldAddr 0 (.t 19), none⟩, ⟨some 21, .load false 1 (.t 20), none⟩, ⟨some 22, .bin .eql (.t 16) (.t 21), none⟩, ⟨some 23, .mv (.t 22), none⟩, ⟨some 24, .mv (.t 0), some (23, true)⟩, ⟨some 25, .mv (.t 5), some (23, true)⟩, ⟨some 26, .elemAddr 6 (.t 24) (.t 25), some (23, true)⟩, ⟨some 27, .fieldAddr 1 (.t 26), some (23, true)⟩, ⟨some 28, .fieldAddr 0 (.t 27), some (23, true)⟩, ⟨some 29, .load false 1 (.t 28), some (23, true)⟩, ⟨some 30, .mv (.t 0), some (23, true)⟩, ⟨some 31, .mv (.t 1), some (23, true)⟩, ⟨some 32, .elemAddr 6 (.t 30) (.t 31), some (23, true)⟩, ⟨some 33, .fieldAddr 1 (.t 32), some (23, true)⟩, ⟨some 34, .fieldAddr 0 (.t 33), some (23, true)⟩, ⟨some 35, .load false 1 (.t 34), some (23, true)⟩, ⟨some 36, .bin .eql (.t 29) (.t 35), some (23, true)⟩, ⟨some 37, .pick (.t 23) (.t 36) (.c (.bool false)), none⟩, ⟨some 38, .mv (.t 37), none⟩, ⟨some 39, .mv (.t 0), some (38, true)⟩, ⟨some 40, .mv (.t 5), some (38, true)⟩, ⟨some 41, .elemAddr 6 (.t 39) (.t 40), some (38, true)⟩, ⟨some 42, .fieldAddr 1 (.t 41), some (38, true)⟩, ⟨some 43, .fieldAddr 2 (.t 42), some (38, true)⟩, ⟨some 44, .load false 1 (.t 43), some (38, true)⟩, ⟨some 45, .mv (.t 0), some (38, true)⟩, ⟨some 46, .mv (.t 1), some (38, true)⟩, ⟨some 47, .elemAddr 6 (.t 45) (.t 46), some (38, true)⟩, ⟨some 48, .fieldAddr 1 (.t 47), some (38, true)⟩, ⟨some 49, .fieldAddr 2 (.t 48), some (38, true)⟩, ⟨some 50, .load false 1 (.t 49), some (38, true)⟩, ⟨some 51, .bin .eql (.t 44) (.t 50), some (38, true)⟩, ⟨some 52, .pick (.t 38) (.t 51) (.c (.bool false)), none⟩, ⟨some 53, .mv (.t 52), none⟩, ⟨some 54, .mv (.t 0), some (53, true)⟩, ⟨some 55, .mv (.t 5), some (53, true)⟩, ⟨some 56, .elemAddr 6 (.t 54) (.t 55), some (53, true)⟩, ⟨some 57, .fieldAddr 1 (.t 56), some (53, true)⟩, ⟨some 58, .fieldAddr 1 (.t 57), some (53, true)⟩, ⟨some 59, .load false 1 (.t 58), some (53, true)⟩, ⟨some 60, .mv (.t 0), some (53, true)⟩, ⟨some 61, .mv (.t 1), some (53, true)⟩, ⟨some 62, .elemAddr 6 (.t 60) (.t 61), some (53, true)⟩, ⟨some 63, .fieldAddr 1 (.t 62), some (53, true)⟩, ⟨some 64, .fieldAddr 1 (.t 63), some (53, true)⟩, ⟨some 65, .load false 1 (.t 64), some (53, true)⟩, ⟨some 66, .bin .neq (.t 59) (.t 65), some (53, true)⟩, ⟨some 67, .pick (.t 53) (.t 66) (.c (.bool false)), none⟩]) ( (.cond (.t 67) ( (.seq ( .region [] [ ⟨some 4, .mv (.c (.bool true)), none⟩]) ( .ret))) ( .skip))))))) ( .region [] [ ⟨some 10, .mv (.t 5), none⟩, ⟨some 11, .bin .add (.t 10) (.c (.int .i64 1)), none⟩, ⟨some 5, .mv (.t 11), none⟩])))))) :: k) fr L = some (.bool (t.any (hitB a))) := by
  intro t
  have hlen := hv.len
  rw [E6_len] at hlen
  have hA := hv.el (E6_get l i a ha)
  induction t with
  | nil =>
    intro j fr L ht hi h0 h1 h5
    have := drop_nil ht
    refine G_loop.trans ?_
    simp (config := { maxSteps := 10000000 }) (disch := omega) only [↓G_seq, ↓G_exit, ↓G_region, ↓G_cond, ↓Gx_code, ↓G_ops_nil, ↓G_op, Gv_some, Gc_false, dec_f, killAll, ↓get_setS, evalOp, ev, b_lss, one, Option.map_some, List.getElem?_cons_zero, List.getElem?_cons_succ, Nat.reduceEqDiff, reduceCtorEq, ↓reduceIte, Nat.succ_ne_self, h0, h5, hlen, hx, List.any_nil]
  | cons b t ih =>
    intro j fr L ht hi h0 h1 h5
    obtain ⟨e1, e2, e3⟩ := drop_cons ht
    have hE := hv.el (E6_get l j b e1)
    rw [List.any_cons]
    refine G_loop.trans ?_
    have miss : hitB a b = false → ∀ fr' L', Ab.get fr' 0 = v → Ab.get fr' 1 = .i (i : Nat) → Ab.get fr' 5 = .i ((j : Nat) + 1 : Int) → G tbl H [.tmp 4] (.code (.loop ( (.seq ( (.seq ( .region [] [ ⟨some 6, .mv (.t 5), none⟩, ⟨some 7, .mv (.t 0), none⟩, ⟨some 8, .len (.t 7), none⟩, ⟨some 9, .bin .lss (.t 6) (.t 8), none⟩]) ( (.cond (.t 9) ( .skip) ( .exit 0))))) ( (.seq ( (.block 1 ( (.seq ( .region [] [ ⟨some 12, .mv (.t 0), none⟩, ⟨some 13, .mv (.t 5), none⟩, ⟨some 14, .elemAddr 6 (.t 12) (.t 13), none⟩, ⟨some 15, .fieldAddr 0 (.t 14), none⟩, ⟨some 16, .load false 1 (.t 15), none⟩, ⟨some 17, .mv (.t 0), none⟩, ⟨some 18, .mv (.t 1), none⟩, ⟨some 19, .elemAddr 6 (.t 17) (.t 18), none⟩, ⟨some 20, .fieldAddr 0 (.t 19), none⟩, ⟨some 21, .load false 1 (.t 20), none⟩, ⟨some 22, .bin .eql (.t 16) (.t 21), none⟩, ⟨some 23, .mv (.t 22), none⟩, ⟨some 24, .mv (.t 0), some (23, true)⟩, ⟨some 25, .mv (.t 5), some (23, true)⟩, ⟨some 26, .elemAddr 6 (.t 24) (.t 25), some (23, true)⟩, ⟨some 27, .fieldAddr 1 (.t 26), some (23, true)⟩, ⟨some 28, .fieldAddr 0 (.t 27), some (23, true)⟩, ⟨some 29, .load false 1 (.t 28), some (23, true)⟩, ⟨some 30, .mv (.t 0), some (23, true)⟩, ⟨some 31, .mv (.t 1), some (23, true)⟩, ⟨some 32, .elemAddr 6 (.t 30) (.t 31), some (23, true)⟩, ⟨some 33, .fieldAddr 1 (.t 32), some (23, true)⟩, ⟨some 34, .fieldAddr 0 (.t 33), some (23, true)⟩, ⟨some 35, .load false 1 (.t 34), some (23, true)⟩, ⟨some 36, .bin .eql (.t 29) (.t 35), some (23, true)⟩, ⟨some 37, .pick (.t 23) (.t 36) (.c (.bool false)), none⟩, ⟨some 38, .mv (.t 37), none⟩, ⟨some 39, .mv (.t 0), some (38, true)⟩, ⟨some 40, .mv (.t 5), some (38, true)⟩, ⟨some 41, .elemAddr 6 (.t 39) (.t 40), some (38, true)⟩, ⟨some 42, .fieldAddr 1 (.t 41), some (38, true)⟩, ⟨some 43, .fieldAddr 2 (.t 42), some (38, true)⟩, ⟨some 44, .load false 1 (.t 43), some (38, true)⟩, ⟨some 45, .mv (.t 0), some (38, true)⟩, ⟨some 46, .mv (.t 1), some (38, true)⟩, ⟨some 47, .elemAddr 6 (.t 45) (.t 46), some (38, true)⟩, ⟨some 48, .fieldAddr 1 (.t 47), some (38, true)⟩, ⟨some 49, .fieldAddr 2 (.t 48), some (38, true)⟩, ⟨some 50, .load false 1 (.t 49), some (38, true)⟩, ⟨some 51, .bin .eql (.t 44) (.t 50), some (38, true)⟩, ⟨some 52, .pick (.t 38) (.t 51) (.c (.bool false)), none⟩, ⟨some 53, .mv (.t 52), none⟩, ⟨some 54, .mv (.t 0), some (53, true)⟩, ⟨some 55, .mv (.t 5), some (53, true)⟩, ⟨some 56, .elemAddr 6 (.t 54) (.t 55), some (53, true)⟩, ⟨some 57, .fieldAddr 1 (.t 56), some (53, true)⟩, ⟨some 58, .fieldAddr 1 (.t 57), some (53, true)⟩, ⟨some 59, .load false 1 (.t 58), some (53, true)⟩, ⟨some 60, .mv (.t 0), some (53, true)⟩, ⟨some 61, .mv (.t 1), some (53, true)⟩, ⟨some 62, .elemAddr 6 (.t 60) (.t 61), some (53, true)⟩, ⟨some 63, .fieldAddr 1 (.t 62), some (53, true)⟩, ⟨some 64, .fieldAddr 1 (.t 63), some (53, true)⟩, ⟨some 65, .load false 1 (.t 64), some (53, true)⟩, ⟨some 66, .bin .neq (.t 59) (.t 65), some (53, true)⟩, ⟨some 67, .pick (.t 53) (.t 66) (.c (.bool false)), none⟩]) ( (.cond (.t 67) ( (.seq ( .region [] [ ⟨some 4, .mv (.c (.bool true)), none⟩]) ( .ret))) ( .skip))))))) ( .region [] [ ⟨some 10, .mv (.t 5), none⟩, ⟨some 11, .bin .add (.t 10) (.c (.int .i64 1)), none⟩, ⟨some 5, .mv (.t 11), none⟩])))))) :: k) fr' L' = some (.bool (hitB a b || t.any (hitB a))) := by
      intro z fr' L' g0 g1 g5
      rw [z, Bool.false_or]
      exact ih (j + 1) fr' L' e2 (by omega) g0 g1 (by rw [g5]; congr 1)
    by_cases c1 : b.at_ = a.at_
    case neg =>
      have z : hitB a b = false := by simp [hitB, c1]
      simp (config := { maxSteps := 10000000 }) (disch := omega) only [↓G_seq, ↓G_skip, ↓G_blk, ↓G_region, ↓G_block, ↓G_cond, ↓G_ops_nil, ↓G_op, Gv_some, ↓G_gop, Gw_tf, Gc_true, Gc_false, dec_t, dec_f, killAll, ↓get_setS, evalOp, ev, b_add, b_eql, b_lss, wrap_i64, one, Option.map_some, asB, List.getElem?_cons_zero, List.getElem?_cons_succ, Nat.reduceEqDiff, reduceCtorEq, ↓reduceIte, Nat.succ_ne_self, Bool.false_eq_true, pick3, addOff, loadV, Nat.add_zero, h0, h1, h5, hlen, hE, hA]
      refine miss z _ _ ?_ ?_ ?_
      all_goals simp (config := { maxSteps := 10000000 }) (disch := omega) only [↓get_setS, List.getElem?_cons_zero, List.getElem?_cons_succ, Nat.reduceEqDiff, reduceCtorEq, ↓reduceIte, h0, h1]
    by_cases c2 : b.s = a.s
    case neg =>
      have z : hitB a b = false := by simp [hitB, hitC, c2]
      simp (config := { maxSteps := 10000000 }) (disch := omega) only [↓G_seq, ↓G_skip, ↓G_blk, ↓G_region, ↓G_block, ↓G_cond, ↓G_ops_nil, ↓G_op, Gv_some, ↓G_gop, Gw_tt, Gw_tf, Gc_true, Gc_false, dec_t, dec_f, killAll, ↓get_setS, evalOp, ev, b_add, b_eql, b_lss, wrap_i64, one, Option.map_some, asB, List.getElem?_cons_zero, List.getElem?_cons_succ, Nat.reduceEqDiff, reduceCtorEq, ↓reduceIte, Nat.succ_ne_self, Bool.false_eq_true, pick3, addOff, loadV, Nat.zero_add, Nat.add_zero, h0, h1, h5, hlen, hE, hA]
      refine miss z _ _ ?_ ?_ ?_
      all_goals simp (config := { maxSteps := 10000000 }) (disch := omega) only [↓get_setS, List.getElem?_cons_zero, List.getElem?_cons_succ, Nat.reduceEqDiff, reduceCtorEq, ↓reduceIte, h0, h1]
    by_cases c3 : b.o = a.o
    case neg =>
      have z : hitB a b = false := by simp [hitB, hitC, c3]
      simp (config := { maxSteps := 10000000 }) (disch := omega) only [↓G_seq, ↓G_skip, ↓G_blk, ↓G_region, ↓G_block, ↓G_cond, ↓G_ops_nil, ↓G_op, Gv_some, ↓G_gop, Gw_tt, Gw_tf, Gc_true, Gc_false, dec_t, dec_f, killAll, ↓get_setS, evalOp, ev, b_add, b_eql, b_lss, wrap_i64, one, Option.map_some, asB, List.getElem?_cons_zero, List.getElem?_cons_succ, Nat.reduceEqDiff, reduceCtorEq, ↓reduceIte, Nat.succ_ne_self, Bool.false_eq_true, Int.reduceAdd, pick3, addOff, loadV, Nat.reduceAdd, Nat.zero_add, Nat.add_zero, h0, h1, h5, hlen, hE, hA]
      refine miss z _ _ ?_ ?_ ?_
      all_goals simp (config := { maxSteps := 10000000 }) (disch := omega) only [↓get_setS, List.getElem?_cons_zero, List.getElem?_cons_succ, Nat.reduceEqDiff, reduceCtorEq, ↓reduceIte, h0, h1]
    by_cases c4 : b.al = a.al
    · have z : hitB a b = false := by simp [hitB, hitC, c4]
      simp (config := { maxSteps := 10000000 }) (disch := omega) only [↓G_seq, ↓G_skip, ↓G_blk, ↓G_region, ↓G_block, ↓G_cond, ↓G_ops_nil, ↓G_op, Gv_some, ↓G_gop, Gw_tt, Gc_true, Gc_false, dec_t, killAll, ↓get_setS, evalOp, ev, b_add, b_eql, b_neq, b_lss, wrap_i64, one, Option.map_some, asB, List.getElem?_cons_zero, List.getElem?_cons_succ, Nat.reduceEqDiff, reduceCtorEq, ↓reduceIte, Nat.succ_ne_self, Bool.not_true, Bool.false_eq_true, Int.reduceAdd, pick3, addOff, loadV, Nat.reduceAdd, Nat.zero_add, Nat.add_zero, h0, h1, h5, hlen, hE, hA]
      refine miss z _ _ ?_ ?_ ?_
      all_goals simp (config := { maxSteps := 10000000 }) (disch := omega) only [↓get_setS, List.getElem?_cons_zero, List.getElem?_cons_succ, Nat.reduceEqDiff, reduceCtorEq, ↓reduceIte, h0, h1]
    · have z : hitB a b = true := by simp [hitB, hitC, c1, c2, c3, c4]
      rw [z]
      simp (config := { maxSteps := 10000000 }) (disch := omega) only [↓G_seq, ↓G_skip, ↓G_ret, ↓G_region, ↓G_block, ↓G_cond, ↓G_ops_nil, ↓G_op, Gv_some, ↓G_gop, Gw_tt, Gc_true, dec_t, dec_f, killAll, ↓get_setS, evalOp, ev, b_eql, b_neq, b_lss, one, Option.map_some, Option.bind_some, asB, finish, resVs, resV, outVs, ownsLast, tupOf, List.all_nil, List.getElem?_cons_zero, List.getElem?_cons_succ, Nat.reduceEqDiff, reduceCtorEq, ↓reduceIte, Nat.succ_ne_self, true_or, Bool.not_false, Bool.false_eq_true, Int.reduceAdd, pick3, addOff, loadV, Nat.reduceAdd, Bool.true_or, Nat.zero_add, Nat.add_zero, ov_bool, fn_some, h0, h1, h5, hlen, hE, hA]

theorem c26 {v : V} {l : List Nt} (hl : l.length ≤ 4096) (hv : SlV 6 v (E6 l)) {i : Nat} {a : Nt} (ha : l[i]? = some a) : call tbl 26 [v, .i (i : Nat)] H = some (.bool (l.any (hitB a))) := by
  refine (call_start (show tbl 26 = some a26 from rfl)).trans ?_
  unfold a26
  simp (config := { maxSteps := 10000000 }) (disch := omega) only [↓G_seq, ↓G_region, ↓G_block, ↓G_ops_nil, ↓G_op, Gv_some, killAll, evalOp, ev, List.getElem?_cons_zero, List.getElem?_cons_succ]
  refine loop26 hl hv ha (fun fr' L' => ?_) l 0 _ _ rfl (by omega) ?_ ?_ ?_
  all_goals simp (config := { maxSteps := 10000000 }) (disch := omega) only [↓G_seq, ↓G_ret, ↓G_region, ↓Gx_blk, ↓G_ops_nil, ↓G_op, Gv_some, killAll, ↓get_setS, evalOp, ev, Ab.get, Option.map_some, Option.bind_some, finish, resVs, resV, outVs, ownsLast, tupOf, List.all_nil, List.getElem?_cons_zero, List.getElem?_cons_succ, Nat.reduceEqDiff, reduceCtorEq, ↓reduceIte, Int.cast_ofNat_Int, ov_bool, fn_some]

def B1 (l : List Bool) : List (List V) := l.map fun b => [V.bool b]
theorem B1_len (l : List Bool) : (B1 l).length = l.length := by simp [B1]
theorem B1_get (l : List Bool) (i : Nat) (b : Bool) (h : l[i]? = some b) : (B1 l)[i]? = some [.bool b] := by simp [B1, h]
theorem B1_set (l : List Bool) (i : Nat) (b : Bool) : (B1 l).set i [.bool b] = B1 (l.set i b) := by simp [B1, List.map_set]
theorem B1_pure (l : List Bool) : (B1 l).all (fun e => e.all V.pure) = true := by simp [B1, V.pure]

/-- The notes that the search comes upon, from a place on. -/
def Path (l : List Nt) (d : Int) : Int → List Nt → Prop
  | q, [] => q < 0 ∨ (l.length : Nat) ≤ q
  | q, b :: t => 0 ≤ q ∧ q < (l.length : Nat) ∧ l[q.toNat]? = some b ∧ Path l d (q + d) t

theorem path_up (l : List Nt) : ∀ (t : List Nt) (i : Nat), l.drop i = t → Path l 1 (i : Nat) t
  | [], i, h => by
    have := drop_nil h
    exact .inr (by omega)
  | b :: t, i, h => by
    obtain ⟨e1, e2, e3⟩ := drop_cons h
    refine ⟨by omega, by omega, by simpa using e1, ?_⟩
    have := path_up l t (i + 1) e2
    simpa using this
theorem path_dn (l : List Nt) : ∀ (i : Nat), i ≤ l.length → Path l (-1) ((i : Nat) - 1 : Int) (l.take i).reverse
  | 0, _ => .inl (by simp)
  | i + 1, h => by
    have hi : i < l.length := by omega
    rw [List.take_add_one, List.getElem?_eq_getElem hi, Option.toList_some, List.reverse_append]
    refine ⟨by omega, by omega, ?_, ?_⟩
    · rw [show ((i + 1 : Nat) - 1 : Int).toNat = i by omega]
      exact List.getElem?_eq_getElem hi
    · have := path_dn l i (by omega)
      rw [show ((i + 1 : Nat) - 1 : Int) + -1 = (i : Nat) - 1 by omega]
      exact this

theorem inner36 {k : List KI} {rs : List ARes} {r : Option V} {v : V} {l : List Nt} {a : Nt} {i : Nat} {d : Int} {B : List Bool} {v1 v2 : Nat} (hl : l.length ≤ 4096) (hv : SlV 6 v (E6 l)) (hd : d = 1 ∨ d = -1) (hB : B.length = l.length) (hi : i < l.length)
    (hv1 : 0 < v1) (hv2 : 0 < v2) :
    ∀ (t : List Nt) (q : Int) (fr : List V) (L : List Row), Path l d q t → Ab.get fr 0 = v → Ab.get fr 3 = .ref 0 1 v1 1 0 l.length → Ab.get fr 4 = .i (i : Nat) → Ab.get fr 5 = .ptr 0 2 v2 0 0 → Ab.get fr 7 = .i d → Ab.get fr 8 = .i q →
    rget L 1 = ⟨v1, 1, B1 B⟩ → rget L 2 = ⟨v2, 6, [[.i a.at_, .i a.s, .i a.al, .i a.o, .bool a.h, .i a.sh]]⟩ →
    (scan a t = true → ∀ fr' L', Same [0, 3, 13, 14, 15] fr fr' → rget L' 1 = ⟨v1, 1, B1 (B.set i true)⟩ → Gx tbl H rs 1 k fr' L' = r) →
    (scan a t = false → ∀ fr' L', Same [0, 3, 4, 5, 13, 14, 15, 20, 21, 22] fr fr' → rget L' 1 = ⟨v1, 1, B1 B⟩ → rget L' 2 = ⟨v2, 6, [[.i a.at_, .i a.s, .i a.al, .i a.o, .bool a.h, .i a.sh]]⟩ → Gx tbl H rs 4 k fr' L' = r) →
    G tbl H rs (.code (.loop ( (.seq ( (.seq ( .region [] [ ⟨some 29, .mv (.t 8), none⟩, ⟨some 30, .bin .geq (.t 29) (.c (.int .i64 0)), none⟩, ⟨some 31, .mv (.t 30), none⟩, ⟨some 32, .mv (.t 8), some (31, true)⟩, ⟨some 33, .mv (.t 0), some (31, true)⟩, ⟨some 34, .len (.t 33), some (31, true)⟩, ⟨some 35, .bin .lss (.t 32) (.t 34), some (31, true)⟩, ⟨some 36, .pick (.t 31) (.t 35) (.c (.bool false)), none⟩, ⟨some 37, .mv (.t 36), none⟩, ⟨some 38, .mv (.t 0), some (37, true)⟩, ⟨some 39, .mv (.t 8), some (37, true)⟩, ⟨some 40, .elemAddr 6 (.t 38) (.t 39), some (37, true)⟩, ⟨some 41, .fieldAddr 0 (.t 40), some (37, true)⟩, ⟨some 42, .load false 1 (.t 41), some (37, true)⟩, ⟨some 43, .fieldAddr 0 (.t 5), some (37, true)⟩, ⟨some 44, .load false 1 (.t 43), some (37, true)⟩, ⟨some 45, .bin .eql (.t 42) (.t 44), some (37, true)⟩, ⟨some 46, .pick (.t 37) (.t 45) (.c (.bool false)), none⟩]) ( (.cond (.t 46) ( .skip) ( .exit 4))))) ( (.seq ( (.block 5 ( (.seq ( .region [] [ ⟨some 50, .mv (.t 0), none⟩, ⟨some 51, .mv (.t 8), none⟩, ⟨some 52, .elemAddr 6 (.t 50) (.t 51), none⟩, ⟨some 53, .fieldAddr 1 (.t 52), none⟩, ⟨some 54, .load true 3 (.t 53), none⟩, ⟨some 9, .alloc 3 [(.int .i64 0), (.int .i64 0), (.int .i64 0)], none⟩, ⟨none, .store 3 (.t 9) (.t 54), none⟩]) ( (.seq ( .region [] [ ⟨some 55, .fieldAddr 0 (.t 9), none⟩, ⟨some 56, .load false 1 (.t 55), none⟩, ⟨some 57, .fieldAddr 1 (.t 5), none⟩, ⟨some 58, .fieldAddr 0 (.t 57), none⟩, ⟨some 59, .load false 1 (.t 58), none⟩, ⟨some 60, .bin .eql (.t 56) (.t 59), none⟩, ⟨some 61, .mv (.t 60), none⟩, ⟨some 62, .fieldAddr 2 (.t 9), some (61, true)⟩, ⟨some 63, .load false 1 (.t 62), some (61, true)⟩, ⟨some 64, .fieldAddr 1 (.t 5), some (61, true)⟩, ⟨some 65, .fieldAddr 2 (.t 64), some (61, true)⟩, ⟨some 66, .load false 1 (.t 65), some (61, true)⟩, ⟨some 67, .bin .eql (.t 63) (.t 66), some (61, true)⟩, ⟨some 68, .pick (.t 61) (.t 67) (.c (.bool false)), none⟩, ⟨some 69, .mv (.t 68), none⟩, ⟨some 70, .fieldAddr 1 (.t 9), some (69, true)⟩, ⟨some 71, .load false 1 (.t 70), some (69, true)⟩, ⟨some 72, .fieldAddr 1 (.t 5), some (69, true)⟩, ⟨some 73, .fieldAddr 1 (.t 72), some (69, true)⟩, ⟨some 74, .load false 1 (.t 73), some (69, true)⟩, ⟨some 75, .bin .neq (.t 71) (.t 74), some (69, true)⟩, ⟨some 76, .pick (.t 69) (.t 75) (.c (.bool false)), none⟩]) ( (.cond (.t 76) ( (.seq ( .region [] [ ⟨some 77, .mv (.t 3), none⟩, ⟨some 78, .mv (.t 4), none⟩, ⟨some 79, .elemAddr 1 (.t 77) (.t 78), none⟩, ⟨none, .store 1 (.t 79) (.c (.bool true)), none⟩]) ( .exit 1))) ( .skip))))))))) ( .region [] [ ⟨some 47, .mv (.t 8), none⟩, ⟨some 48, .mv (.t 7), none⟩, ⟨some 49, .bin .add (.t 47) (.t 48), none⟩, ⟨some 8, .mv (.t 49), none⟩])))))) :: k) fr L = r := by
  intro t
  have hlen := hv.len
  rw [E6_len] at hlen
  induction t with
  | nil =>
    intro q fr L hp h0 h3 h4 h5 h7 h8 r1 r2 hT hF
    refine G_loop.trans ?_
    have hp' : q < 0 ∨ (l.length : Nat) ≤ q := hp
    by_cases z : q < 0
    · simp (config := { maxSteps := 10000000 }) (disch := omega) only [↓G_seq, ↓G_exit, ↓G_region, ↓G_cond, ↓Gx_code, ↓G_ops_nil, ↓G_op, Gv_some, ↓G_gop, Gw_tf, Gc_false, dec_f, killAll, ↓get_setS, evalOp, ev, b_geq, one, Option.map_some, asB, List.getElem?_cons_zero, List.getElem?_cons_succ, Nat.reduceEqDiff, ↓reduceIte, Nat.succ_ne_self, Bool.false_eq_true, h8]
      refine hF rfl _ _ ?_ ?_ ?_
      · simp (config := { maxSteps := 10000000 }) (disch := omega) only [↓get_setS, Bool.and_self, List.getElem?_cons_zero, List.getElem?_cons_succ, Nat.reduceEqDiff, reduceCtorEq, ↓reduceIte, and_self, Same]
      · simp (config := { maxSteps := 10000000 }) (disch := omega) only [List.getElem?_cons_zero, List.getElem?_cons_succ, r1]
      · simp (config := { maxSteps := 10000000 }) (disch := omega) only [List.getElem?_cons_zero, List.getElem?_cons_succ, r2]
    · simp (config := { maxSteps := 10000000 }) (disch := omega) only [↓G_seq, ↓G_exit, ↓G_region, ↓G_cond, ↓Gx_code, ↓G_ops_nil, ↓G_op, Gv_some, ↓G_gop, Gw_tt, Gw_tf, Gc_false, dec_t, dec_f, killAll, ↓get_setS, evalOp, ev, b_lss, b_geq, one, Option.map_some, asB, List.getElem?_cons_zero, List.getElem?_cons_succ, Nat.reduceEqDiff, reduceCtorEq, ↓reduceIte, Nat.succ_ne_self, Bool.false_eq_true, h0, h8, hlen]
      refine hF rfl _ _ ?_ ?_ ?_
      · simp (config := { maxSteps := 10000000 }) (disch := omega) only [↓get_setS, Bool.and_self, List.getElem?_cons_zero, List.getElem?_cons_succ, Nat.reduceEqDiff, reduceCtorEq, ↓reduceIte, and_self, Same]
      · simp (config := { maxSteps := 10000000 }) (disch := omega) only [List.getElem?_cons_zero, List.getElem?_cons_succ, r1]
      · simp (config := { maxSteps := 10000000 }) (disch := omega) only [List.getElem?_cons_zero, List.getElem?_cons_succ, r2]
  | cons b t ih =>
    intro q fr L hp h0 h3 h4 h5 h7 h8 r1 r2 hT hF
    obtain ⟨p1, p2, p3, p4⟩ := hp
    have hE := hv.el' p1 (E6_get l q.toNat b p3)
    obtain ⟨x, hx⟩ : ∃ x, B[i]? = some x := ⟨_, List.getElem?_eq_getElem (by omega)⟩
    have hBi := B1_get B i x hx
    refine G_loop.trans ?_
    unfold scan at hT hF
    by_cases c1 : b.at_ = a.at_
    case neg =>
      rw [if_neg c1] at hT hF
      simp (config := { maxSteps := 10000000 }) (disch := omega) only [↓G_seq, ↓G_exit, ↓G_region, ↓G_cond, ↓Gx_code, ↓G_ops_nil, ↓G_op, Gv_some, ↓G_gop, Gw_tt, Gc_false, dec_t, dec_f, killAll, ↓get_setS, evalOp, ev, b_eql, b_lss, b_geq, one, Option.map_some, Option.bind_some, asB, V.shift, Bool.true_and, List.getElem?_cons_zero, List.getElem?_cons_succ, Nat.reduceEqDiff, reduceCtorEq, ↓reduceIte, Nat.succ_ne_self, Bool.false_eq_true, pick3, addOff, loadV, Ab.rowAt, true_and, List.getD_cons_zero, Nat.add_zero, ite_ov, h0, h5, h8, hlen, hE, r2]
      refine hF rfl _ _ ?_ ?_ ?_
      · simp (config := { maxSteps := 10000000 }) (disch := omega) only [↓get_setS, Bool.and_self, List.getElem?_cons_zero, List.getElem?_cons_succ, Nat.reduceEqDiff, reduceCtorEq, ↓reduceIte, and_self, Same]
      · simp (config := { maxSteps := 10000000 }) (disch := omega) only [List.getElem?_cons_zero, List.getElem?_cons_succ, r1]
      · simp (config := { maxSteps := 10000000 }) (disch := omega) only [List.getElem?_cons_zero, List.getElem?_cons_succ, r2]
    rw [if_pos c1] at hT hF
    have miss : ¬ hitC a b → ∀ fr' L', Same [0, 3, 4, 5, 7, 13, 14, 15, 20, 21, 22] fr fr' → Ab.get fr' 8 = .i (q + d) → rget L' 1 = ⟨v1, 1, B1 B⟩ → rget L' 2 = ⟨v2, 6, [[.i a.at_, .i a.s, .i a.al, .i a.o, .bool a.h, .i a.sh]]⟩ →
        G tbl H rs (.code (.loop ( (.seq ( (.seq ( .region [] [ ⟨some 29, .mv (.t 8), none⟩, ⟨some 30, .bin .geq (.t 29) (.c (.int .i64 0)), none⟩, ⟨some 31, .mv (.t 30), none⟩, ⟨some 32, .mv (.t 8), some (31, true)⟩, ⟨some 33, .mv (.t 0), some (31, true)⟩, ⟨some 34, .len (.t 33), some (31, true)⟩, ⟨some 35, .bin .lss (.t 32) (.t 34), some (31, true)⟩, ⟨some 36, .pick (.t 31) (.t 35) (.c (.bool false)), none⟩, ⟨some 37, .mv (.t 36), none⟩, ⟨some 38, .mv (.t 0), some (37, true)⟩, ⟨some 39, .mv (.t 8), some (37, true)⟩, ⟨some 40, .elemAddr 6 (.t 38) (.t 39), some (37, true)⟩, ⟨some 41, .fieldAddr 0 (.t 40), some (37, true)⟩, ⟨some 42, .load false 1 (.t 41), some (37, true)⟩, ⟨some 43, .fieldAddr 0 (.t 5), some (37, true)⟩, ⟨some 44, .load false 1 (.t 43), some (37, true)⟩, ⟨some 45, .bin .eql (.t 42) (.t 44), some (37, true)⟩, ⟨some 46, .pick (.t 37) (.t 45) (.c (.bool false)), none⟩]) ( (.cond (.t 46) ( .skip) ( .exit 4))))) ( (.seq ( (.block 5 ( (.seq ( .region [] [ ⟨some 50, .mv (.t 0), none⟩, ⟨some 51, .mv (.t 8), none⟩, ⟨some 52, .elemAddr 6 (.t 50) (.t 51), none⟩, ⟨some 53, .fieldAddr 1 (.t 52), none⟩, ⟨some 54, .load true 3 (.t 53), none⟩, ⟨some 9, .alloc 3 [(.int .i64 0), (.int .i64 0), (.int .i64 0)], none⟩, ⟨none, .store 3 (.t 9) (.t 54), none⟩]) ( (.seq ( .region [] [ ⟨some 55, .fieldAddr 0 (.t 9), none⟩, ⟨some 56, .load false 1 (.t 55), none⟩, ⟨some 57, .fieldAddr 1 (.t 5), none⟩, ⟨some 58, .fieldAddr 0 (.t 57), none⟩, ⟨some 59, .load false 1 (.t 58), none⟩, ⟨some 60, .bin .eql (.t 56) (.t 59), none⟩, ⟨some 61, .mv (.t 60), none⟩, ⟨some 62, .fieldAddr 2 (.t 9), some (61, true)⟩, ⟨some 63, .load false 1 (.t 62), some (61, true)⟩, ⟨some 64, .fieldAddr 1 (.t 5), some (61, true)⟩, ⟨some 65, .fieldAddr 2 (.t 64), some (61, true)⟩, ⟨some 66, .load false 1 (.t 65), some (61, true)⟩, ⟨some 67, .bin .eql (.t 63) (.t 66), some (61, true)⟩, ⟨some 68, .pick (.t 61) (.t 67) (.c (.bool false)), none⟩, ⟨some 69, .mv (.t 68), none⟩, ⟨some 70, .fieldAddr 1 (.t 9), some (69, true)⟩, ⟨some 71, .load false 1 (.t 70), some (69, true)⟩, ⟨some 72, .fieldAddr 1 (.t 5), some (69, true)⟩, ⟨some 73, .fieldAddr 1 (.t 72), some (69, true)⟩, ⟨some 74, .load false 1 (.t 73), some (69, true)⟩, ⟨some 75, .bin .neq (.t 71) (.t 74), some (69, true)⟩, ⟨some 76, .pick (.t 69) (.t 75) (.c (.bool false)), none⟩]) ( (.cond (.t 76) ( (.seq ( .region [] [ ⟨some 77, .mv (.t 3), none⟩, ⟨some 78, .mv (.t 4), none⟩, ⟨some 79, .elemAddr 1 (.t 77) (.t 78), none⟩, ⟨none, .store 1 (.t 79) (.c (.bool true)), none⟩]) ( .exit 1))) ( .skip))))))))) ( .region [] [ ⟨some 47, .mv (.t 8), none⟩, ⟨some 48, .mv (.t 7), none⟩, ⟨some 49, .bin .add (.t 47) (.t 48), none⟩, ⟨some 8, .mv (.t 49), none⟩])))))) :: k) fr' L' = r := by
      intro z fr' L' hs g8 s1 s2
      rw [if_neg z] at hT hF
      obtain ⟨s0, s3, s4, s5, s7, s13, s14, s15, s20, s21, s22, _⟩ := hs
      refine ih (q + d) fr' L' p4 (s0.trans h0) (s3.trans h3) (s4.trans h4) (s5.trans h5) (s7.trans h7) g8 s1 s2 ?_ ?_
      · exact fun y f2 L2 hs2 => hT y f2 L2 (Same.trans ⟨s0, s3, s13, s14, s15, trivial⟩ hs2)
      · exact fun y f2 L2 hs2 => hF y f2 L2 (Same.trans ⟨s0, s3, s4, s5, s13, s14, s15, s20, s21, s22, trivial⟩ hs2)
    by_cases c2 : b.s = a.s
    case neg =>
      simp (config := { maxSteps := 10000000 }) (disch := omega) only [↓G_seq, ↓G_skip, ↓G_blk, ↓G_region, ↓G_block, ↓G_cond, ↓G_ops_nil, ↓G_op, Gv_some, ↓G_gop, Gw_tt, Gw_tf, Gc_true, Gc_false, dec_t, dec_f, killAll, ↓get_setS, ↓get_setN, evalOp, ev, rget_rset, b_add, b_eql, b_lss, b_geq, wrap_i64, one, Option.map_some, Option.bind_some, asB, V.shift, List.nil_append, List.cons_append, List.all_cons, List.all_nil, Bool.true_and, Bool.and_self, List.getElem?_cons_zero, List.getElem?_cons_succ, Nat.reduceEqDiff, reduceCtorEq, ↓reduceIte, Nat.succ_ne_self, Bool.false_eq_true, Int.reduceAdd, pick3, V.cells, splice, addOff, loadV, storeV, Ab.rowAt, V.scalar, Nat.reduceAdd, Nat.reduceLeDiff, true_and, and_self, List.length_cons, List.length_nil, List.take_succ_cons, List.take_zero, List.drop_succ_cons, List.drop_zero, Nat.le_refl, List.set_cons_zero, List.getD_cons_zero, Nat.zero_add, Nat.add_zero, ite_ov, h0, h5, h7, h8, hlen, hE, r2, Nat.zero_lt_succ, rset_rset]
      refine miss (fun z => c2 z.1) _ _ ?_ ?_ ?_ ?_
      all_goals simp (config := { maxSteps := 10000000 }) (disch := omega) only [↓get_setS, ↓get_setN, rget_rset, Bool.and_self, List.getElem?_cons_zero, List.getElem?_cons_succ, Nat.reduceEqDiff, reduceCtorEq, ↓reduceIte, Nat.succ_ne_self, and_self, Same, r1, r2]
    by_cases c3 : b.o = a.o
    case neg =>
      simp (config := { maxSteps := 10000000 }) (disch := omega) only [↓G_seq, ↓G_skip, ↓G_blk, ↓G_region, ↓G_block, ↓G_cond, ↓G_ops_nil, ↓G_op, Gv_some, ↓G_gop, Gw_tt, Gw_tf, Gc_true, Gc_false, dec_t, dec_f, killAll, ↓get_setS, ↓get_setN, evalOp, ev, rget_rset, b_add, b_eql, b_lss, b_geq, wrap_i64, one, Option.map_some, Option.bind_some, asB, V.shift, List.nil_append, List.cons_append, List.all_cons, List.all_nil, Bool.true_and, Bool.and_self, List.getElem?_cons_zero, List.getElem?_cons_succ, Nat.reduceEqDiff, reduceCtorEq, ↓reduceIte, Nat.succ_ne_self, Bool.false_eq_true, Int.reduceAdd, pick3, V.cells, splice, addOff, loadV, storeV, Ab.rowAt, V.scalar, Nat.reduceAdd, Nat.reduceLeDiff, true_and, and_self, List.length_cons, List.length_nil, List.take_succ_cons, List.take_zero, List.drop_succ_cons, List.drop_zero, Nat.le_refl, List.set_cons_zero, List.getD_cons_zero, Nat.zero_add, Nat.add_zero, ite_ov, h0, h5, h7, h8, hlen, hE, r2, Nat.zero_lt_succ, rset_rset]
      refine miss (fun z => c3 z.2.1) _ _ ?_ ?_ ?_ ?_
      all_goals simp (config := { maxSteps := 10000000 }) (disch := omega) only [↓get_setS, ↓get_setN, rget_rset, Bool.and_self, List.getElem?_cons_zero, List.getElem?_cons_succ, Nat.reduceEqDiff, reduceCtorEq, ↓reduceIte, Nat.succ_ne_self, and_self, Same, r1, r2]
    by_cases c4 : b.al = a.al
    · simp (config := { maxSteps := 10000000 }) (disch := omega) only [↓G_seq, ↓G_skip, ↓G_blk, ↓G_region, ↓G_block, ↓G_cond, ↓G_ops_nil, ↓G_op, Gv_some, ↓G_gop, Gw_tt, Gc_true, Gc_false, dec_t, killAll, ↓get_setS, ↓get_setN, evalOp, ev, rget_rset, b_add, b_eql, b_neq, b_lss, b_geq, wrap_i64, one, Option.map_some, Option.bind_some, asB, V.shift, List.nil_append, List.cons_append, List.all_cons, List.all_nil, Bool.true_and, Bool.and_self, List.getElem?_cons_zero, List.getElem?_cons_succ, Nat.reduceEqDiff, reduceCtorEq, ↓reduceIte, Nat.succ_ne_self, Bool.not_true, Bool.false_eq_true, Int.reduceAdd, pick3, V.cells, splice, addOff, loadV, storeV, Ab.rowAt, V.scalar, Nat.reduceAdd, Nat.reduceLeDiff, true_and, and_self, List.length_cons, List.length_nil, List.take_succ_cons, List.take_zero, List.drop_succ_cons, List.drop_zero, Nat.le_refl, List.set_cons_zero, List.getD_cons_zero, Nat.zero_add, Nat.add_zero, ite_ov, h0, h5, h7, h8, hlen, hE, r2, Nat.zero_lt_succ, rset_rset]
      refine miss (fun z => z.2.2 c4) _ _ ?_ ?_ ?_ ?_
      all_goals simp (config := { maxSteps := 10000000 }) (disch := omega) only [↓get_setS, ↓get_setN, rget_rset, Bool.and_self, List.getElem?_cons_zero, List.getElem?_cons_succ, Nat.reduceEqDiff, reduceCtorEq, ↓reduceIte, Nat.succ_ne_self, and_self, Same, r1, r2]
    · rw [if_pos ⟨c2, c3, c4⟩] at hT
      simp (config := { maxSteps := 10000000 }) (disch := omega) only [↓G_seq, ↓G_skip, ↓G_exit, ↓G_region, ↓G_block, ↓G_cond, ↓Gx_blk, ↓Gx_code, ↓G_ops_nil, ↓G_op, Gv_some, ↓G_gop, Gw_tt, Gc_true, dec_t, dec_f, killAll, ↓get_setS, ↓get_setN, evalOp, ev, rget_rset, b_eql, b_neq, b_lss, b_geq, one, Option.map_some, Option.bind_some, asB, V.shift, List.nil_append, List.cons_append, List.all_cons, List.all_nil, Bool.and_true, Bool.true_and, Bool.and_self, List.getElem?_cons_zero, List.getElem?_cons_succ, Nat.reduceEqDiff, reduceCtorEq, ↓reduceIte, Nat.succ_ne_self, Bool.not_false, Bool.false_eq_true, Int.reduceAdd, pick3, V.cells, splice, addOff, loadV, storeV, Ab.rowAt, V.scalar, Nat.reduceAdd, Nat.reduceLeDiff, and_true, true_and, and_self, List.length_cons, List.length_nil, List.take_succ_cons, List.take_zero, List.drop_succ_cons, List.drop_zero, Nat.le_refl, List.set_cons_zero, List.getD_cons_zero, Nat.zero_add, Nat.add_zero, el_ref, nn, ite_ov, Int.toNat_natCast, h0, h3, h4, h5, h8, hlen, hE, r1, r2, Nat.zero_lt_succ, rset_rset, hBi, B1_set]
      refine hT rfl _ _ ?_ ?_
      all_goals simp (config := { maxSteps := 10000000 }) (disch := omega) only [↓get_setS, ↓get_setN, rget_rset, Bool.and_self, List.getElem?_cons_zero, List.getElem?_cons_succ, Nat.reduceEqDiff, reduceCtorEq, ↓reduceIte, and_self, Same]

def disB (l : List Nt) (i : Nat) : Bool := match l[i]? with
  | some a => scan a (l.take i).reverse || scan a (l.drop (i + 1))
  | none => false

theorem loop36 {k : List KI} {rs : List ARes} {r : Option V} {v : V} {l : List Nt} {v1 : Nat} (hl : l.length ≤ 4096) (hv : SlV 6 v (E6 l)) (hv1 : 0 < v1)
    (hr : ∀ fr' L', Ab.get fr' 3 = .ref 0 1 v1 1 0 l.length → rget L' 1 = ⟨v1, 1, B1 ((List.range l.length).map (disB l))⟩ → Gx tbl H rs 0 k fr' L' = r) :
    ∀ (t : List Nt) (i : Nat) (B : List Bool) (fr : List V) (L : List Row), l.drop i = t → i ≤ l.length → Ab.get fr 0 = v → Ab.get fr 3 = .ref 0 1 v1 1 0 l.length → Ab.get fr 13 = v → Ab.get fr 14 = .i (l.length : Nat) → Ab.get fr 15 = .i (i : Nat) →
    rget L 1 = ⟨v1, 1, B1 B⟩ → B.length = l.length → (∀ j, j < i → B[j]? = some (disB l j)) → (∀ j, i ≤ j → j < l.length → B[j]? = some false) →
    G tbl H rs (.code (.loop ( (.seq ( .region [] [ ⟨some 16, .bin .lss (.t 15) (.t 14), none⟩]) ( (.seq ( (.cond (.t 16) ( .skip) ( .exit 0))) ( (.seq ( (.block 1 ( (.seq ( .region [] [ ⟨some 17, .mv (.t 15), none⟩, ⟨some 18, .elemAddr 6 (.t 13) (.t 15), none⟩, ⟨some 19, .load true 6 (.t 18), none⟩, ⟨some 5, .alloc 2 [(.int .i64 0), (.int .i64 0), (.int .i64 0), (.int .i64 0), (.bool false), (.int .i64 0)], none⟩, ⟨some 4, .mv (.t 17), none⟩, ⟨none, .store 6 (.t 5) (.t 19), none⟩]) ( (.seq ( .region [] [ ⟨some 20, .lit 1 [(.int .i64 0)] 2 [(0, 1, (.c (.int .i64 (-1)))), (1, 1, (.c (.int .i64 1)))], none⟩, ⟨some 21, .len (.t 20), none⟩, ⟨some 22, .mv (.c (.int .i64 0)), none⟩]) ( (.block 2 ( (.loop ( (.seq ( .region [] [ ⟨some 23, .bin .lss (.t 22) (.t 21), none⟩]) ( (.seq ( (.cond (.t 23) ( .skip) ( .exit 2))) ( (.seq ( (.block 3 ( (.seq ( .region [] [ ⟨some 24, .elemAddr 1 (.t 20) (.t 22), none⟩, ⟨some 25, .load false 1 (.t 24), none⟩, ⟨some 7, .mv (.t 25), none⟩]) ( (.seq ( .region [] [ ⟨some 26, .mv (.t 4), none⟩, ⟨some 27, .mv (.t 7), none⟩, ⟨some 28, .bin .add (.t 26) (.t 27), none⟩, ⟨some 8, .mv (.t 28), none⟩]) ( (.block 4 ( (.loop ( (.seq ( (.seq ( .region [] [ ⟨some 29, .mv (.t 8), none⟩, ⟨some 30, .bin .geq (.t 29) (.c (.int .i64 0)), none⟩, ⟨some 31, .mv (.t 30), none⟩, ⟨some 32, .mv (.t 8), some (31, true)⟩, ⟨some 33, .mv (.t 0), some (31, true)⟩, ⟨some 34, .len (.t 33), some (31, true)⟩, ⟨some 35, .bin .lss (.t 32) (.t 34), some (31, true)⟩, ⟨some 36, .pick (.t 31) (.t 35) (.c (.bool false)), none⟩, ⟨some 37, .mv (.t 36), none⟩, ⟨some 38, .mv (.t 0), some (37, true)⟩, ⟨some 39, .mv (.t 8), some (37, true)⟩, ⟨some 40, .elemAddr 6 (.t 38) (.t 39), some (37, true)⟩, ⟨some 41, .fieldAddr 0 (.t 40), some (37, true)⟩, ⟨some 42, .load false 1 (.t 41), some (37, true)⟩, ⟨some 43, .fieldAddr 0 (.t 5), some (37, true)⟩, ⟨some 44, .load false 1 (.t 43), some (37, true)⟩, ⟨some 45, .bin .eql (.t 42) (.t 44), some (37, true)⟩, ⟨some 46, .pick (.t 37) (.t 45) (.c (.bool false)), none⟩]) ( (.cond (.t 46) ( .skip) ( .exit 4))))) ( (.seq ( (.block 5 ( (.seq ( .region [] [ ⟨some 50, .mv (.t 0), none⟩, ⟨some 51, .mv (.t 8), none⟩, ⟨some 52, .elemAddr 6 (.t 50) (.t 51), none⟩, ⟨some 53, .fieldAddr 1 (.t 52), none⟩, ⟨some 54, .load true 3 (.t 53), none⟩, ⟨some 9, .alloc 3 [(.int .i64 0), (.int .i64 0), (.int .i64 0)], none⟩, ⟨none, .store 3 (.t 9) (.t 54), none⟩]) ( (.seq ( .region [] [ ⟨some 55, .fieldAddr 0 (.t 9), none⟩, ⟨some 56, .load false 1 (.t 55), none⟩, ⟨some 57, .fieldAddr 1 (.t 5), none⟩, ⟨some 58, .fieldAddr 0 (.t 57), none⟩, ⟨some 59, .load false 1 (.t 58), none⟩, ⟨some 60, .bin .eql (.t 56) (.t 59), none⟩, ⟨some 61, .mv (.t 60), none⟩, ⟨some 62, .fieldAddr 2 (.t 9), some (61, true)⟩, ⟨some 63, .load false 1 (.t 62), some (61, true)⟩, ⟨some 64, .fieldAddr 1 (.t 5), some (61, true)⟩, ⟨some 65, .fieldAddr 2 (.t 64), some (61, true)⟩, ⟨some 66, .load false 1 (.t 65), some (61, true)⟩, ⟨some 67, .bin .eql (.t 63) (.t 66), some (61, true)⟩, ⟨some 68, .pick (.t 61) (.t 67) (.c (.bool false)), none⟩, ⟨some 69, .mv (.t 68), none⟩, ⟨some 70, .fieldAddr 1 (.t 9), some (69, true)⟩, ⟨some 71, .load false 1 (.t 70), some (69, true)⟩, ⟨some 72, .fieldAddr 1 (.t 5), some (69, true)⟩, ⟨some 73, .fieldAddr 1 (.t 72), some (69, true)⟩, ⟨some 74, .load false 1 (.t 73), some (69, true)⟩, ⟨some 75, .bin .neq (.t 71) (.t 74), some (69, true)⟩, ⟨some 76, .pick (.t 69) (.t 75) (.c (.bool false)), none⟩]) ( (.cond (.t 76) ( (.seq ( .region [] [ ⟨some 77, .mv (.t 3), none⟩, ⟨some 78, .mv (.t 4), none⟩, ⟨some 79, .elemAddr 1 (.t 77) (.t 78), none⟩, ⟨none, .store 1 (.t 79) (.c (.bool true)), none⟩]) ( .exit 1))) ( .skip))))))))) ( .region [] [ ⟨some 47, .mv (.t 8), none⟩, ⟨some 48, .mv (.t 7), none⟩, ⟨some 49, .bin .add (.t 47) (.t 48), none⟩, ⟨some 8, .mv (.t 49), none⟩]))))))))))))))) ( .region [] [ ⟨some 80, .bin .add (.t 22) (.c (.int .i64 1)), none⟩, ⟨some 22, .mv (.t 80), none⟩]))))))))))))))))) ( .region [] [ ⟨some 81, .bin .add (.t 15) (.c (.int .i64 1)), none⟩, ⟨some 15, .mv (.t 81), none⟩])))))))) :: k) fr L = r := by
  intro t
  induction t with
  | nil =>
    intro i B fr L ht hi h0 h3 h13 h14 h15 r1 hB b1 b2
    have := drop_nil ht
    refine G_loop.trans ?_
    simp (config := { maxSteps := 10000000 }) (disch := omega) only [↓G_seq, ↓G_exit, ↓G_region, ↓G_cond, ↓Gx_code, ↓G_ops_nil, ↓G_op, Gv_some, Gc_false, dec_f, killAll, ↓get_setS, evalOp, ev, b_lss, one, Option.map_some, List.getElem?_cons_zero, List.getElem?_cons_succ, ↓reduceIte, Int.reduceNeg, h14, h15]
    refine hr _ _ ?_ ?_
    · simp (config := { maxSteps := 10000000 }) (disch := omega) only [↓get_setS, List.getElem?_cons_zero, List.getElem?_cons_succ, Nat.reduceEqDiff, ↓reduceIte, h3]
    · rw [r1]
      congr 2
      apply List.ext_getElem?
      intro j
      rcases Nat.lt_or_ge j l.length with hj | hj
      · rw [b1 j (by omega)]
        simp [hj]
      · rw [List.getElem?_eq_none (by omega), List.getElem?_eq_none (by simp; omega)]
  | cons a t ih =>
    intro i B fr L ht hi h0 h3 h13 h14 h15 r1 hB b1 b2
    obtain ⟨e1, e2, e3⟩ := drop_cons ht
    have hE := hv.el (E6_get l i a e1)
    have hdis : disB l i = (scan a (l.take i).reverse || scan a t) := by simp only [disB, e1, e2]
    have next : ∀ (x : Bool) (fr' : List V) (L' : List Row), disB l i = x → Ab.get fr' 0 = v → Ab.get fr' 3 = .ref 0 1 v1 1 0 l.length → Ab.get fr' 13 = v → Ab.get fr' 14 = .i (l.length : Nat) → Ab.get fr' 15 = .i ((i : Nat) + 1 : Int) →
        rget L' 1 = ⟨v1, 1, B1 (B.set i x)⟩ → G tbl H rs (.code (.loop ( (.seq ( .region [] [ ⟨some 16, .bin .lss (.t 15) (.t 14), none⟩]) ( (.seq ( (.cond (.t 16) ( .skip) ( .exit 0))) ( (.seq ( (.block 1 ( (.seq ( .region [] [ ⟨some 17, .mv (.t 15), none⟩, ⟨some 18, .elemAddr 6 (.t 13) (.t 15), none⟩, ⟨some 19, .load true 6 (.t 18), none⟩, ⟨some 5, .alloc 2 [(.int .i64 0), (.int .i64 0), (.int .i64 0), (.int .i64 0), (.bool false), (.int .i64 0)], none⟩, ⟨some 4, .mv (.t 17), none⟩, ⟨none, .store 6 (.t 5) (.t 19), none⟩]) ( (.seq ( .region [] [ ⟨some 20, .lit 1 [(.int .i64 0)] 2 [(0, 1, (.c (.int .i64 (-1)))), (1, 1, (.c (.int .i64 1)))], none⟩, ⟨some 21, .len (.t 20), none⟩, ⟨some 22, .mv (.c (.int .i64 0)), none⟩]) ( (.block 2 ( (.loop ( (.seq ( .region [] [ ⟨some 23, .bin .lss (.t 22) (.t 21), none⟩]) ( (.seq ( (.cond (.t 23) ( .skip) ( .exit 2))) ( (.seq ( (.block 3 ( (.seq ( .region [] [ ⟨some 24, .elemAddr 1 (.t 20) (.t 22), none⟩, ⟨some 25, .load false 1 (.t 24), none⟩, ⟨some 7, .mv (.t 25), none⟩]) ( (.seq ( .region [] [ ⟨some 26, .mv (.t 4), none⟩, ⟨some 27, .mv (.t 7), none⟩, ⟨some 28, .bin .add (.t 26) (.t 27), none⟩, ⟨some 8, .mv (.t 28), none⟩]) ( (.block 4 ( (.loop ( (.seq ( (.seq ( .region [] [ ⟨some 29, .mv (.t 8), none⟩, ⟨some 30, .bin .geq (.t 29) (.c (.int .i64 0)), none⟩, ⟨some 31, .mv (.t 30), none⟩, ⟨some 32, .mv (.t 8), some (31, true)⟩, ⟨some 33, .mv (.t 0), some (31, true)⟩, ⟨some 34, .len (.t 33), some (31, true)⟩, ⟨some 35, .bin .lss (.t 32) (.t 34), some (31, true)⟩, ⟨some 36, .pick (.t 31) (.t 35) (.c (.bool false)), none⟩, ⟨some 37, .mv (.t 36), none⟩, ⟨some 38, .mv (.t 0), some (37, true)⟩, ⟨some 39, .mv (.t 8), some (37, true)⟩, ⟨some 40, .elemAddr 6 (.t 38) (.t 39), some (37, true)⟩, ⟨some 41, .fieldAddr 0 (.t 40), some (37, true)⟩, ⟨some 42, .load false 1 (.t 41), some (37, true)⟩, ⟨some 43, .fieldAddr 0 (.t 5), some (37, true)⟩, ⟨some 44, .load false 1 (.t 43), some (37, true)⟩, ⟨some 45, .bin .eql (.t 42) (.t 44), some (37, true)⟩, ⟨some 46, .pick (.t 37) (.t 45) (.c (.bool false)), none⟩]) ( (.cond (.t 46) ( .skip) ( .exit 4))))) ( (.seq ( (.block 5 ( (.seq ( .region [] [ ⟨some 50, .mv (.t 0), none⟩, ⟨some 51, .mv (.t 8), none⟩, ⟨some 52, .elemAddr 6 (.t 50) (.t 51), none⟩, ⟨some 53, .fieldAddr 1 (.t 52), none⟩, ⟨some 54, .load true 3 (.t 53), none⟩, ⟨some 9, .alloc 3 [(.int .i64 0), (.int .i64 0), (.int .i64 0)], none⟩, ⟨none, .store 3 (.t 9) (.t 54), none⟩]) ( (.seq ( .region [] [ ⟨some 55, .fieldAddr 0 (.t 9), none⟩, ⟨some 56, .load false 1 (.t 55), none⟩, ⟨some 57, .fieldAddr 1 (.t 5), none⟩, ⟨some 58, .fieldAddr 0 (.t 57), none⟩, ⟨some 59, .load false 1 (.t 58), none⟩, ⟨some 60, .bin .eql (.t 56) (.t 59), none⟩, ⟨some 61, .mv (.t 60), none⟩, ⟨some 62, .fieldAddr 2 (.t 9), some (61, true)⟩, ⟨some 63, .load false 1 (.t 62), some (61, true)⟩, ⟨some 64, .fieldAddr 1 (.t 5), some (61, true)⟩, ⟨some 65, .fieldAddr 2 (.t 64), some (61, true)⟩, ⟨some 66, .load false 1 (.t 65), some (61, true)⟩, ⟨some 67, .bin .eql (.t 63) (.t 66), some (61, true)⟩, ⟨some 68, .pick (.t 61) (.t 67) (.c (.bool false)), none⟩, ⟨some 69, .mv (.t 68), none⟩, ⟨some 70, .fieldAddr 1 (.t 9), some (69, true)⟩, ⟨some 71, .load false 1 (.t 70), some (69, true)⟩, ⟨some 72, .fieldAddr 1 (.t 5), some (69, true)⟩, ⟨some 73, .fieldAddr 1 (.t 72), some (69, true)⟩, ⟨some 74, .load false 1 (.t 73), some (69, true)⟩, ⟨some 75, .bin .neq (.t 71) (.t 74), some (69, true)⟩, ⟨some 76, .pick (.t 69) (.t 75) (.c (.bool false)), none⟩]) ( (.cond (.t 76) ( (.seq ( .region [] [ ⟨some 77, .mv (.t 3), none⟩, ⟨some 78, .mv (.t 4), none⟩, ⟨some 79, .elemAddr 1 (.t 77) (.t 78), none⟩, ⟨none, .store 1 (.t 79) (.c (.bool true)), none⟩]) ( .exit 1))) ( .skip))))))))) ( .region [] [ ⟨some 47, .mv (.t 8), none⟩, ⟨some 48, .mv (.t 7), none⟩, ⟨some 49, .bin .add (.t 47) (.t 48), none⟩, ⟨some 8, .mv (.t 49), none⟩]))))))))))))))) ( .region [] [ ⟨some 80, .bin .add (.t 22) (.c (.int .i64 1)), none⟩, ⟨some 22, .mv (.t 80), none⟩]))))))))))))))))) ( .region [] [ ⟨some 81, .bin .add (.t 15) (.c (.int .i64 1)), none⟩, ⟨some 15, .mv (.t 81), none⟩])))))))) :: k) fr' L' = r := by
      intro x fr' L' hx g0 g3 g13 g14 g15 s1
      refine ih (i + 1) (B.set i x) fr' L' e2 (by omega) g0 g3 g13 g14 (by rw [g15]; congr 1) s1 (by simpa using hB) ?_ ?_
      · intro j hj
        rw [List.getElem?_set]
        by_cases e : i = j
        · subst e
          rw [if_pos rfl, if_pos (by omega), hx]
        · rw [if_neg e]
          exact b1 j (by omega)
      · intro j h1 h2
        rw [List.getElem?_set, if_neg (by omega)]
        exact b2 j (by omega) h2
    have hself : B.set i false = B := by
      apply List.ext_getElem?
      intro j
      rw [List.getElem?_set]
      split
      · rename_i e
        subst e
        rw [if_pos (by omega), b2 _ (by omega) (by omega)]
      · rfl
    refine G_loop.trans ?_
    simp (config := { maxSteps := 10000000 }) (disch := omega) only [↓G_seq, ↓G_skip, ↓G_region, ↓G_block, ↓G_cond, ↓G_ops_nil, ↓G_op, Gv_some, Gc_true, dec_t, killAll, ↓get_setS, evalOp, ev, rget_rset, b_lss, one, Option.map_some, Option.bind_some, List.append_nil, List.nil_append, List.cons_append, List.all_cons, List.all_nil, Bool.true_and, Bool.and_self, List.getElem?_cons_zero, List.getElem?_cons_succ, Nat.reduceEqDiff, ↓reduceIte, Nat.succ_ne_self, Int.reduceNeg, Int.reduceAdd, pick3, V.cells, fillV, splice, chop, loadV, storeV, V.scalar, V.pure, Nat.reduceAdd, Nat.reduceLeDiff, true_and, and_self, List.length_cons, List.length_nil, List.take_succ_cons, List.take_zero, List.drop_succ_cons, List.drop_zero, Nat.le_refl, List.set_cons_zero, List.replicate, List.flatten_cons, List.flatten_nil, Int.cast_ofNat_Int, Nat.zero_add, len_full, h13, h14, h15, hE, rset_rset, Nat.zero_lt_succ]
    refine G_loop.trans ?_
    simp (config := { maxSteps := 10000000 }) (disch := omega) only [↓G_seq, ↓G_skip, ↓G_region, ↓G_block, ↓G_cond, ↓G_ops_nil, ↓G_op, Gv_some, Gc_true, killAll, ↓get_setS, ↓get_setN, evalOp, ev, b_add, b_lss, wrap_i64, one, Option.map_some, Bool.and_self, List.getElem?_cons_zero, List.getElem?_cons_succ, Nat.reduceEqDiff, ↓reduceIte, Nat.succ_ne_self, decide_true, Bool.false_eq_true, Int.reduceNeg, Int.reduceLT, Int.reduceLE, pick3, loadV, Int.reduceToNat, Nat.reduceLT, and_self, el_full]
    refine inner36 (l := l) (a := a) (i := i) (d := -1) (B := B) (v1 := v1) (v2 := (rget L 2).ver + 1) hl hv (.inr rfl) hB e3 hv1 (by omega) (l.take i).reverse ((i : Nat) + -1 : Int) _ _ (by have := path_dn l i hi; rwa [Int.sub_eq_add_neg] at this) ?_ ?_ ?_ ?_ ?_ ?_ ?_ ?_ ?_ ?_
    · simp (config := { maxSteps := 10000000 }) (disch := omega) only [↓get_setS, ↓get_setN, List.getElem?_cons_zero, List.getElem?_cons_succ, reduceCtorEq, ↓reduceIte, h0]
    · simp (config := { maxSteps := 10000000 }) (disch := omega) only [↓get_setS, ↓get_setN, List.getElem?_cons_zero, List.getElem?_cons_succ, Nat.reduceEqDiff, ↓reduceIte, Nat.succ_ne_self, h3]
    · simp (config := { maxSteps := 10000000 }) (disch := omega) only [↓get_setS, ↓get_setN, List.getElem?_cons_zero, List.getElem?_cons_succ, Nat.reduceEqDiff, ↓reduceIte]
    · simp (config := { maxSteps := 10000000 }) (disch := omega) only [↓get_setS, ↓get_setN, List.getElem?_cons_zero, List.getElem?_cons_succ, Nat.reduceEqDiff, ↓reduceIte]
    · simp (config := { maxSteps := 10000000 }) (disch := omega) only [↓get_setS, List.getElem?_cons_zero, List.getElem?_cons_succ, Nat.reduceEqDiff, ↓reduceIte, Nat.succ_ne_self, Int.reduceNeg]
    · simp (config := { maxSteps := 10000000 }) (disch := omega) only [↓get_setS, List.getElem?_cons_zero, List.getElem?_cons_succ, ↓reduceIte, Int.reduceNeg]
    · simp (config := { maxSteps := 10000000 }) (disch := omega) only [rget_rset, List.getElem?_cons_zero, List.getElem?_cons_succ, ↓reduceIte, Nat.succ_ne_self, r1]
    · simp (config := { maxSteps := 10000000 }) (disch := omega) only [rget_rset, List.getElem?_cons_zero, List.getElem?_cons_succ, ↓reduceIte]
    · intro hs fr' L' hS s1
      obtain ⟨g0, g3, g13, g14, g15, _⟩ := hS
      simp only [↓get_setS, ↓get_setN, Nat.reduceEqDiff, reduceCtorEq, eq_self, ↓reduceIte, Nat.succ_ne_self, Nat.one_ne_zero, Nat.zero_ne_one] at g0 g3 g13 g14 g15
      rw [h0] at g0; rw [h3] at g3; rw [h13] at g13; rw [h14] at g14; rw [h15] at g15
      simp (config := { maxSteps := 10000000 }) (disch := omega) only [↓G_region, ↓Gx_blk, ↓Gx_code, ↓G_ops_nil, ↓G_op, Gv_some, killAll, ↓get_setS, evalOp, ev, b_add, wrap_i64, one, Option.map_some, List.getElem?_cons_zero, List.getElem?_cons_succ, Nat.reduceEqDiff, ↓reduceIte, Int.reduceNeg, g15]
      refine next true _ _ (by rw [hdis, hs]; rfl) ?_ ?_ ?_ ?_ ?_ ?_
      all_goals simp (config := { maxSteps := 10000000 }) (disch := omega) only [↓get_setS, List.getElem?_cons_zero, List.getElem?_cons_succ, Nat.reduceEqDiff, reduceCtorEq, ↓reduceIte, Nat.succ_ne_self, g0, g3, g13, g14, s1]
    · intro hs fr' L' hS s1 s2
      obtain ⟨g0, g3, g4, g5, g13, g14, g15, g20, g21, g22, _⟩ := hS
      simp only [↓get_setS, ↓get_setN, Nat.reduceEqDiff, reduceCtorEq, eq_self, ↓reduceIte, Nat.succ_ne_self, Nat.one_ne_zero, Nat.zero_ne_one] at g0 g3 g4 g5 g13 g14 g15 g20 g21 g22
      rw [h0] at g0; rw [h3] at g3; rw [h13] at g13; rw [h14] at g14; rw [h15] at g15
      simp (config := { maxSteps := 10000000 }) (disch := omega) only [↓G_blk, ↓G_region, ↓Gx_blk, ↓G_ops_nil, ↓G_op, Gv_some, killAll, ↓get_setS, evalOp, ev, b_add, wrap_i64, one, Option.map_some, List.getElem?_cons_zero, List.getElem?_cons_succ, ↓reduceIte, Int.reduceNeg, Int.reduceAdd, Nat.reduceAdd, g22]
      refine G_loop.trans ?_
      simp (config := { maxSteps := 10000000 }) (disch := omega) only [↓G_seq, ↓G_skip, ↓G_region, ↓G_block, ↓G_cond, ↓G_ops_nil, ↓G_op, Gv_some, Gc_true, killAll, ↓get_setS, evalOp, ev, b_add, b_lss, wrap_i64, one, Option.map_some, Bool.and_self, List.getElem?_cons_zero, List.getElem?_cons_succ, Nat.reduceEqDiff, ↓reduceIte, Nat.succ_ne_self, decide_true, Bool.false_eq_true, Int.reduceNeg, Int.reduceLT, Int.reduceLE, pick3, loadV, Int.reduceToNat, Nat.reduceLT, and_self, el_full, g4, g20, g21]
      refine inner36 (l := l) (a := a) (i := i) (d := 1) (B := B) (v1 := v1) (v2 := (rget L 2).ver + 1) hl hv (.inl rfl) hB e3 hv1 (by omega) t ((i : Nat) + 1 : Int) _ _ (path_up l t (i + 1) e2) ?_ ?_ ?_ ?_ ?_ ?_ ?_ ?_ ?_ ?_
      · simp (config := { maxSteps := 10000000 }) (disch := omega) only [↓get_setS, List.getElem?_cons_zero, List.getElem?_cons_succ, reduceCtorEq, ↓reduceIte, g0]
      · simp (config := { maxSteps := 10000000 }) (disch := omega) only [↓get_setS, List.getElem?_cons_zero, List.getElem?_cons_succ, Nat.reduceEqDiff, ↓reduceIte, g3]
      · simp (config := { maxSteps := 10000000 }) (disch := omega) only [↓get_setS, List.getElem?_cons_zero, List.getElem?_cons_succ, Nat.reduceEqDiff, ↓reduceIte, g4]
      · simp (config := { maxSteps := 10000000 }) (disch := omega) only [↓get_setS, List.getElem?_cons_zero, List.getElem?_cons_succ, Nat.reduceEqDiff, ↓reduceIte, g5]
      · simp (config := { maxSteps := 10000000 }) (disch := omega) only [↓get_setS, List.getElem?_cons_zero, List.getElem?_cons_succ, Nat.reduceEqDiff, ↓reduceIte, Nat.succ_ne_self]
      · simp (config := { maxSteps := 10000000 }) (disch := omega) only [↓get_setS, List.getElem?_cons_zero, List.getElem?_cons_succ, ↓reduceIte]
      · simp (config := { maxSteps := 10000000 }) (disch := omega) only [List.getElem?_cons_zero, List.getElem?_cons_succ, s1]
      · simp (config := { maxSteps := 10000000 }) (disch := omega) only [List.getElem?_cons_zero, List.getElem?_cons_succ, s2]
      · intro hs2 fr2 L2 hS2 q1
        obtain ⟨f0, f3, f13, f14, f15, _⟩ := hS2
        simp only [↓get_setS, ↓get_setN, Nat.reduceEqDiff, reduceCtorEq, eq_self, ↓reduceIte, Nat.succ_ne_self, Nat.one_ne_zero, Nat.zero_ne_one] at f0 f3 f13 f14 f15
        rw [g0] at f0; rw [g3] at f3; rw [g13] at f13; rw [g14] at f14; rw [g15] at f15
        simp (config := { maxSteps := 10000000 }) (disch := omega) only [↓G_region, ↓Gx_blk, ↓Gx_code, ↓G_ops_nil, ↓G_op, Gv_some, killAll, ↓get_setS, evalOp, ev, b_add, wrap_i64, one, Option.map_some, List.getElem?_cons_zero, List.getElem?_cons_succ, Nat.reduceEqDiff, ↓reduceIte, Int.reduceNeg, f15]
        refine next true _ _ (by rw [hdis, hs2]; simp) ?_ ?_ ?_ ?_ ?_ ?_
        all_goals simp (config := { maxSteps := 10000000 }) (disch := omega) only [↓get_setS, List.getElem?_cons_zero, List.getElem?_cons_succ, Nat.reduceEqDiff, reduceCtorEq, ↓reduceIte, Nat.succ_ne_self, f0, f3, f13, f14, q1]
      · intro hs2 fr2 L2 hS2 q1 q2
        obtain ⟨f0, f3, f4, f5, f13, f14, f15, f20, f21, f22, _⟩ := hS2
        simp only [↓get_setS, ↓get_setN, Nat.reduceEqDiff, reduceCtorEq, eq_self, ↓reduceIte, Nat.succ_ne_self, Nat.one_ne_zero, Nat.zero_ne_one] at f0 f3 f4 f5 f13 f14 f15 f20 f21 f22
        rw [g0] at f0; rw [g3] at f3; rw [g13] at f13; rw [g14] at f14; rw [g15] at f15; rw [g20] at f20; rw [g21] at f21
        simp (config := { maxSteps := 10000000 }) (disch := omega) only [↓G_blk, ↓G_region, ↓Gx_blk, ↓G_ops_nil, ↓G_op, Gv_some, killAll, ↓get_setS, evalOp, ev, b_add, wrap_i64, one, Option.map_some, List.getElem?_cons_zero, List.getElem?_cons_succ, ↓reduceIte, Int.reduceNeg, Int.reduceAdd, Nat.reduceAdd, f22]
        refine G_loop.trans ?_
        simp (config := { maxSteps := 10000000 }) (disch := omega) only [↓G_seq, ↓G_blk, ↓G_exit, ↓G_region, ↓G_cond, ↓Gx_blk, ↓Gx_code, ↓G_ops_nil, ↓G_op, Gv_some, Gc_false, killAll, ↓get_setS, evalOp, ev, b_add, b_lss, wrap_i64, one, Option.map_some, List.getElem?_cons_zero, List.getElem?_cons_succ, Nat.reduceEqDiff, ↓reduceIte, Nat.succ_ne_self, decide_false, Int.reduceNeg, Int.reduceLT, Nat.reduceLT, f15, f21]
        refine next false _ _ (by rw [hdis, hs, hs2]; rfl) ?_ ?_ ?_ ?_ ?_ ?_
        all_goals simp (config := { maxSteps := 10000000 }) (disch := omega) only [↓get_setS, List.getElem?_cons_zero, List.getElem?_cons_succ, Nat.reduceEqDiff, reduceCtorEq, ↓reduceIte, Nat.succ_ne_self, f0, f3, f13, f14, q1, hself]

theorem c36 {v : V} {l : List Nt} (hl : l.length ≤ 4096) (hv : SlV 6 v (E6 l)) : call tbl 36 [v] H = some (.sl .own 1 (B1 ((List.range l.length).map (disB l)))) := by
  refine (call_start (show tbl 36 = some a36 from rfl)).trans ?_
  have hlen := hv.len
  rw [E6_len] at hlen
  unfold a36
  simp (config := { maxSteps := 10000000 }) (disch := omega) only [↓G_seq, ↓G_skip, ↓G_scope, ↓G_region, ↓G_block, ↓G_ops_nil, ↓G_op, Gv_some, killAll, ↓get_setS, evalOp, ev, Ab.get, one, Option.map_some, List.all_cons, List.all_nil, Bool.and_true, Bool.true_and, Bool.and_self, List.getElem?_cons_zero, List.getElem?_cons_succ, reduceCtorEq, ↓reduceIte, Int.reduceNeg, rget, rset, V.scalar, mksV, Nat.reduceLeDiff, and_true, true_and, and_self, List.length_cons, List.length_nil, Nat.zero_add, nn, ite_ov, Int.toNat_natCast, hlen]
  refine loop36 (l := l) (v := v) (v1 := 1) hl hv (by omega) (fun fr' L' g3 s1 => ?_) l 0 (List.replicate l.length false) _ _ rfl (by omega) ?_ ?_ ?_ ?_ ?_ ?_ (by simp) (by intro j hj; omega) (by intro j h1 h2; simp [h2])
  · have hp := B1_pure ((List.range l.length).map (disB l))
    simp (config := { maxSteps := 10000000 }) (disch := omega) only [↓G_seq, ↓G_ret, ↓G_region, ↓Gx_blk, ↓G_ops_nil, ↓G_op, Gv_some, killAll, ↓get_setS, evalOp, ev, Option.map_some, Option.bind_some, finish, resVs, resV, outVs, ownsLast, tupOf, List.all_nil, Bool.and_self, List.getElem?_cons_zero, List.getElem?_cons_succ, ↓reduceIte, Int.reduceLT, Nat.reduceLT, and_self, ov_ref0, fn_some, g3, s1, hp, B1_len, List.length_map, List.length_range]
  all_goals simp (config := { maxSteps := 10000000 }) (disch := omega) only [↓get_setS, Ab.get, List.getElem?_cons_zero, List.getElem?_cons_succ, Nat.reduceEqDiff, reduceCtorEq, ↓reduceIte, Nat.succ_ne_self, rget, Int.cast_ofNat_Int]
  simp [B1]

/-- Where the notes are in order the search among neighbours finds what the search among all does. -/
theorem errL_sorted : ∀ (l : List Nt) (b : Int), errL b l = 0 → l.Pairwise (fun a c => a.at_ ≤ c.at_) ∧ ∀ a ∈ l, b ≤ a.at_ ∧ inN a ∧ 0 ≤ a.sh ∧ a.sh ≤ 2
  | [], b, _ => by simp
  | n :: t, b, h => by
    unfold errL at h
    split at h
    · contradiction
    · rename_i h1
      obtain ⟨o1, o2, o3⟩ := okN_0 (Classical.not_not.1 h1)
      obtain ⟨i1, i2⟩ := errL_sorted t n.at_ h
      refine ⟨List.pairwise_cons.2 ⟨fun a ha => (i2 a ha).1, i1⟩, fun a ha => ?_⟩
      rcases List.mem_cons.1 ha with rfl | ha
      · exact ⟨o1, o2, o3⟩
      · have := i2 a ha
        exact ⟨by omega, this.2⟩

theorem scan_any (a : Nt) : ∀ (t : List Nt), (∀ b ∈ t, a.at_ ≤ b.at_) → t.Pairwise (fun a c => a.at_ ≤ c.at_) → scan a t = t.any (hitB a)
  | [], _, _ => rfl
  | b :: t, h, p => by
    obtain ⟨p1, p2⟩ := List.pairwise_cons.1 p
    have hb := h b (by simp)
    unfold scan
    rw [List.any_cons]
    by_cases c : b.at_ = a.at_
    · rw [if_pos c, scan_any a t (fun x hx => h x (by simp [hx])) p2]
      by_cases k : hitC a b
      · simp [hitB, c, k]
      · simp [hitB, c, k]
    · rw [if_neg c]
      have : (t.any (hitB a)) = false := by
        rw [List.any_eq_false]
        intro x hx
        have := p1 x hx
        have : ¬ x.at_ = a.at_ := by omega
        simp [hitB, this]
      simp [hitB, c, this]

theorem scan_any' (a : Nt) : ∀ (t : List Nt), (∀ b ∈ t, b.at_ ≤ a.at_) → t.Pairwise (fun a c => c.at_ ≤ a.at_) → scan a t = t.any (hitB a)
  | [], _, _ => rfl
  | b :: t, h, p => by
    obtain ⟨p1, p2⟩ := List.pairwise_cons.1 p
    have hb := h b (by simp)
    unfold scan
    rw [List.any_cons]
    by_cases c : b.at_ = a.at_
    · rw [if_pos c, scan_any' a t (fun x hx => h x (by simp [hx])) p2]
      by_cases k : hitC a b
      · simp [hitB, c, k]
      · simp [hitB, c, k]
    · rw [if_neg c]
      have : (t.any (hitB a)) = false := by
        rw [List.any_eq_false]
        intro x hx
        have := p1 x hx
        have : ¬ x.at_ = a.at_ := by omega
        simp [hitB, this]
      simp [hitB, c, this]

theorem dis_any {l : List Nt} (h : errL 0 l = 0) {i : Nat} {a : Nt} (ha : l[i]? = some a) : disB l i = l.any (hitB a) := by
  obtain ⟨hp, _⟩ := errL_sorted l 0 h
  have hi : i < l.length := (List.getElem?_eq_some_iff.1 ha).1
  have e := (List.take_append_drop i l).symm
  rw [List.drop_eq_getElem_cons hi, (List.getElem?_eq_some_iff.1 ha).2] at e
  have hp' := hp
  rw [e] at hp'
  obtain ⟨q1, q2, q3⟩ := List.pairwise_append.1 hp'
  obtain ⟨q4, q5⟩ := List.pairwise_cons.1 q2
  simp only [disB, ha]
  rw [scan_any a _ q4 q5, scan_any' a _ (fun b hb => q3 b (by simpa using hb) a (by simp)) (List.pairwise_reverse.2 q1)]
  conv => rhs; rw [e]
  rw [List.any_append, List.any_cons, List.any_reverse]
  have : hitB a a = false := by simp [hitB, hitC]
  rw [this, Bool.false_or]

end Go.Proofs.Ythnjcaioeaepjaa

/-
  Line breaks: which of two divisions is preferred; the law of it.
-/
import Derived.Test.YtdgifbmimfnmlaaS32D
namespace Go.Proofs.Ytdgifbmimfnmlaa
open Go Go.Ab
set_option linter.unusedVariables false
set_option linter.unnecessarySimpa false
set_option linter.unusedSimpArgs false
set_option maxRecDepth 100000
variable {H : List (List Row)}

theorem c41 (x : Int) : call tbl 41 [.i x] H = some (.bool false) := by
  refine (call_start (show tbl 41 = some a41 from rfl)).trans ?_
  unfold a41
  simp (config := { maxSteps := 10000000 }) (disch := omega) only [↓G_seq, ↓G_ret, ↓G_region, ↓G_ops_nil, ↓G_op, Gv_some, killAll, ↓get_setS, evalOp, ev, Ab.get, b_neq, one, Option.map_some, Option.bind_some, finish, resVs, resV, outVs, ownsLast, tupOf, List.all_nil, List.getElem?_cons_zero, List.getElem?_cons_succ, reduceCtorEq, ↓reduceIte, Nat.succ_ne_self, decide_true, Bool.not_true, ov_bool, fn_some]
def cmpI (x y : Int) : Int := if x = y then 0 else if x < y then -1 else 1
theorem c38 (x y : Int) : call tbl 38 [.i x, .i y] H = some (.i (cmpI x y)) := by
  refine (call_start (show tbl 38 = some a38 from rfl)).trans ?_
  unfold cmpI
  have c : x = y ∨ x < y ∨ y < x := by omega
  rcases c with c | c | c
  · rw [if_pos c]
    unfold a38
    simp (config := { maxSteps := 10000000 }) (disch := omega) only [↓G_seq, ↓G_skip, ↓G_ret, ↓G_region, ↓G_cond, ↓G_ops_nil, ↓G_op, Gv_some, Gc_false, dec_f, killAll, ↓get_setS, evalOp, ev, evs, Ab.get, b_lss, b_gtr, one, Option.map_some, Option.bind_some, finish, resVs, resV, outVs, ownsLast, tupOf, callV, V.shift, V.shifts, List.append_nil, List.all_nil, List.getElem?_cons_zero, List.getElem?_cons_succ, Nat.reduceEqDiff, reduceCtorEq, ↓reduceIte, Nat.succ_ne_self, bne_self_eq_false, Int.reduceNeg, ti_bool, ov_int, fn_some, c41]
  · rw [if_neg (by omega), if_pos c]
    unfold a38
    simp (config := { maxSteps := 10000000 }) (disch := omega) only [↓G_seq, ↓G_skip, ↓G_ret, ↓G_region, ↓G_cond, ↓G_ops_nil, ↓G_op, Gv_some, Gc_true, Gc_false, dec_t, killAll, ↓get_setS, evalOp, ev, evs, Ab.get, b_lss, one, Option.map_some, Option.bind_some, finish, resVs, resV, outVs, ownsLast, tupOf, callV, V.shift, V.shifts, List.append_nil, List.all_nil, List.getElem?_cons_zero, List.getElem?_cons_succ, Nat.reduceEqDiff, reduceCtorEq, ↓reduceIte, Nat.succ_ne_self, bne_self_eq_false, Int.reduceNeg, ti_bool, ov_int, fn_some, c41]
  · rw [if_neg (by omega), if_neg (by omega)]
    unfold a38
    simp (config := { maxSteps := 10000000 }) (disch := omega) only [↓G_seq, ↓G_skip, ↓G_ret, ↓G_region, ↓G_cond, ↓G_ops_nil, ↓G_op, Gv_some, Gc_true, Gc_false, dec_t, dec_f, killAll, ↓get_setS, evalOp, ev, evs, Ab.get, b_lss, b_gtr, one, Option.map_some, Option.bind_some, finish, resVs, resV, outVs, ownsLast, tupOf, callV, V.shift, V.shifts, List.append_nil, List.all_nil, List.getElem?_cons_zero, List.getElem?_cons_succ, Nat.reduceEqDiff, reduceCtorEq, ↓reduceIte, Nat.succ_ne_self, bne_self_eq_false, Int.reduceNeg, ti_bool, ov_int, fn_some, c41]

def lexc : List Int → List Int → Int
  | x :: a, y :: b => if x = y then lexc a b else cmpI x y
  | [], [] => 0
  | [], _ :: _ => -1
  | _ :: _, [] => 1
def lexI : List Int → List Int → Bool
  | x :: a, y :: b => if x = y then lexI a b else decide (x < y)
  | _, _ => false
def betI (a b : List Int) : Bool := if a.length = b.length then lexI a b else decide (a.length < b.length)
theorem lexc_I : ∀ (a b : List Int), a.length = b.length → decide (lexc a b < 0) = lexI a b
  | [], [], _ => rfl
  | x :: a, y :: b, h => by
    unfold lexc lexI
    by_cases e : x = y
    · rw [if_pos e, if_pos e]
      exact lexc_I a b (by simpa using h)
    · rw [if_neg e, if_neg e]
      unfold cmpI
      rw [if_neg e]
      by_cases c : x < y
      · rw [if_pos c, decide_eq_true c]; rfl
      · rw [if_neg c, decide_eq_false c]; rfl
  | [], _ :: _, h => by simp at h
  | _ :: _, [], h => by simp at h
theorem lexI_irr : ∀ a : List Int, lexI a a = false
  | [] => rfl
  | x :: a => by simp [lexI, lexI_irr a]
theorem lexI_asym : ∀ a b : List Int, lexI a b = true → lexI b a = false
  | [], _, h => by simp [lexI] at h
  | _ :: _, [], h => by simp [lexI] at h
  | x :: a, y :: b, h => by
    unfold lexI at h ⊢
    by_cases e : x = y
    · rw [if_pos e] at h
      rw [if_pos e.symm]
      exact lexI_asym a b h
    · rw [if_neg e] at h
      rw [if_neg (fun z => e z.symm)]
      have := of_decide_eq_true h
      exact decide_eq_false (by omega)
theorem lexI_trans : ∀ a b c : List Int, lexI a b = true → lexI b c = true → lexI a c = true
  | [], _, _, h, _ => by simp [lexI] at h
  | _ :: _, [], _, h, _ => by simp [lexI] at h
  | _ :: _, _ :: _, [], _, h => by simp [lexI] at h
  | x :: a, y :: b, z :: c, h, k => by
    unfold lexI at h k ⊢
    by_cases e : x = y
    · rw [if_pos e] at h
      subst e
      by_cases f : x = z
      · rw [if_pos f] at k ⊢
        exact lexI_trans a b c h k
      · rw [if_neg f] at k ⊢
        exact k
    · rw [if_neg e] at h
      have h := of_decide_eq_true h
      by_cases f : y = z
      · subst f
        rw [if_neg e]
        exact decide_eq_true h
      · rw [if_neg f] at k
        have k := of_decide_eq_true k
        rw [if_neg (by omega)]
        exact decide_eq_true (by omega)
theorem betI_irr (a : List Int) : betI a a = false := by simp [betI, lexI_irr]
theorem betI_asym {a b : List Int} (h : betI a b = true) : betI b a = false := by
  unfold betI at h ⊢
  by_cases e : a.length = b.length
  · rw [if_pos e] at h
    rw [if_pos e.symm]
    exact lexI_asym a b h
  · rw [if_neg e] at h
    rw [if_neg (fun z => e z.symm)]
    have := of_decide_eq_true h
    exact decide_eq_false (by omega)
theorem betI_trans {a b c : List Int} (h : betI a b = true) (k : betI b c = true) : betI a c = true := by
  unfold betI at h k ⊢
  by_cases e : a.length = b.length
  · rw [if_pos e] at h
    by_cases f : b.length = c.length
    · rw [if_pos f] at k
      rw [if_pos (e.trans f)]
      exact lexI_trans a b c h k
    · rw [if_neg f] at k
      rw [if_neg (by omega)]
      have := of_decide_eq_true k
      exact decide_eq_true (by omega)
  · rw [if_neg e] at h
    have h := of_decide_eq_true h
    by_cases f : b.length = c.length
    · rw [if_neg (by omega)]
      exact decide_eq_true (by omega)
    · rw [if_neg f] at k
      have := of_decide_eq_true k
      rw [if_neg (by omega)]
      exact decide_eq_true (by omega)
theorem lexI_zs : ∀ (a b : List Nat), lexI (zs a) (zs b) = Path.lexlt a b
  | [], b => by cases b <;> rfl
  | x :: a, [] => rfl
  | x :: a, y :: b => by
    have := lexI_zs a b
    simp only [zs, List.map_cons, lexI, Path.lexlt] at this ⊢
    rw [this]
    by_cases e : x = y
    · rw [if_pos e, if_pos (by omega)]
    · rw [if_neg e, if_neg (by omega)]
      by_cases c : x < y
      · rw [decide_eq_true c, decide_eq_true (by omega)]
      · rw [decide_eq_false c, decide_eq_false (by omega)]
theorem betI_zs (a b : List Nat) : betI (zs a) (zs b) = Path.bet a b := by
  unfold betI Path.bet
  rw [zs_len, zs_len, lexI_zs]

theorem loop34 {k : List KI} {v y : V} {a b : List Int} (hl : a.length ≤ 4611686018427387904) (hab : a.length = b.length) (hv : SlV 1 v (I1 a)) (hy : SlV 1 y (I1 b))
    (hx : ∀ fr' L', Ab.get fr' 0 = v → Ab.get fr' 1 = y → Gx tbl H [.tmp 4] 0 k fr' L' = some (.i 0)) :
    ∀ (t s : List Int) (i : Nat) (fr : List V) (L : List Row), a.drop i = t → b.drop i = s → i ≤ a.length → Ab.get fr 0 = v → Ab.get fr 1 = y → Ab.get fr 9 = v → Ab.get fr 10 = .i (a.length : Nat) → Ab.get fr 11 = .i (i : Nat) →
    G tbl H [.tmp 4] (.code (.loop ( (.seq ( .region [] [ ⟨some 12, .bin .lss (.t 11) (.t 10), none⟩]) ( (.seq ( (.cond (.t 12) ( .skip) ( .exit 0))) ( (.seq ( (.block 1 ( (.seq ( .region [] [ ⟨some 13, .mv (.t 11), none⟩, ⟨some 14, .elemAddr 1 (.t 9) (.t 11), none⟩, ⟨some 15, .load false 1 (.t 14), none⟩, ⟨some 5, .mv (.t 13), none⟩, ⟨some 6, .mv (.t 15), none⟩]) ( (.seq ( (.seq ( .region [] [ ⟨some 16, .mv (.t 5), none⟩, ⟨some 17, .mv (.t 1), none⟩, ⟨some 18, .len (.t 17), none⟩, ⟨some 19, .bin .geq (.t 16) (.t 18), none⟩]) ( (.cond (.t 19) ( (.seq ( .region [] [ ⟨some 4, .mv (.c (.int .i64 1)), none⟩]) ( .ret))) ( .skip))))) ( (.seq ( .region [] [ ⟨some 20, .mv (.t 1), none⟩, ⟨some 21, .mv (.t 5), none⟩, ⟨some 22, .elemAddr 1 (.t 20) (.t 21), none⟩, ⟨some 23, .load false 1 (.t 22), none⟩, ⟨some 7, .mv (.t 23), none⟩]) ( (.seq ( .region [] [ ⟨some 24, .mv (.t 6), none⟩, ⟨some 25, .mv (.t 7), none⟩, ⟨some 26, .call 0 (.c (.fn 38 [])) [(.t 24), (.t 25)], none⟩, ⟨some 8, .mv (.t 26), none⟩]) ( (.seq ( .region [] [ ⟨some 27, .mv (.t 8), none⟩, ⟨some 28, .bin .neq (.t 27) (.c (.int .i64 0)), none⟩]) ( (.cond (.t 28) ( (.seq ( .region [] [ ⟨some 29, .mv (.t 8), none⟩, ⟨some 4, .mv (.t 29), none⟩]) ( .ret))) ( .skip))))))))))))))) ( .region [] [ ⟨some 30, .bin .add (.t 11) (.c (.int .i64 1)), none⟩, ⟨some 11, .mv (.t 30), none⟩])))))))) :: k) fr L = some (.i (lexc t s)) := by
  intro t
  have hly := hy.len
  rw [I1_len] at hly
  induction t with
  | nil =>
    intro s i fr L ht hs hi h0 h1 h9 h10 h11
    have := drop_nil ht
    have hs' : s = [] := by rw [← hs, List.drop_of_length_le (by omega)]
    subst hs'
    rw [show lexc [] [] = 0 from rfl]
    refine G_loop.trans ?_
    simp (config := { maxSteps := 10000000 }) (disch := omega) only [↓G_seq, ↓G_exit, ↓G_region, ↓G_cond, ↓Gx_code, ↓G_ops_nil, ↓G_op, Gv_some, Gc_false, dec_f, killAll, ↓get_setS, evalOp, ev, b_lss, one, Option.map_some, List.getElem?_cons_zero, List.getElem?_cons_succ, ↓reduceIte, h10, h11]
    refine hx _ _ ?_ ?_
    all_goals simp (config := { maxSteps := 10000000 }) (disch := omega) only [↓get_setS, List.getElem?_cons_zero, List.getElem?_cons_succ, Nat.reduceEqDiff, reduceCtorEq, ↓reduceIte, h0, h1]
  | cons x t ih =>
    intro s i fr L ht hs hi h0 h1 h9 h10 h11
    obtain ⟨e1, e2, e3⟩ := drop_cons ht
    cases s with
    | nil => have := drop_nil hs; omega
    | cons z s =>
      obtain ⟨f1, f2, f3⟩ := drop_cons hs
      have hE := hv.el (I1_get _ i _ e1)
      have hE2 := hy.el (I1_get _ i _ f1)
      have h38 := fun H => c38 (H := H) x z
      unfold lexc
      by_cases c : x = z
      · rw [if_pos c]
        rw [show cmpI x z = 0 by unfold cmpI; rw [if_pos c]] at h38
        have nx := fun fr' L' => ih s (i + 1) fr' L' e2 f2 (by omega)
        clear ih hx
        refine G_loop.trans ?_
        simp (config := { maxSteps := 10000000 }) (disch := omega) only [↓G_seq, ↓G_skip, ↓G_blk, ↓G_region, ↓G_block, ↓G_cond, ↓G_ops_nil, ↓G_op, Gv_some, Gc_true, Gc_false, dec_t, dec_f, killAll, ↓get_setS, evalOp, ev, evs, b_add, b_neq, b_lss, b_geq, wrap_i64, one, Option.map_some, callV, V.shift, V.shifts, List.append_nil, List.getElem?_cons_zero, List.getElem?_cons_succ, Nat.reduceEqDiff, ↓reduceIte, Nat.succ_ne_self, decide_true, Bool.not_true, bne_self_eq_false, Bool.false_eq_true, pick3, loadV, ti_int, h1, h9, h10, h11, hly, hE, hE2, h38]
        refine nx _ _ ?_ ?_ ?_ ?_ ?_
        all_goals simp (config := { maxSteps := 10000000 }) (disch := omega) only [↓get_setS, List.getElem?_cons_zero, List.getElem?_cons_succ, Nat.reduceEqDiff, reduceCtorEq, ↓reduceIte, Nat.succ_ne_self, h0, h1, h9, h10]
        congr 1
      · rw [if_neg c]
        have : cmpI x z < 0 ∨ 0 < cmpI x z := by
          unfold cmpI
          rw [if_neg c]
          split <;> omega
        generalize cmpI x z = q at *
        clear ih hx
        refine G_loop.trans ?_
        simp (config := { maxSteps := 10000000 }) (disch := omega) only [↓G_seq, ↓G_skip, ↓G_ret, ↓G_region, ↓G_block, ↓G_cond, ↓G_ops_nil, ↓G_op, Gv_some, Gc_true, Gc_false, dec_t, dec_f, killAll, ↓get_setS, evalOp, ev, evs, b_neq, b_lss, b_geq, one, Option.map_some, Option.bind_some, finish, resVs, resV, outVs, ownsLast, tupOf, callV, V.shift, V.shifts, List.append_nil, List.all_nil, List.getElem?_cons_zero, List.getElem?_cons_succ, Nat.reduceEqDiff, ↓reduceIte, Nat.succ_ne_self, Bool.not_false, bne_self_eq_false, Bool.false_eq_true, pick3, loadV, ti_int, ov_int, fn_some, h1, h9, h10, h11, hly, hE, hE2, h38]

theorem c34 {v y : V} {a b : List Int} (hl : a.length ≤ 4611686018427387904) (hab : a.length = b.length) (hv : SlV 1 v (I1 a)) (hy : SlV 1 y (I1 b)) : call tbl 34 [v, y] H = some (.i (lexc a b)) := by
  refine (call_start (show tbl 34 = some a34 from rfl)).trans ?_
  have hlv := hv.len
  rw [I1_len] at hlv
  have hly := hy.len
  rw [I1_len] at hly
  unfold a34
  simp (config := { maxSteps := 10000000 }) (disch := omega) only [↓G_seq, ↓G_region, ↓G_block, ↓G_ops_nil, ↓G_op, Gv_some, killAll, ↓get_setS, evalOp, ev, Ab.get, one, Option.map_some, List.getElem?_cons_zero, List.getElem?_cons_succ, reduceCtorEq, ↓reduceIte, Int.reduceNeg, hlv]
  refine loop34 hl hab hv hy (fun fr' L' g0 g1 => ?_) a b 0 _ _ rfl rfl (by omega) ?_ ?_ ?_ ?_ ?_
  · simp (config := { maxSteps := 10000000 }) (disch := omega) only [↓G_seq, ↓G_skip, ↓G_ret, ↓G_region, ↓G_cond, ↓Gx_blk, ↓G_ops_nil, ↓G_op, Gv_some, Gc_false, dec_f, killAll, ↓get_setS, evalOp, ev, b_lss, one, Option.map_some, Option.bind_some, finish, resVs, resV, outVs, ownsLast, tupOf, List.all_nil, List.getElem?_cons_zero, List.getElem?_cons_succ, Nat.reduceEqDiff, ↓reduceIte, Nat.succ_ne_self, Int.reduceNeg, ov_int, fn_some, g0, g1, hlv, hly]
  all_goals simp (config := { maxSteps := 10000000 }) (disch := omega) only [↓get_setS, Ab.get, List.getElem?_cons_zero, List.getElem?_cons_succ, Nat.reduceEqDiff, reduceCtorEq, ↓reduceIte, Nat.succ_ne_self, Int.cast_ofNat_Int]

theorem c22 {v y : V} {a b : List Int} (hl : a.length ≤ 4611686018427387904) (hl2 : b.length ≤ 4611686018427387904) (hv : SlV 1 v (I1 a)) (hy : SlV 1 y (I1 b)) : call tbl 22 [v, y] H = some (.bool (betI a b)) := by
  refine (call_start (show tbl 22 = some a22 from rfl)).trans ?_
  have hlv := hv.len
  rw [I1_len] at hlv
  have hly := hy.len
  rw [I1_len] at hly
  have hsh := hv.sh
  have hyh := hy.sh
  unfold betI
  by_cases h : a.length = b.length
  · have h34 := fun H => c34 (H := H) hl h hv hy
    rw [if_pos h, ← lexc_I a b h]
    by_cases c : lexc a b < 0
    · rw [decide_eq_true c]
      unfold a22
      simp (config := { maxSteps := 10000000 }) (disch := omega) only [↓G_seq, ↓G_skip, ↓G_ret, ↓G_region, ↓G_cond, ↓G_ops_nil, ↓G_op, Gv_some, Gc_false, dec_t, killAll, ↓get_setS, evalOp, ev, evs, Ab.get, b_neq, b_lss, one, Option.map_some, Option.bind_some, finish, resVs, resV, outVs, ownsLast, tupOf, callV, V.shifts, List.append_nil, List.all_nil, List.getElem?_cons_zero, List.getElem?_cons_succ, Nat.reduceEqDiff, reduceCtorEq, ↓reduceIte, Nat.succ_ne_self, Bool.not_true, bne_self_eq_false, ti_int, ov_bool, fn_some, hlv, hly, hsh, hyh, h34]
    · rw [decide_eq_false c]
      unfold a22
      simp (config := { maxSteps := 10000000 }) (disch := omega) only [↓G_seq, ↓G_skip, ↓G_ret, ↓G_region, ↓G_cond, ↓G_ops_nil, ↓G_op, Gv_some, Gc_false, dec_t, dec_f, killAll, ↓get_setS, evalOp, ev, evs, Ab.get, b_neq, b_lss, one, Option.map_some, Option.bind_some, finish, resVs, resV, outVs, ownsLast, tupOf, callV, V.shifts, List.append_nil, List.all_nil, List.getElem?_cons_zero, List.getElem?_cons_succ, Nat.reduceEqDiff, reduceCtorEq, ↓reduceIte, Nat.succ_ne_self, Bool.not_true, bne_self_eq_false, ti_int, ov_bool, fn_some, hlv, hly, hsh, hyh, h34]
  · rw [if_neg h]
    by_cases c : a.length < b.length
    · rw [decide_eq_true c]
      unfold a22
      simp (config := { maxSteps := 10000000 }) (disch := omega) only [↓G_seq, ↓G_ret, ↓G_region, ↓G_cond, ↓G_ops_nil, ↓G_op, Gv_some, Gc_true, dec_t, dec_f, killAll, ↓get_setS, evalOp, ev, Ab.get, b_neq, b_lss, one, Option.map_some, Option.bind_some, finish, resVs, resV, outVs, ownsLast, tupOf, List.all_nil, List.getElem?_cons_zero, List.getElem?_cons_succ, Nat.reduceEqDiff, reduceCtorEq, ↓reduceIte, Nat.succ_ne_self, Bool.not_false, ov_bool, fn_some, hlv, hly]
    · rw [decide_eq_false c]
      unfold a22
      simp (config := { maxSteps := 10000000 }) (disch := omega) only [↓G_seq, ↓G_ret, ↓G_region, ↓G_cond, ↓G_ops_nil, ↓G_op, Gv_some, Gc_true, dec_f, killAll, ↓get_setS, evalOp, ev, Ab.get, b_neq, b_lss, one, Option.map_some, Option.bind_some, finish, resVs, resV, outVs, ownsLast, tupOf, List.all_nil, List.getElem?_cons_zero, List.getElem?_cons_succ, Nat.reduceEqDiff, reduceCtorEq, ↓reduceIte, Nat.succ_ne_self, Bool.not_false, ov_bool, fn_some, hlv, hly]

theorem loop23 {k : List KI} {v y : V} {a b : List Int} (hl : a.length ≤ 4611686018427387904) (hab : a.length = b.length) (hv : SlV 1 v (I1 a)) (hy : SlV 1 y (I1 b))
    (hx : ∀ fr' L', Gx tbl H [.tmp 4] 0 k fr' L' = some (.bool false)) :
    ∀ (t s : List Int) (i : Nat) (fr : List V) (L : List Row), a.drop i = t → b.drop i = s → i ≤ a.length → Ab.get fr 0 = v → Ab.get fr 1 = y → Ab.get fr 5 = .i (i : Nat) →
    G tbl H [.tmp 4] (.code (.loop ( (.seq ( (.seq ( .region [] [ ⟨some 16, .mv (.t 5), none⟩, ⟨some 17, .mv (.t 0), none⟩, ⟨some 18, .len (.t 17), none⟩, ⟨some 19, .bin .lss (.t 16) (.t 18), none⟩]) ( (.cond (.t 19) ( .skip) ( .exit 0))))) ( (.seq ( (.block 1 ( (.seq ( .region [] [ ⟨some 22, .mv (.t 0), none⟩, ⟨some 23, .mv (.t 5), none⟩, ⟨some 24, .elemAddr 1 (.t 22) (.t 23), none⟩, ⟨some 25, .load false 1 (.t 24), none⟩, ⟨some 26, .mv (.t 1), none⟩, ⟨some 27, .mv (.t 5), none⟩, ⟨some 28, .elemAddr 1 (.t 26) (.t 27), none⟩, ⟨some 29, .load false 1 (.t 28), none⟩, ⟨some 30, .bin .neq (.t 25) (.t 29), none⟩]) ( (.cond (.t 30) ( (.seq ( .region [] [ ⟨some 31, .mv (.t 0), none⟩, ⟨some 32, .mv (.t 5), none⟩, ⟨some 33, .elemAddr 1 (.t 31) (.t 32), none⟩, ⟨some 34, .load false 1 (.t 33), none⟩, ⟨some 35, .mv (.t 1), none⟩, ⟨some 36, .mv (.t 5), none⟩, ⟨some 37, .elemAddr 1 (.t 35) (.t 36), none⟩, ⟨some 38, .load false 1 (.t 37), none⟩, ⟨some 39, .bin .lss (.t 34) (.t 38), none⟩, ⟨some 4, .mv (.t 39), none⟩]) ( .ret))) ( .skip))))))) ( .region [] [ ⟨some 20, .mv (.t 5), none⟩, ⟨some 21, .bin .add (.t 20) (.c (.int .i64 1)), none⟩, ⟨some 5, .mv (.t 21), none⟩])))))) :: k) fr L = some (.bool (lexI t s)) := by
  intro t
  have hlen := hv.len
  rw [I1_len] at hlen
  induction t with
  | nil =>
    intro s i fr L ht hs hi h0 h1 h5
    have := drop_nil ht
    have hs' : s = [] := by rw [← hs, List.drop_of_length_le (by omega)]
    subst hs'
    rw [show lexI [] [] = false from rfl]
    refine G_loop.trans ?_
    simp (config := { maxSteps := 10000000 }) (disch := omega) only [↓G_seq, ↓G_exit, ↓G_region, ↓G_cond, ↓Gx_code, ↓G_ops_nil, ↓G_op, Gv_some, Gc_false, dec_f, killAll, ↓get_setS, evalOp, ev, b_lss, one, Option.map_some, List.getElem?_cons_zero, List.getElem?_cons_succ, Nat.reduceEqDiff, reduceCtorEq, ↓reduceIte, Nat.succ_ne_self, h0, h5, hlen, hx]
  | cons x t ih =>
    intro s i fr L ht hs hi h0 h1 h5
    obtain ⟨e1, e2, e3⟩ := drop_cons ht
    cases s with
    | nil => have := drop_nil hs; omega
    | cons z s =>
      obtain ⟨f1, f2, f3⟩ := drop_cons hs
      have hE := hv.el (I1_get _ i _ e1)
      have hE2 := hy.el (I1_get _ i _ f1)
      unfold lexI
      by_cases c : x = z
      · rw [if_pos c]
        have nx := fun fr' L' => ih s (i + 1) fr' L' e2 f2 (by omega)
        clear ih hx
        refine G_loop.trans ?_
        simp (config := { maxSteps := 10000000 }) (disch := omega) only [↓G_seq, ↓G_skip, ↓G_blk, ↓G_region, ↓G_block, ↓G_cond, ↓G_ops_nil, ↓G_op, Gv_some, Gc_true, Gc_false, dec_t, killAll, ↓get_setS, evalOp, ev, b_add, b_neq, b_lss, wrap_i64, one, Option.map_some, List.getElem?_cons_zero, List.getElem?_cons_succ, Nat.reduceEqDiff, reduceCtorEq, ↓reduceIte, Nat.succ_ne_self, Bool.not_true, Bool.false_eq_true, pick3, loadV, h0, h1, h5, hlen, hE, hE2]
        refine nx _ _ ?_ ?_ ?_
        all_goals simp (config := { maxSteps := 10000000 }) (disch := omega) only [↓get_setS, List.getElem?_cons_zero, List.getElem?_cons_succ, Nat.reduceEqDiff, reduceCtorEq, ↓reduceIte, h0, h1]
        congr 1
      · rw [if_neg c]
        clear ih hx
        by_cases c2 : x < z
        · rw [decide_eq_true c2]
          refine G_loop.trans ?_
          simp (config := { maxSteps := 10000000 }) (disch := omega) only [↓G_seq, ↓G_skip, ↓G_ret, ↓G_region, ↓G_block, ↓G_cond, ↓G_ops_nil, ↓G_op, Gv_some, Gc_true, dec_t, dec_f, killAll, ↓get_setS, evalOp, ev, b_neq, b_lss, one, Option.map_some, Option.bind_some, finish, resVs, resV, outVs, ownsLast, tupOf, List.all_nil, List.getElem?_cons_zero, List.getElem?_cons_succ, Nat.reduceEqDiff, reduceCtorEq, ↓reduceIte, Nat.succ_ne_self, Bool.not_false, Bool.false_eq_true, pick3, loadV, ov_bool, fn_some, h0, h1, h5, hlen, hE, hE2]
        · rw [decide_eq_false c2]
          refine G_loop.trans ?_
          simp (config := { maxSteps := 10000000 }) (disch := omega) only [↓G_seq, ↓G_skip, ↓G_ret, ↓G_region, ↓G_block, ↓G_cond, ↓G_ops_nil, ↓G_op, Gv_some, Gc_true, dec_t, dec_f, killAll, ↓get_setS, evalOp, ev, b_neq, b_lss, one, Option.map_some, Option.bind_some, finish, resVs, resV, outVs, ownsLast, tupOf, List.all_nil, List.getElem?_cons_zero, List.getElem?_cons_succ, Nat.reduceEqDiff, reduceCtorEq, ↓reduceIte, Nat.succ_ne_self, Bool.not_false, Bool.false_eq_true, pick3, loadV, ov_bool, fn_some, h0, h1, h5, hlen, hE, hE2]

theorem c23 {v y : V} {a b : List Int} (hl : a.length ≤ 4611686018427387904) (hl2 : b.length ≤ 4611686018427387904) (hv : SlV 1 v (I1 a)) (hy : SlV 1 y (I1 b)) : call tbl 23 [v, y] H = some (.bool (betI a b)) := by
  refine (call_start (show tbl 23 = some a23 from rfl)).trans ?_
  have hlv := hv.len
  rw [I1_len] at hlv
  have hly := hy.len
  rw [I1_len] at hly
  unfold betI
  by_cases h : a.length = b.length
  · rw [if_pos h]
    unfold a23
    simp (config := { maxSteps := 10000000 }) (disch := omega) only [↓G_seq, ↓G_skip, ↓G_region, ↓G_block, ↓G_cond, ↓G_ops_nil, ↓G_op, Gv_some, Gc_false, dec_t, killAll, ↓get_setS, evalOp, ev, Ab.get, b_neq, one, Option.map_some, List.getElem?_cons_zero, List.getElem?_cons_succ, Nat.reduceEqDiff, reduceCtorEq, ↓reduceIte, Nat.succ_ne_self, Bool.not_true, hlv, hly]
    refine loop23 hl h hv hy (fun fr' L' => ?_) a b 0 _ _ rfl rfl (by omega) ?_ ?_ ?_
    all_goals simp (config := { maxSteps := 10000000 }) (disch := omega) only [↓G_seq, ↓G_ret, ↓G_region, ↓Gx_blk, ↓G_ops_nil, ↓G_op, Gv_some, killAll, ↓get_setS, evalOp, ev, Ab.get, Option.map_some, Option.bind_some, finish, resVs, resV, outVs, ownsLast, tupOf, List.all_nil, List.getElem?_cons_zero, List.getElem?_cons_succ, Nat.reduceEqDiff, reduceCtorEq, ↓reduceIte, Int.cast_ofNat_Int, ov_bool, fn_some]
  · rw [if_neg h]
    by_cases c : a.length < b.length
    · rw [decide_eq_true c]
      unfold a23
      simp (config := { maxSteps := 10000000 }) (disch := omega) only [↓G_seq, ↓G_ret, ↓G_region, ↓G_cond, ↓G_ops_nil, ↓G_op, Gv_some, Gc_true, dec_t, dec_f, killAll, ↓get_setS, evalOp, ev, Ab.get, b_neq, b_lss, one, Option.map_some, Option.bind_some, finish, resVs, resV, outVs, ownsLast, tupOf, List.all_nil, List.getElem?_cons_zero, List.getElem?_cons_succ, Nat.reduceEqDiff, reduceCtorEq, ↓reduceIte, Nat.succ_ne_self, Bool.not_false, ov_bool, fn_some, hlv, hly]
    · rw [decide_eq_false c]
      unfold a23
      simp (config := { maxSteps := 10000000 }) (disch := omega) only [↓G_seq, ↓G_ret, ↓G_region, ↓G_cond, ↓G_ops_nil, ↓G_op, Gv_some, Gc_true, dec_f, killAll, ↓get_setS, evalOp, ev, Ab.get, b_neq, b_lss, one, Option.map_some, Option.bind_some, finish, resVs, resV, outVs, ownsLast, tupOf, List.all_nil, List.getElem?_cons_zero, List.getElem?_cons_succ, Nat.reduceEqDiff, reduceCtorEq, ↓reduceIte, Nat.succ_ne_self, Bool.not_false, ov_bool, fn_some, hlv, hly]

/-- The law of preference. -/
theorem l9 {v y u : V} {a b c : List Int} (ha : a.length ≤ 9223372036854775807) (hb : b.length ≤ 9223372036854775807) (hc : c.length ≤ 9223372036854775807) (hv : SlV 1 v (I1 a)) (hy : SlV 1 y (I1 b)) (hu : SlV 1 u (I1 c)) : call tbl 9 [v, y, u] H = some (.bool true) := by
  refine (call_start (show tbl 9 = some a9 from rfl)).trans ?_
  have hlv := hv.len
  rw [I1_len] at hlv
  have hly := hy.len
  rw [I1_len] at hly
  have hlu := hu.len
  rw [I1_len] at hlu
  by_cases g1 : 40 < a.length
  · unfold a9
    simp (config := { maxSteps := 10000000 }) (disch := omega) only [↓G_seq, ↓G_ret, ↓G_region, ↓G_cond, ↓G_ops_nil, ↓G_op, Gv_some, ↓G_gop, Gw_ff, Gw_ft, Gc_true, dec_t, killAll, ↓get_setS, evalOp, ev, evs, Ab.get, b_gtr, one, Option.map_some, Option.bind_some, asB, finish, resVs, resV, outVs, ownsLast, tupOf, callV, V.shifts, List.append_nil, List.all_nil, List.getElem?_cons_zero, List.getElem?_cons_succ, Nat.reduceEqDiff, reduceCtorEq, ↓reduceIte, Nat.succ_ne_self, Bool.not_true, bne_self_eq_false, Bool.false_eq_true, ti_bool, ov_bool, fn_some, hlv, c10]
    done
  by_cases g2 : 40 < b.length
  · unfold a9
    simp (config := { maxSteps := 10000000 }) (disch := omega) only [↓G_seq, ↓G_ret, ↓G_region, ↓G_cond, ↓G_ops_nil, ↓G_op, Gv_some, ↓G_gop, Gw_ff, Gw_ft, Gc_true, dec_t, dec_f, killAll, ↓get_setS, evalOp, ev, evs, Ab.get, b_gtr, one, Option.map_some, Option.bind_some, asB, finish, resVs, resV, outVs, ownsLast, tupOf, callV, V.shifts, List.append_nil, List.all_nil, List.getElem?_cons_zero, List.getElem?_cons_succ, Nat.reduceEqDiff, reduceCtorEq, ↓reduceIte, Nat.succ_ne_self, Bool.not_true, bne_self_eq_false, Bool.false_eq_true, ti_bool, ov_bool, fn_some, hlv, hly, c10]
    done
  by_cases g3 : 40 < c.length
  · unfold a9
    simp (config := { maxSteps := 10000000 }) (disch := omega) only [↓G_seq, ↓G_ret, ↓G_region, ↓G_cond, ↓G_ops_nil, ↓G_op, Gv_some, ↓G_gop, Gw_ff, Gc_true, dec_t, dec_f, killAll, ↓get_setS, evalOp, ev, evs, Ab.get, b_gtr, one, Option.map_some, Option.bind_some, asB, finish, resVs, resV, outVs, ownsLast, tupOf, callV, V.shifts, List.append_nil, List.all_nil, List.getElem?_cons_zero, List.getElem?_cons_succ, Nat.reduceEqDiff, reduceCtorEq, ↓reduceIte, Nat.succ_ne_self, Bool.not_true, bne_self_eq_false, Bool.false_eq_true, ti_bool, ov_bool, fn_some, hlv, hly, hlu, c10]
    done
  have h1 := fun H => c22 (H := H) (by omega) (by omega) hv hy
  have h2 := fun H => c22 (H := H) (by omega) (by omega) hy hu
  have h3 := fun H => c22 (H := H) (by omega) (by omega) hv hu
  have h4 := fun H => c22 (H := H) (by omega) (by omega) hv hv
  have h5 := fun H => c22 (H := H) (by omega) (by omega) hy hv
  have k1 := fun H => c23 (H := H) (by omega) (by omega) hv hy
  have k2 := fun H => c23 (H := H) (by omega) (by omega) hy hu
  rw [betI_irr] at h4
  have asy := betI_asym (a := a) (b := b)
  have tr := betI_trans (a := a) (b := b) (c := c)
  have s1 := hv.sh
  have s2 := hy.sh
  have s3 := hu.sh
  generalize betI a b = p at *
  generalize betI b c = q at *
  generalize betI a c = r at *
  generalize betI b a = t at *
  clear hv hy hu
  cases p
  · cases q
    · cases r
      all_goals
        unfold a9
        simp (config := { maxSteps := 10000000 }) (disch := omega) only [beq_self_eq_true, ↓G_seq, ↓G_skip, ↓G_ret, ↓G_region, ↓G_cond, ↓G_ops_nil, ↓G_op, Gv_some, ↓G_gop, Gw_tt, Gw_ff, Gw_tf, Gw_ft, Gc_false, dec_f, killAll, ↓get_setS, evalOp, ev, evs, Ab.get, b_gtr, one, Option.map_some, Option.bind_some, asB, finish, resVs, resV, outVs, ownsLast, tupOf, callV, V.shifts, List.append_nil, List.all_nil, List.getElem?_cons_zero, List.getElem?_cons_succ, Nat.reduceEqDiff, reduceCtorEq, ↓reduceIte, Nat.succ_ne_self, Bool.not_true, Bool.not_false, bne_self_eq_false, Bool.false_eq_true, ti_bool, ov_bool, fn_some, hlv, hly, hlu, c10, h1, h2, h3, h4, k1, k2, s1, s2, s3]
        done
    · cases r
      all_goals
        unfold a9
        simp (config := { maxSteps := 10000000 }) (disch := omega) only [beq_self_eq_true, ↓G_seq, ↓G_skip, ↓G_ret, ↓G_region, ↓G_cond, ↓G_ops_nil, ↓G_op, Gv_some, ↓G_gop, Gw_tt, Gw_ff, Gw_tf, Gw_ft, Gc_false, dec_f, killAll, ↓get_setS, evalOp, ev, evs, Ab.get, b_gtr, one, Option.map_some, Option.bind_some, asB, finish, resVs, resV, outVs, ownsLast, tupOf, callV, V.shifts, List.append_nil, List.all_nil, List.getElem?_cons_zero, List.getElem?_cons_succ, Nat.reduceEqDiff, reduceCtorEq, ↓reduceIte, Nat.succ_ne_self, Bool.not_true, Bool.not_false, bne_self_eq_false, Bool.false_eq_true, ti_bool, ov_bool, fn_some, hlv, hly, hlu, c10, h1, h2, h3, h4, k1, k2, s1, s2, s3]
        done
  · have asy := asy rfl
    subst asy
    cases q
    · cases r
      all_goals
        unfold a9
        simp (config := { maxSteps := 10000000 }) (disch := omega) only [beq_self_eq_true, ↓G_seq, ↓G_skip, ↓G_ret, ↓G_region, ↓G_cond, ↓G_ops_nil, ↓G_op, Gv_some, ↓G_gop, Gw_tt, Gw_ff, Gw_ft, Gc_false, dec_f, killAll, ↓get_setS, evalOp, ev, evs, Ab.get, b_gtr, one, Option.map_some, Option.bind_some, asB, finish, resVs, resV, outVs, ownsLast, tupOf, callV, V.shifts, List.append_nil, List.all_nil, List.getElem?_cons_zero, List.getElem?_cons_succ, Nat.reduceEqDiff, reduceCtorEq, ↓reduceIte, Nat.succ_ne_self, Bool.not_true, Bool.not_false, bne_self_eq_false, Bool.false_eq_true, ti_bool, ov_bool, fn_some, hlv, hly, hlu, c10, h1, h2, h3, h4, h5, k1, k2, s1, s2, s3]
        done
    · have tr := tr rfl rfl
      subst tr
      unfold a9
      simp (config := { maxSteps := 10000000 }) (disch := omega) only [beq_self_eq_true, ↓G_seq, ↓G_skip, ↓G_ret, ↓G_region, ↓G_cond, ↓G_ops_nil, ↓G_op, Gv_some, ↓G_gop, Gw_tt, Gw_ff, Gc_false, dec_f, killAll, ↓get_setS, evalOp, ev, evs, Ab.get, b_gtr, one, Option.map_some, Option.bind_some, asB, finish, resVs, resV, outVs, ownsLast, tupOf, callV, V.shifts, List.append_nil, List.all_nil, List.getElem?_cons_zero, List.getElem?_cons_succ, Nat.reduceEqDiff, reduceCtorEq, ↓reduceIte, Nat.succ_ne_self, Bool.not_true, Bool.not_false, bne_self_eq_false, Bool.false_eq_true, ti_bool, ov_bool, fn_some, hlv, hly, hlu, c10, h1, h2, h3, h4, h5, k1, k2, s1, s2, s3]

end Go.Proofs.Ytdgifbmimfnmlaa

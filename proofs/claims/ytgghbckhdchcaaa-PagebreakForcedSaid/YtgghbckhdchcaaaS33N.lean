/-
  Page breaks: lists compared; page turns.
-/
import Derived.Test.YtgghbckhdchcaaaS33M
namespace Go.Proofs.Ytgghbckhdchcaaa
open Go Go.Ab
set_option linter.unusedVariables false
set_option linter.unnecessarySimpa false
set_option linter.unusedSimpArgs false
set_option maxRecDepth 100000
variable {H : List (List Row)}
open Path (Ch)

theorem loop20 {k : List KI} {v w : V} {a b : List Nat} (hl : a.length ≤ 4096) (hab : a.length = b.length) (hv : SlV 1 v (I1 (zs a))) (hw : SlV 1 w (I1 (zs b)))
    (hx : ∀ fr' L', Gx tbl H [.tmp 4] 0 k fr' L' = some (.bool false)) :
    ∀ (t s : List Nat) (i : Nat) (fr : List V) (L : List Row), a.drop i = t → b.drop i = s → i ≤ a.length → Ab.get fr 0 = v → Ab.get fr 1 = w → Ab.get fr 5 = .i (i : Nat) →
    G tbl H [.tmp 4] (.code (.loop ( (.seq ( (.seq ( .region [] [ ⟨some 16, .mv (.t 5), none⟩, ⟨some 17, .mv (.t 0), none⟩, ⟨some 18, .len (.t 17), none⟩, ⟨some 19, .bin .lss (.t 16) (.t 18), none⟩]) ( (.cond (.t 19) ( .skip) ( .exit 0))))) ( (.seq ( (.block 1 ( (.seq ( .region [] [ ⟨some 22, .mv (.t 0), none⟩, ⟨some 23, .mv (.t 5), none⟩, ⟨some 24, .elemAddr 1 (.t 22) (.t 23), none⟩, ⟨some 25, .load false 1 (.t 24), none⟩, ⟨some 26, .mv (.t 1), none⟩, ⟨some 27, .mv (.t 5), none⟩, ⟨some 28, .elemAddr 1 (.t 26) (.t 27), none⟩, ⟨some 29, .load false 1 (.t 28), none⟩, ⟨some 30, .bin .neq (.t 25) (.t 29), none⟩]) ( (.cond (.t 30) ( (.seq ( .region [] [ ⟨some 31, .mv (.t 0), none⟩, ⟨some 32, .mv (.t 5), none⟩, ⟨some 33, .elemAddr 1 (.t 31) (.t 32), none⟩, ⟨some 34, .load false 1 (.t 33), none⟩, ⟨some 35, .mv (.t 1), none⟩, ⟨some 36, .mv (.t 5), none⟩, ⟨some 37, .elemAddr 1 (.t 35) (.t 36), none⟩, ⟨some 38, .load false 1 (.t 37), none⟩, ⟨some 39, .bin .lss (.t 34) (.t 38), none⟩, ⟨some 4, .mv (.t 39), none⟩]) ( .ret))) ( .skip))))))) ( .region [] [ ⟨some 20, .mv (.t 5), none⟩, ⟨some 21, .bin .add (.t 20) (.c (.int .i64 1)), none⟩, ⟨some 5, .mv (.t 21), none⟩])))))) :: k) fr L = some (.bool (Path.lexlt t s)) := by
  intro t
  have hlen := hv.len
  rw [I1_len, zs_len] at hlen
  induction t with
  | nil =>
    intro s i fr L ht hs hi h0 h1 h5
    have := drop_nil ht
    have hs' : s = [] := by rw [← hs, List.drop_of_length_le (by omega)]
    subst hs'
    refine G_loop.trans ?_
    simp (config := { maxSteps := 10000000 }) (disch := omega) only [↓G_seq, ↓G_exit, ↓G_region, ↓G_cond, ↓Gx_code, ↓G_ops_nil, ↓G_op, Gv_some, Gc_false, dec_f, killAll, ↓get_setS, evalOp, ev, b_lss, one, Option.map_some, List.getElem?_cons_zero, List.getElem?_cons_succ, Nat.reduceEqDiff, reduceCtorEq, ↓reduceIte, Nat.succ_ne_self, h0, h5, hlen, hx]
    rfl
  | cons x t ih =>
    intro s i fr L ht hs hi h0 h1 h5
    obtain ⟨e1, e2, e3⟩ := drop_cons ht
    cases s with
    | nil => have := drop_nil hs; omega
    | cons y s =>
      obtain ⟨f1, f2, f3⟩ := drop_cons hs
      have hE := hv.el (I1_get _ i _ (zs_get e1))
      have hE2 := hw.el (I1_get _ i _ (zs_get f1))
      refine G_loop.trans ?_
      unfold Path.lexlt
      by_cases c : x = y
      · subst c
        rw [if_pos rfl]
        have nx := fun fr' L' => ih s (i + 1) fr' L' e2 f2 (by omega)
        clear ih hx
        simp (config := { maxSteps := 10000000 }) (disch := omega) only [↓G_seq, ↓G_skip, ↓G_blk, ↓G_region, ↓G_block, ↓G_cond, ↓G_ops_nil, ↓G_op, Gv_some, Gc_true, Gc_false, dec_t, killAll, ↓get_setS, evalOp, ev, b_add, b_neq, b_lss, wrap_i64, one, Option.map_some, List.getElem?_cons_zero, List.getElem?_cons_succ, Nat.reduceEqDiff, reduceCtorEq, ↓reduceIte, Nat.succ_ne_self, decide_true, Bool.not_true, Bool.false_eq_true, pick3, loadV, h0, h1, h5, hlen, hE, hE2]
        refine nx _ _ ?_ ?_ ?_
        all_goals simp (config := { maxSteps := 10000000 }) (disch := omega) only [↓get_setS, List.getElem?_cons_zero, List.getElem?_cons_succ, Nat.reduceEqDiff, reduceCtorEq, ↓reduceIte, h0, h1]
        congr 1
      · rw [if_neg c]
        clear ih hx
        by_cases c2 : x < y
        · rw [decide_eq_true c2]
          simp (config := { maxSteps := 10000000 }) (disch := omega) only [↓G_seq, ↓G_skip, ↓G_ret, ↓G_region, ↓G_block, ↓G_cond, ↓G_ops_nil, ↓G_op, Gv_some, Gc_true, dec_t, dec_f, killAll, ↓get_setS, evalOp, ev, b_neq, b_lss, one, Option.map_some, Option.bind_some, finish, resVs, resV, outVs, ownsLast, tupOf, List.all_nil, List.getElem?_cons_zero, List.getElem?_cons_succ, Nat.reduceEqDiff, reduceCtorEq, ↓reduceIte, Nat.succ_ne_self, Bool.not_false, Bool.false_eq_true, pick3, loadV, ov_bool, fn_some, h0, h1, h5, hlen, hE, hE2]
        · rw [decide_eq_false c2]
          simp (config := { maxSteps := 10000000 }) (disch := omega) only [↓G_seq, ↓G_skip, ↓G_ret, ↓G_region, ↓G_block, ↓G_cond, ↓G_ops_nil, ↓G_op, Gv_some, Gc_true, dec_t, dec_f, killAll, ↓get_setS, evalOp, ev, b_neq, b_lss, one, Option.map_some, Option.bind_some, finish, resVs, resV, outVs, ownsLast, tupOf, List.all_nil, List.getElem?_cons_zero, List.getElem?_cons_succ, Nat.reduceEqDiff, reduceCtorEq, ↓reduceIte, Nat.succ_ne_self, Bool.not_false, Bool.false_eq_true, pick3, loadV, ov_bool, fn_some, h0, h1, h5, hlen, hE, hE2]

theorem c20 {v w : V} {a b : List Nat} (hl : a.length ≤ 4096) (hl2 : b.length ≤ 9223372036854775807) (hv : SlV 1 v (I1 (zs a))) (hw : SlV 1 w (I1 (zs b))) : call tbl 20 [v, w] H = some (.bool (Path.bet a b)) := by
  refine (call_start (show tbl 20 = some a20 from rfl)).trans ?_
  have hlen := hv.len
  rw [I1_len, zs_len] at hlen
  have hlen2 := hw.len
  rw [I1_len, zs_len] at hlen2
  unfold Path.bet
  by_cases h : a.length = b.length
  · rw [if_pos h]
    unfold a20
    simp (config := { maxSteps := 10000000 }) (disch := omega) only [↓G_seq, ↓G_skip, ↓G_region, ↓G_block, ↓G_cond, ↓G_ops_nil, ↓G_op, Gv_some, Gc_false, dec_t, killAll, ↓get_setS, evalOp, ev, Ab.get, b_neq, one, Option.map_some, List.getElem?_cons_zero, List.getElem?_cons_succ, Nat.reduceEqDiff, reduceCtorEq, ↓reduceIte, Nat.succ_ne_self, Bool.not_true, hlen, hlen2]
    refine loop20 hl h hv hw (fun fr' L' => ?_) a b 0 _ _ rfl rfl (by omega) ?_ ?_ ?_
    all_goals simp (config := { maxSteps := 10000000 }) (disch := omega) only [↓G_seq, ↓G_ret, ↓G_region, ↓Gx_blk, ↓G_ops_nil, ↓G_op, Gv_some, killAll, ↓get_setS, evalOp, ev, Ab.get, Option.map_some, Option.bind_some, finish, resVs, resV, outVs, ownsLast, tupOf, List.all_nil, List.getElem?_cons_zero, List.getElem?_cons_succ, Nat.reduceEqDiff, reduceCtorEq, ↓reduceIte, Int.cast_ofNat_Int, ov_bool, fn_some]
  · rw [if_neg h]
    unfold a20
    by_cases c : a.length < b.length
    · rw [decide_eq_true c]
      simp (config := { maxSteps := 10000000 }) (disch := omega) only [↓G_seq, ↓G_ret, ↓G_region, ↓G_cond, ↓G_ops_nil, ↓G_op, Gv_some, Gc_true, dec_t, dec_f, killAll, ↓get_setS, evalOp, ev, Ab.get, b_neq, b_lss, one, Option.map_some, Option.bind_some, finish, resVs, resV, outVs, ownsLast, tupOf, List.all_nil, List.getElem?_cons_zero, List.getElem?_cons_succ, Nat.reduceEqDiff, reduceCtorEq, ↓reduceIte, Nat.succ_ne_self, Bool.not_false, ov_bool, fn_some, hlen, hlen2]
    · rw [decide_eq_false c]
      simp (config := { maxSteps := 10000000 }) (disch := omega) only [↓G_seq, ↓G_ret, ↓G_region, ↓G_cond, ↓G_ops_nil, ↓G_op, Gv_some, Gc_true, dec_f, killAll, ↓get_setS, evalOp, ev, Ab.get, b_neq, b_lss, one, Option.map_some, Option.bind_some, finish, resVs, resV, outVs, ownsLast, tupOf, List.all_nil, List.getElem?_cons_zero, List.getElem?_cons_succ, Nat.reduceEqDiff, reduceCtorEq, ↓reduceIte, Nat.succ_ne_self, Bool.not_false, ov_bool, fn_some, hlen, hlen2]

def trT (m : Nat) : List Nat := (List.range m).map fun i => 2 * i
def rsT (l : List Sy) (d : List Nat) (j : Nat) : Int := (l[(d[j]?.getD 0) - 1]?.getD z0).r
def trR (l : List Sy) (pt : Int) (d : List Nat) (m : Nat) : List Bool := (List.range m).map fun i => decide (pt ≤ rsT l d (2 * i + 1))
def B1 (l : List Bool) : List (List V) := l.map fun b => [V.bool b]
theorem B1_len (l : List Bool) : (B1 l).length = l.length := by simp [B1]
theorem B1_pure (l : List Bool) : (B1 l).all (fun e => e.all V.pure) = true := by simp [B1, V.pure]
theorem B1_get {l : List Bool} {i : Nat} {x : Bool} (h : l[i]? = some x) : (B1 l)[i]? = some [.bool x] := by simp [B1, h]
theorem trT_succ (m : Nat) : trT (m + 1) = trT m ++ [2 * m] := by simp [trT, List.range_succ]
theorem trR_succ (l : List Sy) (pt : Int) (d : List Nat) (m : Nat) : trR l pt d (m + 1) = trR l pt d m ++ [decide (pt ≤ rsT l d (2 * m + 1))] := by simp [trR, List.range_succ]
theorem trT_len (m : Nat) : (trT m).length = m := by simp [trT]
theorem trR_len (l : List Sy) (pt : Int) (d : List Nat) (m : Nat) : (trR l pt d m).length = m := by simp [trR]
theorem trT_get {m i : Nat} (h : i < m) : (trT m)[i]? = some (2 * i) := by
  unfold trT
  rw [List.getElem?_map, List.getElem?_range h]
  rfl
theorem trR_get {l : List Sy} {pt : Int} {d : List Nat} {m i : Nat} (h : i < m) : (trR l pt d m)[i]? = some (decide (pt ≤ rsT l d (2 * i + 1))) := by
  unfold trR
  rw [List.getElem?_map, List.getElem?_range h]
  rfl

theorem isD_ge {n : Nat} : ∀ (t : List Nat) (a j x : Nat), Path.isD n (a :: t) → (a :: t)[j]? = some x → a + j ≤ x ∧ x < n
  | t, a, 0, x, h, e => by
    simp only [List.getElem?_cons_zero, Option.some.injEq] at e
    subst e
    exact ⟨by omega, isD_hd _ _ h⟩
  | [], a, j + 1, x, h, e => by simp at e
  | b :: t, a, j + 1, x, h, e => by
    rw [List.getElem?_cons_succ] at e
    have := isD_ge t b j x h.2 e
    have := h.1
    omega

theorem loop21 {k : List KI} {v w : V} {l : List Sy} {ph pt : Int} {d : List Nat} {r : Option V} (hml : l.length ≤ 1024) (hv : SlV 4 v (E4 l)) (hw : SlV 1 w (I1 (zs d))) (hd : Dv l.length d)
    (hx : ∀ fr' L', Acc 2 1 L' (Ab.get fr' 6) (I1 (zs (trT (d.length / 2)))) → Acc 3 1 L' (Ab.get fr' 7) (B1 (trR l pt d (d.length / 2))) → Gx tbl H [.tmp 6, .tmp 7, .tmp 8] 1 k fr' L' = r) :
    ∀ (q i : Nat) (fr : List V) (L : List Row), i + q = d.length / 2 → Ab.get fr 0 = v → Ab.get fr 2 = w → Ab.get fr 4 = .ptr 0 1 1 0 0 → Ab.get fr 9 = .i (2 * (i : Nat) : Int) → rget L 1 = ⟨1, 2, [[.i ph, .i pt]]⟩ → Acc 2 1 L (Ab.get fr 6) (I1 (zs (trT i))) → Acc 3 1 L (Ab.get fr 7) (B1 (trR l pt d i)) →
      G tbl H [.tmp 6, .tmp 7, .tmp 8] (.code (.loop ( (.seq ( (.seq ( .region [] [ ⟨some 23, .mv (.t 9), none⟩, ⟨some 24, .bin .add (.t 23) (.c (.int .i64 1)), none⟩, ⟨some 25, .mv (.t 2), none⟩, ⟨some 26, .len (.t 25), none⟩, ⟨some 27, .bin .lss (.t 24) (.t 26), none⟩]) ( (.cond (.t 27) ( .skip) ( .exit 1))))) ( (.seq ( (.block 2 ( (.seq ( .region [] [ ⟨some 30, .mv (.t 6), none⟩, ⟨some 31, .mv (.t 9), none⟩, ⟨some 32, .lit 1 [(.int .i64 0)] 1 [(0, 1, (.t 31))], none⟩, ⟨some 33, .app 2 1 8 (.t 30) (.t 32), none⟩, ⟨some 6, .mv (.t 33), none⟩]) ( .region [] [ ⟨some 34, .mv (.t 7), none⟩, ⟨some 35, .mv (.t 0), none⟩, ⟨some 36, .mv (.t 2), none⟩, ⟨some 37, .mv (.t 9), none⟩, ⟨some 38, .bin .add (.t 37) (.c (.int .i64 1)), none⟩, ⟨some 39, .elemAddr 1 (.t 36) (.t 38), none⟩, ⟨some 40, .load false 1 (.t 39), none⟩, ⟨some 41, .bin .sub (.t 40) (.c (.int .i64 1)), none⟩, ⟨some 42, .elemAddr 4 (.t 35) (.t 41), none⟩, ⟨some 43, .fieldAddr 2 (.t 42), none⟩, ⟨some 44, .load false 1 (.t 43), none⟩, ⟨some 45, .fieldAddr 1 (.t 4), none⟩, ⟨some 46, .load false 1 (.t 45), none⟩, ⟨some 47, .bin .geq (.t 44) (.t 46), none⟩, ⟨some 48, .lit 1 [(.bool false)] 1 [(0, 1, (.t 47))], none⟩, ⟨some 49, .app 3 1 1 (.t 34) (.t 48), none⟩, ⟨some 7, .mv (.t 49), none⟩]))))) ( .region [] [ ⟨some 28, .mv (.t 9), none⟩, ⟨some 29, .bin .add (.t 28) (.c (.int .i64 2)), none⟩, ⟨some 9, .mv (.t 29), none⟩])))))) :: k) fr L = r := by
  intro q
  have hlw := hw.len
  rw [I1_len, zs_len] at hlw
  have hdl := Dv_len hd
  induction q with
  | zero =>
    intro i fr L hi h0 h2 h4 h9 r1 h6 h7
    obtain rfl : i = d.length / 2 := by omega
    refine G_loop.trans ?_
    simp (config := { maxSteps := 10000000 }) (disch := omega) only [↓G_seq, ↓G_exit, ↓G_region, ↓G_cond, ↓Gx_code, ↓G_ops_nil, ↓G_op, Gv_some, Gc_false, dec_f, killAll, ↓get_setS, evalOp, ev, b_add, b_lss, wrap_i64, one, Option.map_some, List.getElem?_cons_zero, List.getElem?_cons_succ, Nat.reduceEqDiff, ↓reduceIte, Nat.succ_ne_self, h2, h9, hlw]
    refine hx _ _ ?_ ?_
    · simp (config := { maxSteps := 10000000 }) (disch := omega) only [↓get_setS, List.getElem?_cons_zero, List.getElem?_cons_succ, Nat.reduceEqDiff, ↓reduceIte]
      exact h6
    · simp (config := { maxSteps := 10000000 }) (disch := omega) only [↓get_setS, List.getElem?_cons_zero, List.getElem?_cons_succ, Nat.reduceEqDiff, ↓reduceIte]
      exact h7
  | succ q ih =>
    intro i fr L hi h0 h2 h4 h9 r1 h6 h7
    obtain ⟨b, hb⟩ : ∃ b, d[2 * i + 1]? = some b := ⟨_, List.getElem?_eq_getElem (by omega)⟩
    have hbb : 1 ≤ b ∧ b < l.length := by
      rcases hd with ⟨_, h⟩ | ⟨t, h, h'⟩
      · rw [h] at hb
        simp at hb
      · rw [h] at hb h'
        have := isD_ge t 0 (2 * i + 1) b h' hb
        omega
    obtain ⟨z, hz⟩ : ∃ z, l[b - 1]? = some z := ⟨_, List.getElem?_eq_getElem (by omega)⟩
    have hE := hw.el (I1_get _ (2 * i + 1) _ (zs_get hb))
    rw [show ((2 * i + 1 : Nat) : Int) = 2 * (i : Nat) + 1 by omega] at hE
    have hE2 := hv.el (E4_get l (b - 1) z hz)
    rw [show ((b - 1 : Nat) : Int) = (b : Nat) - 1 by omega] at hE2
    have hr : rsT l d (2 * i + 1) = z.r := by
      unfold rsT
      rw [hb, Option.getD_some, hz, Option.getD_some]
    have nx := fun fr' L' => ih (i + 1) fr' L' (by omega)
    rw [show (2 * ((i + 1 : Nat) : Int)) = 2 * (i : Nat) + 2 by omega, trT_succ, trR_succ, hr] at nx
    generalize hv6 : Ab.get fr 6 = v6 at *
    generalize hv7 : Ab.get fr 7 = v7 at *
    obtain ⟨hap1, hap2⟩ := acc_app (H := H) (bytes := 8) (y := .sl .full 1 [[.i ((2 * i : Nat) : Int)]]) (new := [[.i ((2 * i : Nat) : Int)]]) h6 rfl (by simp) (by omega) (by rw [I1_len, zs_len, trT_len]; simp; omega) (by simp [V.scalar])
    have hz6 : I1 (zs (trT i)) ++ [[V.i ((2 * i : Nat) : Int)]] = I1 (zs (trT i ++ [2 * i])) := by simp [I1, zs]
    rw [hz6] at hap1 hap2
    rw [show ((2 * i : Nat) : Int) = 2 * (i : Nat) by omega] at hap1
    generalize hL2 : rset L 2 ⟨(rget L 2).ver + 1, 1, I1 (zs (trT i ++ [2 * i]))⟩ = L2 at *
    have h7' : Acc 3 1 L2 v7 (B1 (trR l pt d i)) := h7.mono (by rw [← hL2, rget_rset, if_neg (by decide)])
    have hap := fun b => acc_app (H := H) (bytes := 1) (y := .sl .full 1 [[.bool b]]) (new := [[.bool b]]) h7' rfl (by simp) (by omega) (by rw [B1_len, trR_len]; simp; omega) (by simp [V.scalar])
    have hz7 : ∀ b, B1 (trR l pt d i) ++ [[V.bool b]] = B1 (trR l pt d i ++ [b]) := fun b => by simp [B1]
    simp only [hz7] at hap
    have r1' : rget L2 1 = ⟨1, 2, [[.i ph, .i pt]]⟩ := by rw [← hL2, rget_rset, if_neg (by decide), r1]
    clear ih hx h6 h7 h7' hd hv hw hz hz6 hz7
    refine G_loop.trans ?_
    by_cases c : pt ≤ z.r
    · rw [decide_eq_true c] at nx
      obtain ⟨ha1, ha2⟩ := hap true
      simp (config := { maxSteps := 10000000 }) (disch := omega) only [↓G_seq, ↓G_skip, ↓G_blk, ↓G_region, ↓G_block, ↓G_cond, ↓G_ops_nil, ↓G_op, Gv_some, Gc_true, dec_t, killAll, ↓get_setS, evalOp, ev, b_add, b_sub, b_lss, b_geq, wrap_i64, one, Option.map_some, Option.bind_some, V.shift, List.append_nil, List.nil_append, List.all_cons, List.all_nil, Bool.true_and, Bool.and_self, List.getElem?_cons_zero, List.getElem?_cons_succ, Nat.reduceEqDiff, reduceCtorEq, ↓reduceIte, Nat.succ_ne_self, Bool.false_eq_true, pick3, V.cells, fillV, splice, chop, addOff, loadV, Ab.rowAt, V.scalar, V.pure, true_and, and_self, List.length_cons, List.length_nil, List.take_succ_cons, List.take_zero, List.drop_succ_cons, List.drop_zero, Nat.le_refl, List.getD_cons_zero, List.replicate, List.flatten_cons, List.flatten_nil, Nat.zero_add, h0, h2, h4, h9, hlw, hE, hE2, hv6, hv7, hap1, ha1, r1', Nat.zero_lt_succ]
      refine nx _ _ ?_ ?_ ?_ ?_ ?_ ?_ ?_
      all_goals simp (config := { maxSteps := 10000000 }) (disch := omega) only [↓get_setS, rget_rset, List.getElem?_cons_zero, List.getElem?_cons_succ, Nat.reduceEqDiff, reduceCtorEq, ↓reduceIte, Nat.succ_ne_self, h0, h2, h4, r1']
      · exact hap2.mono (by rw [rget_rset, if_neg (by decide)])
      · exact ha2
    · rw [decide_eq_false c] at nx
      obtain ⟨ha1, ha2⟩ := hap false
      simp (config := { maxSteps := 10000000 }) (disch := omega) only [↓G_seq, ↓G_skip, ↓G_blk, ↓G_region, ↓G_block, ↓G_cond, ↓G_ops_nil, ↓G_op, Gv_some, Gc_true, dec_t, dec_f, killAll, ↓get_setS, evalOp, ev, b_add, b_sub, b_lss, b_geq, wrap_i64, one, Option.map_some, Option.bind_some, V.shift, List.append_nil, List.nil_append, List.all_cons, List.all_nil, Bool.true_and, Bool.and_self, List.getElem?_cons_zero, List.getElem?_cons_succ, Nat.reduceEqDiff, reduceCtorEq, ↓reduceIte, Nat.succ_ne_self, Bool.false_eq_true, pick3, V.cells, fillV, splice, chop, addOff, loadV, Ab.rowAt, V.scalar, V.pure, true_and, and_self, List.length_cons, List.length_nil, List.take_succ_cons, List.take_zero, List.drop_succ_cons, List.drop_zero, Nat.le_refl, List.getD_cons_zero, List.replicate, List.flatten_cons, List.flatten_nil, Nat.zero_add, h0, h2, h4, h9, hlw, hE, hE2, hv6, hv7, hap1, ha1, r1', Nat.zero_lt_succ]
      refine nx _ _ ?_ ?_ ?_ ?_ ?_ ?_ ?_
      all_goals simp (config := { maxSteps := 10000000 }) (disch := omega) only [↓get_setS, rget_rset, List.getElem?_cons_zero, List.getElem?_cons_succ, Nat.reduceEqDiff, reduceCtorEq, ↓reduceIte, Nat.succ_ne_self, h0, h2, h4, r1']
      · exact hap2.mono (by rw [rget_rset, if_neg (by decide)])
      · exact ha2

theorem c21 {v w : V} {l : List Sy} {ph pt : Int} {d : List Nat} (hm : l.length ≤ 9223372036854775807) (he : errC l ph pt = 0) (hv : SlV 4 v (E4 l)) (hw : SlV 1 w (I1 (zs d))) (hd : Dv l.length d) :
    call tbl 21 [v, .agg [.i ph, .i pt], w] H = some (.tup [svE 1 (I1 (zs (trT (d.length / 2)))), svE 1 (B1 (trR l pt d (d.length / 2))), .i 0]) := by
  refine (call_start (show tbl 21 = some a21 from rfl)).trans ?_
  have hlv := hv.len
  rw [E4_len] at hlv
  obtain ⟨ho, _⟩ := errC_ok he
  have h12 := fun H => c12 (H := H) (ph := ph) (pt := pt) hm hv
  simp only [he] at h12
  have h30 := fun H => c30 (H := H) (n := (l.length : Nat)) (l := zs d) (by rw [zs_len]; have := Dv_len hd; omega) hw
  simp only [Dv_divR hd] at h30
  have hsh := hv.sh
  have hwh := hw.sh
  unfold a21
  simp (config := { maxSteps := 10000000 }) (disch := omega) only [↓G_seq, ↓G_skip, ↓G_blk, ↓G_region, ↓G_block, ↓G_cond, ↓G_ops_nil, ↓G_op, Gv_some, Gc_false, killAll, ↓get_setS, evalOp, ev, evs, Ab.get, b_neq, one, Option.map_some, Option.bind_some, asB, callV, V.shift, V.shifts, List.append_nil, List.all_cons, List.all_nil, Bool.and_self, List.getElem?_cons_zero, List.getElem?_cons_succ, Nat.reduceEqDiff, reduceCtorEq, ↓reduceIte, Nat.succ_ne_self, decide_true, Bool.not_true, bne_self_eq_false, Int.reduceAdd, pick3, V.cells, loadV, Ab.rowAt, rget, rset, V.scalar, Nat.reduceAdd, and_self, List.length_cons, List.length_nil, List.take_succ_cons, List.take_zero, List.drop_zero, Nat.le_refl, List.getD_cons_zero, Nat.zero_add, ti_bool, ti_int, hlv, hsh, hwh, h12, h30, Nat.zero_lt_succ]
  refine loop21 (ph := ph) (pt := pt) ho hv hw hd (fun fr' L' h6 h7 => ?_) (d.length / 2) 0 _ _ (by omega) ?_ ?_ ?_ ?_ ?_ ?_ ?_
  · have p1 := I1_pure (zs (trT (d.length / 2)))
    have p2 := B1_pure (trR l pt d (d.length / 2))
    have z1 := I1_len (zs (trT (d.length / 2)))
    rw [zs_len, trT_len] at z1
    have z2 := B1_len (trR l pt d (d.length / 2))
    rw [trR_len] at z2
    generalize I1 (zs (trT (d.length / 2))) = A at *
    generalize B1 (trR l pt d (d.length / 2)) = B at *
    generalize d.length / 2 = m at *
    clear hv hw hd h12 h30 hsh hwh
    rcases h6 with ⟨rfl, h6⟩ | ⟨ha, ver, hver, h6, q6⟩
    · simp only [List.length_nil] at z1
      rcases h7 with ⟨rfl, h7⟩ | ⟨hb, ver', hver', h7, q7⟩
      · rw [show svE 1 [] = .nilsl from rfl]
        simp (config := { maxSteps := 10000000 }) (disch := omega) only [↓G_seq, ↓G_ret, ↓G_region, ↓Gx_blk, ↓G_ops_nil, ↓G_op, Gv_some, killAll, ↓get_setS, evalOp, ev, Option.map_some, Option.bind_some, finish, resVs, resV, outVs, ownsLast, tupOf, List.all_cons, List.all_nil, Bool.and_self, List.getElem?_cons_zero, List.getElem?_cons_succ, Nat.reduceEqDiff, ↓reduceIte, Nat.succ_ne_self, and_self, ov_int, ov_nilsl, fn_some, h6, h7]
      · exact absurd (List.length_eq_zero_iff.1 (by omega)) hb
    · rcases h7 with ⟨rfl, h7⟩ | ⟨hb, ver', hver', h7, q7⟩
      · simp only [List.length_nil] at z2
        exact absurd (List.length_eq_zero_iff.1 (by omega)) ha
      · rw [show svE 1 A = .sl .any 1 A from if_neg ha, show svE 1 B = .sl .any 1 B from if_neg hb]
        simp (config := { maxSteps := 10000000 }) (disch := omega) only [finF, ↓G_seq, ↓G_ret, ↓G_region, ↓Gx_blk, ↓G_ops_nil, ↓G_op, Gv_some, killAll, ↓get_setS, evalOp, ev, rget_rset, Option.map_some, Option.bind_some, finish, resVs, resV, outVs, ownsLast, tupOf, List.all_cons, List.all_nil, Bool.and_true, Bool.true_and, Bool.and_self, List.getElem?_cons_zero, List.getElem?_cons_succ, Nat.reduceEqDiff, ↓reduceIte, Nat.succ_ne_self, Bool.false_eq_true, and_true, true_and, and_self, List.drop_zero, Nat.le_refl, Nat.zero_add, ov_any, ov_int, ov_ref0, fn_some, fz_nil, fz_cons, fz_int, fz_ref0, ite_ov, h6, h7, q6, q7, p1, p2, List.take_length, Nat.zero_lt_succ]
  all_goals simp (config := { maxSteps := 10000000 }) (disch := omega) only [↓get_setS, Ab.get, List.getElem?_cons_zero, List.getElem?_cons_succ, Nat.reduceEqDiff, reduceCtorEq, ↓reduceIte, Nat.succ_ne_self, Int.reduceMul, rget, Nat.reduceMul, Int.cast_ofNat_Int]
  all_goals exact Acc.nil

end Go.Proofs.Ytgghbckhdchcaaa

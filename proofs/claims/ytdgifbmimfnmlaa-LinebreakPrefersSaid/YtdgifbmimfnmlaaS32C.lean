/-
  Line breaks: the reference's cost of a line, divisions, totals.
-/
import Derived.Test.YtdgifbmimfnmlaaS32B
namespace Go.Proofs.Ytdgifbmimfnmlaa
open Go Go.Ab
set_option linter.unusedVariables false
set_option linter.unnecessarySimpa false
set_option linter.unusedSimpArgs false
set_option maxRecDepth 100000
variable {H : List (List Row)}

theorem loop29 {k : List KI} {v : V} {l : List Me} {a b : Nat} {w : Int} {r : Option V} (hl : l.length ≤ 1024) (hb : b ≤ l.length) (hv : SlV 5 v (E5 l)) :
    ∀ (n i : Nat) (fr : List V) (L : List Row), i + n = b → ((sl l i b).any isF = true → r = some (.i inf)) →
    ((sl l i b).any isF = false → ∀ fr' L', Ab.get fr' 0 = v → Ab.get fr' 1 = .i (a : Nat) → Ab.get fr' 2 = .i ((b : Nat) - 1 : Int) → Ab.get fr' 3 = .i w → Gx tbl H [.tmp 8] 0 k fr' L' = r) →
    Ab.get fr 0 = v → Ab.get fr 1 = .i (a : Nat) → Ab.get fr 2 = .i ((b : Nat) - 1 : Int) → Ab.get fr 3 = .i w → Ab.get fr 9 = .i (i : Nat) →
    G tbl H [.tmp 8] (.code (.loop ( (.seq ( (.seq ( .region [] [ ⟨some 25, .mv (.t 9), none⟩, ⟨some 26, .mv (.t 2), none⟩, ⟨some 27, .bin .leq (.t 25) (.t 26), none⟩]) ( (.cond (.t 27) ( .skip) ( .exit 0))))) ( (.seq ( (.block 1 ( (.seq ( .region [] [ ⟨some 30, .mv (.t 0), none⟩, ⟨some 31, .mv (.t 9), none⟩, ⟨some 32, .elemAddr 5 (.t 30) (.t 31), none⟩, ⟨some 33, .fieldAddr 4 (.t 32), none⟩, ⟨some 34, .load false 1 (.t 33), none⟩, ⟨some 35, .bin .eql (.t 34) (.c (.int .i64 1)), none⟩, ⟨some 36, .mv (.t 35), none⟩, ⟨some 37, .mv (.t 0), some (36, false)⟩, ⟨some 38, .mv (.t 9), some (36, false)⟩, ⟨some 39, .elemAddr 5 (.t 37) (.t 38), some (36, false)⟩, ⟨some 40, .fieldAddr 4 (.t 39), some (36, false)⟩, ⟨some 41, .load false 1 (.t 40), some (36, false)⟩, ⟨some 42, .bin .eql (.t 41) (.c (.int .i64 2)), some (36, false)⟩, ⟨some 43, .pick (.t 36) (.c (.bool true)) (.t 42), none⟩]) ( (.cond (.t 43) ( (.seq ( .region [] [ ⟨some 8, .mv (.c (.int .i64 1125899906842624)), none⟩]) ( .ret))) ( .skip))))))) ( .region [] [ ⟨some 28, .mv (.t 9), none⟩, ⟨some 29, .bin .add (.t 28) (.c (.int .i64 1)), none⟩, ⟨some 9, .mv (.t 29), none⟩])))))) :: k) fr L = r := by
  intro n
  induction n with
  | zero =>
    intro i fr L hi hy hn h0 h1 h2 h3 h9
    obtain rfl : i = b := by omega
    have hn := hn (by rw [sl_nil (Nat.le_refl _)]; rfl)
    refine G_loop.trans ?_
    simp (config := { maxSteps := 10000000 }) (disch := omega) only [↓G_seq, ↓G_exit, ↓G_region, ↓G_cond, ↓Gx_code, ↓G_ops_nil, ↓G_op, Gv_some, Gc_false, dec_f, killAll, ↓get_setS, evalOp, ev, b_leq, one, Option.map_some, List.getElem?_cons_zero, List.getElem?_cons_succ, Nat.reduceEqDiff, ↓reduceIte, Nat.succ_ne_self, h2, h9]
    refine hn _ _ ?_ ?_ ?_ ?_
    all_goals simp (config := { maxSteps := 10000000 }) (disch := omega) only [↓get_setS, List.getElem?_cons_zero, List.getElem?_cons_succ, Nat.reduceEqDiff, reduceCtorEq, ↓reduceIte, h0, h1, h2, h3]
  | succ n ih =>
    intro i fr L hi hy hn h0 h1 h2 h3 h9
    obtain ⟨s, hs, hc⟩ := sl_cons (l := l) (a := i) (b := b) (by omega) hb
    have hE := hv.el (E5_get l i s hs)
    have cs : s.b = 1 ∨ s.b = 2 ∨ (¬ s.b = 1 ∧ ¬ s.b = 2) := by omega
    rw [hc, List.any_cons] at hy hn
    rcases cs with c | c | ⟨c1, c2⟩
    · have e : isF s = true := decide_eq_true (.inl c)
      have hy := hy (by rw [e]; rfl)
      clear ih hn
      rw [hy, hinf]
      refine G_loop.trans ?_
      simp (config := { maxSteps := 10000000 }) (disch := omega) only [↓G_seq, ↓G_skip, ↓G_ret, ↓G_region, ↓G_block, ↓G_cond, ↓G_ops_nil, ↓G_op, Gv_some, ↓G_gop, Gw_ft, Gc_true, dec_t, killAll, ↓get_setS, evalOp, ev, b_eql, b_leq, one, Option.map_some, Option.bind_some, asB, finish, resVs, resV, outVs, ownsLast, tupOf, List.all_nil, List.getElem?_cons_zero, List.getElem?_cons_succ, Nat.reduceEqDiff, reduceCtorEq, ↓reduceIte, Nat.succ_ne_self, Bool.false_eq_true, pick3, addOff, loadV, Nat.zero_add, ov_int, fn_some, h0, h2, h9, hE]
    · have e : isF s = true := decide_eq_true (.inr c)
      have hy := hy (by rw [e]; rfl)
      clear ih hn
      rw [hy, hinf]
      refine G_loop.trans ?_
      simp (config := { maxSteps := 10000000 }) (disch := omega) only [↓G_seq, ↓G_skip, ↓G_ret, ↓G_region, ↓G_block, ↓G_cond, ↓G_ops_nil, ↓G_op, Gv_some, ↓G_gop, Gw_ff, Gc_true, dec_t, dec_f, killAll, ↓get_setS, evalOp, ev, b_eql, b_leq, one, Option.map_some, Option.bind_some, asB, finish, resVs, resV, outVs, ownsLast, tupOf, List.all_nil, List.getElem?_cons_zero, List.getElem?_cons_succ, Nat.reduceEqDiff, reduceCtorEq, ↓reduceIte, Nat.succ_ne_self, Bool.false_eq_true, pick3, addOff, loadV, Nat.zero_add, ov_int, fn_some, h0, h2, h9, hE]
    · have e : isF s = false := decide_eq_false (by omega)
      rw [e, Bool.false_or] at hy hn
      have nx := fun fr' L' => ih (i + 1) fr' L' (by omega) hy hn
      clear ih hy hn
      refine G_loop.trans ?_
      simp (config := { maxSteps := 10000000 }) (disch := omega) only [↓G_seq, ↓G_skip, ↓G_blk, ↓G_region, ↓G_block, ↓G_cond, ↓G_ops_nil, ↓G_op, Gv_some, ↓G_gop, Gw_ff, Gc_true, Gc_false, dec_t, dec_f, killAll, ↓get_setS, evalOp, ev, b_add, b_eql, b_leq, wrap_i64, one, Option.map_some, asB, List.getElem?_cons_zero, List.getElem?_cons_succ, Nat.reduceEqDiff, reduceCtorEq, ↓reduceIte, Nat.succ_ne_self, Bool.false_eq_true, pick3, addOff, loadV, Nat.zero_add, h0, h2, h9, hE]
      refine nx _ _ ?_ ?_ ?_ ?_ ?_
      all_goals simp (config := { maxSteps := 10000000 }) (disch := omega) only [↓get_setS, List.getElem?_cons_zero, List.getElem?_cons_succ, Nat.reduceEqDiff, reduceCtorEq, ↓reduceIte, h0, h1, h2, h3]
      congr 1

theorem c29 {v : V} {l : List Me} {a b : Nat} {w : Int} (he : errL l = 0) (hab : a < b) (hb : b ≤ l.length) (hw : 0 ≤ w ∧ w ≤ 16777216) (hv : SlV 5 v (E5 l)) : call tbl 29 [v, .i (a : Nat), .i ((b : Nat) - 1 : Int), .i w] H = some (.i (cst l w a b)) := by
  obtain ⟨h0, h1, _⟩ := errL_ok he
  obtain ⟨s, hs⟩ : ∃ s, l[a]? = some s := ⟨_, List.getElem?_eq_getElem (by omega)⟩
  have hE := hv.el (E5_get l a s hs)
  have h37 := fun H => c37 (H := H) he hab hb hv
  have hlen := hv.len
  rw [E5_len] at hlen
  have hsh := hv.sh
  have hinf' := hinf
  have h12 := fun H => c12 (H := H) (w := w) (m := mn l a b) (n := nt l a b)
  have hwid := wid_in he hab hb
  have hfin := fun r k => loop29 (H := H) (k := k) (r := r) (a := a) (w := w) h1 hb hv (b - (a + 1)) (a + 1)
  have hbn : inB w (mn l a b) (nt l a b) ∧ 0 ≤ badN w (mn l a b) (nt l a b) ∧ badN w (mn l a b) (nt l a b) ≤ 100000000 ∨ ¬ inB w (mn l a b) (nt l a b) ∧ w < mn l a b ∧ badN w (mn l a b) (nt l a b) = inf := by
    by_cases c : inB w (mn l a b) (nt l a b)
    · exact .inl ⟨c, badN_in c⟩
    · refine .inr ⟨c, ?_, badN_out c⟩
      unfold inB at c
      omega
  have hps : pos l a b = ((decide (a = 0) || !decide (s.b = 3)) && !(sl l (a + 1) b).any isF) := by
    unfold pos
    rw [hs, Option.getD_some]
  unfold cst
  rw [hps]
  generalize badN w (mn l a b) (nt l a b) = B at *
  generalize hm : mn l a b = M at *
  generalize hn : nt l a b = N at *
  generalize (sl l (a + 1) b).any isF = F at *
  clear hv he hps
  have cs : (¬ a = 0 ∧ s.b = 3) ∨ (a = 0 ∨ (¬ a = 0 ∧ ¬ s.b = 3)) := by omega
  rcases cs with ⟨c1, c2⟩ | cs
  · rw [decide_eq_false c1, decide_eq_true c2, if_pos (by rfl)]
    clear hfin hbn hwid
    refine (call_start (show tbl 29 = some a29 from rfl)).trans ?_
    unfold a29
    simp (config := { maxSteps := 10000000 }) (disch := omega) only [↓G_seq, ↓G_ret, ↓G_region, ↓G_cond, ↓G_ops_nil, ↓G_op, Gv_some, ↓G_gop, Gw_tt, Gc_true, dec_t, killAll, ↓get_setS, evalOp, ev, Ab.get, b_eql, b_gtr, one, Option.map_some, Option.bind_some, asB, finish, resVs, resV, outVs, ownsLast, tupOf, List.all_nil, List.getElem?_cons_zero, List.getElem?_cons_succ, Nat.reduceEqDiff, reduceCtorEq, ↓reduceIte, Nat.succ_ne_self, Bool.false_eq_true, pick3, addOff, loadV, Nat.zero_add, ov_int, fn_some, hE, hinf]
  have e : (decide (a = 0) || !decide (s.b = 3)) = true := by
    rcases cs with c | ⟨c1, c2⟩
    · rw [decide_eq_true c]; rfl
    · rw [decide_eq_false c1, decide_eq_false c2]; rfl
  rw [e, Bool.true_and]
  have key : ∀ r, (F = true → r = some (.i inf)) → (F = false → r = some (.i (if b = l.length ∧ N ≤ w then 100 else if inB w M N then B + 100 else inf))) → call tbl 29 [v, .i (a : Nat), .i ((b : Nat) - 1 : Int), .i w] H = r := by
    intro r hy hn
    have ct : (b = l.length ∧ N ≤ w) ∨ (b = l.length ∧ w < N) ∨ b < l.length := by omega
    rcases cs with c | ⟨c1, c2⟩
    all_goals
      refine (call_start (show tbl 29 = some a29 from rfl)).trans ?_
      unfold a29
      simp (config := { maxSteps := 10000000 }) (disch := omega) only [↓G_seq, ↓G_skip, ↓G_region, ↓G_block, ↓G_cond, ↓G_ops_nil, ↓G_op, Gv_some, ↓G_gop, Gw_tt, Gw_tf, Gc_false, dec_t, dec_f, killAll, ↓get_setS, evalOp, ev, Ab.get, b_add, b_eql, b_gtr, wrap_i64, one, Option.map_some, asB, List.getElem?_cons_zero, List.getElem?_cons_succ, Nat.reduceEqDiff, reduceCtorEq, ↓reduceIte, Nat.succ_ne_self, Bool.false_eq_true, pick3, addOff, loadV, Nat.zero_add, hE]
      refine hfin r _ _ _ (by omega) hy (fun f fr' L' g0 g1 g2 g3 => ?_) ?_ ?_ ?_ ?_ ?_
      · have hn := hn f
        clear hfin hy f e
        rcases hbn with ⟨q, b1, b2⟩ | ⟨q, b3, b1⟩
        · rcases ct with t | t | t
          · rw [if_pos t] at hn
            rw [hn]
            simp (config := { maxSteps := 10000000 }) (disch := omega) only [↓G_seq, ↓G_skip, ↓G_ret, ↓G_region, ↓G_cond, ↓Gx_blk, ↓G_ops_nil, ↓G_op, Gv_some, ↓G_gop, Gw_tt, Gc_true, Gc_false, dec_t, dec_f, killAll, ↓get_setS, evalOp, ev, evs, b_add, b_sub, b_eql, b_leq, wrap_i64, one, Option.map_some, Option.bind_some, asB, finish, resVs, resV, outVs, ownsLast, tupOf, callV, V.shift, V.shifts, List.append_nil, List.map_cons, List.map_nil, List.all_nil, List.getElem?_cons_zero, List.getElem?_cons_succ, Nat.reduceEqDiff, reduceCtorEq, ↓reduceIte, Nat.succ_ne_self, bne_self_eq_false, Int.reduceAdd, Nat.reduceAdd, ti_int, ti_tup_int, st_int, ov_int, fn_some, g0, g1, g2, g3, h37, h12, hlen, hsh]
          · rw [if_neg (by omega), if_pos q] at hn
            rw [hn]
            simp (config := { maxSteps := 10000000 }) (disch := omega) only [↓G_seq, ↓G_skip, ↓G_ret, ↓G_region, ↓G_cond, ↓Gx_blk, ↓G_ops_nil, ↓G_op, Gv_some, ↓G_gop, Gw_tt, Gc_false, dec_t, dec_f, killAll, ↓get_setS, evalOp, ev, evs, b_add, b_sub, b_eql, b_leq, wrap_i64, one, Option.map_some, Option.bind_some, asB, finish, resVs, resV, outVs, ownsLast, tupOf, callV, V.shift, V.shifts, List.append_nil, List.map_cons, List.map_nil, List.all_nil, List.getElem?_cons_zero, List.getElem?_cons_succ, Nat.reduceEqDiff, reduceCtorEq, ↓reduceIte, Nat.succ_ne_self, bne_self_eq_false, ti_int, ti_tup_int, st_int, ov_int, fn_some, g0, g1, g2, g3, h37, h12, hlen, hsh]
          · rw [if_neg (by omega), if_pos q] at hn
            rw [hn]
            simp (config := { maxSteps := 10000000 }) (disch := omega) only [↓G_seq, ↓G_skip, ↓G_ret, ↓G_region, ↓G_cond, ↓Gx_blk, ↓G_ops_nil, ↓G_op, Gv_some, ↓G_gop, Gw_tf, Gc_false, dec_f, killAll, ↓get_setS, evalOp, ev, evs, b_add, b_sub, b_eql, wrap_i64, one, Option.map_some, Option.bind_some, asB, finish, resVs, resV, outVs, ownsLast, tupOf, callV, V.shift, V.shifts, List.append_nil, List.map_cons, List.map_nil, List.all_nil, List.getElem?_cons_zero, List.getElem?_cons_succ, Nat.reduceEqDiff, reduceCtorEq, ↓reduceIte, Nat.succ_ne_self, bne_self_eq_false, Bool.false_eq_true, ti_int, ti_tup_int, st_int, ov_int, fn_some, g0, g1, g2, g3, h37, h12, hlen, hsh]
        · rw [if_neg (by omega), if_neg q, hinf'] at hn
          rw [hn]
          simp (config := { maxSteps := 10000000 }) (disch := omega) only [↓G_seq, ↓G_ret, ↓G_region, ↓G_cond, ↓Gx_blk, ↓G_ops_nil, ↓G_op, Gv_some, Gc_true, dec_t, killAll, ↓get_setS, evalOp, ev, evs, b_eql, one, Option.map_some, Option.bind_some, finish, resVs, resV, outVs, ownsLast, tupOf, callV, V.shift, V.shifts, List.append_nil, List.map_cons, List.map_nil, List.all_nil, List.getElem?_cons_zero, List.getElem?_cons_succ, Nat.reduceEqDiff, ↓reduceIte, Nat.succ_ne_self, bne_self_eq_false, ti_int, ti_tup_int, st_int, ov_int, fn_some, g0, g1, g2, g3, h37, h12, hsh]
      all_goals simp (config := { maxSteps := 10000000 }) (disch := omega) only [↓get_setS, Ab.get, List.getElem?_cons_zero, List.getElem?_cons_succ, Nat.reduceEqDiff, reduceCtorEq, ↓reduceIte]
      all_goals rfl
  exact key _ (fun f => by rw [f]; rfl) (fun f => by rw [f]; rfl)

/-! ### Divisions -/
def divB (n : Nat) : Option Int → List Int → Bool
  | _, [] => true
  | none, x :: t => decide (x = 0 ∧ x < (n : Int)) && divB n (some x) t
  | some p, x :: t => decide (p < x ∧ x < (n : Int)) && divB n (some x) t
def divR (n : Nat) (l : List Int) : Bool := decide (0 < l.length) && divB n none l

theorem loop27 {k : List KI} {v : V} {n : Nat} {l : List Int} {B : Bool} (hl : l.length ≤ 4611686018427387904) (hn : 0 < n) (hv : SlV 1 v (I1 l))
    (hx : ∀ fr' L', Ab.get fr' 0 = v → Gx tbl H [.tmp 4] 0 k fr' L' = some (.bool B)) :
    ∀ (t : List Int) (i : Nat) (fr : List V) (L : List Row), l.drop i = t → i ≤ l.length → Ab.get fr 0 = v → Ab.get fr 1 = .i (n : Nat) → Ab.get fr 7 = v → Ab.get fr 8 = .i (l.length : Nat) → Ab.get fr 9 = .i (i : Nat) →
    G tbl H [.tmp 4] (.code (.loop ( (.seq ( .region [] [ ⟨some 10, .bin .lss (.t 9) (.t 8), none⟩]) ( (.seq ( (.cond (.t 10) ( .skip) ( .exit 0))) ( (.seq ( (.block 1 ( (.seq ( .region [] [ ⟨some 11, .mv (.t 9), none⟩, ⟨some 12, .elemAddr 1 (.t 7) (.t 9), none⟩, ⟨some 13, .load false 1 (.t 12), none⟩, ⟨some 5, .mv (.t 11), none⟩, ⟨some 6, .mv (.t 13), none⟩]) ( (.seq ( .region [] [ ⟨some 14, .mv (.t 5), none⟩, ⟨some 15, .bin .eql (.t 14) (.c (.int .i64 0)), none⟩, ⟨some 16, .mv (.t 15), none⟩, ⟨some 17, .mv (.t 6), some (16, true)⟩, ⟨some 18, .bin .neq (.t 17) (.c (.int .i64 0)), some (16, true)⟩, ⟨some 19, .pick (.t 16) (.t 18) (.c (.bool false)), none⟩, ⟨some 20, .mv (.t 19), none⟩, ⟨some 21, .mv (.t 5), some (20, false)⟩, ⟨some 22, .bin .gtr (.t 21) (.c (.int .i64 0)), some (20, false)⟩, ⟨some 23, .mv (.t 22), some (20, false)⟩, ⟨some 24, .mv (.t 6), some (23, true)⟩, ⟨some 25, .mv (.t 0), some (23, true)⟩, ⟨some 26, .mv (.t 5), some (23, true)⟩, ⟨some 27, .bin .sub (.t 26) (.c (.int .i64 1)), some (23, true)⟩, ⟨some 28, .elemAddr 1 (.t 25) (.t 27), some (23, true)⟩, ⟨some 29, .load false 1 (.t 28), some (23, true)⟩, ⟨some 30, .bin .leq (.t 24) (.t 29), some (23, true)⟩, ⟨some 31, .pick (.t 23) (.t 30) (.c (.bool false)), some (20, false)⟩, ⟨some 32, .pick (.t 20) (.c (.bool true)) (.t 31), none⟩, ⟨some 33, .mv (.t 32), none⟩, ⟨some 34, .mv (.t 6), some (33, false)⟩, ⟨some 35, .mv (.t 1), some (33, false)⟩, ⟨some 36, .bin .geq (.t 34) (.t 35), some (33, false)⟩, ⟨some 37, .pick (.t 33) (.c (.bool true)) (.t 36), none⟩]) ( (.cond (.t 37) ( (.seq ( .region [] [ ⟨some 4, .mv (.c (.bool false)), none⟩]) ( .ret))) ( .skip))))))))) ( .region [] [ ⟨some 38, .bin .add (.t 9) (.c (.int .i64 1)), none⟩, ⟨some 9, .mv (.t 38), none⟩])))))))) :: k) fr L = some (.bool (B && divB n (if i = 0 then none else l[i - 1]?) t)) := by
  intro t
  induction t with
  | nil =>
    intro i fr L ht hi h0 h1 h7 h8 h9
    have := drop_nil ht
    rw [show ∀ o, divB n o [] = true from fun o => by cases o <;> rfl, Bool.and_true]
    refine G_loop.trans ?_
    simp (config := { maxSteps := 10000000 }) (disch := omega) only [↓G_seq, ↓G_exit, ↓G_region, ↓G_cond, ↓Gx_code, ↓G_ops_nil, ↓G_op, Gv_some, Gc_false, dec_f, killAll, ↓get_setS, evalOp, ev, b_lss, one, Option.map_some, List.getElem?_cons_zero, List.getElem?_cons_succ, ↓reduceIte, h8, h9]
    refine hx _ _ ?_
    simp (config := { maxSteps := 10000000 }) (disch := omega) only [↓get_setS, List.getElem?_cons_zero, List.getElem?_cons_succ, reduceCtorEq, ↓reduceIte, h0]
  | cons x t ih =>
    intro i fr L ht hi h0 h1 h7 h8 h9
    obtain ⟨e1, e2, e3⟩ := drop_cons ht
    have hE := hv.el (I1_get _ i _ e1)
    have nx := fun fr' L' => ih (i + 1) fr' L' e2 (by omega)
    rw [if_neg (Nat.succ_ne_zero i), Nat.add_sub_cancel, e1] at nx
    clear ih hx
    refine G_loop.trans ?_
    by_cases hi0 : i = 0
    · rw [if_pos hi0]
      subst hi0
      simp only [Int.ofNat_zero, Int.cast_ofNat_Int, Int.natCast_zero] at hE h9 nx
      by_cases c : x = 0
      · subst c
        rw [show divB n none (0 :: t) = divB n (some 0) t by rw [divB, decide_eq_true (show (0 : Int) = 0 ∧ (0 : Int) < (n : Int) by omega), Bool.true_and]]
        simp (config := { maxSteps := 10000000 }) (disch := omega) only [↓G_seq, ↓G_skip, ↓G_blk, ↓G_region, ↓G_block, ↓G_cond, ↓G_ops_nil, ↓G_op, Gv_some, ↓G_gop, Gw_tt, Gw_ff, Gw_tf, Gc_true, Gc_false, dec_t, dec_f, killAll, ↓get_setS, evalOp, ev, b_add, b_eql, b_neq, b_lss, b_gtr, b_geq, wrap_i64, one, Option.map_some, asB, List.getElem?_cons_zero, List.getElem?_cons_succ, Nat.reduceEqDiff, ↓reduceIte, Nat.succ_ne_self, decide_true, decide_false, Bool.not_true, Bool.false_eq_true, Int.reduceAdd, Int.reduceLT, pick3, loadV, Nat.reduceAdd, Nat.reduceLT, h1, h7, h8, h9, hE]
        refine nx _ _ ?_ ?_ ?_ ?_ ?_
        all_goals simp (config := { maxSteps := 10000000 }) (disch := omega) only [↓get_setS, List.getElem?_cons_zero, List.getElem?_cons_succ, Nat.reduceEqDiff, reduceCtorEq, ↓reduceIte, Nat.succ_ne_self, Int.cast_ofNat_Int, Nat.zero_add, h0, h1, h7, h8]
      · rw [show divB n none (x :: t) = false by simp only [divB]; rw [decide_eq_false (by omega), Bool.false_and], Bool.and_false]
        clear nx
        simp (config := { maxSteps := 10000000 }) (disch := omega) only [↓G_seq, ↓G_skip, ↓G_ret, ↓G_region, ↓G_block, ↓G_cond, ↓G_ops_nil, ↓G_op, Gv_some, ↓G_gop, Gw_tt, Gw_ft, Gw_tup, Gc_true, dec_t, dec_f, killAll, ↓get_setS, evalOp, ev, b_eql, b_neq, b_lss, one, Option.map_some, Option.bind_some, asB, finish, resVs, resV, outVs, ownsLast, tupOf, List.all_nil, List.getElem?_cons_zero, List.getElem?_cons_succ, Nat.reduceEqDiff, ↓reduceIte, Nat.succ_ne_self, decide_true, Bool.not_false, Bool.false_eq_true, pick3, loadV, ov_bool, fn_some, h7, h8, h9, hE]
    · rw [if_neg hi0]
      obtain ⟨p, hp⟩ : ∃ p, l[i - 1]? = some p := ⟨_, List.getElem?_eq_getElem (by omega)⟩
      have hE2 := hv.el (I1_get _ (i - 1) _ hp)
      rw [show ((i - 1 : Nat) : Int) = (i : Nat) - 1 by omega] at hE2
      rw [hp]
      have cs : x ≤ p ∨ (p < x ∧ (n : Int) ≤ x) ∨ (p < x ∧ x < (n : Int)) := by omega
      rcases cs with c | ⟨c1, c2⟩ | ⟨c1, c2⟩
      · rw [show divB n (some p) (x :: t) = false by simp only [divB]; rw [decide_eq_false (by omega), Bool.false_and], Bool.and_false]
        clear nx
        simp (config := { maxSteps := 10000000 }) (disch := omega) only [↓G_seq, ↓G_skip, ↓G_ret, ↓G_region, ↓G_block, ↓G_cond, ↓G_ops_nil, ↓G_op, Gv_some, ↓G_gop, Gw_tt, Gw_ff, Gw_tf, Gw_ft, Gc_true, dec_t, dec_f, killAll, ↓get_setS, evalOp, ev, b_sub, b_eql, b_lss, b_leq, b_gtr, wrap_i64, one, Option.map_some, Option.bind_some, asB, finish, resVs, resV, outVs, ownsLast, tupOf, List.all_nil, List.getElem?_cons_zero, List.getElem?_cons_succ, Nat.reduceEqDiff, reduceCtorEq, ↓reduceIte, Nat.succ_ne_self, Bool.false_eq_true, pick3, loadV, ov_bool, fn_some, h0, h7, h8, h9, hE, hE2]
      · rw [show divB n (some p) (x :: t) = false by simp only [divB]; rw [decide_eq_false (by omega), Bool.false_and], Bool.and_false]
        clear nx
        simp (config := { maxSteps := 10000000 }) (disch := omega) only [↓G_seq, ↓G_skip, ↓G_ret, ↓G_region, ↓G_block, ↓G_cond, ↓G_ops_nil, ↓G_op, Gv_some, ↓G_gop, Gw_tt, Gw_ff, Gw_tf, Gc_true, dec_t, dec_f, killAll, ↓get_setS, evalOp, ev, b_sub, b_eql, b_lss, b_leq, b_gtr, b_geq, wrap_i64, one, Option.map_some, Option.bind_some, asB, finish, resVs, resV, outVs, ownsLast, tupOf, List.all_nil, List.getElem?_cons_zero, List.getElem?_cons_succ, Nat.reduceEqDiff, reduceCtorEq, ↓reduceIte, Nat.succ_ne_self, Bool.false_eq_true, pick3, loadV, ov_bool, fn_some, h0, h1, h7, h8, h9, hE, hE2]
      · rw [show divB n (some p) (x :: t) = divB n (some x) t by simp only [divB]; rw [decide_eq_true (by omega), Bool.true_and]]
        simp (config := { maxSteps := 10000000 }) (disch := omega) only [↓G_seq, ↓G_skip, ↓G_blk, ↓G_region, ↓G_block, ↓G_cond, ↓G_ops_nil, ↓G_op, Gv_some, ↓G_gop, Gw_tt, Gw_ff, Gw_tf, Gc_true, Gc_false, dec_t, dec_f, killAll, ↓get_setS, evalOp, ev, b_add, b_sub, b_eql, b_lss, b_leq, b_gtr, b_geq, wrap_i64, one, Option.map_some, asB, List.getElem?_cons_zero, List.getElem?_cons_succ, Nat.reduceEqDiff, reduceCtorEq, ↓reduceIte, Nat.succ_ne_self, Bool.false_eq_true, pick3, loadV, h0, h1, h7, h8, h9, hE, hE2]
        refine nx _ _ ?_ ?_ ?_ ?_ ?_
        all_goals simp (config := { maxSteps := 10000000 }) (disch := omega) only [↓get_setS, List.getElem?_cons_zero, List.getElem?_cons_succ, Nat.reduceEqDiff, reduceCtorEq, ↓reduceIte, Nat.succ_ne_self, h0, h1, h7, h8]
        congr 1

theorem c27 {v : V} {n : Nat} {l : List Int} (hl : l.length ≤ 4611686018427387904) (hn : 0 < n) (hv : SlV 1 v (I1 l)) : call tbl 27 [v, .i (n : Nat)] H = some (.bool (divR n l)) := by
  refine (call_start (show tbl 27 = some a27 from rfl)).trans ?_
  have hlen := hv.len
  rw [I1_len] at hlen
  have fin := fun k hx => loop27 (H := H) (k := k) (B := decide (0 < l.length)) hl hn hv hx l 0
  unfold divR
  have hdec : decide (0 < l.length) = decide ((0 : Int) < (l.length : Nat)) := by simp
  unfold a27
  simp (config := { maxSteps := 10000000 }) (disch := omega) only [↓G_seq, ↓G_region, ↓G_block, ↓G_ops_nil, ↓G_op, Gv_some, killAll, ↓get_setS, evalOp, ev, Ab.get, one, Option.map_some, List.getElem?_cons_zero, List.getElem?_cons_succ, reduceCtorEq, ↓reduceIte, hlen]
  refine fin _ (fun fr' L' g0 => ?_) _ _ rfl (Nat.zero_le _) ?_ ?_ ?_ ?_ ?_
  · rw [hdec]
    simp (config := { maxSteps := 10000000 }) (disch := omega) only [↓G_seq, ↓G_ret, ↓G_region, ↓Gx_blk, ↓G_ops_nil, ↓G_op, Gv_some, killAll, ↓get_setS, evalOp, ev, b_gtr, one, Option.map_some, Option.bind_some, finish, resVs, resV, outVs, ownsLast, tupOf, List.all_nil, List.getElem?_cons_zero, List.getElem?_cons_succ, ↓reduceIte, ov_bool, fn_some, g0, hlen]
  all_goals simp (config := { maxSteps := 10000000 }) (disch := omega) only [↓get_setS, Ab.get, List.getElem?_cons_zero, List.getElem?_cons_succ, Nat.reduceEqDiff, reduceCtorEq, ↓reduceIte, Nat.succ_ne_self, Int.cast_ofNat_Int]

theorem loop16 {k : List KI} {v : V} {n : Nat} {l : List Int} (hl : l.length ≤ 4611686018427387904) (hv : SlV 1 v (I1 l))
    (hx : ∀ fr' L', Gx tbl H [.tmp 4] 0 k fr' L' = some (.bool true)) :
    ∀ (t : List Int) (i : Nat) (fr : List V) (L : List Row), l.drop i = t → 0 < i → i ≤ l.length → Ab.get fr 0 = v → Ab.get fr 1 = .i (n : Nat) → Ab.get fr 5 = .i (i : Nat) →
    G tbl H [.tmp 4] (.code (.loop ( (.seq ( (.seq ( .region [] [ ⟨some 15, .mv (.t 5), none⟩, ⟨some 16, .mv (.t 0), none⟩, ⟨some 17, .len (.t 16), none⟩, ⟨some 18, .bin .lss (.t 15) (.t 17), none⟩]) ( (.cond (.t 18) ( .skip) ( .exit 0))))) ( (.seq ( (.block 1 ( (.seq ( .region [] [ ⟨some 21, .mv (.t 0), none⟩, ⟨some 22, .mv (.t 5), none⟩, ⟨some 23, .elemAddr 1 (.t 21) (.t 22), none⟩, ⟨some 24, .load false 1 (.t 23), none⟩, ⟨some 25, .mv (.t 0), none⟩, ⟨some 26, .mv (.t 5), none⟩, ⟨some 27, .bin .sub (.t 26) (.c (.int .i64 1)), none⟩, ⟨some 28, .elemAddr 1 (.t 25) (.t 27), none⟩, ⟨some 29, .load false 1 (.t 28), none⟩, ⟨some 30, .bin .leq (.t 24) (.t 29), none⟩, ⟨some 31, .mv (.t 30), none⟩, ⟨some 32, .mv (.t 0), some (31, false)⟩, ⟨some 33, .mv (.t 5), some (31, false)⟩, ⟨some 34, .elemAddr 1 (.t 32) (.t 33), some (31, false)⟩, ⟨some 35, .load false 1 (.t 34), some (31, false)⟩, ⟨some 36, .mv (.t 1), some (31, false)⟩, ⟨some 37, .bin .geq (.t 35) (.t 36), some (31, false)⟩, ⟨some 38, .pick (.t 31) (.c (.bool true)) (.t 37), none⟩]) ( (.cond (.t 38) ( (.seq ( .region [] [ ⟨some 4, .mv (.c (.bool false)), none⟩]) ( .ret))) ( .skip))))))) ( .region [] [ ⟨some 19, .mv (.t 5), none⟩, ⟨some 20, .bin .add (.t 19) (.c (.int .i64 1)), none⟩, ⟨some 5, .mv (.t 20), none⟩])))))) :: k) fr L = some (.bool (divB n l[i - 1]? t)) := by
  intro t
  have hlen := hv.len
  rw [I1_len] at hlen
  induction t with
  | nil =>
    intro i fr L ht hi0 hi h0 h1 h5
    have := drop_nil ht
    rw [show ∀ o, divB n o [] = true from fun o => by cases o <;> rfl]
    refine G_loop.trans ?_
    simp (config := { maxSteps := 10000000 }) (disch := omega) only [↓G_seq, ↓G_exit, ↓G_region, ↓G_cond, ↓Gx_code, ↓G_ops_nil, ↓G_op, Gv_some, Gc_false, dec_f, killAll, ↓get_setS, evalOp, ev, b_lss, one, Option.map_some, List.getElem?_cons_zero, List.getElem?_cons_succ, Nat.reduceEqDiff, reduceCtorEq, ↓reduceIte, Nat.succ_ne_self, h0, h5, hlen, hx]
  | cons x t ih =>
    intro i fr L ht hi0 hi h0 h1 h5
    obtain ⟨e1, e2, e3⟩ := drop_cons ht
    have hE := hv.el (I1_get _ i _ e1)
    have nx := fun fr' L' => ih (i + 1) fr' L' e2 (by omega) (by omega)
    rw [Nat.add_sub_cancel, e1] at nx
    clear ih hx
    refine G_loop.trans ?_
    obtain ⟨p, hp⟩ : ∃ p, l[i - 1]? = some p := ⟨_, List.getElem?_eq_getElem (by omega)⟩
    have hE2 := hv.el (I1_get _ (i - 1) _ hp)
    rw [show ((i - 1 : Nat) : Int) = (i : Nat) - 1 by omega] at hE2
    rw [hp]
    have cs : x ≤ p ∨ (p < x ∧ (n : Int) ≤ x) ∨ (p < x ∧ x < (n : Int)) := by omega
    rcases cs with c | ⟨c1, c2⟩ | ⟨c1, c2⟩
    · rw [show divB n (some p) (x :: t) = false by simp only [divB]; rw [decide_eq_false (by omega), Bool.false_and]]
      clear nx
      simp (config := { maxSteps := 10000000 }) (disch := omega) only [↓G_seq, ↓G_skip, ↓G_ret, ↓G_region, ↓G_block, ↓G_cond, ↓G_ops_nil, ↓G_op, Gv_some, ↓G_gop, Gw_ft, Gc_true, dec_t, killAll, ↓get_setS, evalOp, ev, b_sub, b_lss, b_leq, wrap_i64, one, Option.map_some, Option.bind_some, asB, finish, resVs, resV, outVs, ownsLast, tupOf, List.all_nil, List.getElem?_cons_zero, List.getElem?_cons_succ, Nat.reduceEqDiff, reduceCtorEq, ↓reduceIte, Nat.succ_ne_self, Bool.false_eq_true, pick3, loadV, ov_bool, fn_some, h0, h5, hlen, hE, hE2]
    · rw [show divB n (some p) (x :: t) = false by simp only [divB]; rw [decide_eq_false (by omega), Bool.false_and]]
      clear nx
      simp (config := { maxSteps := 10000000 }) (disch := omega) only [↓G_seq, ↓G_skip, ↓G_ret, ↓G_region, ↓G_block, ↓G_cond, ↓G_ops_nil, ↓G_op, Gv_some, ↓G_gop, Gw_ff, Gc_true, dec_t, dec_f, killAll, ↓get_setS, evalOp, ev, b_sub, b_lss, b_leq, b_geq, wrap_i64, one, Option.map_some, Option.bind_some, asB, finish, resVs, resV, outVs, ownsLast, tupOf, List.all_nil, List.getElem?_cons_zero, List.getElem?_cons_succ, Nat.reduceEqDiff, reduceCtorEq, ↓reduceIte, Nat.succ_ne_self, Bool.false_eq_true, pick3, loadV, ov_bool, fn_some, h0, h1, h5, hlen, hE, hE2]
    · rw [show divB n (some p) (x :: t) = divB n (some x) t by simp only [divB]; rw [decide_eq_true (by omega), Bool.true_and]]
      simp (config := { maxSteps := 10000000 }) (disch := omega) only [↓G_seq, ↓G_skip, ↓G_blk, ↓G_region, ↓G_block, ↓G_cond, ↓G_ops_nil, ↓G_op, Gv_some, ↓G_gop, Gw_ff, Gc_true, Gc_false, dec_t, dec_f, killAll, ↓get_setS, evalOp, ev, b_add, b_sub, b_lss, b_leq, b_geq, wrap_i64, one, Option.map_some, asB, List.getElem?_cons_zero, List.getElem?_cons_succ, Nat.reduceEqDiff, reduceCtorEq, ↓reduceIte, Nat.succ_ne_self, Bool.false_eq_true, pick3, loadV, h0, h1, h5, hlen, hE, hE2]
      refine nx _ _ ?_ ?_ ?_
      all_goals simp (config := { maxSteps := 10000000 }) (disch := omega) only [↓get_setS, List.getElem?_cons_zero, List.getElem?_cons_succ, Nat.reduceEqDiff, reduceCtorEq, ↓reduceIte, h0, h1]
      congr 1

theorem c16 {v : V} {n : Nat} {l : List Int} (hl : l.length ≤ 4611686018427387904) (hn : 0 < n) (hv : SlV 1 v (I1 l)) : call tbl 16 [v, .i (n : Nat)] H = some (.bool (divR n l)) := by
  refine (call_start (show tbl 16 = some a16 from rfl)).trans ?_
  have hlen := hv.len
  rw [I1_len] at hlen
  cases l with
  | nil =>
    rw [show divR n [] = false from rfl]
    simp only [List.length_nil] at hlen
    unfold a16
    simp (config := { maxSteps := 10000000 }) (disch := omega) only [↓G_seq, ↓G_ret, ↓G_region, ↓G_cond, ↓G_ops_nil, ↓G_op, Gv_some, ↓G_gop, Gw_ft, Gc_true, killAll, ↓get_setS, evalOp, ev, Ab.get, b_eql, one, Option.map_some, Option.bind_some, asB, finish, resVs, resV, outVs, ownsLast, tupOf, List.all_nil, List.getElem?_cons_zero, List.getElem?_cons_succ, Nat.reduceEqDiff, reduceCtorEq, ↓reduceIte, Nat.succ_ne_self, decide_true, Int.cast_ofNat_Int, ov_bool, fn_some, hlen, Int.cast_ofNat_Int]
  | cons x t =>
    have hE := hv.el (I1_get (x :: t) 0 x rfl)
    simp only [Int.ofNat_zero, Int.cast_ofNat_Int, Int.natCast_zero] at hE
    have fin := fun k hx => loop16 (H := H) (k := k) (n := n) hl hv hx t 1
    simp only [Nat.sub_self, List.getElem?_cons_zero] at fin
    simp only [List.length_cons] at hlen hl
    by_cases c : x = 0
    · rw [show divR n (x :: t) = divB n (some x) t by simp only [divR, divB, List.length_cons]; rw [decide_eq_true (by omega), decide_eq_true (by omega), Bool.true_and, Bool.true_and]]
      unfold a16
      simp (config := { maxSteps := 10000000 }) (disch := omega) only [↓G_seq, ↓G_skip, ↓G_region, ↓G_block, ↓G_cond, ↓G_ops_nil, ↓G_op, Gv_some, ↓G_gop, Gw_ff, Gc_false, dec_t, dec_f, killAll, ↓get_setS, evalOp, ev, Ab.get, b_eql, b_neq, one, Option.map_some, asB, List.getElem?_cons_zero, List.getElem?_cons_succ, Nat.reduceEqDiff, reduceCtorEq, ↓reduceIte, Nat.succ_ne_self, Bool.not_true, Bool.false_eq_true, pick3, loadV, hlen, hE]
      refine fin _ (fun fr' L' => ?_) _ _ rfl (by omega) (by simp) ?_ ?_ ?_
      all_goals simp (config := { maxSteps := 10000000 }) (disch := omega) only [↓G_seq, ↓G_ret, ↓G_region, ↓Gx_blk, ↓G_ops_nil, ↓G_op, Gv_some, killAll, ↓get_setS, evalOp, ev, Ab.get, Option.map_some, Option.bind_some, finish, resVs, resV, outVs, ownsLast, tupOf, List.all_nil, List.getElem?_cons_zero, List.getElem?_cons_succ, Nat.reduceEqDiff, reduceCtorEq, ↓reduceIte, Int.cast_ofNat_Int, ov_bool, fn_some]
    · rw [show divR n (x :: t) = false by simp only [divR, divB, List.length_cons]; rw [decide_eq_false (show ¬ (x = 0 ∧ x < (n : Int)) by omega), Bool.false_and, Bool.and_false]]
      clear fin
      unfold a16
      simp (config := { maxSteps := 10000000 }) (disch := omega) only [↓G_seq, ↓G_ret, ↓G_region, ↓G_cond, ↓G_ops_nil, ↓G_op, Gv_some, ↓G_gop, Gw_ff, Gc_true, dec_f, killAll, ↓get_setS, evalOp, ev, Ab.get, b_eql, b_neq, one, Option.map_some, Option.bind_some, asB, finish, resVs, resV, outVs, ownsLast, tupOf, List.all_nil, List.getElem?_cons_zero, List.getElem?_cons_succ, Nat.reduceEqDiff, reduceCtorEq, ↓reduceIte, Nat.succ_ne_self, Bool.not_false, Bool.false_eq_true, pick3, loadV, ov_bool, fn_some, hlen, hE]

end Go.Proofs.Ytdgifbmimfnmlaa

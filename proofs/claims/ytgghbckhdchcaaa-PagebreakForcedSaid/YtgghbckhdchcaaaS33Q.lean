/-
  Page breaks: the reference's best division is the program's; the law PagebreakBest.
-/
import Derived.Test.YtgghbckhdchcaaaS33O
namespace Go.Proofs.Ytgghbckhdchcaaa
open Go Go.Ab
set_option linter.unusedVariables false
set_option linter.unnecessarySimpa false
set_option linter.unusedSimpArgs false
set_option maxRecDepth 100000
variable {H : List (List Row)}
open Path (Ch)

def better15 (T : List Nat → Int) (all : List (List Nat)) (d : List Nat) (st : Nat × Int) : Prop := T d < st.2 ∨ (T d = st.2 ∧ T d < inf ∧ Path.bet d (all[st.1]?.getD []) = true)
instance (T : List Nat → Int) (all : List (List Nat)) (d : List Nat) (st : Nat × Int) : Decidable (better15 T all d st) := by unfold better15; exact inferInstance
def bfold (T : List Nat → Int) (all : List (List Nat)) : List (List Nat) → Nat → Nat × Int → Nat × Int
  | [], _, st => st
  | d :: t, k, st => bfold T all t (k + 1) (if better15 T all d st then (k, T d) else st)

/-- None is possible. -/
theorem bfold_none {T : List Nat → Int} {all : List (List Nat)} : ∀ (t : List (List Nat)) (k : Nat) (a : Nat), (∀ d ∈ t, inf ≤ T d) → bfold T all t k (a, inf) = (a, inf)
  | [], _, _, _ => rfl
  | d :: t, k, a, h => by
    unfold bfold
    have := h d (by simp)
    rw [if_neg (by unfold better15; simp only; omega)]
    exact bfold_none t (k + 1) a (fun x hx => h x (by simp [hx]))

/-- The one that is best of all is found. -/
theorem bfold_best {T : List Nat → Int} {all : List (List Nat)} {D : List Nat} (hD : T D < inf) (hbest : ∀ d ∈ all, d = D ∨ T D < T d ∨ (T D = T d ∧ Path.bet D d = true)) :
    ∀ (t : List (List Nat)) (k : Nat) (st : Nat × Int), all.drop k = t → (all[st.1]? = some D ∧ st.2 = T D) ∨ (D ∈ t ∧ (st.2 = inf ∨ ∃ d, all[st.1]? = some d ∧ st.2 = T d ∧ d ≠ D)) →
      all[(bfold T all t k st).1]? = some D ∧ (bfold T all t k st).2 = T D
  | [], k, st, ht, h => by
    rcases h with h | ⟨h, _⟩
    · exact h
    · cases h
  | d :: t, k, st, ht, h => by
    obtain ⟨e1, e2, e3⟩ := drop_cons ht
    have hd := hbest d (List.mem_of_getElem? e1)
    unfold bfold
    refine bfold_best hD hbest t (k + 1) _ e2 ?_
    rcases h with ⟨h1, h2⟩ | ⟨h1, h2⟩
    · refine .inl ?_
      rw [if_neg]
      · exact ⟨h1, h2⟩
      · unfold better15
        rw [h1, h2, Option.getD_some]
        rintro (h | ⟨h3, _, h4⟩)
        · rcases hd with rfl | hd | ⟨hd, _⟩ <;> omega
        · rcases hd with rfl | hd | ⟨_, hd⟩
          · rw [Path.bet_irr] at h4
            cases h4
          · omega
          · rw [Path.bet_asym hd] at h4
            cases h4
    · by_cases c : d = D
      · subst c
        refine .inl ?_
        rw [if_pos]
        · exact ⟨e1, rfl⟩
        · unfold better15
          rcases h2 with h2 | ⟨d', h3, h4, h5⟩
          · exact .inl (by omega)
          · rw [h3, h4, Option.getD_some]
            rcases hbest d' (List.mem_of_getElem? h3) with h6 | h6 | ⟨h6, h7⟩
            · exact absurd h6 h5
            · exact .inl h6
            · exact .inr ⟨h6, hD, h7⟩
      · refine .inr ⟨?_, ?_⟩
        · rcases List.mem_cons.1 h1 with h | h
          · exact absurd h.symm c
          · exact h
        · split
          · exact .inr ⟨d, e1, rfl, c⟩
          · exact h2

def wv (n : Nat) (d : List Nat) : V := if n = 0 then .nilsl else svT (zs d)
theorem wv_ok {n : Nat} {d : List Nat} (h : d ∈ allD n) : SlV 1 (wv n d) (I1 (zs d)) := by
  unfold wv
  split
  · rename_i h0
    rcases allD_Dv h with ⟨_, rfl⟩ | ⟨t, rfl, h'⟩
    · exact .nil
    · have := isD_hd _ _ h'
      omega
  · exact svT_ok _
theorem allV_ok {n : Nat} : SlV 1 (allV n) ((allD n).map fun d => [wv n d]) := by
  unfold allV allD wv
  by_cases h : n = 0
  · simp only [h, if_true]
    exact .full
  · simp only [h, if_false]
    exact .any
theorem take_all {L : List Row} {s n : Nat} : takeIn false L s (allO n) = (allV n, L) := by
  unfold allO allV
  split <;> rfl
theorem allD_pos {n : Nat} : 0 < (allD n).length := by
  unfold allD
  split
  · simp
  · simp only [List.length_map, List.length_range]
    exact Nat.two_pow_pos _

theorem loop15 {k : List KI} {v : V} {l : List Sy} {ph pt : Int} {L : List Row} {r : Option V} {S : Nat × Int} (he : errC l ph pt = 0) (hn : l.length ≤ 9) (hv : SlV 4 v (E4 l)) (hL : rget L 1 = ⟨1, 2, [[.i ph, .i pt]]⟩)
    (hx : ∀ fr', Ab.get fr' 6 = allV l.length → Ab.get fr' 7 = .i (S.1 : Nat) → Ab.get fr' 8 = .i S.2 → Gx tbl H [.tmp 4, .tmp 5] 0 k fr' L = r) :
    ∀ (t : List (List Nat)) (i : Nat) (st : Nat × Int) (fr : List V), (allD l.length).drop i = t → i ≤ (allD l.length).length → st.1 < (allD l.length).length → 0 ≤ st.2 ∧ st.2 ≤ inf → Ab.get fr 0 = v → Ab.get fr 3 = .ptr 0 1 1 0 0 → Ab.get fr 6 = allV l.length → Ab.get fr 7 = .i (st.1 : Nat) → Ab.get fr 8 = .i st.2 → Ab.get fr 9 = .i (i : Nat) → S = bfold (tt l ph pt true) (allD l.length) t i st →
      G tbl H [.tmp 4, .tmp 5] (.code (.loop ( (.seq ( (.seq ( .region [] [ ⟨some 14, .mv (.t 9), none⟩, ⟨some 15, .mv (.t 6), none⟩, ⟨some 16, .len (.t 15), none⟩, ⟨some 17, .bin .lss (.t 14) (.t 16), none⟩]) ( (.cond (.t 17) ( .skip) ( .exit 0))))) ( (.seq ( (.block 1 ( (.seq ( .region [] [ ⟨some 20, .mv (.t 0), none⟩, ⟨some 21, .load true 2 (.t 3), none⟩, ⟨some 22, .mv (.t 6), none⟩, ⟨some 23, .mv (.t 9), none⟩, ⟨some 24, .elemAddr 1 (.t 22) (.t 23), none⟩, ⟨some 25, .load false 1 (.t 24), none⟩, ⟨some 26, .call 0 (.c (.fn 19 [])) [(.t 20), (.t 21), (.t 25)], none⟩, ⟨some 10, .mv (.t 26), none⟩]) ( (.seq ( .region [] [ ⟨some 27, .mv (.t 10), none⟩, ⟨some 28, .mv (.t 8), none⟩, ⟨some 29, .bin .lss (.t 27) (.t 28), none⟩, ⟨some 30, .mv (.t 29), none⟩, ⟨some 31, .mv (.t 10), some (30, false)⟩, ⟨some 32, .mv (.t 8), some (30, false)⟩, ⟨some 33, .bin .eql (.t 31) (.t 32), some (30, false)⟩, ⟨some 34, .mv (.t 33), some (30, false)⟩, ⟨some 35, .mv (.t 10), some (34, true)⟩, ⟨some 36, .bin .lss (.t 35) (.c (.int .i64 1125899906842624)), some (34, true)⟩, ⟨some 37, .pick (.t 34) (.t 36) (.c (.bool false)), some (30, false)⟩, ⟨some 38, .mv (.t 37), some (30, false)⟩, ⟨some 39, .mv (.t 6), some (38, true)⟩, ⟨some 40, .mv (.t 9), some (38, true)⟩, ⟨some 41, .elemAddr 1 (.t 39) (.t 40), some (38, true)⟩, ⟨some 42, .load false 1 (.t 41), some (38, true)⟩, ⟨some 43, .mv (.t 6), some (38, true)⟩, ⟨some 44, .mv (.t 7), some (38, true)⟩, ⟨some 45, .elemAddr 1 (.t 43) (.t 44), some (38, true)⟩, ⟨some 46, .load false 1 (.t 45), some (38, true)⟩, ⟨some 47, .call 0 (.c (.fn 20 [])) [(.t 42), (.t 46)], some (38, true)⟩, ⟨some 48, .pick (.t 38) (.t 47) (.c (.bool false)), some (30, false)⟩, ⟨some 49, .pick (.t 30) (.c (.bool true)) (.t 48), none⟩]) ( (.cond (.t 49) ( .region [] [ ⟨some 50, .mv (.t 9), none⟩, ⟨some 51, .mv (.t 10), none⟩, ⟨some 7, .mv (.t 50), none⟩, ⟨some 8, .mv (.t 51), none⟩]) ( .skip))))))))) ( .region [] [ ⟨some 18, .mv (.t 9), none⟩, ⟨some 19, .bin .add (.t 18) (.c (.int .i64 1)), none⟩, ⟨some 9, .mv (.t 19), none⟩])))))) :: k) fr L = r := by
  intro t
  have hlA := (allV_ok (n := l.length)).len
  rw [List.length_map] at hlA
  have h256 := allD_len hn
  induction t with
  | nil =>
    intro i st fr ht hi hst hst2 h0 h3 h6 h7 h8 h9 hS
    have := drop_nil ht
    unfold bfold at hS
    subst hS
    refine G_loop.trans ?_
    simp (config := { maxSteps := 10000000 }) (disch := omega) only [↓G_seq, ↓G_exit, ↓G_region, ↓G_cond, ↓Gx_code, ↓G_ops_nil, ↓G_op, Gv_some, Gc_false, dec_f, killAll, ↓get_setS, evalOp, ev, b_lss, one, Option.map_some, List.getElem?_cons_zero, List.getElem?_cons_succ, Nat.reduceEqDiff, ↓reduceIte, Nat.succ_ne_self, h6, h9, hlA]
    refine hx _ ?_ ?_ ?_
    all_goals simp (config := { maxSteps := 10000000 }) (disch := omega) only [↓get_setS, List.getElem?_cons_zero, List.getElem?_cons_succ, Nat.reduceEqDiff, ↓reduceIte, h6, h7, h8]
  | cons d t ih =>
    intro i st fr ht hi hst hst2 h0 h3 h6 h7 h8 h9 hS
    obtain ⟨e1, e2, e3⟩ := drop_cons ht
    have hmem := List.mem_of_getElem? e1
    have hE := (allV_ok (n := l.length)).el (i := i) (e := [wv l.length d]) (by rw [List.getElem?_map, e1]; rfl)
    obtain ⟨d', hd'⟩ : ∃ d', (allD l.length)[st.1]? = some d' := ⟨_, List.getElem?_eq_getElem hst⟩
    have hmem' := List.mem_of_getElem? hd'
    have hE2 := (allV_ok (n := l.length)).el (i := st.1) (e := [wv l.length d']) (by rw [List.getElem?_map, hd']; rfl)
    have hdv := allD_Dv hmem
    have hdv' := allD_Dv hmem'
    have h19 := fun H => c19 (H := H) he hv (wv_ok hmem) hdv
    have hdl := Dv_len hdv
    have hdl' := Dv_len hdv'
    have h20 := fun H => c20 (H := H) (a := d) (b := d') (by omega) (by omega) (wv_ok hmem) (wv_ok hmem')
    have hwh := (wv_ok hmem).sh
    have hwh' := (wv_ok hmem').sh
    have hsh := hv.sh
    have hb := tt_Bd he d true (by omega)
    have hT : 0 ≤ tt l ph pt true d ∧ tt l ph pt true d ≤ inf := by
      have := hinf
      unfold Bd at hb
      omega
    have nx : ∀ st' : Nat × Int, (better15 (tt l ph pt true) (allD l.length) d st ∧ st' = (i, tt l ph pt true d) ∨ ¬ better15 (tt l ph pt true) (allD l.length) d st ∧ st' = st) → ∀ fr', Ab.get fr' 0 = v → Ab.get fr' 3 = .ptr 0 1 1 0 0 → Ab.get fr' 6 = allV l.length → Ab.get fr' 7 = .i (st'.1 : Nat) → Ab.get fr' 8 = .i st'.2 → Ab.get fr' 9 = .i ((i : Nat) + 1) →
        G tbl H [.tmp 4, .tmp 5] (.code (.loop ( (.seq ( (.seq ( .region [] [ ⟨some 14, .mv (.t 9), none⟩, ⟨some 15, .mv (.t 6), none⟩, ⟨some 16, .len (.t 15), none⟩, ⟨some 17, .bin .lss (.t 14) (.t 16), none⟩]) ( (.cond (.t 17) ( .skip) ( .exit 0))))) ( (.seq ( (.block 1 ( (.seq ( .region [] [ ⟨some 20, .mv (.t 0), none⟩, ⟨some 21, .load true 2 (.t 3), none⟩, ⟨some 22, .mv (.t 6), none⟩, ⟨some 23, .mv (.t 9), none⟩, ⟨some 24, .elemAddr 1 (.t 22) (.t 23), none⟩, ⟨some 25, .load false 1 (.t 24), none⟩, ⟨some 26, .call 0 (.c (.fn 19 [])) [(.t 20), (.t 21), (.t 25)], none⟩, ⟨some 10, .mv (.t 26), none⟩]) ( (.seq ( .region [] [ ⟨some 27, .mv (.t 10), none⟩, ⟨some 28, .mv (.t 8), none⟩, ⟨some 29, .bin .lss (.t 27) (.t 28), none⟩, ⟨some 30, .mv (.t 29), none⟩, ⟨some 31, .mv (.t 10), some (30, false)⟩, ⟨some 32, .mv (.t 8), some (30, false)⟩, ⟨some 33, .bin .eql (.t 31) (.t 32), some (30, false)⟩, ⟨some 34, .mv (.t 33), some (30, false)⟩, ⟨some 35, .mv (.t 10), some (34, true)⟩, ⟨some 36, .bin .lss (.t 35) (.c (.int .i64 1125899906842624)), some (34, true)⟩, ⟨some 37, .pick (.t 34) (.t 36) (.c (.bool false)), some (30, false)⟩, ⟨some 38, .mv (.t 37), some (30, false)⟩, ⟨some 39, .mv (.t 6), some (38, true)⟩, ⟨some 40, .mv (.t 9), some (38, true)⟩, ⟨some 41, .elemAddr 1 (.t 39) (.t 40), some (38, true)⟩, ⟨some 42, .load false 1 (.t 41), some (38, true)⟩, ⟨some 43, .mv (.t 6), some (38, true)⟩, ⟨some 44, .mv (.t 7), some (38, true)⟩, ⟨some 45, .elemAddr 1 (.t 43) (.t 44), some (38, true)⟩, ⟨some 46, .load false 1 (.t 45), some (38, true)⟩, ⟨some 47, .call 0 (.c (.fn 20 [])) [(.t 42), (.t 46)], some (38, true)⟩, ⟨some 48, .pick (.t 38) (.t 47) (.c (.bool false)), some (30, false)⟩, ⟨some 49, .pick (.t 30) (.c (.bool true)) (.t 48), none⟩]) ( (.cond (.t 49) ( .region [] [ ⟨some 50, .mv (.t 9), none⟩, ⟨some 51, .mv (.t 10), none⟩, ⟨some 7, .mv (.t 50), none⟩, ⟨some 8, .mv (.t 51), none⟩]) ( .skip))))))))) ( .region [] [ ⟨some 18, .mv (.t 9), none⟩, ⟨some 19, .bin .add (.t 18) (.c (.int .i64 1)), none⟩, ⟨some 9, .mv (.t 19), none⟩])))))) :: k) fr' L = r := by
      intro st' hst' fr' g0 g3 g6 g7 g8 g9
      refine ih (i + 1) st' fr' e2 (by omega) ?_ ?_ g0 g3 g6 g7 g8 (by rw [g9]; congr 1) ?_
      · rcases hst' with ⟨_, h⟩ | ⟨_, h⟩
        · rw [h]; exact e3
        · rw [h]; exact hst
      · rcases hst' with ⟨_, h⟩ | ⟨_, h⟩
        · rw [h]; exact hT
        · rw [h]; exact hst2
      · unfold bfold at hS
        rw [hS]
        rcases hst' with ⟨h', h⟩ | ⟨h', h⟩
        · rw [if_pos h', h]
        · rw [if_neg h', h]
    have hinf' := hinf
    unfold better15 at nx
    rw [hd', Option.getD_some] at nx
    clear hS
    generalize tt l ph pt true d = T at *
    generalize allV l.length = A at *
    generalize (allD l.length).length = N at *
    clear ih hx hv he hb hmem hmem' hdv hdv' ht e1 e2 hd'
    have cs : T < st.2 ∨ (T = st.2 ∧ inf ≤ T) ∨ (T = st.2 ∧ T < inf) ∨ st.2 < T := by omega
    refine G_loop.trans ?_
    rcases cs with c | ⟨c1, c2⟩ | ⟨c1, c2⟩ | c
    · have nx' := nx (i, T) (.inl ⟨.inl c, rfl⟩)
      clear nx
      simp (config := { maxSteps := 10000000 }) (disch := omega) only [↓G_seq, ↓G_skip, ↓G_blk, ↓G_region, ↓G_block, ↓G_cond, ↓G_ops_nil, ↓G_op, Gv_some, ↓G_gop, Gw_ft, Gw_tup, Gc_true, dec_t, killAll, ↓get_setS, evalOp, ev, evs, b_add, b_lss, wrap_i64, one, Option.map_some, Option.bind_some, asB, callV, V.shift, V.shifts, List.append_nil, Bool.and_self, List.getElem?_cons_zero, List.getElem?_cons_succ, Nat.reduceEqDiff, reduceCtorEq, ↓reduceIte, Nat.succ_ne_self, bne_self_eq_false, Bool.false_eq_true, Int.reduceAdd, pick3, loadV, Ab.rowAt, Nat.reduceAdd, and_self, List.length_cons, List.length_nil, List.take_succ_cons, List.take_zero, List.drop_zero, Nat.le_refl, List.getD_cons_zero, Nat.zero_add, ti_int, h0, h3, h6, h8, h9, hE, hL, hlA, h19, hwh, hsh, Nat.zero_lt_succ]
      refine nx' _ ?_ ?_ ?_ ?_ ?_ ?_
      all_goals simp (config := { maxSteps := 10000000 }) (disch := omega) only [↓get_setS, List.getElem?_cons_zero, List.getElem?_cons_succ, Nat.reduceEqDiff, reduceCtorEq, ↓reduceIte, Nat.succ_ne_self, h0, h3, h6]
    · have nx' := nx st (.inr ⟨by omega, rfl⟩)
      clear nx
      simp (config := { maxSteps := 10000000 }) (disch := omega) only [↓G_seq, ↓G_skip, ↓G_blk, ↓G_region, ↓G_block, ↓G_cond, ↓G_ops_nil, ↓G_op, Gv_some, ↓G_gop, Gw_tt, Gw_ff, Gw_tf, Gc_true, Gc_false, dec_t, dec_f, killAll, ↓get_setS, evalOp, ev, evs, b_add, b_eql, b_lss, wrap_i64, one, Option.map_some, Option.bind_some, asB, callV, V.shift, V.shifts, List.append_nil, Bool.and_self, List.getElem?_cons_zero, List.getElem?_cons_succ, Nat.reduceEqDiff, reduceCtorEq, ↓reduceIte, Nat.succ_ne_self, bne_self_eq_false, Bool.false_eq_true, Int.reduceAdd, pick3, loadV, Ab.rowAt, Nat.reduceAdd, and_self, List.length_cons, List.length_nil, List.take_succ_cons, List.take_zero, List.drop_zero, Nat.le_refl, List.getD_cons_zero, Nat.zero_add, ti_int, h0, h3, h6, h8, h9, hE, hL, hlA, h19, hwh, hsh, Nat.zero_lt_succ]
      refine nx' _ ?_ ?_ ?_ ?_ ?_ ?_
      all_goals simp (config := { maxSteps := 10000000 }) (disch := omega) only [↓get_setS, List.getElem?_cons_zero, List.getElem?_cons_succ, Nat.reduceEqDiff, reduceCtorEq, ↓reduceIte, Nat.succ_ne_self, h0, h3, h6, h7, h8]
    · cases hbt : Path.bet d d'
      · rw [hbt] at nx h20
        have nx' := nx st (.inr ⟨by simp; omega, rfl⟩)
        clear nx
        simp (config := { maxSteps := 10000000 }) (disch := omega) only [↓G_seq, ↓G_skip, ↓G_blk, ↓G_region, ↓G_block, ↓G_cond, ↓G_ops_nil, ↓G_op, Gv_some, ↓G_gop, Gw_tt, Gw_ff, Gc_true, Gc_false, dec_t, dec_f, killAll, ↓get_setS, evalOp, ev, evs, b_add, b_eql, b_lss, wrap_i64, one, Option.map_some, Option.bind_some, asB, callV, V.shift, V.shifts, List.append_nil, Bool.and_self, List.getElem?_cons_zero, List.getElem?_cons_succ, Nat.reduceEqDiff, reduceCtorEq, ↓reduceIte, Nat.succ_ne_self, bne_self_eq_false, Bool.false_eq_true, Int.reduceAdd, pick3, loadV, Ab.rowAt, Nat.reduceAdd, and_self, List.length_cons, List.length_nil, List.take_succ_cons, List.take_zero, List.drop_zero, Nat.le_refl, List.getD_cons_zero, Nat.zero_add, ti_bool, ti_int, h0, h3, h6, h7, h8, h9, hE, hE2, hL, hlA, h19, h20, hwh, hwh', hsh, Nat.zero_lt_succ]
        refine nx' _ ?_ ?_ ?_ ?_ ?_ ?_
        all_goals simp (config := { maxSteps := 10000000 }) (disch := omega) only [↓get_setS, List.getElem?_cons_zero, List.getElem?_cons_succ, Nat.reduceEqDiff, reduceCtorEq, ↓reduceIte, Nat.succ_ne_self, h0, h3, h6, h7, h8]
      · rw [hbt] at nx h20
        have nx' := nx (i, T) (.inl ⟨.inr ⟨c1, c2, rfl⟩, rfl⟩)
        clear nx
        simp (config := { maxSteps := 10000000 }) (disch := omega) only [↓G_seq, ↓G_skip, ↓G_blk, ↓G_region, ↓G_block, ↓G_cond, ↓G_ops_nil, ↓G_op, Gv_some, ↓G_gop, Gw_tt, Gw_ff, Gc_true, dec_t, dec_f, killAll, ↓get_setS, evalOp, ev, evs, b_add, b_eql, b_lss, wrap_i64, one, Option.map_some, Option.bind_some, asB, callV, V.shift, V.shifts, List.append_nil, Bool.and_self, List.getElem?_cons_zero, List.getElem?_cons_succ, Nat.reduceEqDiff, reduceCtorEq, ↓reduceIte, Nat.succ_ne_self, bne_self_eq_false, Bool.false_eq_true, Int.reduceAdd, pick3, loadV, Ab.rowAt, Nat.reduceAdd, and_self, List.length_cons, List.length_nil, List.take_succ_cons, List.take_zero, List.drop_zero, Nat.le_refl, List.getD_cons_zero, Nat.zero_add, ti_bool, ti_int, h0, h3, h6, h7, h8, h9, hE, hE2, hL, hlA, h19, h20, hwh, hwh', hsh, Nat.zero_lt_succ]
        refine nx' _ ?_ ?_ ?_ ?_ ?_ ?_
        all_goals simp (config := { maxSteps := 10000000 }) (disch := omega) only [↓get_setS, List.getElem?_cons_zero, List.getElem?_cons_succ, Nat.reduceEqDiff, reduceCtorEq, ↓reduceIte, Nat.succ_ne_self, h0, h3, h6]
    · have nx' := nx st (.inr ⟨by omega, rfl⟩)
      clear nx
      simp (config := { maxSteps := 10000000 }) (disch := omega) only [↓G_seq, ↓G_skip, ↓G_blk, ↓G_region, ↓G_block, ↓G_cond, ↓G_ops_nil, ↓G_op, Gv_some, ↓G_gop, Gw_ff, Gw_tf, Gc_true, Gc_false, dec_t, dec_f, killAll, ↓get_setS, evalOp, ev, evs, b_add, b_eql, b_lss, wrap_i64, one, Option.map_some, Option.bind_some, asB, callV, V.shift, V.shifts, List.append_nil, Bool.and_self, List.getElem?_cons_zero, List.getElem?_cons_succ, Nat.reduceEqDiff, reduceCtorEq, ↓reduceIte, Nat.succ_ne_self, bne_self_eq_false, Bool.false_eq_true, Int.reduceAdd, pick3, loadV, Ab.rowAt, Nat.reduceAdd, and_self, List.length_cons, List.length_nil, List.take_succ_cons, List.take_zero, List.drop_zero, Nat.le_refl, List.getD_cons_zero, Nat.zero_add, ti_int, h0, h3, h6, h8, h9, hE, hL, hlA, h19, hwh, hsh, Nat.zero_lt_succ]
      refine nx' _ ?_ ?_ ?_ ?_ ?_ ?_
      all_goals simp (config := { maxSteps := 10000000 }) (disch := omega) only [↓get_setS, List.getElem?_cons_zero, List.getElem?_cons_succ, Nat.reduceEqDiff, reduceCtorEq, ↓reduceIte, Nat.succ_ne_self, h0, h3, h6, h7, h8]

/-- What the reference's best returns, as its caller has it. -/
theorem c15 {v : V} {l : List Sy} {ph pt : Int} (he : errC l ph pt = 0) (hn : l.length ≤ 9) (hv : SlV 4 v (E4 l)) :
    call tbl 15 [v, .agg [.i ph, .i pt]] H = some (if 0 < l.length ∧ inf ≤ (tabN l ph pt 0 true).c then .tup [.nilsl, .i 28] else .tup [wv l.length (if l.length = 0 then [] else bestD l ph pt), .i 0]) := by
  refine (call_start (show tbl 15 = some a15 from rfl)).trans ?_
  have hlv := hv.len
  rw [E4_len] at hlv
  have h29 := fun H => c29 (H := H) hn
  have hsh := hv.sh
  have hinf' := hinf
  unfold a15
  simp (config := { maxSteps := 10000000 }) (disch := omega) only [↓G_seq, ↓G_region, ↓G_block, ↓G_ops_nil, ↓G_op, Gv_some, killAll, ↓get_setS, evalOp, ev, evs, Ab.get, one, Option.map_some, callV, V.shift, V.shifts, List.append_nil, List.all_cons, List.all_nil, Bool.and_self, List.getElem?_cons_zero, List.getElem?_cons_succ, reduceCtorEq, ↓reduceIte, bne_self_eq_false, Int.reduceAdd, V.cells, rget, rset, V.scalar, Nat.reduceAdd, and_self, List.length_cons, List.length_nil, Nat.zero_add, hlv, h29, take_all]
  by_cases hc : 0 < l.length ∧ inf ≤ (tabN l ph pt 0 true).c
  · have hno : bfold (tt l ph pt true) (allD l.length) (allD l.length) 0 (0, inf) = (0, inf) := by
      refine bfold_none _ _ _ (fun d hd => ?_)
      rcases allD_Dv hd with ⟨h0, _⟩ | ⟨t, rfl, h'⟩
      · omega
      · exact (bestD_ok he hc.1).1 hc.2 t h'
    rw [if_pos hc]
    refine loop15 (S := (0, inf)) he hn hv ?_ (fun fr' g6 g7 g8 => ?_) (allD l.length) 0 (0, inf) _ rfl (by omega) allD_pos ⟨by decide, Int.le_refl _⟩ ?_ ?_ ?_ ?_ ?_ ?_ hno.symm
    · rfl
    · rw [hinf'] at g8
      simp (config := { maxSteps := 10000000 }) (disch := omega) only [↓G_seq, ↓G_ret, ↓G_region, ↓G_cond, ↓Gx_blk, ↓G_ops_nil, ↓G_op, Gv_some, Gc_true, killAll, ↓get_setS, evalOp, ev, b_geq, one, Option.map_some, Option.bind_some, finish, resVs, resV, outVs, ownsLast, tupOf, List.all_cons, List.all_nil, Bool.and_self, List.getElem?_cons_zero, List.getElem?_cons_succ, ↓reduceIte, Nat.succ_ne_self, decide_true, Int.reduceLE, and_self, ov_int, ov_nilsl, fn_some, g8]
    all_goals simp (config := { maxSteps := 10000000 }) (disch := omega) only [↓get_setS, Ab.get, List.getElem?_cons_zero, List.getElem?_cons_succ, Nat.reduceEqDiff, reduceCtorEq, ↓reduceIte, Nat.succ_ne_self, Int.cast_ofNat_Int]
    all_goals rfl
  · rw [if_neg hc]
    generalize hD : (if l.length = 0 then [] else bestD l ph pt) = D
    have hb : tt l ph pt true D < inf ∧ D ∈ allD l.length ∧ ∀ d ∈ allD l.length, d = D ∨ tt l ph pt true D < tt l ph pt true d ∨ (tt l ph pt true D = tt l ph pt true d ∧ Path.bet D d = true) := by
      by_cases h0 : l.length = 0
      · rw [if_pos h0] at hD
        subst hD
        refine ⟨by show (0 : Int) < inf; decide, Dv_allD (.inl ⟨h0, rfl⟩), fun d hd => ?_⟩
        rcases allD_Dv hd with ⟨_, h⟩ | ⟨t, rfl, h'⟩
        · exact .inl h
        · have := isD_hd _ _ h'
          omega
      · rw [if_neg h0] at hD
        subst hD
        obtain ⟨⟨q, a1⟩, a2, a3, a4⟩ := (bestD_ok he (by omega)).2 (by omega)
        refine ⟨by omega, Dv_allD (.inr ⟨q, a1, a2⟩), fun d hd => ?_⟩
        rcases allD_Dv hd with ⟨h, _⟩ | ⟨t, rfl, h'⟩
        · omega
        · rw [a3]
          exact a4 t h'
    obtain ⟨b1, b2, b3⟩ := hb
    have hfin := bfold_best (T := tt l ph pt true) (all := allD l.length) b1 b3 (allD l.length) 0 (0, inf) rfl (.inr ⟨b2, .inl rfl⟩)
    have hTb := tt_Bd he D true (by have := Dv_len (allD_Dv b2); omega)
    generalize hS : bfold (tt l ph pt true) (allD l.length) (allD l.length) 0 (0, inf) = S at *
    obtain ⟨f1, f2⟩ := hfin
    have hE := (allV_ok (n := l.length)).el (i := S.1) (e := [wv l.length D]) (by rw [List.getElem?_map, f1]; rfl)
    have ho := fun L => (wv_ok b2).out L
    refine loop15 (S := S) he hn hv ?_ (fun fr' g6 g7 g8 => ?_) (allD l.length) 0 (0, inf) _ rfl (by omega) allD_pos ⟨by decide, Int.le_refl _⟩ ?_ ?_ ?_ ?_ ?_ ?_ hS.symm
    · rfl
    · rw [f2] at g8
      unfold Bd at hTb
      generalize tt l ph pt true D = T at *
      generalize allV l.length = A at *
      clear b3 b2 h29
      simp (config := { maxSteps := 10000000 }) (disch := omega) only [↓G_seq, ↓G_skip, ↓G_ret, ↓G_region, ↓G_cond, ↓Gx_blk, ↓G_ops_nil, ↓G_op, Gv_some, Gc_false, dec_f, killAll, ↓get_setS, evalOp, ev, b_geq, one, Option.map_some, Option.bind_some, finish, resVs, resV, outVs, ownsLast, tupOf, List.all_cons, List.all_nil, Bool.and_self, List.getElem?_cons_zero, List.getElem?_cons_succ, Nat.reduceEqDiff, ↓reduceIte, Nat.succ_ne_self, Bool.false_eq_true, pick3, loadV, and_self, ov_int, fn_some, g6, g7, g8, hE, ho]
    all_goals simp (config := { maxSteps := 10000000 }) (disch := omega) only [↓get_setS, Ab.get, List.getElem?_cons_zero, List.getElem?_cons_succ, Nat.reduceEqDiff, reduceCtorEq, ↓reduceIte, Nat.succ_ne_self, Int.cast_ofNat_Int]
    all_goals rfl

theorem l4 {v : V} {l : List Sy} {ph pt : Int} (hm : l.length ≤ 9223372036854775807) (hv : SlV 4 v (E4 l)) : call tbl 4 [v, .agg [.i ph, .i pt]] H = some (.bool true) := by
  refine (call_start (show tbl 4 = some a4 from rfl)).trans ?_
  have hlen := hv.len
  rw [E4_len] at hlen
  obtain ⟨v', m, hs, hv', hml, _⟩ := cut hv 9
  simp only [Int.cast_ofNat_Int] at hs
  have hm' : m.length ≤ 9223372036854775807 := by omega
  have h13 := fun H => c13 (H := H) (ph := ph) (pt := pt) hm' hv'
  have hsh := hv'.sh
  by_cases he : errC m ph pt = 0
  case neg =>
    have h14 := fun H => c14e (H := H) hm' he hv'
    generalize errC m ph pt = e at *
    unfold a4
    simp (config := { maxSteps := 10000000 }) (disch := omega) only [↓G_seq, ↓G_ret, ↓G_region, ↓G_cond, ↓G_ops_nil, ↓G_op, Gv_some, ↓G_gop, Gw_tt, Gc_true, dec_f, killAll, ↓get_setS, evalOp, ev, evs, Ab.get, b_eql, b_neq, one, Option.map_some, Option.bind_some, Option.map_none, asB, finish, resVs, resV, outVs, ownsLast, tupOf, callV, V.shift, V.shifts, List.append_nil, List.map_cons, List.map_nil, List.all_cons, List.all_nil, Bool.and_self, List.getElem?_cons_zero, List.getElem?_cons_succ, Nat.reduceEqDiff, reduceCtorEq, ↓reduceIte, Nat.succ_ne_self, decide_true, Bool.not_false, bne_self_eq_false, Bool.false_eq_true, Int.reduceAdd, pick3, V.cells, loadV, Ab.rowAt, rget, rset, V.scalar, mmV, Nat.reduceAdd, and_self, List.length_cons, List.length_nil, List.take_succ_cons, List.take_zero, List.drop_zero, Nat.le_refl, List.getD_cons_zero, Nat.zero_add, len_nil, ti_bool, ti_int, ti_tup_nilsl, st_int, st_nilsl, ov_bool, fn_some, hlen, hs, c11, h13, hsh, h14, Nat.zero_lt_succ]
    done
  have h14 := fun H => c14 (H := H) hm' he hv'
  have h15 := fun H => c15 (H := H) he hml hv'
  simp only [he] at h13
  unfold brkR at h14
  by_cases h0 : m.length = 0
  · have h16 := fun H => c16 (H := H) (a := []) (b := []) (by simp) (by simp) .nil .nil
    simp only [h0, if_true, Nat.lt_irrefl, false_and, if_false, wv] at h14 h15
    simp only [decide_true] at h16
    unfold a4
    simp (config := { maxSteps := 10000000 }) (disch := omega) only [↓G_seq, ↓G_skip, ↓G_ret, ↓G_region, ↓G_cond, ↓G_ops_nil, ↓G_op, Gv_some, ↓G_gop, Gw_tt, Gc_false, killAll, ↓get_setS, evalOp, ev, evs, Ab.get, b_eql, b_neq, one, Option.map_some, Option.bind_some, Option.map_none, asB, finish, resVs, resV, outVs, ownsLast, tupOf, callV, V.shift, V.shifts, List.append_nil, List.map_cons, List.map_nil, List.all_cons, List.all_nil, Bool.and_self, List.getElem?_cons_zero, List.getElem?_cons_succ, Nat.reduceEqDiff, reduceCtorEq, ↓reduceIte, Nat.succ_ne_self, decide_true, Bool.not_true, bne_self_eq_false, Bool.false_eq_true, Int.reduceAdd, pick3, V.cells, loadV, Ab.rowAt, rget, rset, V.scalar, mmV, Nat.reduceAdd, and_self, List.length_cons, List.length_nil, List.take_succ_cons, List.take_zero, List.drop_zero, Nat.le_refl, List.getD_cons_zero, Nat.zero_add, ti_bool, ti_int, ti_tup_nilsl, st_int, st_nilsl, ov_bool, fn_some, hlen, hs, c11, h13, hsh, h14, h15, h16, Nat.zero_lt_succ]
    done
  simp only [h0, if_false] at h14
  by_cases h1 : inf ≤ (tabN m ph pt 0 true).c
  · have h16 := fun H => c16 (H := H) (a := []) (b := []) (by simp) (by simp) .nil .nil
    simp only [h1, if_true] at h14
    simp only [show (0 < m.length ∧ inf ≤ (tabN m ph pt 0 true).c) = True from eq_true ⟨by omega, h1⟩, if_true] at h15
    simp only [decide_true] at h16
    unfold a4
    simp (config := { maxSteps := 10000000 }) (disch := omega) only [↓G_seq, ↓G_skip, ↓G_ret, ↓G_region, ↓G_cond, ↓G_ops_nil, ↓G_op, Gv_some, ↓G_gop, Gw_tt, Gc_false, killAll, ↓get_setS, evalOp, ev, evs, Ab.get, b_eql, b_neq, one, Option.map_some, Option.bind_some, Option.map_none, asB, finish, resVs, resV, outVs, ownsLast, tupOf, callV, V.shift, V.shifts, List.append_nil, List.map_cons, List.map_nil, List.all_cons, List.all_nil, Bool.and_self, List.getElem?_cons_zero, List.getElem?_cons_succ, Nat.reduceEqDiff, reduceCtorEq, ↓reduceIte, Nat.succ_ne_self, decide_true, Bool.not_true, bne_self_eq_false, Bool.false_eq_true, Int.reduceAdd, pick3, V.cells, loadV, Ab.rowAt, rget, rset, V.scalar, mmV, Nat.reduceAdd, and_self, List.length_cons, List.length_nil, List.take_succ_cons, List.take_zero, List.drop_zero, Nat.le_refl, List.getD_cons_zero, Nat.zero_add, ti_bool, ti_int, ti_tup_nilsl, st_int, st_nilsl, ov_bool, fn_some, hlen, hs, c11, h13, hsh, h14, h15, h16, Nat.zero_lt_succ]
    done
  simp only [h1, if_false] at h14
  simp only [show (0 < m.length ∧ inf ≤ (tabN m ph pt 0 true).c) = False from eq_false (fun h => h1 h.2), if_false, h0] at h15
  obtain ⟨⟨q, a1⟩, a2, _⟩ := (bestD_ok he (by omega)).2 (by omega)
  have hDv : Dv m.length (bestD m ph pt) := .inr ⟨q, a1, a2⟩
  have hdl := Dv_len hDv
  have hwv : wv m.length (bestD m ph pt) = svT (zs (bestD m ph pt)) := if_neg h0
  simp only [hwv] at h15
  have hzl := zs_len (bestD m ph pt)
  generalize zs (bestD m ph pt) = R at *
  have h16 := fun H => c16 (H := H) (a := R) (b := R) (by omega) (by omega) (svE_ok 1 (I1 R)) (svT_ok R)
  simp only [decide_true] at h16
  have hti := fun keep L s vs => (svT_ok R).ti_tup keep L s vs
  have hs1 := (svT_ok R).sh
  have hs2 := (svE_ok 1 (I1 R)).sh
  unfold a4
  simp (config := { maxSteps := 10000000 }) (disch := omega) only [↓G_seq, ↓G_skip, ↓G_ret, ↓G_region, ↓G_cond, ↓G_ops_nil, ↓G_op, Gv_some, ↓G_gop, Gw_tt, Gc_false, killAll, ↓get_setS, evalOp, ev, evs, Ab.get, b_eql, b_neq, one, Option.map_some, Option.bind_some, Option.map_none, asB, finish, resVs, resV, outVs, ownsLast, tupOf, callV, V.shift, V.shifts, List.append_nil, List.map_cons, List.map_nil, List.all_cons, List.all_nil, Bool.and_self, List.getElem?_cons_zero, List.getElem?_cons_succ, Nat.reduceEqDiff, reduceCtorEq, ↓reduceIte, Nat.succ_ne_self, decide_true, Bool.not_true, bne_self_eq_false, Bool.false_eq_true, Int.reduceAdd, pick3, V.cells, loadV, Ab.rowAt, rget, rset, V.scalar, mmV, Nat.reduceAdd, and_self, List.length_cons, List.length_nil, List.take_succ_cons, List.take_zero, List.drop_zero, Nat.le_refl, List.getD_cons_zero, Nat.zero_add, ti_bool, ti_int, st_int, ov_bool, fn_some, hlen, hs, c11, h13, hsh, h14, h15, h16, hti, hs1, hs2, out_take_tup, Nat.zero_lt_succ]

end Go.Proofs.Ytgghbckhdchcaaa

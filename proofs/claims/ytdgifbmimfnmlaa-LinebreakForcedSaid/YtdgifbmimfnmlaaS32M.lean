/-
  Line breaks: the law Forced.
-/
import Derived.Test.YtdgifbmimfnmlaaS32L
namespace Go.Proofs.Ytdgifbmimfnmlaa
open Go Go.Ab
set_option linter.unusedVariables false
set_option linter.unnecessarySimpa false
set_option linter.unusedSimpArgs false
set_option maxRecDepth 100000
variable {H : List (List Row)}
open Path (Ch)

theorem sl_has {l : List Me} {a b j : Nat} {s : Me} (h : a ≤ j) (hb : j < b) (hbl : b ≤ l.length) (hs : l[j]? = some s) : s ∈ sl l a b := by
  refine List.mem_of_getElem? (i := j - a) ?_
  unfold sl
  rw [List.getElem?_drop, List.getElem?_take_of_lt (by omega), show a + (j - a) = j by omega, hs]

theorem lines_ok {l : List Me} {w d : Int} : ∀ (E : List Nat), tt l w d true E < inf → ∀ k a, E[k]? = some a → cst l (room w d a) a (E[k + 1]?.getD l.length) < inf
  | [], _, k, a, h => by simp at h
  | [x], ht, 0, a, h => by
    simp only [List.getElem?_cons_zero, Option.some.injEq] at h
    subst h
    exact ht
  | [x], ht, k + 1, a, h => by simp at h
  | x :: y :: t, ht, k, a, h => by
    have e : tt l w d true (x :: y :: t) = Path.addI inf (cst l (room w d x) x y) (tt l w d true (y :: t)) := by
      show Path.addI inf _ _ = _
      rw [show Path.tot (cF l w d) l.length inf (!true) (y :: t) = tt l w d true (y :: t) from tt_s l w d _ (!true)]
    rw [e] at ht
    unfold Path.addI at ht
    split at ht
    · exact absurd ht (by decide)
    · rename_i hn
      cases k with
      | zero =>
        simp only [List.getElem?_cons_zero, Option.some.injEq] at h
        subst h
        show cst l (room w d x) x y < inf
        omega
      | succ k =>
        rw [List.getElem?_cons_succ] at h
        exact lines_ok (y :: t) (by omega) k a h

theorem cst_lt {l : List Me} {w : Int} {a b : Nat} (h : cst l w a b < inf) (hwid : mn l a b ≤ nt l a b) : pos l a b = true ∧ mn l a b ≤ w := by
  have hinf' := hinf
  unfold cst at h
  split at h
  · omega
  · rename_i hp
    refine ⟨by simpa using hp, ?_⟩
    split at h
    · omega
    · split at h
      · rename_i hB
        exact hB.2.2.2
      · omega

theorem loop6 {k0 : List KI} {v B : V} {l : List Me} {w d : Int} {L : List Row} {E : List Nat} {r : Option V} (he : errL l = 0) (hp : inP w d) (hv : SlV 5 v (E5 l)) (hB : SlV 1 B (I1 (zs (0 :: E)))) (hD : Path.isD l.length (0 :: E)) (hfin : tt l w d true (0 :: E) < inf)
    (hL : rget L 1 = ⟨1, 3, [[v, .i w, .i d]]⟩)
    (hx : ∀ fr', Ab.get fr' 3 = B → Ab.get fr' 5 = .i (E.length + 1 : Nat) → Gx tbl H [.tmp 2] 0 k0 fr' L = r) :
    ∀ (n i k : Nat) (fr : List V), i + n = l.length → k ≤ E.length + 1 → (0 < k → ∃ p, (0 :: E)[k - 1]? = some p ∧ p < i) → (∀ q, (0 :: E)[k]? = some q → i ≤ q) →
      Ab.get fr 1 = .ptr 0 1 1 0 0 → Ab.get fr 3 = B → Ab.get fr 5 = .i (k : Nat) → Ab.get fr 6 = .i (i : Nat) →
      G tbl H [.tmp 2] (.code (.loop ( (.seq ( (.seq ( .region [] [ ⟨some 59, .mv (.t 6), none⟩, ⟨some 60, .fieldAddr 0 (.t 1), none⟩, ⟨some 61, .load false 1 (.t 60), none⟩, ⟨some 62, .len (.t 61), none⟩, ⟨some 63, .bin .lss (.t 59) (.t 62), none⟩]) ( (.cond (.t 63) ( .skip) ( .exit 0))))) ( (.seq ( (.block 1 ( (.seq ( .region [] [ ⟨some 66, .mv (.t 5), none⟩, ⟨some 67, .mv (.t 3), none⟩, ⟨some 68, .len (.t 67), none⟩, ⟨some 69, .bin .lss (.t 66) (.t 68), none⟩, ⟨some 70, .mv (.t 69), none⟩, ⟨some 71, .mv (.t 3), some (70, true)⟩, ⟨some 72, .mv (.t 5), some (70, true)⟩, ⟨some 73, .elemAddr 1 (.t 71) (.t 72), some (70, true)⟩, ⟨some 74, .load false 1 (.t 73), some (70, true)⟩, ⟨some 75, .mv (.t 6), some (70, true)⟩, ⟨some 76, .bin .eql (.t 74) (.t 75), some (70, true)⟩, ⟨some 77, .pick (.t 70) (.t 76) (.c (.bool false)), none⟩, ⟨some 7, .mv (.t 77), none⟩]) ( (.seq ( .region [] [ ⟨some 78, .fieldAddr 0 (.t 1), none⟩, ⟨some 79, .load false 1 (.t 78), none⟩, ⟨some 80, .mv (.t 6), none⟩, ⟨some 81, .elemAddr 5 (.t 79) (.t 80), none⟩, ⟨some 82, .fieldAddr 4 (.t 81), none⟩, ⟨some 83, .load false 1 (.t 82), none⟩, ⟨some 8, .mv (.t 83), none⟩]) ( (.seq ( (.seq ( .region [] [ ⟨some 84, .mv (.t 6), none⟩, ⟨some 85, .bin .gtr (.t 84) (.c (.int .i64 0)), none⟩, ⟨some 86, .mv (.t 85), none⟩, ⟨some 87, .mv (.t 7), some (86, true)⟩, ⟨some 88, .mv (.t 87), some (86, true)⟩, ⟨some 89, .mv (.t 8), some (88, true)⟩, ⟨some 90, .bin .eql (.t 89) (.c (.int .i64 3)), some (88, true)⟩, ⟨some 91, .pick (.t 88) (.t 90) (.c (.bool false)), some (86, true)⟩, ⟨some 92, .mv (.t 91), some (86, true)⟩, ⟨some 93, .mv (.t 7), some (92, false)⟩, ⟨some 94, .not (.t 93), some (92, false)⟩, ⟨some 95, .mv (.t 94), some (92, false)⟩, ⟨some 96, .mv (.t 8), some (95, true)⟩, ⟨some 97, .bin .eql (.t 96) (.c (.int .i64 1)), some (95, true)⟩, ⟨some 98, .mv (.t 97), some (95, true)⟩, ⟨some 99, .mv (.t 8), some (98, false)⟩, ⟨some 100, .bin .eql (.t 99) (.c (.int .i64 2)), some (98, false)⟩, ⟨some 101, .pick (.t 98) (.c (.bool true)) (.t 100), some (95, true)⟩, ⟨some 102, .pick (.t 95) (.t 101) (.c (.bool false)), some (92, false)⟩, ⟨some 103, .pick (.t 92) (.c (.bool true)) (.t 102), some (86, true)⟩, ⟨some 104, .pick (.t 86) (.t 103) (.c (.bool false)), none⟩]) ( (.cond (.t 104) ( (.seq ( .region [] [ ⟨some 2, .mv (.c (.bool false)), none⟩]) ( .ret))) ( .skip))))) ( (.seq ( (.seq ( .region [] [ ⟨some 105, .mv (.t 7), none⟩, ⟨some 106, .not (.t 105), none⟩]) ( (.cond (.t 106) ( .exit 1) ( .skip))))) ( (.seq ( .region [] [ ⟨some 107, .fieldAddr 0 (.t 1), none⟩, ⟨some 108, .load false 1 (.t 107), none⟩, ⟨some 109, .len (.t 108), none⟩, ⟨some 110, .bin .sub (.t 109) (.c (.int .i64 1)), none⟩, ⟨some 111, .fieldAddr 1 (.t 1), none⟩, ⟨some 112, .load false 1 (.t 111), none⟩, ⟨some 9, .mv (.t 110), none⟩, ⟨some 10, .mv (.t 112), none⟩]) ( (.seq ( (.seq ( .region [] [ ⟨some 113, .mv (.t 5), none⟩, ⟨some 114, .bin .add (.t 113) (.c (.int .i64 1)), none⟩, ⟨some 115, .mv (.t 3), none⟩, ⟨some 116, .len (.t 115), none⟩, ⟨some 117, .bin .lss (.t 114) (.t 116), none⟩]) ( (.cond (.t 117) ( .region [] [ ⟨some 118, .mv (.t 3), none⟩, ⟨some 119, .mv (.t 5), none⟩, ⟨some 120, .bin .add (.t 119) (.c (.int .i64 1)), none⟩, ⟨some 121, .elemAddr 1 (.t 118) (.t 120), none⟩, ⟨some 122, .load false 1 (.t 121), none⟩, ⟨some 123, .bin .sub (.t 122) (.c (.int .i64 1)), none⟩, ⟨some 9, .mv (.t 123), none⟩]) ( .skip))))) ( (.seq ( (.seq ( .region [] [ ⟨some 124, .mv (.t 5), none⟩, ⟨some 125, .bin .eql (.t 124) (.c (.int .i64 0)), none⟩]) ( (.cond (.t 125) ( .region [] [ ⟨some 126, .fieldAddr 1 (.t 1), none⟩, ⟨some 127, .load false 1 (.t 126), none⟩, ⟨some 128, .fieldAddr 2 (.t 1), none⟩, ⟨some 129, .load false 1 (.t 128), none⟩, ⟨some 130, .bin .sub (.t 127) (.t 129), none⟩, ⟨some 10, .mv (.t 130), none⟩]) ( .skip))))) ( (.seq ( .region [] [ ⟨some 132, .fieldAddr 0 (.t 1), none⟩, ⟨some 133, .load false 1 (.t 132), none⟩, ⟨some 134, .mv (.t 6), none⟩, ⟨some 135, .mv (.t 9), none⟩, ⟨some 136, .call 0 (.c (.fn 21 [])) [(.t 133), (.t 134), (.t 135)], none⟩, ⟨some 131, .mv (.t 136), none⟩, ⟨some 137, .ext (.t 131) 0, none⟩, ⟨some 138, .ext (.t 131) 1, none⟩, ⟨some 139, .ext (.t 131) 2, none⟩, ⟨some 11, .mv (.t 137), none⟩, ⟨some 12, .mv (.t 138), none⟩, ⟨some 13, .mv (.t 139), none⟩]) ( (.seq ( (.seq ( .region [] [ ⟨some 140, .mv (.t 13), none⟩, ⟨some 141, .bin .neq (.t 140) (.c (.int .i64 0)), none⟩, ⟨some 142, .mv (.t 141), none⟩, ⟨some 143, .mv (.t 11), some (142, false)⟩, ⟨some 144, .mv (.t 10), some (142, false)⟩, ⟨some 145, .bin .gtr (.t 143) (.t 144), some (142, false)⟩, ⟨some 146, .pick (.t 142) (.c (.bool true)) (.t 145), none⟩]) ( (.cond (.t 146) ( (.seq ( .region [] [ ⟨some 2, .mv (.c (.bool false)), none⟩]) ( .ret))) ( .skip))))) ( .region [] [ ⟨some 147, .mv (.t 5), none⟩, ⟨some 148, .bin .add (.t 147) (.c (.int .i64 1)), none⟩, ⟨some 5, .mv (.t 148), none⟩]))))))))))))))))))))) ( .region [] [ ⟨some 64, .mv (.t 6), none⟩, ⟨some 65, .bin .add (.t 64) (.c (.int .i64 1)), none⟩, ⟨some 6, .mv (.t 65), none⟩])))))) :: k0) fr L = r := by
  intro n
  have hlv := hv.len
  rw [E5_len] at hlv
  have hlB := hB.len
  rw [I1_len, zs_len, List.length_cons] at hlB
  have hsh := hv.sh
  obtain ⟨hl0, hl1, _⟩ := errL_ok he
  have hEl := isD_len _ _ hD
  have hp' := hp
  unfold inP at hp'
  obtain ⟨hp1, hp2⟩ := hp'
  induction n with
  | zero =>
    intro i k fr hi hk hprev hnext h1 h3 h5 h6
    have hke : k = E.length + 1 := by
      rcases Nat.lt_or_ge k (E.length + 1) with c | c
      · obtain ⟨q, hq⟩ : ∃ q, (0 :: E)[k]? = some q := ⟨_, List.getElem?_eq_getElem (by simpa using c)⟩
        have := hnext q hq
        have := isD_ge E 0 k q hD hq
        omega
      · omega
    subst hke
    clear hprev hnext
    refine G_loop.trans ?_
    simp (config := { maxSteps := 10000000 }) (disch := omega) only [↓G_seq, ↓G_exit, ↓G_region, ↓G_cond, ↓Gx_code, ↓G_ops_nil, ↓G_op, Gv_some, Gc_false, dec_f, killAll, ↓get_setS, evalOp, ev, b_lss, one, Option.map_some, Option.bind_some, Bool.and_self, List.getElem?_cons_zero, List.getElem?_cons_succ, Nat.reduceEqDiff, ↓reduceIte, Nat.succ_ne_self, Bool.false_eq_true, pick3, addOff, loadV, Ab.rowAt, and_self, List.getD_cons_zero, Nat.add_zero, h1, h6, hL, hlv, hsh, Nat.zero_lt_succ]
    refine hx _ ?_ ?_
    all_goals simp (config := { maxSteps := 10000000 }) (disch := omega) only [↓get_setS, List.getElem?_cons_zero, List.getElem?_cons_succ, Nat.reduceEqDiff, ↓reduceIte, h3, h5]
  | succ n ih =>
    intro i k fr hi hk hprev hnext h1 h3 h5 h6
    obtain ⟨s, hs⟩ : ∃ s, l[i]? = some s := ⟨_, List.getElem?_eq_getElem (by omega)⟩
    have hE := hv.el (E5_get l i s hs)
    have hki : k = 0 ↔ i = 0 := by
      constructor
      · intro h
        subst h
        have := hnext 0 rfl
        omega
      · intro h
        rcases Nat.eq_zero_or_pos k with c | c
        · exact c
        · obtain ⟨p, _, hp⟩ := hprev c
          omega
    by_cases hbeg : (0 :: E)[k]? = some i
    · -- a line begins
      have hEk := hB.el (I1_get _ k _ (zs_get hbeg))
      have hkl : k < E.length + 1 := by
        have := (List.getElem?_eq_some_iff.1 hbeg).1
        simpa using this
      have hlk := lines_ok _ hfin k i hbeg
      obtain ⟨b, hib, hbl, hb, hnx⟩ : ∃ b : Nat, i < b ∧ b ≤ l.length ∧ (0 :: E)[k + 1]?.getD l.length = b ∧ ((k = E.length ∧ b = l.length) ∨ (k < E.length ∧ elemV 1 B (.i ((k : Nat) + 1 : Int)) = some (.eptr [.i (b : Nat)] 0))) ∧ (∀ q, (0 :: E)[k + 1]? = some q → i + 1 ≤ q) := by
        cases hq : (0 :: E)[k + 1]? with
        | none =>
          have : E.length + 1 ≤ k + 1 := by
            rw [List.getElem?_eq_none_iff] at hq
            simpa using hq
          exact ⟨l.length, by omega, Nat.le_refl _, rfl, .inl ⟨by omega, rfl⟩, fun q h => by cases h⟩
        | some q =>
          have h1 := isD_ge E 0 (k + 1) q hD hq
          have h2 := (List.getElem?_eq_some_iff.1 hq).1
          have h3 : i < q := by
            have hdr : (0 :: E).drop k = i :: (0 :: E).drop (k + 1) := by
              rw [List.drop_eq_getElem_cons (by simpa using hkl)]
              congr 1
              exact (List.getElem?_eq_some_iff.1 hbeg).2
            have h4 := isD_drop _ k hD hdr
            have h5 : (i :: (0 :: E).drop (k + 1))[1]? = some q := by
              rw [List.getElem?_cons_succ, List.getElem?_drop]
              exact hq
            have := isD_ge _ i 1 q h4 h5
            omega
          have hE2 := hB.el (I1_get _ (k + 1) _ (zs_get hq))
          exact ⟨q, h3, by omega, rfl, .inr ⟨by simpa using h2, by simpa using hE2⟩, fun q' h => by cases h; exact h3⟩
      obtain ⟨hnx, hnext'⟩ := hnx
      rw [hb] at hlk
      have hwid := wid_in he hib hbl
      obtain ⟨hps, hmw⟩ := cst_lt hlk hwid.2.1
      have hb3 : i = 0 ∨ (¬ i = 0 ∧ ¬ s.b = 3) := by
        unfold pos at hps
        rw [hs, Option.getD_some] at hps
        simp only [Bool.and_eq_true, Bool.or_eq_true, decide_eq_true_eq, Bool.not_eq_true', decide_eq_false_iff_not] at hps
        omega
      have h21 := fun H => c21 (H := H) he hib hbl hv
      have nx := fun fr' => ih (i + 1) (k + 1) fr' (by omega) (by omega) (fun _ => ⟨i, hbeg, by omega⟩) hnext'
      have hrm : (k = 0 ∧ mn l i b ≤ w - d) ∨ (¬ k = 0 ∧ mn l i b ≤ w) := by
        unfold room at hmw
        by_cases c : i = 0
        · rw [if_pos c] at hmw
          exact .inl ⟨hki.2 c, hmw⟩
        · rw [if_neg c] at hmw
          exact .inr ⟨fun z => c (hki.1 z), hmw⟩
      have hil : i < l.length := by omega
      clear ih hx hv hB hprev hnext hnext' hlk hb hps hmw hfin hD hbeg he hwid
      generalize mn l i b = M at *
      generalize nt l i b = N at *
      rcases hrm with ⟨r1, r2⟩ | ⟨r1, r2⟩
      · have i0 : i = 0 := hki.1 r1
        clear hki hb3
        rcases hnx with ⟨n1, n2⟩ | ⟨n1, n2⟩
        · subst n2
          refine G_loop.trans ?_
          simp (config := { maxSteps := 10000000 }) (disch := omega) only [↓G_seq, ↓G_skip, ↓G_blk, ↓G_region, ↓G_block, ↓G_cond, ↓G_ops_nil, ↓G_op, Gv_some, ↓G_gop, Gw_tt, Gw_ff, Gw_tf, Gw_tup, Gc_true, Gc_false, dec_t, dec_f, killAll, ↓get_setS, evalOp, ev, evs, b_add, b_sub, b_eql, b_neq, b_lss, b_gtr, wrap_i64, one, Option.map_some, Option.bind_some, asB, callV, V.shift, V.shifts, List.append_nil, List.map_cons, List.map_nil, Bool.and_self, List.getElem?_cons_zero, List.getElem?_cons_succ, Nat.reduceEqDiff, ↓reduceIte, Nat.succ_ne_self, decide_true, Bool.not_true, bne_self_eq_false, Bool.false_eq_true, pick3, addOff, loadV, Ab.rowAt, and_self, List.getD_cons_zero, Nat.zero_add, Nat.add_zero, ti_tup_int, st_int, h1, h3, h5, h6, hL, hlv, hlB, hsh, hE, hEk, h21, Nat.zero_lt_succ]
          refine nx _ ?_ ?_ ?_ ?_
          all_goals simp (config := { maxSteps := 10000000 }) (disch := omega) only [↓get_setS, List.getElem?_cons_zero, List.getElem?_cons_succ, Nat.reduceEqDiff, ↓reduceIte, Nat.succ_ne_self, h1, h3]
          all_goals rfl
        · refine G_loop.trans ?_
          simp (config := { maxSteps := 10000000 }) (disch := omega) only [↓G_seq, ↓G_skip, ↓G_blk, ↓G_region, ↓G_block, ↓G_cond, ↓G_ops_nil, ↓G_op, Gv_some, ↓G_gop, Gw_tt, Gw_ff, Gw_tf, Gw_tup, Gc_true, Gc_false, dec_t, dec_f, killAll, ↓get_setS, evalOp, ev, evs, b_add, b_sub, b_eql, b_neq, b_lss, b_gtr, wrap_i64, one, Option.map_some, Option.bind_some, asB, callV, V.shift, V.shifts, List.append_nil, List.map_cons, List.map_nil, Bool.and_self, List.getElem?_cons_zero, List.getElem?_cons_succ, Nat.reduceEqDiff, ↓reduceIte, Nat.succ_ne_self, decide_true, Bool.not_true, bne_self_eq_false, Bool.false_eq_true, pick3, addOff, loadV, Ab.rowAt, and_self, List.getD_cons_zero, Nat.zero_add, Nat.add_zero, ti_tup_int, st_int, h1, h3, h5, h6, hL, hlv, hlB, hsh, hE, hEk, n2, h21, Nat.zero_lt_succ]
          refine nx _ ?_ ?_ ?_ ?_
          all_goals simp (config := { maxSteps := 10000000 }) (disch := omega) only [↓get_setS, List.getElem?_cons_zero, List.getElem?_cons_succ, Nat.reduceEqDiff, ↓reduceIte, Nat.succ_ne_self, h1, h3]
          all_goals rfl
      · have i0 : ¬ i = 0 := fun z => r1 (hki.2 z)
        have hb3 : ¬ s.b = 3 := by omega
        clear hki
        rcases hnx with ⟨n1, n2⟩ | ⟨n1, n2⟩
        · subst n2
          refine G_loop.trans ?_
          simp (config := { maxSteps := 10000000 }) (disch := omega) only [↓G_seq, ↓G_skip, ↓G_blk, ↓G_region, ↓G_block, ↓G_cond, ↓G_ops_nil, ↓G_op, Gv_some, ↓G_gop, Gw_tt, Gw_ff, Gw_tf, Gw_tup, Gc_true, Gc_false, dec_t, dec_f, killAll, ↓get_setS, evalOp, ev, evs, b_add, b_sub, b_eql, b_neq, b_lss, b_gtr, wrap_i64, one, Option.map_some, Option.bind_some, asB, callV, V.shift, V.shifts, List.append_nil, List.map_cons, List.map_nil, Bool.and_self, List.getElem?_cons_zero, List.getElem?_cons_succ, Nat.reduceEqDiff, ↓reduceIte, Nat.succ_ne_self, decide_true, Bool.not_true, bne_self_eq_false, Bool.false_eq_true, pick3, addOff, loadV, Ab.rowAt, and_self, List.getD_cons_zero, Nat.zero_add, Nat.add_zero, ti_tup_int, st_int, h1, h3, h5, h6, hL, hlv, hlB, hsh, hE, hEk, h21, Nat.zero_lt_succ]
          refine nx _ ?_ ?_ ?_ ?_
          all_goals simp (config := { maxSteps := 10000000 }) (disch := omega) only [↓get_setS, List.getElem?_cons_zero, List.getElem?_cons_succ, Nat.reduceEqDiff, ↓reduceIte, Nat.succ_ne_self, h1, h3]
          all_goals rfl
        · refine G_loop.trans ?_
          simp (config := { maxSteps := 10000000 }) (disch := omega) only [↓G_seq, ↓G_skip, ↓G_blk, ↓G_region, ↓G_block, ↓G_cond, ↓G_ops_nil, ↓G_op, Gv_some, ↓G_gop, Gw_tt, Gw_ff, Gw_tf, Gw_tup, Gc_true, Gc_false, dec_t, dec_f, killAll, ↓get_setS, evalOp, ev, evs, b_add, b_sub, b_eql, b_neq, b_lss, b_gtr, wrap_i64, one, Option.map_some, Option.bind_some, asB, callV, V.shift, V.shifts, List.append_nil, List.map_cons, List.map_nil, Bool.and_self, List.getElem?_cons_zero, List.getElem?_cons_succ, Nat.reduceEqDiff, ↓reduceIte, Nat.succ_ne_self, decide_true, Bool.not_true, bne_self_eq_false, Bool.false_eq_true, pick3, addOff, loadV, Ab.rowAt, and_self, List.getD_cons_zero, Nat.zero_add, Nat.add_zero, ti_tup_int, st_int, h1, h3, h5, h6, hL, hlv, hlB, hsh, hE, hEk, n2, h21, Nat.zero_lt_succ]
          refine nx _ ?_ ?_ ?_ ?_
          all_goals simp (config := { maxSteps := 10000000 }) (disch := omega) only [↓get_setS, List.getElem?_cons_zero, List.getElem?_cons_succ, Nat.reduceEqDiff, ↓reduceIte, Nat.succ_ne_self, h1, h3]
          all_goals rfl
    · -- within a line
      have hi0 : ¬ i = 0 := by
        intro h
        have hk0 := hki.2 h
        subst hk0
        subst h
        exact hbeg rfl
      have hk0 : 0 < k := by
        rcases Nat.eq_zero_or_pos k with c | c
        · exact absurd (hki.1 c) hi0
        · exact c
      obtain ⟨p, hp1', hp2'⟩ := hprev hk0
      have hlk := lines_ok _ hfin (k - 1) p hp1'
      rw [show k - 1 + 1 = k by omega] at hlk
      have hF : isF s = false := by
        obtain ⟨b, hb, hib, hbl⟩ : ∃ b : Nat, (0 :: E)[k]?.getD l.length = b ∧ i < b ∧ b ≤ l.length := by
          cases hq : (0 :: E)[k]? with
          | none => exact ⟨l.length, rfl, by omega, Nat.le_refl _⟩
          | some q =>
            have h1 := hnext q hq
            have h2 := isD_ge E 0 k q hD hq
            have h3 : ¬ q = i := fun e => hbeg (by rw [hq, e])
            exact ⟨q, rfl, by omega, by omega⟩
        rw [hb] at hlk
        obtain ⟨hps, _⟩ := cst_lt hlk (wid_in he (by omega) hbl).2.1
        unfold pos at hps
        simp only [Bool.and_eq_true, Bool.not_eq_true'] at hps
        have := List.any_eq_false.1 hps.2 s (sl_has (by omega) hib hbl hs)
        simpa using this
      have hF2 : ¬ s.b = 1 ∧ ¬ s.b = 2 := by
        have := of_decide_eq_false hF
        omega
      have nx := fun fr' => ih (i + 1) k fr' (by omega) hk (fun _ => ⟨p, hp1', by omega⟩) (fun q hq => by
        have h1 := hnext q hq
        have h3 : ¬ q = i := fun e => hbeg (by rw [hq, e])
        omega)
      have hkc : (∃ q : Nat, k < E.length + 1 ∧ ¬ (q : Int) = i ∧ elemV 1 B (.i (k : Nat)) = some (.eptr [.i (q : Nat)] 0)) ∨ E.length + 1 ≤ k := by
        cases hq : (0 :: E)[k]? with
        | none =>
          rw [List.getElem?_eq_none_iff] at hq
          exact .inr (by simpa using hq)
        | some q =>
          have h2 := (List.getElem?_eq_some_iff.1 hq).1
          exact .inl ⟨q, by simpa using h2, fun e => hbeg (by rw [hq]; congr 1; omega), hB.el (I1_get _ k _ (zs_get hq))⟩
      have hil : i < l.length := by omega
      clear ih hx hv hB hprev hnext hlk hfin hD hbeg he hki hF
      rcases hkc with ⟨q, k1, k2, k3⟩ | k1
      · refine G_loop.trans ?_
        simp (config := { maxSteps := 10000000 }) (disch := omega) only [↓G_seq, ↓G_skip, ↓G_exit, ↓G_region, ↓G_block, ↓G_cond, ↓Gx_blk, ↓Gx_code, ↓G_ops_nil, ↓G_op, Gv_some, ↓G_gop, Gw_tt, Gw_ff, Gw_tf, Gc_true, Gc_false, dec_t, dec_f, killAll, ↓get_setS, evalOp, ev, b_add, b_eql, b_lss, b_gtr, wrap_i64, one, Option.map_some, Option.bind_some, asB, Bool.and_self, List.getElem?_cons_zero, List.getElem?_cons_succ, Nat.reduceEqDiff, ↓reduceIte, Nat.succ_ne_self, Bool.not_false, Bool.false_eq_true, pick3, addOff, loadV, Ab.rowAt, and_self, List.getD_cons_zero, Nat.zero_add, Nat.add_zero, h1, h3, h5, h6, hL, hlv, hlB, hsh, hE, k3, Nat.zero_lt_succ]
        refine nx _ ?_ ?_ ?_ ?_
        all_goals simp (config := { maxSteps := 10000000 }) (disch := omega) only [↓get_setS, List.getElem?_cons_zero, List.getElem?_cons_succ, Nat.reduceEqDiff, ↓reduceIte, Nat.succ_ne_self, h1, h3, h5]
        all_goals rfl
      · refine G_loop.trans ?_
        simp (config := { maxSteps := 10000000 }) (disch := omega) only [↓G_seq, ↓G_skip, ↓G_exit, ↓G_region, ↓G_block, ↓G_cond, ↓Gx_blk, ↓Gx_code, ↓G_ops_nil, ↓G_op, Gv_some, ↓G_gop, Gw_tt, Gw_ff, Gw_tf, Gc_true, Gc_false, dec_t, dec_f, killAll, ↓get_setS, evalOp, ev, b_add, b_eql, b_lss, b_gtr, wrap_i64, one, Option.map_some, Option.bind_some, asB, Bool.and_self, List.getElem?_cons_zero, List.getElem?_cons_succ, Nat.reduceEqDiff, ↓reduceIte, Nat.succ_ne_self, Bool.not_false, Bool.false_eq_true, pick3, addOff, loadV, Ab.rowAt, and_self, List.getD_cons_zero, Nat.zero_add, Nat.add_zero, h1, h3, h5, h6, hL, hlv, hlB, hsh, hE, Nat.zero_lt_succ]
        refine nx _ ?_ ?_ ?_ ?_
        all_goals simp (config := { maxSteps := 10000000 }) (disch := omega) only [↓get_setS, List.getElem?_cons_zero, List.getElem?_cons_succ, Nat.reduceEqDiff, ↓reduceIte, Nat.succ_ne_self, h1, h3, h5]
        all_goals rfl

theorem l6 {v : V} {l : List Me} {w d : Int} (hm : l.length ≤ 9223372036854775807) (hv : SlV 5 v (E5 l)) : call tbl 6 [.agg [v, .i w, .i d]] H = some (.bool true) := by
  refine (call_start (show tbl 6 = some a6 from rfl)).trans ?_
  have hsc := hv.scalar
  unfold V.scalar at hsc
  have hlv := hv.len
  rw [E5_len] at hlv
  have h13 := fun H => c13 (H := H) hm hv
  have hsh := hv.sh
  by_cases g1 : 40 < l.length
  · unfold a6
    simp (config := { maxSteps := 10000000 }) (disch := omega) only [↓G_seq, ↓G_ret, ↓G_region, ↓G_cond, ↓G_ops_nil, ↓G_op, Gv_some, ↓G_gop, Gw_ff, Gw_ft, Gc_true, dec_t, killAll, ↓get_setS, evalOp, ev, evs, Ab.get, b_gtr, one, Option.map_some, Option.bind_some, asB, finish, resVs, resV, outVs, ownsLast, tupOf, callV, V.shifts, List.append_nil, List.all_cons, List.all_nil, Bool.and_self, List.getElem?_cons_zero, List.getElem?_cons_succ, Nat.reduceEqDiff, ↓reduceIte, Nat.succ_ne_self, Bool.not_true, bne_self_eq_false, Bool.false_eq_true, Int.reduceAdd, pick3, V.cells, addOff, loadV, Ab.rowAt, rget, rset, V.scalar, Nat.reduceAdd, and_self, List.length_cons, List.length_nil, List.getD_cons_zero, Nat.zero_add, Nat.add_zero, ti_bool, ov_bool, fn_some, hsc, hlv, hsh, c10, Nat.zero_lt_succ]
    done
  by_cases he : errL l = 0
  case neg =>
    have : errL l < 0 ∨ 0 < errL l := by omega
    generalize errL l = e at *
    unfold a6
    simp (config := { maxSteps := 10000000 }) (disch := omega) only [↓G_seq, ↓G_ret, ↓G_region, ↓G_cond, ↓G_ops_nil, ↓G_op, Gv_some, ↓G_gop, Gw_ff, Gw_ft, Gc_true, dec_f, killAll, ↓get_setS, evalOp, ev, evs, Ab.get, b_neq, b_gtr, one, Option.map_some, Option.bind_some, asB, finish, resVs, resV, outVs, ownsLast, tupOf, callV, V.shifts, List.append_nil, List.all_cons, List.all_nil, Bool.and_self, List.getElem?_cons_zero, List.getElem?_cons_succ, Nat.reduceEqDiff, ↓reduceIte, Nat.succ_ne_self, Bool.not_true, Bool.not_false, bne_self_eq_false, Bool.false_eq_true, Int.reduceAdd, pick3, V.cells, addOff, loadV, Ab.rowAt, rget, rset, V.scalar, Nat.reduceAdd, and_self, List.length_cons, List.length_nil, List.getD_cons_zero, Nat.zero_add, Nat.add_zero, ti_bool, ti_int, ov_bool, fn_some, hsc, hlv, h13, hsh, c10, Nat.zero_lt_succ]
    done
  simp only [he] at h13
  obtain ⟨hl0, hl1, _⟩ := errL_ok he
  have h15 := fun H => c15 (H := H) (w := w) (d := d) hv
  by_cases hp : inP w d
  case neg =>
    rw [show errP w d = 2 by unfold errP; rw [if_neg hp]] at h15
    unfold a6
    simp (config := { maxSteps := 10000000 }) (disch := omega) only [↓G_seq, ↓G_ret, ↓G_region, ↓G_cond, ↓G_ops_nil, ↓G_op, Gv_some, ↓G_gop, Gw_ff, Gc_true, dec_f, killAll, ↓get_setS, evalOp, ev, evs, Ab.get, b_neq, b_gtr, one, Option.map_some, Option.bind_some, asB, finish, resVs, resV, outVs, ownsLast, tupOf, callV, V.shift, V.shifts, List.append_nil, List.all_cons, List.all_nil, Bool.and_self, List.getElem?_cons_zero, List.getElem?_cons_succ, Nat.reduceEqDiff, ↓reduceIte, Nat.succ_ne_self, decide_true, decide_false, Bool.not_true, Bool.not_false, bne_self_eq_false, Bool.false_eq_true, Int.reduceAdd, Int.reduceEq, pick3, V.cells, addOff, loadV, Ab.rowAt, rget, rset, V.scalar, Nat.reduceAdd, and_self, List.length_cons, List.length_nil, List.take_succ_cons, List.take_zero, List.drop_zero, Nat.le_refl, List.getD_cons_zero, Nat.zero_add, Nat.add_zero, ti_bool, ti_int, ov_bool, fn_some, hsc, hlv, h13, h15, hsh, c10, Nat.zero_lt_succ]
    done
  rw [show errP w d = 0 by unfold errP; rw [if_pos hp]] at h15
  have h18 := fun H => c18 (H := H) he hp hv
  have hb := bestD_ok (w := w) (d := d) he
  have hinf' := hinf
  unfold brkR at h18
  by_cases h1 : inf ≤ (tabN l w d 0).c
  · simp only [if_pos h1] at h18
    clear hb hv
    unfold a6
    simp (config := { maxSteps := 10000000 }) (disch := omega) only [↓G_seq, ↓G_skip, ↓G_ret, ↓G_region, ↓G_cond, ↓G_ops_nil, ↓G_op, Gv_some, ↓G_gop, Gw_ff, Gc_true, Gc_false, dec_f, killAll, ↓get_setS, evalOp, ev, evs, Ab.get, b_eql, b_neq, b_gtr, one, Option.map_some, Option.bind_some, asB, finish, resVs, resV, outVs, ownsLast, tupOf, callV, V.shift, V.shifts, List.append_nil, List.map_cons, List.map_nil, List.all_cons, List.all_nil, Bool.and_self, List.getElem?_cons_zero, List.getElem?_cons_succ, Nat.reduceEqDiff, ↓reduceIte, Nat.succ_ne_self, decide_true, Bool.not_true, bne_self_eq_false, Bool.false_eq_true, Int.reduceAdd, pick3, V.cells, addOff, loadV, Ab.rowAt, rget, rset, V.scalar, Nat.reduceAdd, and_self, List.length_cons, List.length_nil, List.take_succ_cons, List.take_zero, List.drop_zero, Nat.le_refl, List.getD_cons_zero, Nat.zero_add, Nat.add_zero, len_nil, ti_bool, ti_int, ti_tup_nilsl, st_int, st_nilsl, ov_bool, fn_some, hsc, hlv, h13, h15, h18, hsh, c10, Nat.zero_lt_succ]
    done
  simp only [if_neg h1] at h18
  obtain ⟨⟨q, a1⟩, a2, a3, _⟩ := hb.2 (by omega)
  have hBv := svE_ok 1 (I1 (zs (bestD l w d)))
  have out := brk_take (l := l) (w := w) (d := d)
  rw [a1] at a2 a3 hBv out h18
  have hql := isD_len q 0 a2
  have hlB := hBv.len
  rw [I1_len, zs_len, List.length_cons] at hlB
  have hBh := hBv.sh
  have h16 := fun H => c16 (H := H) (n := l.length) (l := zs (0 :: q)) (by rw [zs_len]; simp only [List.length_cons]; omega) hl0 hBv
  rw [isD_divR a2] at h16
  have fin := fun k L hL hx => loop6 (H := H) (k0 := k) (L := L) (r := some (.bool true)) he hp hv hBv a2 (by omega) hL hx l.length 0 0
  generalize svE 1 (I1 (zs (0 :: q))) = B at *
  generalize outAcc 1 (I1 (zs (0 :: q))) = O at *
  clear hb hv hBv a3
  unfold a6
  simp (config := { maxSteps := 10000000 }) (disch := omega) only [↓G_seq, ↓G_skip, ↓G_region, ↓G_block, ↓G_cond, ↓G_ops_nil, ↓G_op, Gv_some, ↓G_gop, Gw_ff, Gc_false, dec_f, killAll, ↓get_setS, evalOp, ev, evs, Ab.get, b_eql, b_neq, b_gtr, one, Option.map_some, Option.bind_some, asB, callV, V.shift, V.shifts, List.append_nil, List.map_cons, List.map_nil, List.all_cons, List.all_nil, Bool.and_self, List.getElem?_cons_zero, List.getElem?_cons_succ, Nat.reduceEqDiff, ↓reduceIte, Nat.succ_ne_self, decide_true, decide_false, Bool.not_true, bne_self_eq_false, Bool.false_eq_true, Int.reduceAdd, Int.reduceEq, pick3, V.cells, addOff, loadV, Ab.rowAt, rget, rset, V.scalar, Nat.reduceAdd, and_self, List.length_cons, List.length_nil, List.take_succ_cons, List.take_zero, List.drop_zero, Nat.le_refl, List.getD_cons_zero, Nat.zero_add, Nat.add_zero, ti_bool, ti_int, st_int, hsc, hlv, h13, h15, h16, h18, hsh, hBh, c10, out, Nat.zero_lt_succ]
  refine fin _ _ ?_ (fun fr' g3 g5 => ?_) _ (by omega) (by omega) (fun h => by omega) (fun q _ => by omega) ?_ ?_ ?_ ?_
  · rfl
  · clear fin
    simp (config := { maxSteps := 10000000 }) (disch := omega) only [↓G_seq, ↓G_ret, ↓G_region, ↓Gx_blk, ↓G_ops_nil, ↓G_op, Gv_some, killAll, ↓get_setS, evalOp, ev, b_eql, one, Option.map_some, Option.bind_some, finish, resVs, resV, outVs, ownsLast, tupOf, List.all_nil, List.getElem?_cons_zero, List.getElem?_cons_succ, Nat.reduceEqDiff, ↓reduceIte, Nat.succ_ne_self, decide_true, ov_bool, fn_some, g3, g5, hlB]
  all_goals clear fin
  all_goals simp (config := { maxSteps := 10000000 }) (disch := omega) only [↓get_setS, List.getElem?_cons_zero, List.getElem?_cons_succ, Nat.reduceEqDiff, ↓reduceIte, Nat.succ_ne_self, Int.cast_ofNat_Int]

end Go.Proofs.Ytdgifbmimfnmlaa

/-
  Whether a list of spans is accepted does not depend on its order: the law SpannerOrders.
-/
import Derived.Test.YtfngllcjikmbkaaS14F
import Derived.Test.YtfngllcjikmbkaaAbSl
namespace Go.Proofs.Ytfngllcjikmbkaa
open Go Go.Ab
set_option linter.unusedVariables false
set_option linter.unnecessarySimpa false
set_option linter.unusedSimpArgs false
set_option maxRecDepth 100000
variable {H : List (List Row)}

/-- A list is accepted when each span is proper and no two conflict. -/
theorem chk_iff (l : List Sp) : ∀ (t : List Sp) (i : Nat), l.drop i = t → i ≤ l.length → (l.take i).Pairwise (fun a b => conflictB a b = false) → ((chk l t i).2 = 0 ↔ (∀ s ∈ t, prS s = 0) ∧ l.Pairwise (fun a b => conflictB a b = false))
  | [], i, ht, hi, hp => by
    have : l.length ≤ i := by
      have := congrArg List.length ht
      simp at this
      omega
    rw [List.take_of_length_le this] at hp
    simp [chk, hp]
  | s :: t, i, ht, hi, hp => by
    obtain ⟨e1, e2, e3⟩ := drop_cons ht
    unfold chk
    by_cases h1 : prS s = 0
    case neg =>
      rw [if_pos h1]
      constructor
      · intro h; exact absurd h h1
      · intro h; exact absurd (h.1 s (by simp)) h1
    rw [if_neg (fun z => z h1)]
    have ht1 : l.take (i + 1) = l.take i ++ [s] := by rw [List.take_add_one, e1]; rfl
    by_cases h2 : (l.take i).any (fun a => conflictB a s) = true
    · rw [if_pos h2]
      constructor
      · intro h; cases h
      · rintro ⟨_, h⟩
        have h3 : (l.take (i + 1)).Pairwise (fun a b => conflictB a b = false) := h.sublist (List.take_sublist _ _)
        rw [ht1, List.pairwise_append] at h3
        obtain ⟨a, ha, hc⟩ := List.any_eq_true.1 h2
        have := h3.2.2 a ha s (by simp)
        rw [hc] at this
        cases this
    · rw [if_neg h2]
      have h3 : (l.take (i + 1)).Pairwise (fun a b => conflictB a b = false) := by
        rw [ht1, List.pairwise_append]
        refine ⟨hp, by simp, fun a ha b hb => ?_⟩
        simp only [List.mem_cons, List.not_mem_nil, or_false] at hb
        subst hb
        have h4 := List.any_eq_false.1 (by simpa using h2) a ha
        simpa using h4
      rw [chk_iff l t (i + 1) e2 (by omega) h3]
      simp [h1]
theorem chk_perm {l m : List Sp} (h : l.Perm m) : ((chk l l 0).2 = 0 ↔ (chk m m 0).2 = 0) := by
  rw [chk_iff l l 0 rfl (Nat.zero_le _) (by simp), chk_iff m m 0 rfl (Nat.zero_le _) (by simp)]
  have hs := List.Perm.pairwise_iff (R := fun a b => conflictB a b = false) (fun {a b} h => by rw [conflict_symm]; exact h) h
  constructor
  · rintro ⟨h1, h2⟩
    exact ⟨fun s hs => h1 s (h.mem_iff.2 hs), hs.1 h2⟩
  · rintro ⟨h1, h2⟩
    exact ⟨fun s hs => h1 s (h.mem_iff.1 hs), hs.2 h2⟩

def U8 (l : List Int) : List (List V) := l.map fun x => [V.int .u8 x]
theorem U8_len (l : List Int) : (U8 l).length = l.length := by simp [U8]
theorem U8_get (l : List Int) (i : Nat) (x : Int) (h : l[i]? = some x) : (U8 l)[i]? = some [.int .u8 x] := by simp [U8, h]
theorem E9_set (l : List Sp) (i : Nat) (s : Sp) : (E9 l).set i [.i s.k, .i s.m1, .i s.a1, .i s.s1, .i s.v1, .i s.m2, .i s.a2, .i s.s2, .i s.v2] = E9 (l.set i s) := by
  simp [E9, List.map_set, Sp.cells]

theorem loop6 {k : List KI} {u v : V} {us : List Int} {l : List Sp} {r : Option V} {ver : Nat} (hl : l.length ≤ 12) (hu : SlV 1 u (U8 us)) (hus : ∀ x ∈ us, 0 ≤ x ∧ x ≤ 255) (hul : us.length ≤ 9223372036854775807) (hver : 0 < ver)
    (hx : ∀ fr' L' m, m.Perm l → Ab.get fr' 0 = v → Ab.get fr' 5 = .ref 0 3 ver 9 0 l.length → rget L' 3 = ⟨ver, 9, E9 m⟩ → Gx tbl H [.tmp 4] 0 k fr' L' = r) :
    ∀ (n i : Nat) (m : List Sp) (fr : List V) (L : List Row), i + n = l.length → m.Perm l → Ab.get fr 0 = v → Ab.get fr 1 = u → Ab.get fr 5 = .ref 0 3 ver 9 0 l.length → Ab.get fr 6 = .i (i : Nat) → rget L 3 = ⟨ver, 9, E9 m⟩ →
      G tbl H [.tmp 4] (.code (.loop ( (.seq ( (.seq ( .region [] [ ⟨some 22, .mv (.t 6), none⟩, ⟨some 23, .mv (.t 5), none⟩, ⟨some 24, .len (.t 23), none⟩, ⟨some 25, .bin .lss (.t 22) (.t 24), none⟩, ⟨some 26, .mv (.t 25), none⟩, ⟨some 27, .mv (.t 6), some (26, true)⟩, ⟨some 28, .mv (.t 1), some (26, true)⟩, ⟨some 29, .len (.t 28), some (26, true)⟩, ⟨some 30, .bin .lss (.t 27) (.t 29), some (26, true)⟩, ⟨some 31, .pick (.t 26) (.t 30) (.c (.bool false)), none⟩]) ( (.cond (.t 31) ( .skip) ( .exit 0))))) ( (.seq ( (.block 1 ( (.seq ( .region [] [ ⟨some 34, .mv (.t 1), none⟩, ⟨some 35, .mv (.t 6), none⟩, ⟨some 36, .elemAddr 1 (.t 34) (.t 35), none⟩, ⟨some 37, .load false 1 (.t 36), none⟩, ⟨some 38, .conv .i64 (.t 37), none⟩, ⟨some 39, .mv (.t 5), none⟩, ⟨some 40, .len (.t 39), none⟩, ⟨some 41, .bin .rem (.t 38) (.t 40), none⟩, ⟨some 7, .mv (.t 41), none⟩]) ( .region [] [ ⟨some 42, .mv (.t 5), none⟩, ⟨some 43, .mv (.t 6), none⟩, ⟨some 44, .mv (.t 5), none⟩, ⟨some 45, .mv (.t 7), none⟩, ⟨some 46, .mv (.t 5), none⟩, ⟨some 47, .mv (.t 7), none⟩, ⟨some 48, .elemAddr 9 (.t 46) (.t 47), none⟩, ⟨some 49, .load true 9 (.t 48), none⟩, ⟨some 50, .mv (.t 5), none⟩, ⟨some 51, .mv (.t 6), none⟩, ⟨some 52, .elemAddr 9 (.t 50) (.t 51), none⟩, ⟨some 53, .load true 9 (.t 52), none⟩, ⟨some 54, .elemAddr 9 (.t 42) (.t 43), none⟩, ⟨none, .store 9 (.t 54) (.t 49), none⟩, ⟨some 55, .elemAddr 9 (.t 44) (.t 45), none⟩, ⟨none, .store 9 (.t 55) (.t 53), none⟩]))))) ( .region [] [ ⟨some 32, .mv (.t 6), none⟩, ⟨some 33, .bin .add (.t 32) (.c (.int .i64 1)), none⟩, ⟨some 6, .mv (.t 33), none⟩])))))) :: k) fr L = r := by
  intro n
  have hlu := hu.len
  rw [U8_len] at hlu
  induction n with
  | zero =>
    intro i m fr L hi hm h0 h1 h5 h6 hr
    refine G_loop.trans ?_
    simp (config := { maxSteps := 10000000 }) (disch := omega) only [↓G_seq, ↓G_exit, ↓G_region, ↓G_cond, ↓Gx_code, ↓G_ops_nil, ↓G_op, Gv_some, ↓G_gop, Gw_tf, Gc_false, dec_f, killAll, ↓get_setS, evalOp, ev, b_lss, one, Option.map_some, asB, List.getElem?_cons_zero, List.getElem?_cons_succ, Nat.reduceEqDiff, ↓reduceIte, Nat.succ_ne_self, Bool.false_eq_true, len_ref, h5, h6]
    refine hx _ _ m hm ?_ ?_ hr
    all_goals simp (config := { maxSteps := 10000000 }) (disch := omega) only [↓get_setS, List.getElem?_cons_zero, List.getElem?_cons_succ, Nat.reduceEqDiff, reduceCtorEq, ↓reduceIte, h0, h5]
  | succ n ih =>
    intro i m fr L hi hm h0 h1 h5 h6 hr
    have hml := hm.length_eq
    rcases Nat.lt_or_ge i us.length with c | c
    · obtain ⟨x, hxs⟩ : ∃ x, us[i]? = some x := ⟨_, List.getElem?_eq_getElem c⟩
      have hE := hu.el (U8_get us i x hxs)
      obtain ⟨x0, x1⟩ := hus x (List.mem_of_getElem? hxs)
      obtain ⟨q, hq⟩ : ∃ q : Nat, x.tmod (l.length : Nat) = (q : Nat) ∧ q < l.length := by
        rw [tmod_pos x0]
        have h1 := Int.emod_nonneg x (show ((l.length : Nat) : Int) ≠ 0 by omega)
        have h2 := Int.emod_lt_of_pos x (show 0 < ((l.length : Nat) : Int) by omega)
        exact ⟨(x % (l.length : Nat)).toNat, by omega, by omega⟩
      obtain ⟨hq, hql⟩ := hq
      have him : i < m.length := by omega
      have hqm : q < m.length := by omega
      obtain ⟨a, ha⟩ : ∃ a, m[i]? = some a := ⟨_, List.getElem?_eq_getElem him⟩
      obtain ⟨b, hb⟩ : ∃ b, m[q]? = some b := ⟨_, List.getElem?_eq_getElem hqm⟩
      have hEa := E9_get m i a ha
      have hEb := E9_get m q b hb
      have hs1 := E9_set m i b
      have hs2 := E9_set (m.set i b) q a
      obtain ⟨c2, hc2⟩ : ∃ c2, (m.set i b)[q]? = some c2 := ⟨_, List.getElem?_eq_getElem (by simpa using hqm)⟩
      have hEc := E9_get (m.set i b) q c2 hc2
      have hp : ((m.set i b).set q a).Perm l := by
        have h1 := List.set_set_perm him hqm
        have h2 : m[q] = b := (List.getElem?_eq_some_iff.1 hb).2
        have h3 : m[i] = a := (List.getElem?_eq_some_iff.1 ha).2
        rw [h2, h3] at h1
        exact h1.trans hm
      have nx := fun fr' L' => ih (i + 1) ((m.set i b).set q a) fr' L' (by omega) hp
      have hil : i < l.length := by omega
      generalize E9 ((m.set i b).set q a) = M2 at *
      generalize E9 (m.set i b) = M1 at *
      generalize E9 m = M0 at *
      clear ih hx hm hp hu hus
      refine G_loop.trans ?_
      simp (config := { maxSteps := 10000000 }) (disch := omega) only [↓G_seq, ↓G_skip, ↓G_blk, ↓G_region, ↓G_block, ↓G_cond, ↓G_ops_nil, ↓G_op, Gv_some, ↓G_gop, Gw_tt, Gc_true, dec_t, killAll, ↓get_setS, ↓get_setN, evalOp, ev, rget_rset, b_add, b_lss, b_rem, wrap_i64, one, Option.map_some, Option.bind_some, asB, V.shift, V.shifts, List.nil_append, List.cons_append, List.all_cons, List.all_nil, Bool.and_true, Bool.true_and, Bool.and_self, List.getElem?_cons_zero, List.getElem?_cons_succ, Nat.reduceEqDiff, ↓reduceIte, Nat.succ_ne_self, Bool.false_eq_true, Int.reduceAdd, pick3, V.cells, splice, loadV, storeV, Ab.rowAt, V.scalar, Nat.reduceAdd, and_true, true_and, and_self, List.length_cons, List.length_nil, List.take_succ_cons, List.take_zero, List.drop_succ_cons, List.drop_zero, Nat.le_refl, List.getD_cons_zero, Nat.zero_add, len_ref, el_ref, nn, ite_ov, Int.toNat_natCast, h1, h5, h6, hlu, hE, hq, hr, hEa, hEb, hEc, hs1, hs2, rset_rset, Nat.zero_add]
      refine nx _ _ ?_ ?_ ?_ ?_ ?_
      all_goals simp (config := { maxSteps := 10000000 }) (disch := omega) only [↓get_setS, ↓get_setN, rget_rset, List.getElem?_cons_zero, List.getElem?_cons_succ, Nat.reduceEqDiff, reduceCtorEq, ↓reduceIte, Nat.succ_ne_self, h0, h1, h5]
      all_goals rfl
    · have hx' := fun fr' L' => hx fr' L' m hm
      clear ih hx hm hu hus
      refine G_loop.trans ?_
      simp (config := { maxSteps := 10000000 }) (disch := omega) only [↓G_seq, ↓G_exit, ↓G_region, ↓G_cond, ↓Gx_code, ↓G_ops_nil, ↓G_op, Gv_some, ↓G_gop, Gw_tt, Gc_false, dec_t, dec_f, killAll, ↓get_setS, evalOp, ev, b_lss, one, Option.map_some, asB, List.getElem?_cons_zero, List.getElem?_cons_succ, Nat.reduceEqDiff, ↓reduceIte, Nat.succ_ne_self, len_ref, h1, h5, h6, hlu]
      refine hx' _ _ ?_ ?_ hr
      all_goals simp (config := { maxSteps := 10000000 }) (disch := omega) only [↓get_setS, List.getElem?_cons_zero, List.getElem?_cons_succ, Nat.reduceEqDiff, reduceCtorEq, ↓reduceIte, h0, h5]

theorem arg_u8 {v : V} (h : fitSl [.int .u8] v) : ∃ us, SlV 1 v (U8 us) ∧ (∀ x ∈ us, 0 ≤ x ∧ x ≤ 255) ∧ us.length ≤ 9223372036854775807 := by
  have key : ∀ els : List (List V), (∀ e ∈ els, fitCs [.int .u8] e) → ∃ us, els = U8 us ∧ ∀ x ∈ us, 0 ≤ x ∧ x ≤ 255 := by
    intro els
    induction els with
    | nil => exact fun _ => ⟨[], rfl, by simp⟩
    | cons e es ih =>
      intro h
      obtain ⟨l, rfl, hl⟩ := ih (fun e he => h e (by simp [he]))
      have h0 := h e (by simp)
      obtain ⟨_, _, rfl, ⟨b0, rfl, w0⟩, rfl⟩ := h0
      simp [Lit.wf, IntKind.min, IntKind.max, IntKind.bits, IntKind.signed] at w0
      refine ⟨b0 :: l, rfl, fun x hx => ?_⟩
      rcases List.mem_cons.1 hx with rfl | hx
      · omega
      · exact hl x hx
  rcases h with rfl | ⟨els, rfl, hlen, hels⟩
  · exact ⟨[], .nil, by simp, by simp⟩
  · obtain ⟨us, rfl, hus⟩ := key els hels
    exact ⟨us, .any, hus, by rw [U8_len] at hlen; exact Nat.le_trans hlen (by decide)⟩

theorem l6n (u : V) : call tbl 6 [.nilsl, u] H = some (.bool true) := by
  refine (call_start (show tbl 6 = some a6 from rfl)).trans ?_
  unfold a6
  simp (config := { maxSteps := 10000000 }) (disch := omega) only [↓G_seq, ↓G_skip, ↓G_region, ↓G_block, ↓G_cond, ↓G_ops_nil, ↓G_op, Gv_some, ↓G_gop, Gw_ff, Gc_false, killAll, ↓get_setS, evalOp, ev, evs, Ab.get, b_gtr, one, Option.map_some, Option.bind_some, asB, callV, V.shift, V.shifts, List.append_nil, List.getElem?_cons_zero, List.getElem?_cons_succ, Nat.reduceEqDiff, reduceCtorEq, ↓reduceIte, Nat.succ_ne_self, Nat.reduceBNe, decide_false, Bool.not_true, Bool.false_eq_true, Int.reduceLT, Nat.reduceLT, len_nil, ti_bool, ti_nilsl, fz_nil, fz_cons, fz_nilsl, c11, c21n]
  refine G_loop.trans ?_
  simp (config := { maxSteps := 10000000 }) (disch := omega) only [beq_self_eq_true, ↓G_seq, ↓G_ret, ↓G_exit, ↓G_region, ↓G_cond, ↓Gx_blk, ↓Gx_code, ↓G_ops_nil, ↓G_op, Gv_some, ↓G_gop, Gw_tf, Gc_false, killAll, ↓get_setS, evalOp, ev, evs, Ab.get, b_eql, b_lss, one, Option.map_some, Option.bind_some, asB, finish, resVs, resV, outVs, ownsLast, tupOf, callV, V.shift, V.shifts, List.append_nil, List.map_cons, List.map_nil, List.all_nil, List.getElem?_cons_zero, List.getElem?_cons_succ, Nat.reduceEqDiff, reduceCtorEq, ↓reduceIte, Nat.succ_ne_self, Nat.reduceBNe, decide_true, decide_false, Bool.false_eq_true, Int.reduceNeg, Int.reduceLT, Nat.reduceLT, len_nil, ti_nilsl, ti_tup_int, st_int, ov_bool, fn_some, fz_nil, fz_cons, fz_nilsl, c20n, c21n]

theorem l6 (l : List Sp) (hlm : l.length ≤ 9223372036854775807) {u : V} {us : List Int} (hu : SlV 1 u (U8 us)) (hus : ∀ x ∈ us, 0 ≤ x ∧ x ≤ 255) (hul : us.length ≤ 9223372036854775807) : call tbl 6 [.sl .any 9 (E9 l), u] H = some (.bool true) := by
  refine (call_start (show tbl 6 = some a6 from rfl)).trans ?_
  have hlen := E9_len l
  by_cases hl : 12 < l.length
  · unfold a6
    simp (config := { maxSteps := 10000000 }) (disch := omega) only [↓G_seq, ↓G_ret, ↓G_region, ↓G_cond, ↓G_ops_nil, ↓G_op, Gv_some, ↓G_gop, Gw_ff, Gc_true, dec_t, killAll, ↓get_setS, evalOp, ev, evs, Ab.get, b_gtr, one, Option.map_some, Option.bind_some, asB, finish, resVs, resV, outVs, ownsLast, tupOf, callV, V.shifts, List.append_nil, List.all_nil, List.getElem?_cons_zero, List.getElem?_cons_succ, Nat.reduceEqDiff, reduceCtorEq, ↓reduceIte, Nat.succ_ne_self, Nat.reduceBNe, Bool.not_true, Bool.false_eq_true, len_any, ti_bool, ov_bool, fn_some, fz_nil, c11, hlen]
    done
  by_cases hz : l = []
  · subst hz
    have h21 : ∀ H, call tbl 21 [.sl .any 9 (E9 [])] H = some .nilsl := fun H => c21 [] (by simp)
    unfold a6
    simp (config := { maxSteps := 10000000 }) (disch := omega) only [↓G_seq, ↓G_skip, ↓G_region, ↓G_block, ↓G_cond, ↓G_ops_nil, ↓G_op, Gv_some, ↓G_gop, Gw_ff, Gc_false, killAll, ↓get_setS, evalOp, ev, evs, Ab.get, b_gtr, one, Option.map_some, Option.bind_some, asB, callV, V.shift, V.shifts, List.append_nil, List.getElem?_cons_zero, List.getElem?_cons_succ, Nat.reduceEqDiff, reduceCtorEq, ↓reduceIte, Nat.succ_ne_self, Nat.reduceBNe, decide_false, Bool.not_true, Bool.false_eq_true, Int.reduceLT, Nat.reduceLT, List.length_nil, Int.cast_ofNat_Int, len_any, ti_bool, ti_nilsl, fz_nil, fz_cons, fz_any, c11, hlen, h21]
    refine G_loop.trans ?_
    simp (config := { maxSteps := 10000000 }) (disch := omega) only [beq_self_eq_true, ↓G_seq, ↓G_ret, ↓G_exit, ↓G_region, ↓G_cond, ↓Gx_blk, ↓Gx_code, ↓G_ops_nil, ↓G_op, Gv_some, ↓G_gop, Gw_tf, Gc_false, killAll, ↓get_setS, evalOp, ev, evs, Ab.get, b_eql, b_lss, one, Option.map_some, Option.bind_some, asB, finish, resVs, resV, outVs, ownsLast, tupOf, callV, V.shift, V.shifts, List.append_nil, List.map_cons, List.map_nil, List.all_nil, List.getElem?_cons_zero, List.getElem?_cons_succ, Nat.reduceEqDiff, reduceCtorEq, ↓reduceIte, Nat.succ_ne_self, Nat.reduceBNe, decide_true, decide_false, Bool.false_eq_true, Int.reduceNeg, Int.reduceLT, Nat.reduceLT, len_nil, ti_nilsl, ti_tup_int, st_int, ov_bool, fn_some, fz_nil, fz_cons, fz_any, fz_nilsl, h21, c20n]
    done
  · have h21 : ∀ H, call tbl 21 [.sl .any 9 (E9 l)] H = some (.sl .own 9 (E9 l)) := fun H => (c21 l (by omega)).trans (by rw [outAcc, if_neg (fun z => hz (E9_nil.1 z))])
    have hp := E9_pure l
    have fin := fun k hx => loop6 (H := H) (k := k) (v := .sl .any 9 (E9 l)) (l := l) (r := some (.bool true)) (ver := 1) (by omega) hu hus hul (by omega) hx l.length 0 l
    have h20 := fun H => c20 (H := H) l (by omega)
    unfold a6
    simp (config := { maxSteps := 10000000 }) (disch := omega) only [↓G_seq, ↓G_skip, ↓G_region, ↓G_block, ↓G_cond, ↓G_ops_nil, ↓G_op, Gv_some, ↓G_gop, Gw_ff, Gc_false, dec_f, killAll, ↓get_setS, evalOp, ev, evs, Ab.get, b_gtr, one, Option.map_some, Option.bind_some, asB, callV, V.shift, V.shifts, List.append_nil, List.getElem?_cons_zero, List.getElem?_cons_succ, Nat.reduceEqDiff, reduceCtorEq, ↓reduceIte, Nat.succ_ne_self, Nat.reduceBNe, Bool.not_true, Bool.false_eq_true, rget, rset, Nat.zero_add, len_any, ti_own_t, ti_bool, fz_nil, fz_cons, fz_any, c11, hlen, h21]
    refine fin _ (fun fr' L' m hm g0 g5 hr => ?_) _ _ (by omega) (.refl _) ?_ ?_ ?_ ?_ ?_
    · clear fin
      have hml := hm.length_eq
      have hmp := E9_pure m
      have hmlen := E9_len m
      have h20m := fun H => c20 (H := H) m (by omega)
      have hiff := chk_perm hm
      have htk : (E9 m).take l.length = E9 m := List.take_of_length_le (by rw [hmlen, hml]; exact Nat.le_refl _)
      generalize (chk l l 0).2 = A at *
      generalize (chk m m 0).2 = B at *
      generalize (chk l l 0).1 = A1 at *
      generalize (chk m m 0).1 = B1 at *
      by_cases cA : A = 0
      · have cB : B = 0 := hiff.2 cA
        clear hiff hu hus hm
        simp (config := { maxSteps := 10000000 }) (disch := omega) only [beq_self_eq_true, ↓G_seq, ↓G_ret, ↓G_region, ↓Gx_blk, ↓G_ops_nil, ↓G_op, Gv_some, dec_t, killAll, ↓get_setS, evalOp, ev, evs, rget_rset, b_eql, one, Option.map_some, Option.bind_some, finish, resVs, resV, outVs, ownsLast, tupOf, callV, V.shift, V.shifts, List.append_nil, List.map_cons, List.map_nil, List.all_nil, Bool.and_self, List.getElem?_cons_zero, List.getElem?_cons_succ, Nat.reduceEqDiff, ↓reduceIte, Nat.succ_ne_self, Nat.reduceBNe, Bool.false_eq_true, Int.reduceAdd, Nat.reduceAdd, and_self, List.drop_zero, Nat.le_refl, Nat.zero_add, ti_own_t, ti_tup_int, st_int, ov_bool, fn_some, fz_nil, fz_cons, fz_any, fz_ref0, g0, g5, hr, h21, h20, h20m, hp, hmp, hmlen, htk, hml, List.take_length, List.drop_zero, rset_rset, Nat.zero_lt_succ, Nat.zero_add]
      · have cB : ¬ B = 0 := fun z => cA (hiff.1 z)
        clear hiff hu hus hm
        simp (config := { maxSteps := 10000000 }) (disch := omega) only [beq_self_eq_true, ↓G_seq, ↓G_ret, ↓G_region, ↓Gx_blk, ↓G_ops_nil, ↓G_op, Gv_some, dec_f, killAll, ↓get_setS, evalOp, ev, evs, rget_rset, b_eql, one, Option.map_some, Option.bind_some, finish, resVs, resV, outVs, ownsLast, tupOf, callV, V.shift, V.shifts, List.append_nil, List.map_cons, List.map_nil, List.all_nil, Bool.and_self, List.getElem?_cons_zero, List.getElem?_cons_succ, Nat.reduceEqDiff, ↓reduceIte, Nat.succ_ne_self, Nat.reduceBNe, Bool.false_eq_true, Int.reduceAdd, Nat.reduceAdd, and_self, List.drop_zero, Nat.le_refl, Nat.zero_add, ti_own_t, ti_tup_int, st_int, ov_bool, fn_some, fz_nil, fz_cons, fz_any, fz_ref0, g0, g5, hr, h21, h20, h20m, hp, hmp, hmlen, htk, hml, List.take_length, List.drop_zero, rset_rset, Nat.zero_lt_succ, Nat.zero_add]
    all_goals clear fin
    all_goals simp (config := { maxSteps := 10000000 }) (disch := omega) only [↓get_setS, Ab.get, List.getElem?_cons_zero, List.getElem?_cons_succ, Nat.reduceEqDiff, reduceCtorEq, ↓reduceIte, Nat.succ_ne_self, rget, Int.cast_ofNat_Int]
    all_goals rfl

end Go.Proofs.Ytfngllcjikmbkaa

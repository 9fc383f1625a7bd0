/-
  Names of keys, read: the laws KeyNames and KeyParses.
-/
import Derived.Test.YtfpkelnakagdfaaS07P
namespace Go.Proofs.Ytfpkelnakagdfaa
open Go Go.Ab
set_option linter.unusedVariables false
set_option linter.unnecessarySimpa false
set_option linter.unusedSimpArgs false
set_option maxRecDepth 100000
variable {H : List (List Row)}

def stepR (c : UInt8) : Option Int := if c = 67 then some 0 else if c = 68 then some 1 else if c = 69 then some 2 else if c = 70 then some 3 else if c = 71 then some 4 else if c = 65 then some 5 else if c = 66 then some 6 else none
def accR : List UInt8 → Int × List UInt8
  | [] => (0, [])
  | c :: r => if c = 35 then (1, r) else if c = 98 then (-1, r) else (0, c :: r)
def okF (s a : Int) (m : Bool) : Bool := decide (-7 ≤ ofX s a m) && decide (ofX s a m ≤ 7)
/-- What is read: the number of fifths, whether it is minor, the error. -/
def parseR : List UInt8 → Int × Bool × Int
  | [] => (0, false, 12)
  | c :: r =>
    match stepR c with
    | none => (0, false, 12)
    | some s => if okF s (accR r).1 ((accR r).2 == miS) = true ∧ (((accR r).2 == miS) = true ∨ ((accR r).2 == maS) = true) then (ofX s (accR r).1 ((accR r).2 == miS), (accR r).2 == miS, 0) else (0, false, 12)

theorem accR_cons (c : UInt8) (r : List UInt8) : accR (c :: r) = if c = 35 then (1, r) else if c = 98 then (-1, r) else (0, c :: r) := rfl
theorem parseR_cons (c : UInt8) (r : List UInt8) : parseR (c :: r) = if (stepR c).isSome = true ∧ okF ((stepR c).getD 0) (accR r).1 ((accR r).2 == miS) = true ∧ (((accR r).2 == miS) = true ∨ ((accR r).2 == maS) = true) then (ofX ((stepR c).getD 0) (accR r).1 ((accR r).2 == miS), (accR r).2 == miS, 0) else (0, false, 12) := by
  show (match stepR c with | none => _ | some s => _) = _
  cases stepR c <;> simp

theorem step_in {c : UInt8} {s : Int} (h : stepR c = some s) : (0 ≤ s ∧ s ≤ 6) ∧ c = lt s := by
  unfold stepR at h
  repeat' split at h
  all_goals first | (cases h; done) | (simp only [Option.some.injEq] at h; subst h; rename_i e; subst e; exact ⟨by omega, rfl⟩)
theorem acc_in (r : List UInt8) : ((accR r).1 = -1 ∨ (accR r).1 = 0 ∨ (accR r).1 = 1) ∧ r = ac (accR r).1 ++ (accR r).2 := by
  cases r with
  | nil => exact ⟨by simp [accR], rfl⟩
  | cons c r =>
    rw [accR_cons]
    by_cases e : c = 35
    · rw [if_pos e]; subst e; exact ⟨by simp, rfl⟩
    · rw [if_neg e]
      by_cases e2 : c = 98
      · rw [if_pos e2]; subst e2; exact ⟨by simp, rfl⟩
      · rw [if_neg e2]; exact ⟨by simp, rfl⟩

theorem parse_name (f : Int) (m : Bool) (h : -7 ≤ f ∧ f ≤ 7) : parseR (nm f m) = (f, m, 0) := by
  rcases cases15 f h with rfl | rfl | rfl | rfl | rfl | rfl | rfl | rfl | rfl | rfl | rfl | rfl | rfl | rfl | rfl
  all_goals cases m <;> decide

theorem of_back {s a : Int} {m : Bool} (hs : 0 ≤ s ∧ s ≤ 6) (ha : a = -1 ∨ a = 0 ∨ a = 1) : tonS (ofX s a m + mn m) = s ∧ tonA (ofX s a m + mn m) = a := by
  rcases cases7 s hs with rfl | rfl | rfl | rfl | rfl | rfl | rfl <;> rcases ha with rfl | rfl | rfl <;> cases m <;> decide

theorem parse_two (l : List UInt8) : parseR l = (0, false, 12) ∨ ∃ f m, parseR l = (f, m, 0) ∧ (-7 ≤ f ∧ f ≤ 7) ∧ l = nm f m := by
  cases l with
  | nil => exact .inl rfl
  | cons c r =>
    rw [parseR_cons]
    by_cases hc : (stepR c).isSome = true ∧ okF ((stepR c).getD 0) (accR r).1 ((accR r).2 == miS) = true ∧ (((accR r).2 == miS) = true ∨ ((accR r).2 == maS) = true)
    · rw [if_pos hc]
      obtain ⟨h0, h1, h2⟩ := hc
      obtain ⟨s, hs⟩ := Option.isSome_iff_exists.1 h0
      rw [hs, Option.getD_some] at h1 ⊢
      obtain ⟨hs1, hs2⟩ := step_in hs
      obtain ⟨ha1, ha2⟩ := acc_in r
      refine .inr ⟨_, _, rfl, by unfold okF at h1; simpa using h1, ?_⟩
      obtain ⟨b1, b2⟩ := of_back (m := (accR r).2 == miS) hs1 ha1
      unfold nm
      rw [b1, b2]
      unfold nmL
      have h3 : (accR r).2 = sf ((accR r).2 == miS) := by
        cases hm : ((accR r).2 == miS)
        · rw [hm] at h2
          have := h2.resolve_left (by simp)
          exact eq_of_beq this
        · exact eq_of_beq hm
      rw [hs2]
      congr 1
      rw [← h3]
      exact ha2
    · rw [if_neg hc]
      exact .inl rfl

/-! The program. -/
theorem c46 (l : List UInt8) (c : UInt8) : call tbl 46 [.str (B l), .str (B [c])] H = some (.bool (l.head? == some c)) := by
  refine (call_start (show tbl 46 = some a46 from rfl)).trans ?_
  have hl := B_size l
  have h1 : (B [c]).size = 1 := rfl
  unfold a46
  cases l with
  | nil =>
    have hl0 : (B []).size = 0 := rfl
    simp (config := { maxSteps := 10000000 }) (disch := omega) only [↓G_seq, ↓G_ret, ↓G_region, ↓G_ops_nil, ↓G_op, Gv_some, ↓G_gop, Gw_tf, killAll, ↓get_setS, evalOp, ev, Ab.get, b_geq, one, Option.map_some, Option.bind_some, asB, finish, resVs, resV, outVs, ownsLast, tupOf, List.all_nil, List.getElem?_cons_zero, List.getElem?_cons_succ, Nat.reduceEqDiff, reduceCtorEq, ↓reduceIte, Nat.succ_ne_self, decide_false, Bool.false_eq_true, Int.reduceLE, strLenV, Int.cast_ofNat_Int, ov_bool, fn_some, hl0, h1]
    rfl
  | cons x r =>
    have hp := B_pre (l := x :: r) (n := 1) (by simp)
    have hq := B_eql [x] [c]
    simp only [List.take_succ_cons, List.take_zero, Int.cast_ofNat_Int] at hp
    have hlen : (B (x :: r)).size = r.length + 1 := rfl
    have he : ([x] == [c]) = ((x :: r).head? == some c) := by simp
    rw [he] at hq
    generalize ((x :: r).head? == some c) = b at *
    clear hl
    simp (config := { maxSteps := 10000000 }) (disch := omega) only [↓G_seq, ↓G_ret, ↓G_region, ↓G_ops_nil, ↓G_op, Gv_some, ↓G_gop, Gw_tt, dec_t, killAll, ↓get_setS, evalOp, ev, Ab.get, b_geq, one, Option.map_some, Option.bind_some, Option.map_none, asB, finish, resVs, resV, outVs, ownsLast, tupOf, List.all_nil, List.getElem?_cons_zero, List.getElem?_cons_succ, Nat.reduceEqDiff, reduceCtorEq, ↓reduceIte, Nat.succ_ne_self, strLenV, Int.cast_ofNat_Int, ov_bool, fn_some, hlen, h1, hp, hq]
theorem c45 (l : List UInt8) (c : UInt8) : call tbl 45 [.str (B l), .str (B [c])] H = some (.bool (l.head? == some c)) := by
  refine (call_start (show tbl 45 = some a45 from rfl)).trans ?_
  have h := fun H => c46 (H := H) l c
  generalize (l.head? == some c) = b at *
  unfold a45
  simp (config := { maxSteps := 10000000 }) (disch := omega) only [↓G_seq, ↓G_ret, ↓G_region, ↓G_ops_nil, ↓G_op, Gv_some, killAll, ↓get_setS, evalOp, ev, evs, Ab.get, Option.map_some, Option.bind_some, finish, resVs, resV, outVs, ownsLast, tupOf, callV, V.shift, V.shifts, List.append_nil, List.all_nil, List.getElem?_cons_zero, List.getElem?_cons_succ, Nat.reduceEqDiff, reduceCtorEq, ↓reduceIte, Nat.succ_ne_self, bne_self_eq_false, ti_bool, ov_bool, fn_some, h]

theorem u8eq (c : UInt8) (n : Nat) (h : n < 256) : (((c.toNat : Nat) : Int) == (n : Int)) = decide (c = UInt8.ofNat n) := by
  have : c = UInt8.ofNat n ↔ c.toNat = n := by
    rw [← UInt8.toNat_inj]
    have : (UInt8.ofNat n).toNat = n := by
      simp
      omega
    rw [this]
  rw [Bool.eq_iff_iff]
  simp only [beq_iff_eq, decide_eq_true_eq, this]
  omega

theorem get7 (c : UInt8) (H : List (List Row)) : mgetV ([⟨0, 0, []⟩, ⟨1, 0, [[.int .u8 67, .i 0], [.int .u8 68, .i 1], [.int .u8 69, .i 2], [.int .u8 70, .i 3], [.int .u8 71, .i 4], [.int .u8 65, .i 5], [.int .u8 66, .i 6]]⟩] :: H) .int true (.i 0) (.mp 0 1 1) (.int .u8 (c.toNat : Nat)) =
    some (.tup [.i ((stepR c).getD 0), .bool (stepR c).isSome]) := by
  have e1 := u8eq c 67 (by decide)
  have e2 := u8eq c 68 (by decide)
  have e3 := u8eq c 69 (by decide)
  have e4 := u8eq c 70 (by decide)
  have e5 := u8eq c 71 (by decide)
  have e6 := u8eq c 65 (by decide)
  have e7 := u8eq c 66 (by decide)
  simp only [Int.cast_ofNat_Int] at e1 e2 e3 e4 e5 e6 e7
  have hrow : Ab.rowAt ([⟨0, 0, []⟩, ⟨1, 0, [[.int .u8 67, .i 0], [.int .u8 68, .i 1], [.int .u8 69, .i 2], [.int .u8 70, .i 3], [.int .u8 71, .i 4], [.int .u8 65, .i 5], [.int .u8 66, .i 6]]⟩] :: H) 0 1 = ⟨1, 0, [[.int .u8 67, .i 0], [.int .u8 68, .i 1], [.int .u8 69, .i 2], [.int .u8 70, .i 3], [.int .u8 71, .i 4], [.int .u8 65, .i 5], [.int .u8 66, .i 6]]⟩ := rfl
  unfold mgetV stepR
  simp only [hrow, findV, keyEq, if_true, e1, e2, e3, e4, e5, e6, e7]
  have f1 : (UInt8.ofNat 67 : UInt8) = 67 := rfl
  by_cases d1 : c = 67
  · subst d1; rfl
  by_cases d2 : c = 68
  · subst d2; rfl
  by_cases d3 : c = 69
  · subst d3; rfl
  by_cases d4 : c = 70
  · subst d4; rfl
  by_cases d5 : c = 71
  · subst d5; rfl
  by_cases d6 : c = 65
  · subst d6; rfl
  by_cases d7 : c = 66
  · subst d7; rfl
  have g1 : decide (c = UInt8.ofNat 67) = false := decide_eq_false d1
  have g2 : decide (c = UInt8.ofNat 68) = false := decide_eq_false d2
  have g3 : decide (c = UInt8.ofNat 69) = false := decide_eq_false d3
  have g4 : decide (c = UInt8.ofNat 70) = false := decide_eq_false d4
  have g5 : decide (c = UInt8.ofNat 71) = false := decide_eq_false d5
  have g6 : decide (c = UInt8.ofNat 65) = false := decide_eq_false d6
  have g7 : decide (c = UInt8.ofNat 66) = false := decide_eq_false d7
  simp only [g1, g2, g3, g4, g5, g6, g7]
  simp [d1, d2, d3, d4, d5, d6, d7]

/-- The signature of the letter, the accidental, the mode that were read. -/
theorem h27 (s a : Int) (m : Bool) (hs : 0 ≤ s ∧ s ≤ 6) (ha : a = -1 ∨ a = 0 ∨ a = 1) : call tbl 27 [.i s, .i a, .bool m] H = some (.tup [.i (if okF s a m = true then ofX s a m else 0), .i (if okF s a m = true then 0 else 2)]) := by
  have hk : okR s a := ⟨hs, by omega⟩
  cases h : okF s a m
  · exact c27_out s a m hk (by unfold okF at h; simpa using h)
  · exact c27 s a m hk (by unfold okF at h; simpa using h)

theorem step_d (c : UInt8) : 0 ≤ (stepR c).getD 0 ∧ (stepR c).getD 0 ≤ 6 := by
  cases h : stepR c with
  | none => exact ⟨by simp, by simp⟩
  | some s => exact (step_in h).1

set_option maxHeartbeats 2000000 in
theorem c35 (l : List UInt8) : call tbl 35 [.str (B l)] H = some (.tup [.i (parseR l).1, .bool (parseR l).2.1, .i (parseR l).2.2]) := by
  cases l with
  | nil => exact call_of 40 (by kernel_rfl)
  | cons c r =>
  refine (call_start (show tbl 35 = some a35 from rfl)).trans ?_
  have hne : binV .eql (.str (B (c :: r))) (.str (B [])) = some (.bool false) := by rw [B_eql]; rfl
  have hix := B_idx c r
  have hg := get7 c
  have hsub := B_sub (l := c :: r) (n := 1) (by simp)
  simp only [List.drop_succ_cons, List.drop_zero, Int.cast_ofNat_Int] at hsub
  have h45a := fun H => c45 (H := H) r 35
  have h45b := fun H => c45 (H := H) r 98
  obtain ⟨ha1, ha2⟩ := acc_in r
  have h27' := fun H => h27 (H := H) ((stepR c).getD 0) (accR r).1 ((accR r).2 == miS) (step_d c) ha1
  have hi := B_eql (accR r).2 miS
  have ha := B_neq (accR r).2 maS
  have hshape : (r.head? = some 35 ∧ (accR r).1 = 1 ∧ strSubV (.str (B r)) (some (.i 1)) none = some (.str (B (accR r).2))) ∨ (r.head? ≠ some 35 ∧ r.head? = some 98 ∧ (accR r).1 = -1 ∧ strSubV (.str (B r)) (some (.i 1)) none = some (.str (B (accR r).2))) ∨
      (r.head? ≠ some 35 ∧ r.head? ≠ some 98 ∧ (accR r).1 = 0 ∧ (accR r).2 = r) := by
    cases r with
    | nil => exact .inr (.inr ⟨by simp, by simp, rfl, rfl⟩)
    | cons x r =>
      have hs := B_sub (l := x :: r) (n := 1) (by simp)
      simp only [List.drop_succ_cons, List.drop_zero, Int.cast_ofNat_Int] at hs
      by_cases e1 : x = 35
      · subst e1; exact .inl ⟨rfl, rfl, hs⟩
      · by_cases e2 : x = 98
        · subst e2; exact .inr (.inl ⟨by simp, rfl, rfl, hs⟩)
        · exact .inr (.inr ⟨by simpa using e1, by simpa using e2, by simp [accR, e1, e2], by simp [accR, e1, e2]⟩)
  rw [parseR_cons]
  clear ha1 ha2
  generalize hq : (accR r).2 = q at *
  generalize (accR r).1 = a at *
  generalize hM : (q == miS) = M at *
  generalize (q == maS) = N at *
  generalize okF ((stepR c).getD 0) a M = O at *
  generalize ofX ((stepR c).getD 0) a M = X at *
  generalize (stepR c).getD 0 = s at *
  generalize (stepR c).isSome = K at *
  generalize hcn : ((c.toNat : Nat) : Int) = cn at *
  clear hM hcn
  unfold a35
  simp only [q0, qS, qF, qi, qa]
  rcases hshape with ⟨e1, rfl, e3⟩ | ⟨e1, e2, rfl, e3⟩ | ⟨e1, e2, rfl, e3⟩
  · have f1 : (r.head? == some 35) = true := by rw [e1]; rfl
    rw [f1] at h45a
    clear hq
    cases K <;> cases O <;> cases M <;> cases N
    all_goals simp (config := { maxSteps := 10000000 }) (disch := omega) only [↓G_seq, ↓G_skip, ↓G_ret, ↓G_blk, ↓G_region, ↓G_block, ↓G_cond, ↓G_ops_nil, ↓G_op, Gv_some, ↓G_gop, Gw_tt, Gw_ff, Gw_tf, Gw_ft, Gw_tup, Gc_true, Gc_false, killAll, ↓get_setS, ↓get_setN, evalOp, ev, evs, Ab.get, b_neq, one, Option.map_some, Option.bind_some, Option.map_none, asB, finish, resVs, resV, outVs, ownsLast, tupOf, callV, V.shift, V.shifts, List.append_nil, List.nil_append, List.cons_append, List.map_cons, List.map_nil, List.all_cons, List.all_nil, Bool.and_true, Bool.and_self, Bool.and_false, List.getElem?_cons_zero, List.getElem?_cons_succ, Nat.reduceEqDiff, reduceCtorEq, ↓reduceIte, Nat.succ_ne_self, Nat.reduceBEq, or_true, or_false, decide_true, decide_false, Bool.not_true, Bool.not_false, bne_self_eq_false, Bool.false_eq_true, Int.reduceNeg, Int.reduceLT, Int.reduceEq, rget, rset, Nat.reduceLT, and_true, and_self, and_false, Bool.or_true, Bool.or_false, Nat.zero_add, ti_bool, ti_tup_int, st_int, ov_bool, ov_int, fn_some, hne, hix, hg, hsub, h45a, h27', hi, ha, e3, minsV, findV, keyEq, Int.reduceBEq]
  · have f1 : (r.head? == some 35) = false := by simpa using e1
    have f2 : (r.head? == some 98) = true := by rw [e2]; rfl
    rw [f1] at h45a
    rw [f2] at h45b
    clear hq
    cases K <;> cases O <;> cases M <;> cases N
    all_goals simp (config := { maxSteps := 10000000 }) (disch := omega) only [↓G_seq, ↓G_skip, ↓G_ret, ↓G_blk, ↓G_region, ↓G_block, ↓G_cond, ↓G_ops_nil, ↓G_op, Gv_some, ↓G_gop, Gw_tt, Gw_ff, Gw_tf, Gw_ft, Gw_tup, Gc_true, Gc_false, killAll, ↓get_setS, ↓get_setN, evalOp, ev, evs, Ab.get, b_neq, one, Option.map_some, Option.bind_some, Option.map_none, asB, finish, resVs, resV, outVs, ownsLast, tupOf, callV, V.shift, V.shifts, List.append_nil, List.nil_append, List.cons_append, List.map_cons, List.map_nil, List.all_cons, List.all_nil, Bool.and_true, Bool.and_self, Bool.and_false, List.getElem?_cons_zero, List.getElem?_cons_succ, Nat.reduceEqDiff, reduceCtorEq, ↓reduceIte, Nat.succ_ne_self, Nat.reduceBEq, or_true, or_false, decide_true, decide_false, Bool.not_true, Bool.not_false, bne_self_eq_false, Bool.false_eq_true, Int.reduceNeg, Int.reduceLT, Int.reduceEq, rget, rset, Nat.reduceLT, and_true, and_self, and_false, Bool.or_true, Bool.or_false, Nat.zero_add, ti_bool, ti_tup_int, st_int, ov_bool, ov_int, fn_some, hne, hix, hg, hsub, h45a, h45b, h27', hi, ha, e3, minsV, findV, keyEq, Int.reduceBEq]
  · have f1 : (r.head? == some 35) = false := by simpa using e1
    have f2 : (r.head? == some 98) = false := by simpa using e2
    rw [f1] at h45a
    rw [f2] at h45b
    subst e3
    cases K <;> cases O <;> cases M <;> cases N
    all_goals simp (config := { maxSteps := 10000000 }) (disch := omega) only [↓G_seq, ↓G_skip, ↓G_ret, ↓G_blk, ↓G_region, ↓G_block, ↓G_cond, ↓G_ops_nil, ↓G_op, Gv_some, ↓G_gop, Gw_tt, Gw_ff, Gw_tf, Gw_ft, Gw_tup, Gc_true, Gc_false, killAll, ↓get_setS, ↓get_setN, evalOp, ev, evs, Ab.get, b_neq, one, Option.map_some, Option.bind_some, Option.map_none, asB, finish, resVs, resV, outVs, ownsLast, tupOf, callV, V.shift, V.shifts, List.append_nil, List.nil_append, List.cons_append, List.map_cons, List.map_nil, List.all_cons, List.all_nil, Bool.and_true, Bool.and_self, Bool.and_false, List.getElem?_cons_zero, List.getElem?_cons_succ, Nat.reduceEqDiff, reduceCtorEq, ↓reduceIte, Nat.succ_ne_self, Nat.reduceBEq, or_true, or_false, decide_true, decide_false, Bool.not_true, Bool.not_false, bne_self_eq_false, Bool.false_eq_true, Int.reduceNeg, Int.reduceLT, Int.reduceEq, rget, rset, Nat.reduceLT, and_true, and_self, and_false, Bool.or_true, Bool.or_false, Nat.zero_add, ti_bool, ti_tup_int, st_int, ov_bool, ov_int, fn_some, hne, hix, hg, hsub, h45a, h45b, h27', hi, ha, minsV, findV, keyEq, Int.reduceBEq]

end Go.Proofs.Ytfpkelnakagdfaa

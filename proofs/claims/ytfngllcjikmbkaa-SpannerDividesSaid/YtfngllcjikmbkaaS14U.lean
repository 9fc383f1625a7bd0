/-
  Pieces: Divide of the program.
-/
import Derived.Test.YtfngllcjikmbkaaS14T
namespace Go.Proofs.Ytfngllcjikmbkaa
open Go Go.Ab
set_option linter.unusedVariables false
set_option linter.unnecessarySimpa false
set_option linter.unusedSimpArgs false
set_option maxRecDepth 100000
variable {H : List (List Row)}

def tblP : Tbl := ⟨tblF, pr61⟩
theorem soundP : SoundCall Try.prog (call tblP) := call_sound mixed (tblF_ok _) pr61_ok
theorem up {f : FuncId} {a : List V} {v : V} (h : call tbl f a H = some v) : call tblP f a H = some v := call_up h

def I1 (l : List Int) : List (List V) := l.map fun x => [V.i x]
theorem I1_len (l : List Int) : (I1 l).length = l.length := by simp [I1]
theorem I1_get {zs : List Int} {i : Nat} (h : i < zs.length) : (I1 zs)[i]? = some [V.i (Z zs i)] := by simp [I1, Z, h]
theorem ints_I1 : ∀ l : List Int, ints (I1 l) = some l
  | [] => rfl
  | x :: t => by
    have := ints_I1 t
    show (int1 [V.i x]).bind _ = _
    simp only [int1, Option.bind_some]
    show Option.map _ (ints (I1 t)) = _
    rw [this]
    rfl
theorem outP_eq (ps : List Pc) : outP ps = outAcc 5 (E5 ps) := by
  cases ps with
  | nil => rfl
  | cons x t => simp [outP, outAcc, E5]

theorem c56 {v : V} {zs : List Int} (hv : SlV 1 v (I1 zs)) (k m1 a1 s1 v1 m2 a2 s2 v2 : Int) : call tblP 56 [.agg [.i k, .i m1, .i a1, .i s1, .i v1, .i m2, .i a2, .i s2, .i v2], v] H =
    some (.fn 62 [.eptr [v] 0, .eptr [.i k, .i m1, .i a1, .i s1, .i v1, .i m2, .i a2, .i s2, .i v2] 0]) := by
  refine (call_start (show tblP 56 = some a56 from rfl)).trans ?_
  have sk1 : (SK.any != SK.own) = true := rfl
  have sk2 : (SK.full != SK.own) = true := rfl
  unfold a56
  rcases hv with ⟨rfl, h⟩ | ⟨kk, hk, rfl⟩
  · simp (config := { maxSteps := 10000000 }) (disch := omega) only [finF, ↓G_seq, ↓G_ret, ↓G_region, ↓G_ops_nil, ↓G_op, Gv_some, killAll, ↓get_setS, evalOp, ev, evs, Ab.get, Option.map_some, Option.bind_some, Option.bind_none, finish, resVs, resV, outVs, ownsLast, tupOf, List.all_cons, List.all_nil, Bool.and_true, Bool.true_and, Bool.and_self, List.getElem?_cons_zero, List.getElem?_cons_succ, Nat.reduceEqDiff, ↓reduceIte, Nat.succ_ne_self, Bool.false_eq_true, Int.reduceAdd, V.cells, rget, rset, V.scalar, V.pure, Nat.reduceAdd, and_true, true_and, and_self, List.length_cons, List.length_nil, Nat.zero_add, fn_none, fz_rnil, fz_rcons, fz_cnil, fz_ccons, fz_rfn, fz_pptr, ov_fnS, V.calm, Nat.zero_lt_succ]
  · cases kk
    · simp (config := { maxSteps := 10000000 }) (disch := omega) only [finF, ↓G_seq, ↓G_ret, ↓G_region, ↓G_ops_nil, ↓G_op, Gv_some, killAll, ↓get_setS, evalOp, ev, evs, Ab.get, Option.map_some, Option.bind_some, Option.bind_none, finish, resVs, resV, outVs, ownsLast, tupOf, List.all_cons, List.all_nil, Bool.and_true, Bool.true_and, Bool.and_self, List.getElem?_cons_zero, List.getElem?_cons_succ, Nat.reduceEqDiff, ↓reduceIte, Nat.succ_ne_self, Bool.false_eq_true, Int.reduceAdd, V.cells, rget, rset, V.scalar, V.pure, Nat.reduceAdd, and_true, true_and, and_self, List.length_cons, List.length_nil, Nat.zero_add, fn_none, fz_rnil, fz_rcons, fz_cnil, fz_ccons, fz_rfn, fz_pptr, ov_fnS, V.calm, sk1, Nat.zero_lt_succ]
    · simp (config := { maxSteps := 10000000 }) (disch := omega) only [finF, ↓G_seq, ↓G_ret, ↓G_region, ↓G_ops_nil, ↓G_op, Gv_some, killAll, ↓get_setS, evalOp, ev, evs, Ab.get, Option.map_some, Option.bind_some, Option.bind_none, finish, resVs, resV, outVs, ownsLast, tupOf, List.all_cons, List.all_nil, Bool.and_true, Bool.true_and, Bool.and_self, List.getElem?_cons_zero, List.getElem?_cons_succ, Nat.reduceEqDiff, ↓reduceIte, Nat.succ_ne_self, Bool.false_eq_true, Int.reduceAdd, V.cells, rget, rset, V.scalar, V.pure, Nat.reduceAdd, and_true, true_and, and_self, List.length_cons, List.length_nil, Nat.zero_add, fn_none, fz_rnil, fz_rcons, fz_cnil, fz_ccons, fz_rfn, fz_pptr, ov_fnS, V.calm, sk2, Nat.zero_lt_succ]
    · exact absurd rfl hk

theorem c61 {v : V} {zs : List Int} (hv : SlV 1 v (I1 zs)) (h0 : 0 < zs.length) (hl : zs.length ≤ 1000000) (k m1 a1 s1 v1 m2 a2 s2 v2 : Int) :
    call tblP 61 [.nilsl, .fn 62 [.eptr [v] 0, .eptr [.i k, .i m1, .i a1, .i s1, .i v1, .i m2, .i a2, .i s2, .i v2] 0]] H = some (outAcc 5 (E5 (pcs zs m1 m2 zs.length))) := by
  rw [call_pr (show tblP.fn 61 = none from rfl)]
  show pr61 61 _ = _
  rcases hv with ⟨rfl, h⟩ | ⟨kk, hk, rfl⟩
  · cases zs with
    | nil => simp at h0
    | cons x t => simp [I1] at h
  · simp only [pr61, ints_I1, Option.bind_some]
    rw [if_pos ⟨h0, hl⟩, outP_eq]

theorem c55 {v : V} {zs : List Int} (hv : SlV 1 v (I1 zs)) (h0 : 0 < zs.length) (hl : zs.length ≤ 1000000) (k m1 a1 s1 v1 m2 a2 s2 v2 : Int) :
    call tblP 55 [.fn 62 [.eptr [v] 0, .eptr [.i k, .i m1, .i a1, .i s1, .i v1, .i m2, .i a2, .i s2, .i v2] 0]] H = some (svE 5 (E5 (pcs zs m1 m2 zs.length))) := by
  refine (call_start (show tblP 55 = some a55 from rfl)).trans ?_
  have h61 := fun H => c61 (H := H) hv h0 hl k m1 a1 s1 v1 m2 a2 s2 v2
  have ho := fun L => (svE_ok 5 (E5 (pcs zs m1 m2 zs.length))).out L
  have ht := fun L s => out_take (L := L) (s := s) (sz := 5) (E5 (pcs zs m1 m2 zs.length))
  clear hv
  generalize outAcc 5 (E5 (pcs zs m1 m2 zs.length)) = X at *
  generalize svE 5 (E5 (pcs zs m1 m2 zs.length)) = Y at *
  unfold a55
  simp (config := { maxSteps := 10000000 }) (disch := omega) only [↓G_seq, ↓G_ret, ↓G_region, ↓G_ops_nil, ↓G_op, Gv_some, killAll, ↓get_setS, evalOp, ev, evs, Ab.get, Option.map_some, Option.bind_some, finish, resVs, resV, outVs, ownsLast, tupOf, callV, V.shift, V.shifts, List.append_nil, List.all_nil, List.getElem?_cons_zero, List.getElem?_cons_succ, reduceCtorEq, ↓reduceIte, bne_self_eq_false, fn_some, h61, ho, ht]

theorem loop31 {k : List KI} {v p : V} {zs : List Int} {L : List Row} {r : Option V} (hl : zs.length ≤ 1000000) (hv : SlV 1 v (I1 zs))
    (hx : ∀ fr', Ab.get fr' 1 = v → Ab.get fr' 2 = p → Gx tblP H [.tmp 4, .tmp 5] 0 k fr' L = r) :
    ∀ (q i : Nat) (fr : List V), i + q = zs.length → 1 ≤ i → upB zs q i = true → Ab.get fr 1 = v → Ab.get fr 2 = p → Ab.get fr 7 = .i (i : Nat) →
      G tblP H [.tmp 4, .tmp 5] (.code (.loop ( (.seq ( (.seq ( .region [] [ ⟨some 16, .mv (.t 7), none⟩, ⟨some 17, .mv (.t 1), none⟩, ⟨some 18, .len (.t 17), none⟩, ⟨some 19, .bin .lss (.t 16) (.t 18), none⟩]) ( (.cond (.t 19) ( .skip) ( .exit 0))))) ( (.seq ( (.block 1 ( (.seq ( .region [] [ ⟨some 22, .mv (.t 1), none⟩, ⟨some 23, .mv (.t 7), none⟩, ⟨some 24, .elemAddr 1 (.t 22) (.t 23), none⟩, ⟨some 25, .load false 1 (.t 24), none⟩, ⟨some 26, .mv (.t 1), none⟩, ⟨some 27, .mv (.t 7), none⟩, ⟨some 28, .bin .sub (.t 27) (.c (.int .i64 1)), none⟩, ⟨some 29, .elemAddr 1 (.t 26) (.t 28), none⟩, ⟨some 30, .load false 1 (.t 29), none⟩, ⟨some 31, .bin .leq (.t 25) (.t 30), none⟩]) ( (.cond (.t 31) ( (.seq ( .region [] [ ⟨some 4, .mv (.c .nilsl), none⟩, ⟨some 5, .mv (.c (.int .i64 25)), none⟩]) ( .ret))) ( .skip))))))) ( .region [] [ ⟨some 20, .mv (.t 7), none⟩, ⟨some 21, .bin .add (.t 20) (.c (.int .i64 1)), none⟩, ⟨some 7, .mv (.t 21), none⟩])))))) :: k) fr L = r := by
  intro q
  have hlv := hv.len
  rw [I1_len] at hlv
  induction q with
  | zero =>
    intro i fr hi h1 hu g1 g2 g7
    obtain rfl : i = zs.length := by omega
    refine G_loop.trans ?_
    simp (config := { maxSteps := 10000000 }) (disch := omega) only [↓G_seq, ↓G_exit, ↓G_region, ↓G_cond, ↓Gx_code, ↓G_ops_nil, ↓G_op, Gv_some, Gc_false, dec_f, killAll, ↓get_setS, evalOp, ev, b_lss, one, Option.map_some, List.getElem?_cons_zero, List.getElem?_cons_succ, Nat.reduceEqDiff, ↓reduceIte, Nat.succ_ne_self, g1, g7, hlv]
    refine hx _ ?_ ?_
    all_goals simp (config := { maxSteps := 10000000 }) (disch := omega) only [↓get_setS, List.getElem?_cons_zero, List.getElem?_cons_succ, Nat.reduceEqDiff, ↓reduceIte, g1, g2]
  | succ q ih =>
    intro i fr hi h1 hu g1 g2 g7
    have hE := hv.el (I1_get (zs := zs) (i := i) (by omega))
    have hE2 := hv.el (I1_get (zs := zs) (i := i - 1) (by omega))
    rw [show ((i - 1 : Nat) : Int) = (i : Nat) - 1 by omega] at hE2
    unfold upB at hu
    simp only [Bool.and_eq_true, decide_eq_true_eq] at hu
    obtain ⟨c, hu⟩ := hu
    have nx := fun fr' => ih (i + 1) fr' (by omega) (by omega) hu
    have hil : i + 1 ≤ 1000000 := by omega
    have hlt : i < zs.length := by omega
    clear ih hx hv hi hu
    refine G_loop.trans ?_
    simp (config := { maxSteps := 10000000 }) (disch := omega) only [↓G_seq, ↓G_skip, ↓G_blk, ↓G_region, ↓G_block, ↓G_cond, ↓G_ops_nil, ↓G_op, Gv_some, Gc_true, Gc_false, dec_t, dec_f, killAll, ↓get_setS, evalOp, ev, b_add, b_sub, b_lss, b_leq, wrap_i64, one, Option.map_some, List.getElem?_cons_zero, List.getElem?_cons_succ, Nat.reduceEqDiff, ↓reduceIte, Nat.succ_ne_self, Bool.false_eq_true, pick3, loadV, g1, g7, hlv, hE, hE2]
    refine nx _ ?_ ?_ ?_
    all_goals simp (config := { maxSteps := 10000000 }) (disch := omega) only [↓get_setS, List.getElem?_cons_zero, List.getElem?_cons_succ, Nat.reduceEqDiff, ↓reduceIte, g1, g2]
    congr 1

theorem loop31_bad {k : List KI} {v p : V} {zs : List Int} {L : List Row} (hl : zs.length ≤ 1000000) (hv : SlV 1 v (I1 zs)) :
    ∀ (q i : Nat) (fr : List V), i + q = zs.length → 1 ≤ i → upB zs q i = false → Ab.get fr 1 = v → Ab.get fr 7 = .i (i : Nat) →
      G tblP H [.tmp 4, .tmp 5] (.code (.loop ( (.seq ( (.seq ( .region [] [ ⟨some 16, .mv (.t 7), none⟩, ⟨some 17, .mv (.t 1), none⟩, ⟨some 18, .len (.t 17), none⟩, ⟨some 19, .bin .lss (.t 16) (.t 18), none⟩]) ( (.cond (.t 19) ( .skip) ( .exit 0))))) ( (.seq ( (.block 1 ( (.seq ( .region [] [ ⟨some 22, .mv (.t 1), none⟩, ⟨some 23, .mv (.t 7), none⟩, ⟨some 24, .elemAddr 1 (.t 22) (.t 23), none⟩, ⟨some 25, .load false 1 (.t 24), none⟩, ⟨some 26, .mv (.t 1), none⟩, ⟨some 27, .mv (.t 7), none⟩, ⟨some 28, .bin .sub (.t 27) (.c (.int .i64 1)), none⟩, ⟨some 29, .elemAddr 1 (.t 26) (.t 28), none⟩, ⟨some 30, .load false 1 (.t 29), none⟩, ⟨some 31, .bin .leq (.t 25) (.t 30), none⟩]) ( (.cond (.t 31) ( (.seq ( .region [] [ ⟨some 4, .mv (.c .nilsl), none⟩, ⟨some 5, .mv (.c (.int .i64 25)), none⟩]) ( .ret))) ( .skip))))))) ( .region [] [ ⟨some 20, .mv (.t 7), none⟩, ⟨some 21, .bin .add (.t 20) (.c (.int .i64 1)), none⟩, ⟨some 7, .mv (.t 21), none⟩])))))) :: k) fr L = some (.tup [.nilsl, .i 25]) := by
  intro q
  have hlv := hv.len
  rw [I1_len] at hlv
  induction q with
  | zero =>
    intro i fr hi h1 hu g1 g7
    cases hu
  | succ q ih =>
    intro i fr hi h1 hu g1 g7
    have hE := hv.el (I1_get (zs := zs) (i := i) (by omega))
    have hE2 := hv.el (I1_get (zs := zs) (i := i - 1) (by omega))
    rw [show ((i - 1 : Nat) : Int) = (i : Nat) - 1 by omega] at hE2
    have hil : i + 1 ≤ 1000000 := by omega
    have hlt : i < zs.length := by omega
    unfold upB at hu
    refine G_loop.trans ?_
    by_cases c : Z zs (i - 1) < Z zs i
    · rw [decide_eq_true c, Bool.true_and] at hu
      have nx := fun fr' => ih (i + 1) fr' (by omega) (by omega) hu
      clear ih hv hi hu
      simp (config := { maxSteps := 10000000 }) (disch := omega) only [↓G_seq, ↓G_skip, ↓G_blk, ↓G_region, ↓G_block, ↓G_cond, ↓G_ops_nil, ↓G_op, Gv_some, Gc_true, Gc_false, dec_t, dec_f, killAll, ↓get_setS, evalOp, ev, b_add, b_sub, b_lss, b_leq, wrap_i64, one, Option.map_some, List.getElem?_cons_zero, List.getElem?_cons_succ, Nat.reduceEqDiff, ↓reduceIte, Nat.succ_ne_self, Bool.false_eq_true, pick3, loadV, g1, g7, hlv, hE, hE2]
      refine nx _ ?_ ?_
      all_goals simp (config := { maxSteps := 10000000 }) (disch := omega) only [↓get_setS, List.getElem?_cons_zero, List.getElem?_cons_succ, Nat.reduceEqDiff, ↓reduceIte, g1]
      congr 1
    · clear ih hv hi hu
      simp (config := { maxSteps := 10000000 }) (disch := omega) only [↓G_seq, ↓G_skip, ↓G_ret, ↓G_region, ↓G_block, ↓G_cond, ↓G_ops_nil, ↓G_op, Gv_some, Gc_true, dec_t, killAll, ↓get_setS, evalOp, ev, b_sub, b_lss, b_leq, wrap_i64, one, Option.map_some, Option.bind_some, finish, resVs, resV, outVs, ownsLast, tupOf, List.all_cons, List.all_nil, Bool.and_self, List.getElem?_cons_zero, List.getElem?_cons_succ, Nat.reduceEqDiff, ↓reduceIte, Nat.succ_ne_self, Bool.false_eq_true, pick3, loadV, and_self, ov_int, ov_nilsl, fn_some, g1, g7, hlv, hE, hE2]

/-- The error of a division. -/
def errD (e : Int) (zs : List Int) (m1 : Int) : Int := if e ≠ 0 then e else if zs.length = 0 then 4 else if upB zs (zs.length - 1) 1 = false then 25 else if m1 < Z zs 0 then 2 else 0

theorem c31 {v : V} {zs : List Int} (hv : SlV 1 v (I1 zs)) (hl : zs.length ≤ 1000000) (k m1 a1 s1 v1 m2 a2 s2 v2 : Int) : call tblP 31 [.agg [.i k, .i m1, .i a1, .i s1, .i v1, .i m2, .i a2, .i s2, .i v2], v] H =
    some (if errD (properR k m1 a1 s1 v1 m2 a2 s2 v2) zs m1 = 0 then .tup [svE 5 (E5 (pcs zs m1 m2 zs.length)), .i 0] else .tup [.nilsl, .i (errD (properR k m1 a1 s1 v1 m2 a2 s2 v2) zs m1)]) := by
  refine (call_start (show tblP 31 = some a31 from rfl)).trans ?_
  have h12 := fun H => up (H := H) (c12 (H := H) k m1 a1 s1 v1 m2 a2 s2 v2)
  have hlv := hv.len
  rw [I1_len] at hlv
  have hsh := hv.sh
  have hE : ∀ X, errD (properR k m1 a1 s1 v1 m2 a2 s2 v2) zs m1 = X → X ≠ 0 → (if errD (properR k m1 a1 s1 v1 m2 a2 s2 v2) zs m1 = 0 then V.tup [svE 5 (E5 (pcs zs m1 m2 zs.length)), .i 0] else .tup [.nilsl, .i (errD (properR k m1 a1 s1 v1 m2 a2 s2 v2) zs m1)]) = .tup [.nilsl, .i X] := by
    intro X h1 h2
    rw [h1, if_neg h2]
  by_cases he : properR k m1 a1 s1 v1 m2 a2 s2 v2 = 0
  case neg =>
    rw [hE _ (by unfold errD; rw [if_pos he]) he]
    generalize properR k m1 a1 s1 v1 m2 a2 s2 v2 = e at *
    clear hv hE
    unfold a31
    simp (config := { maxSteps := 10000000 }) (disch := omega) only [↓G_seq, ↓G_ret, ↓G_region, ↓G_cond, ↓G_ops_nil, ↓G_op, Gv_some, Gc_true, dec_f, killAll, ↓get_setS, evalOp, ev, evs, Ab.get, b_neq, one, Option.map_some, Option.bind_some, finish, resVs, resV, outVs, ownsLast, tupOf, callV, V.shift, V.shifts, List.append_nil, List.all_cons, List.all_nil, Bool.and_self, List.getElem?_cons_zero, List.getElem?_cons_succ, Nat.reduceEqDiff, ↓reduceIte, Nat.succ_ne_self, Bool.not_false, bne_self_eq_false, Int.reduceAdd, pick3, V.cells, loadV, Ab.rowAt, rget, rset, V.scalar, Nat.reduceAdd, and_self, List.length_cons, List.length_nil, List.take_succ_cons, List.take_zero, List.drop_zero, Nat.le_refl, List.getD_cons_zero, Nat.zero_add, ti_int, ov_int, ov_nilsl, fn_some, h12, Nat.zero_lt_succ]
    done
  rw [he] at h12
  by_cases h0 : zs.length = 0
  · rw [hE 4 (by unfold errD; rw [if_neg (fun z => z he), if_pos h0]) (by decide)]
    rw [h0] at hlv
    clear hv hE
    unfold a31
    simp (config := { maxSteps := 10000000 }) (disch := omega) only [↓G_seq, ↓G_skip, ↓G_ret, ↓G_region, ↓G_cond, ↓G_ops_nil, ↓G_op, Gv_some, Gc_true, Gc_false, killAll, ↓get_setS, evalOp, ev, evs, Ab.get, b_eql, b_neq, one, Option.map_some, Option.bind_some, finish, resVs, resV, outVs, ownsLast, tupOf, callV, V.shift, V.shifts, List.append_nil, List.all_cons, List.all_nil, Bool.and_self, List.getElem?_cons_zero, List.getElem?_cons_succ, Nat.reduceEqDiff, ↓reduceIte, Nat.succ_ne_self, decide_true, Bool.not_true, bne_self_eq_false, Int.reduceAdd, pick3, V.cells, loadV, Ab.rowAt, rget, rset, V.scalar, Nat.reduceAdd, and_self, List.length_cons, List.length_nil, List.take_succ_cons, List.take_zero, List.drop_zero, Nat.le_refl, List.getD_cons_zero, Int.cast_ofNat_Int, Nat.zero_add, ti_int, ov_int, ov_nilsl, fn_some, h12, hlv, Nat.zero_lt_succ]
    done
  by_cases hu : upB zs (zs.length - 1) 1 = true
  case neg =>
    rw [hE 25 (by unfold errD; rw [if_neg (fun z => z he), if_neg h0, if_pos (by simpa using hu)]) (by decide)]
    have hA := fun k L fr => loop31_bad (H := H) (k := k) (p := v) (L := L) hl hv (zs.length - 1) 1 fr (by omega) (by omega) (by simpa using hu)
    clear hv hE
    unfold a31
    simp (config := { maxSteps := 10000000 }) (disch := omega) only [↓G_seq, ↓G_skip, ↓G_region, ↓G_block, ↓G_cond, ↓G_ops_nil, ↓G_op, Gv_some, Gc_false, dec_f, killAll, ↓get_setS, evalOp, ev, evs, Ab.get, b_eql, b_neq, one, Option.map_some, Option.bind_some, callV, V.shift, V.shifts, List.append_nil, List.all_cons, List.all_nil, Bool.and_self, List.getElem?_cons_zero, List.getElem?_cons_succ, Nat.reduceEqDiff, ↓reduceIte, Nat.succ_ne_self, decide_true, Bool.not_true, bne_self_eq_false, Int.reduceAdd, pick3, V.cells, loadV, Ab.rowAt, rget, rset, V.scalar, Nat.reduceAdd, and_self, List.length_cons, List.length_nil, List.take_succ_cons, List.take_zero, List.drop_zero, Nat.le_refl, List.getD_cons_zero, Nat.zero_add, ti_int, h12, hlv, Nat.zero_lt_succ]
    refine hA _ _ _ ?_ ?_
    all_goals simp (config := { maxSteps := 10000000 }) (disch := omega) only [↓get_setS, Ab.get, List.getElem?_cons_zero, List.getElem?_cons_succ, Nat.reduceEqDiff, ↓reduceIte, Nat.succ_ne_self, Int.cast_ofNat_Int]
  have hA := fun k p r L hx fr => loop31 (H := H) (k := k) (p := p) (r := r) (L := L) hl hv hx (zs.length - 1) 1 fr (by omega) (by omega) hu
  have hZ := hv.el (I1_get (zs := zs) (i := 0) (by omega))
  simp only [Int.ofNat_zero, Int.cast_ofNat_Int] at hZ
  have h56 := fun H => c56 (H := H) hv k m1 a1 s1 v1 m2 a2 s2 v2
  have h55 := fun H => c55 (H := H) hv (by omega) hl k m1 a1 s1 v1 m2 a2 s2 v2
  have ho := fun L => (svE_ok 5 (E5 (pcs zs m1 m2 zs.length))).out L
  have ht := fun b L s => (svE_ok 5 (E5 (pcs zs m1 m2 zs.length))).ti b L s
  by_cases hm : m1 < Z zs 0
  · rw [hE 2 (by unfold errD; rw [if_neg (fun z => z he), if_neg h0, if_neg (by simp [hu]), if_pos hm]) (by decide)]
    clear hv hE h56 h55 ho ht
    unfold a31
    simp (config := { maxSteps := 10000000 }) (disch := omega) only [↓G_seq, ↓G_skip, ↓G_region, ↓G_block, ↓G_cond, ↓G_ops_nil, ↓G_op, Gv_some, Gc_false, dec_f, killAll, ↓get_setS, evalOp, ev, evs, Ab.get, b_eql, b_neq, one, Option.map_some, Option.bind_some, callV, V.shift, V.shifts, List.append_nil, List.all_cons, List.all_nil, Bool.and_self, List.getElem?_cons_zero, List.getElem?_cons_succ, Nat.reduceEqDiff, ↓reduceIte, Nat.succ_ne_self, decide_true, Bool.not_true, bne_self_eq_false, Int.reduceAdd, pick3, V.cells, loadV, Ab.rowAt, rget, rset, V.scalar, Nat.reduceAdd, and_self, List.length_cons, List.length_nil, List.take_succ_cons, List.take_zero, List.drop_zero, Nat.le_refl, List.getD_cons_zero, Nat.zero_add, ti_int, h12, hlv, Nat.zero_lt_succ]
    refine hA _ (.ptr 0 1 1 0 0) _ _ (fun fr' g1 g2 => ?_) _ ?_ ?_ ?_
    · simp (config := { maxSteps := 10000000 }) (disch := omega) only [↓G_seq, ↓G_ret, ↓G_region, ↓G_cond, ↓Gx_blk, ↓G_ops_nil, ↓G_op, Gv_some, Gc_true, dec_t, killAll, ↓get_setS, evalOp, ev, b_gtr, one, Option.map_some, Option.bind_some, finish, resVs, resV, outVs, ownsLast, tupOf, V.shift, List.all_cons, List.all_nil, Bool.and_self, List.getElem?_cons_zero, List.getElem?_cons_succ, Nat.reduceEqDiff, ↓reduceIte, Nat.succ_ne_self, Bool.false_eq_true, Int.reduceLT, pick3, addOff, loadV, Ab.rowAt, rget, Nat.reduceLT, and_self, List.getD_cons_zero, Nat.zero_add, Nat.add_zero, ov_int, ov_nilsl, fn_some, g1, g2, hZ]
    all_goals simp (config := { maxSteps := 10000000 }) (disch := omega) only [↓get_setS, Ab.get, List.getElem?_cons_zero, List.getElem?_cons_succ, Nat.reduceEqDiff, ↓reduceIte, Nat.succ_ne_self, Int.cast_ofNat_Int]
  · have hz : errD (properR k m1 a1 s1 v1 m2 a2 s2 v2) zs m1 = 0 := by
      unfold errD
      rw [if_neg (fun z => z he), if_neg h0, if_neg (by simp [hu]), if_neg hm]
    rw [if_pos hz]
    clear hv hE hz
    generalize svE 5 (E5 (pcs zs m1 m2 zs.length)) = X at *
    unfold a31
    simp (config := { maxSteps := 10000000 }) (disch := omega) only [↓G_seq, ↓G_skip, ↓G_region, ↓G_block, ↓G_cond, ↓G_ops_nil, ↓G_op, Gv_some, Gc_false, dec_f, killAll, ↓get_setS, evalOp, ev, evs, Ab.get, b_eql, b_neq, one, Option.map_some, Option.bind_some, callV, V.shift, V.shifts, List.append_nil, List.all_cons, List.all_nil, Bool.and_self, List.getElem?_cons_zero, List.getElem?_cons_succ, Nat.reduceEqDiff, ↓reduceIte, Nat.succ_ne_self, decide_true, Bool.not_true, bne_self_eq_false, Int.reduceAdd, pick3, V.cells, loadV, Ab.rowAt, rget, rset, V.scalar, Nat.reduceAdd, and_self, List.length_cons, List.length_nil, List.take_succ_cons, List.take_zero, List.drop_zero, Nat.le_refl, List.getD_cons_zero, Nat.zero_add, ti_int, h12, hlv, Nat.zero_lt_succ]
    refine hA _ (.ptr 0 1 1 0 0) _ _ (fun fr' g1 g2 => ?_) _ ?_ ?_ ?_
    · simp (config := { maxSteps := 10000000 }) (disch := omega) only [↓G_seq, ↓G_skip, ↓G_ret, ↓G_region, ↓G_cond, ↓Gx_blk, ↓G_ops_nil, ↓G_op, Gv_some, Gc_false, dec_f, killAll, ↓get_setS, evalOp, ev, evs, b_gtr, one, Option.map_some, Option.bind_some, finish, resVs, resV, outVs, ownsLast, tupOf, callV, V.shift, V.shifts, List.append_nil, List.all_cons, List.all_nil, Bool.and_self, List.getElem?_cons_zero, List.getElem?_cons_succ, Nat.reduceEqDiff, ↓reduceIte, Nat.succ_ne_self, bne_self_eq_false, Bool.false_eq_true, Int.reduceAdd, Int.reduceLT, pick3, addOff, loadV, Ab.rowAt, rget, Nat.reduceAdd, Nat.reduceLT, and_self, List.length_cons, List.length_nil, List.take_succ_cons, List.take_zero, List.drop_zero, Nat.le_refl, List.getD_cons_zero, Nat.zero_add, Nat.add_zero, ti_fn, ov_int, fn_some, g1, g2, hZ, h56, h55, hsh, ho, ht]
    all_goals simp (config := { maxSteps := 10000000 }) (disch := omega) only [↓get_setS, Ab.get, List.getElem?_cons_zero, List.getElem?_cons_succ, Nat.reduceEqDiff, ↓reduceIte, Nat.succ_ne_self, Int.cast_ofNat_Int]

end Go.Proofs.Ytfngllcjikmbkaa

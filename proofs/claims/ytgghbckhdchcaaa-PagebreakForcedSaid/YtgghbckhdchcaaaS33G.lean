/-
  Page breaks: the guard of a range, Height, Cost; the law PagebreakCosts.
-/
import Derived.Test.YtgghbckhdchcaaaS33F
namespace Go.Proofs.Ytgghbckhdchcaaa
open Go Go.Ab
set_option linter.unusedVariables false
set_option linter.unnecessarySimpa false
set_option linter.unusedSimpArgs false
set_option maxRecDepth 100000
variable {H : List (List Row)}

def badR (n a b : Int) : Prop := a < 0 ∨ b < a ∨ n ≤ b
instance (n a b : Int) : Decidable (badR n a b) := by unfold badR; exact inferInstance
def errG (l : List Sy) (ph pt a b : Int) : Int := if errC l ph pt ≠ 0 then errC l ph pt else if badR l.length a b then 2 else 0
/-- Which of the bounds is not permitted, the first. -/
theorem badR_w {n a b : Int} (h : badR n a b) : a < 0 ∨ (0 ≤ a ∧ b < a) ∨ (0 ≤ a ∧ a ≤ b ∧ n ≤ b) := by
  unfold badR at h
  omega
theorem goodR {n : Nat} {a b : Int} (h : ¬ badR n a b) : ∃ i j : Nat, a = (i : Nat) ∧ b = (j : Nat) - 1 ∧ i < j ∧ j ≤ n := by
  unfold badR at h
  exact ⟨a.toNat, (b + 1).toNat, by omega, by omega, by omega, by omega⟩

theorem c34 {v : V} {l : List Sy} {ph pt a b : Int} (hm : l.length ≤ 9223372036854775807) (hv : SlV 4 v (E4 l)) : call tbl 34 [v, .agg [.i ph, .i pt], .i a, .i b] H = some (.i (errG l ph pt a b)) := by
  refine (call_start (show tbl 34 = some a34 from rfl)).trans ?_
  have hlen := hv.len
  rw [E4_len] at hlen
  have h12 := fun H => c12 (H := H) (ph := ph) (pt := pt) hm hv
  have hsh := hv.sh
  unfold errG
  generalize errC l ph pt = e at *
  generalize l.length = n at *
  by_cases h1 : e = 0
  case neg =>
    rw [if_pos h1]
    unfold a34
    simp (config := { maxSteps := 10000000 }) (disch := omega) only [↓G_seq, ↓G_ret, ↓G_region, ↓G_cond, ↓G_ops_nil, ↓G_op, Gv_some, Gc_true, dec_f, killAll, ↓get_setS, evalOp, ev, evs, Ab.get, b_neq, one, Option.map_some, Option.bind_some, finish, resVs, resV, outVs, ownsLast, tupOf, callV, V.shift, V.shifts, List.append_nil, List.all_cons, List.all_nil, Bool.and_self, List.getElem?_cons_zero, List.getElem?_cons_succ, Nat.reduceEqDiff, reduceCtorEq, ↓reduceIte, Nat.succ_ne_self, Bool.not_false, bne_self_eq_false, Int.reduceAdd, pick3, V.cells, loadV, Ab.rowAt, rget, rset, V.scalar, Nat.reduceAdd, and_self, List.length_cons, List.length_nil, List.take_succ_cons, List.take_zero, List.drop_zero, Nat.le_refl, List.getD_cons_zero, Nat.zero_add, ti_int, ov_int, fn_some, hsh, h12, Nat.zero_lt_succ]
    done
  subst h1
  rw [if_neg (by decide)]
  by_cases h2 : badR n a b
  case pos =>
    rw [if_pos h2]
    have w := badR_w h2
    clear h2
    rcases w with w | ⟨w1, w⟩ | ⟨w1, w2, w⟩
    all_goals
      unfold a34
      simp (config := { maxSteps := 10000000 }) (disch := omega) only [↓G_seq, ↓G_skip, ↓G_ret, ↓G_region, ↓G_cond, ↓G_ops_nil, ↓G_op, Gv_some, ↓G_gop, Gw_ff, Gw_ft, Gc_true, Gc_false, dec_t, dec_f, killAll, ↓get_setS, evalOp, ev, evs, Ab.get, b_neq, b_lss, b_geq, one, Option.map_some, Option.bind_some, asB, finish, resVs, resV, outVs, ownsLast, tupOf, callV, V.shift, V.shifts, List.append_nil, List.all_cons, List.all_nil, Bool.and_self, List.getElem?_cons_zero, List.getElem?_cons_succ, Nat.reduceEqDiff, reduceCtorEq, ↓reduceIte, Nat.succ_ne_self, decide_true, Bool.not_true, bne_self_eq_false, Bool.false_eq_true, Int.reduceAdd, pick3, V.cells, loadV, Ab.rowAt, rget, rset, V.scalar, Nat.reduceAdd, and_self, List.length_cons, List.length_nil, List.take_succ_cons, List.take_zero, List.drop_zero, Nat.le_refl, List.getD_cons_zero, Nat.zero_add, ti_int, ov_int, fn_some, hlen, hsh, h12, Nat.zero_lt_succ]
  rw [if_neg h2]
  have w : 0 ≤ a ∧ a ≤ b ∧ b < n := by unfold badR at h2; omega
  clear h2
  unfold a34
  simp (config := { maxSteps := 10000000 }) (disch := omega) only [↓G_seq, ↓G_skip, ↓G_ret, ↓G_region, ↓G_cond, ↓G_ops_nil, ↓G_op, Gv_some, ↓G_gop, Gw_ff, Gc_false, dec_f, killAll, ↓get_setS, evalOp, ev, evs, Ab.get, b_neq, b_lss, b_geq, one, Option.map_some, Option.bind_some, asB, finish, resVs, resV, outVs, ownsLast, tupOf, callV, V.shift, V.shifts, List.append_nil, List.all_cons, List.all_nil, Bool.and_self, List.getElem?_cons_zero, List.getElem?_cons_succ, Nat.reduceEqDiff, reduceCtorEq, ↓reduceIte, Nat.succ_ne_self, decide_true, Bool.not_true, bne_self_eq_false, Bool.false_eq_true, Int.reduceAdd, pick3, V.cells, loadV, Ab.rowAt, rget, rset, V.scalar, Nat.reduceAdd, and_self, List.length_cons, List.length_nil, List.take_succ_cons, List.take_zero, List.drop_zero, Nat.le_refl, List.getD_cons_zero, Nat.zero_add, ti_int, ov_int, fn_some, hlen, hsh, h12, Nat.zero_lt_succ]

theorem errG_bad {l : List Sy} {ph pt a b : Int} (h : errC l ph pt = 0) (k : badR l.length a b) : errG l ph pt a b = 2 := by
  unfold errG
  rw [if_neg (by simp [h]), if_pos k]
theorem errG_ok {l : List Sy} {ph pt a b : Int} (h : errC l ph pt = 0) (k : ¬ badR l.length a b) : errG l ph pt a b = 0 := by
  unfold errG
  rw [if_neg (by simp [h]), if_neg k]
theorem errG_err {l : List Sy} {ph pt a b : Int} (h : errC l ph pt ≠ 0) : errG l ph pt a b = errC l ph pt := by
  unfold errG
  rw [if_pos h]
theorem errG_0 {l : List Sy} {ph pt a b : Int} (h : errG l ph pt a b = 0) : errC l ph pt = 0 ∧ ¬ badR l.length a b := by
  unfold errG at h
  split at h
  · contradiction
  split at h
  · cases h
  · rename_i h1 h2
    exact ⟨Classical.not_not.1 h1, h2⟩
theorem errC_in {l : List Sy} {ph pt : Int} (h : errC l ph pt = 0) : ∀ s ∈ l, inS s := fun s hs => (errS_mem l (errC_ok h).2.2 s hs).1

theorem c33' {v : V} {l : List Sy} (h0 : 0 < l.length) (hl : l.length ≤ 1024) (hin : ∀ x ∈ l, inS x) (hv : SlV 4 v (E4 l)) : call tbl 33 [v] H = some (.i (hgt l)) := by
  cases l with
  | nil => cases h0
  | cons s t => exact c33 hl hin hv

/-- A part of the systems, as a slice. -/
theorem part {v : V} {l : List Sy} {a b : Nat} (hv : SlV 4 v (E4 l)) (hab : a ≤ b) (hb : b ≤ l.length) : ∃ w, subV 4 v (some (.i (a : Nat))) (some (.i (b : Nat))) none = some w ∧ SlV 4 w (E4 (sl l a b)) := by
  obtain ⟨w, h1, h2⟩ := hv.sub (lo := some (.i (a : Nat))) (hi := some (.i (b : Nat))) (.inr rfl) (.inr rfl) hab (by rw [E4_len]; exact hb)
  rw [E4_sub] at h2
  exact ⟨w, h1, h2⟩

theorem c22 {v : V} {l : List Sy} {a b : Nat} (hm : l.length ≤ 9223372036854775807) (hv : SlV 4 v (E4 l)) (hab : a < b) (hb : b ≤ l.length) (he : errC l 1 0 = 0) : call tbl 22 [v, .i (a : Nat), .i ((b : Nat) - 1 : Int)] H = some (.tup [.i (hgt (sl l a b)), .i 0]) := by
  refine (call_start (show tbl 22 = some a22 from rfl)).trans ?_
  have h34 := fun H => c34 (H := H) (ph := 1) (pt := 0) (a := (a : Nat)) (b := (b : Nat) - 1) hm hv
  simp only [errG_ok he (show ¬ badR l.length (a : Nat) ((b : Nat) - 1) by unfold badR; omega)] at h34
  obtain ⟨w, hs, hw⟩ := part hv (Nat.le_of_lt hab) hb
  obtain ⟨ho, _⟩ := errC_ok he
  have h33 := fun H => c33' (H := H) (by rw [sl_len hb]; omega) (by rw [sl_len hb]; omega) (fun x hx => errC_in he x (sl_mem hx)) hw
  have hsh := hv.sh
  have hwh := hw.sh
  generalize hgt (sl l a b) = h at *
  unfold a22
  simp (config := { maxSteps := 10000000 }) (disch := omega) only [↓G_seq, ↓G_skip, ↓G_ret, ↓G_region, ↓G_cond, ↓G_ops_nil, ↓G_op, Gv_some, Gc_false, killAll, ↓get_setS, evalOp, ev, evs, Ab.get, b_add, b_neq, wrap_i64, one, Option.map_some, Option.bind_some, Option.map_none, finish, resVs, resV, outVs, ownsLast, tupOf, callV, V.shift, V.shifts, List.append_nil, List.nil_append, List.cons_append, List.all_cons, List.all_nil, Bool.and_self, List.getElem?_cons_zero, List.getElem?_cons_succ, Nat.reduceEqDiff, reduceCtorEq, ↓reduceIte, Nat.succ_ne_self, decide_true, Bool.not_true, bne_self_eq_false, Int.reduceAdd, V.cells, fillV, splice, V.scalar, Nat.reduceAdd, Nat.reduceLeDiff, and_self, List.length_cons, List.length_nil, List.take_zero, List.drop_succ_cons, List.drop_zero, Nat.zero_add, ti_int, ov_int, fn_some, hsh, hwh, h34, hs, h33, Int.sub_add_cancel]

theorem c22e {v : V} {l : List Sy} {a b e : Int} (hm : l.length ≤ 9223372036854775807) (hv : SlV 4 v (E4 l)) (he : errG l 1 0 a b = e) (h0 : e ≠ 0) : call tbl 22 [v, .i a, .i b] H = some (.tup [.i 0, .i e]) := by
  refine (call_start (show tbl 22 = some a22 from rfl)).trans ?_
  have h34 := fun H => c34 (H := H) (ph := 1) (pt := 0) (a := a) (b := b) hm hv
  simp only [he] at h34
  have hsh := hv.sh
  unfold a22
  simp (config := { maxSteps := 10000000 }) (disch := omega) only [↓G_seq, ↓G_ret, ↓G_region, ↓G_cond, ↓G_ops_nil, ↓G_op, Gv_some, Gc_true, dec_f, killAll, ↓get_setS, evalOp, ev, evs, Ab.get, b_neq, one, Option.map_some, Option.bind_some, finish, resVs, resV, outVs, ownsLast, tupOf, callV, V.shift, V.shifts, List.append_nil, List.nil_append, List.cons_append, List.all_cons, List.all_nil, Bool.and_self, List.getElem?_cons_zero, List.getElem?_cons_succ, Nat.reduceEqDiff, reduceCtorEq, ↓reduceIte, Nat.succ_ne_self, Bool.not_false, bne_self_eq_false, Int.reduceAdd, V.cells, fillV, splice, V.scalar, Nat.reduceAdd, Nat.reduceLeDiff, and_self, List.length_cons, List.length_nil, List.take_zero, List.drop_succ_cons, List.drop_zero, Nat.zero_add, ti_int, ov_int, fn_some, hsh, h34]

/-- The cost of a page with the systems from a on and before b. -/
def cst (l : List Sy) (ph pt : Int) (a b : Nat) (turn fin : Bool) : Int := costN ph pt (l[a]?.getD ⟨0, 0, 0, 0⟩).b (decide (0 < b - a - 1)) ((sl l (a + 1) b).any isBrk) (l[b - 1]?.getD ⟨0, 0, 0, 0⟩).r (hgt (sl l a b)) (decide (0 < (a : Int))) turn fin

theorem c25' {v : V} {l : List Sy} {a b : Nat} {ph pt num : Int} {fin : Bool} (hab : a < b) (hb : b ≤ l.length) (he : errC l ph pt = 0) (hv : SlV 4 v (E4 l)) (hn : 0 ≤ num) :
    call tbl 25 [v, .agg [.i ph, .i pt], .i (a : Nat), .i ((b : Nat) - 1 : Int), .i num, .bool fin] H = some (.i (cst l ph pt a b (decide (num % 2 = 0)) fin)) := by
  obtain ⟨s, hs⟩ : ∃ s, l[a]? = some s := ⟨_, List.getElem?_eq_getElem (by omega)⟩
  obtain ⟨z, hz⟩ : ∃ z, l[b - 1]? = some z := ⟨_, List.getElem?_eq_getElem (by omega)⟩
  obtain ⟨h1, h2, _⟩ := errC_ok he
  rw [c25 h1 h2 hab hb (errC_in he) hv hs hz hn]
  simp only [cst, hs, hz, Option.getD_some]

/-- The program's cost of a page: of a part of the systems, whose height is known. -/
theorem c32' {w : V} {l : List Sy} {a b : Nat} {ph pt first : Int} {turn fin : Bool} (hab : a < b) (hb : b ≤ l.length) (he : errC l ph pt = 0) (hw : SlV 4 w (E4 (sl l a b))) (hf : first = (a : Nat)) :
    call tbl 32 [.agg [.i ph, .i pt], w, .i (hgt (sl l a b)), .agg [.i first, .bool turn, .bool fin]] H = some (.i (cst l ph pt a b turn fin)) := by
  subst hf
  obtain ⟨h1, h2, _⟩ := errC_ok he
  have hh := hgt_in (sl l a b) (fun x hx => errC_in he x (sl_mem hx))
  have hsl := sl_len (a := a) hb
  obtain ⟨s, hs, hc⟩ := sl_cons hab hb
  obtain ⟨z, hz⟩ : ∃ z, l[b - 1]? = some z := ⟨_, List.getElem?_eq_getElem (by omega)⟩
  have ht := sl_len (a := a + 1) hb
  have hz2 : (s :: sl l (a + 1) b)[(sl l (a + 1) b).length]? = some z := by
    rw [← hc, ht]
    unfold sl
    rw [List.getElem?_drop, List.getElem?_take_of_lt (by omega), show a + (b - (a + 1)) = b - 1 by omega, hz]
  have h0 : 0 ≤ hgt (sl l a b) ∧ hgt (sl l a b) ≤ 34359738368 := by omega
  unfold cst
  rw [hs, hz]
  simp only [Option.getD_some]
  generalize hgt (sl l a b) = h at *
  rw [hc] at hw hsl
  rw [c32 (by omega) h2 h0 hw hz2, ht]
  simp only [show b - (a + 1) = b - a - 1 by omega]

theorem c23 {v : V} {l : List Sy} {a b : Nat} {ph pt num : Int} {fin : Bool} (hm : l.length ≤ 9223372036854775807) (hv : SlV 4 v (E4 l)) (hab : a < b) (hb : b ≤ l.length) (he : errC l ph pt = 0) (hn : 0 ≤ num) :
    call tbl 23 [v, .agg [.i ph, .i pt], .i (a : Nat), .i ((b : Nat) - 1 : Int), .i num, .bool fin] H = some (.tup [.i (cst l ph pt a b (decide (num % 2 = 0)) fin), .i 0]) := by
  refine (call_start (show tbl 23 = some a23 from rfl)).trans ?_
  have h34 := fun H => c34 (H := H) (ph := ph) (pt := pt) (a := (a : Nat)) (b := (b : Nat) - 1) hm hv
  simp only [errG_ok he (show ¬ badR l.length (a : Nat) ((b : Nat) - 1) by unfold badR; omega)] at h34
  obtain ⟨w, hs, hw⟩ := part hv (Nat.le_of_lt hab) hb
  obtain ⟨ho, _⟩ := errC_ok he
  have h33 := fun H => c33' (H := H) (by rw [sl_len hb]; omega) (by rw [sl_len hb]; omega) (fun x hx => errC_in he x (sl_mem hx)) hw
  have h32 := fun H => c32' (H := H) (first := (a : Nat)) (turn := decide (num % 2 = 0)) (fin := fin) hab hb he hw rfl
  have hsh := hv.sh
  have hwh := hw.sh
  have hq : num.tmod 2 = num % 2 := tmod_pos hn
  generalize hgt (sl l a b) = h at *
  generalize cst l ph pt a b (decide (num % 2 = 0)) fin = c at *
  clear hv hw he
  unfold a23
  simp (config := { maxSteps := 10000000 }) (disch := omega) only [↓G_seq, ↓G_skip, ↓G_ret, ↓G_blk, ↓G_region, ↓G_block, ↓G_cond, ↓G_ops_nil, ↓G_op, Gv_some, Gc_false, dec_f, killAll, ↓get_setS, evalOp, ev, evs, Ab.get, b_add, b_eql, b_neq, b_lss, b_rem, wrap_i64, one, Option.map_some, Option.bind_some, Option.map_none, finish, resVs, resV, outVs, ownsLast, tupOf, callV, V.shift, V.shifts, List.append_nil, List.nil_append, List.cons_append, List.all_cons, List.all_nil, Bool.and_self, List.getElem?_cons_zero, List.getElem?_cons_succ, Nat.reduceEqDiff, reduceCtorEq, ↓reduceIte, Nat.succ_ne_self, decide_true, Bool.not_true, bne_self_eq_false, Int.reduceAdd, pick3, V.cells, fillV, splice, loadV, Ab.rowAt, rget, rset, V.scalar, Nat.reduceAdd, Nat.reduceLeDiff, and_self, List.length_cons, List.length_nil, List.take_succ_cons, List.take_zero, List.drop_succ_cons, List.drop_zero, Nat.le_refl, List.getD_cons_zero, Nat.zero_add, ti_int, ov_int, fn_some, hsh, hwh, h34, hs, h33, h32, hq, Int.sub_add_cancel, Nat.zero_lt_succ]

theorem c23e {v : V} {l : List Sy} {a b e ph pt num : Int} {fin : Bool} (hm : l.length ≤ 9223372036854775807) (hv : SlV 4 v (E4 l)) (he : errG l ph pt a b = e) (h0 : e ≠ 0) : call tbl 23 [v, .agg [.i ph, .i pt], .i a, .i b, .i num, .bool fin] H = some (.tup [.i 0, .i e]) := by
  refine (call_start (show tbl 23 = some a23 from rfl)).trans ?_
  have h34 := fun H => c34 (H := H) (ph := ph) (pt := pt) (a := a) (b := b) hm hv
  simp only [he] at h34
  have hsh := hv.sh
  unfold a23
  simp (config := { maxSteps := 10000000 }) (disch := omega) only [↓G_seq, ↓G_ret, ↓G_region, ↓G_block, ↓G_cond, ↓G_ops_nil, ↓G_op, Gv_some, Gc_true, dec_f, killAll, ↓get_setS, evalOp, ev, evs, Ab.get, b_neq, one, Option.map_some, Option.bind_some, finish, resVs, resV, outVs, ownsLast, tupOf, callV, V.shift, V.shifts, List.append_nil, List.all_cons, List.all_nil, Bool.and_self, List.getElem?_cons_zero, List.getElem?_cons_succ, Nat.reduceEqDiff, reduceCtorEq, ↓reduceIte, Nat.succ_ne_self, Bool.not_false, bne_self_eq_false, Int.reduceAdd, pick3, V.cells, loadV, Ab.rowAt, rget, rset, V.scalar, Nat.reduceAdd, and_self, List.length_cons, List.length_nil, List.take_succ_cons, List.take_zero, List.drop_zero, Nat.le_refl, List.getD_cons_zero, Nat.zero_add, ti_int, ov_int, fn_some, hsh, h34, Nat.zero_lt_succ]

theorem c23n {v : V} {l : List Sy} {a b ph pt num : Int} {fin : Bool} (hm : l.length ≤ 9223372036854775807) (hv : SlV 4 v (E4 l)) (he : errG l ph pt a b = 0) (hn : num < 0) : call tbl 23 [v, .agg [.i ph, .i pt], .i a, .i b, .i num, .bool fin] H = some (.tup [.i 0, .i 2]) := by
  refine (call_start (show tbl 23 = some a23 from rfl)).trans ?_
  have h34 := fun H => c34 (H := H) (ph := ph) (pt := pt) (a := a) (b := b) hm hv
  simp only [he] at h34
  have hsh := hv.sh
  unfold a23
  simp (config := { maxSteps := 10000000 }) (disch := omega) only [↓G_seq, ↓G_ret, ↓G_region, ↓G_block, ↓G_cond, ↓G_ops_nil, ↓G_op, Gv_some, Gc_true, Gc_false, dec_t, killAll, ↓get_setS, evalOp, ev, evs, Ab.get, b_neq, b_lss, one, Option.map_some, Option.bind_some, finish, resVs, resV, outVs, ownsLast, tupOf, callV, V.shift, V.shifts, List.append_nil, List.all_cons, List.all_nil, Bool.and_self, List.getElem?_cons_zero, List.getElem?_cons_succ, Nat.reduceEqDiff, reduceCtorEq, ↓reduceIte, Nat.succ_ne_self, decide_true, Bool.not_true, bne_self_eq_false, Int.reduceAdd, pick3, V.cells, loadV, Ab.rowAt, rget, rset, V.scalar, Nat.reduceAdd, and_self, List.length_cons, List.length_nil, List.take_succ_cons, List.take_zero, List.drop_zero, Nat.le_refl, List.getD_cons_zero, Nat.zero_add, ti_int, ov_int, fn_some, hsh, h34, Nat.zero_lt_succ]

set_option maxHeartbeats 4000000 in
theorem l9 {v : V} {l : List Sy} {ph pt sf se sn : Int} (hm : l.length ≤ 9223372036854775807) (hv : SlV 4 v (E4 l)) : call tbl 9 [v, .agg [.i ph, .i pt], .agg [.i sf, .i se, .i sn]] H = some (.bool true) := by
  refine (call_start (show tbl 9 = some a9 from rfl)).trans ?_
  have hlen := hv.len
  rw [E4_len] at hlen
  obtain ⟨v', m, hs, hv', hml, _⟩ := cut hv 30
  simp only [Int.cast_ofNat_Int] at hs
  have hlen' := hv'.len
  rw [E4_len] at hlen'
  have hm' : m.length ≤ 9223372036854775807 := by omega
  have h13 := fun H => c13 (H := H) (ph := ph) (pt := pt) hm' hv'
  have h13' := fun H => c13 (H := H) (ph := 1) (pt := 0) hm' hv'
  have hsh := hv'.sh
  by_cases hb : badR m.length sf se
  · have w := badR_w hb
    have h22 : ∃ e1, (if errC m 1 0 = 0 then (2 : Int) else errC m 1 0) = e1 ∧ e1 ≠ 0 ∧ ∀ H, call tbl 22 [v', .i sf, .i se] H = some (.tup [.i 0, .i e1]) := by
      by_cases h : errC m 1 0 = 0
      · exact ⟨2, by rw [if_pos h], by decide, fun H => c22e hm' hv' (errG_bad h hb) (by decide)⟩
      · exact ⟨errC m 1 0, by rw [if_neg h], h, fun H => c22e hm' hv' (errG_err h) h⟩
    have h23 : ∃ e2, (if errC m ph pt = 0 then (2 : Int) else errC m ph pt) = e2 ∧ e2 ≠ 0 ∧ ∀ f H, call tbl 23 [v', .agg [.i ph, .i pt], .i sf, .i se, .i sn, .bool f] H = some (.tup [.i 0, .i e2]) := by
      by_cases h : errC m ph pt = 0
      · exact ⟨2, by rw [if_pos h], by decide, fun f H => c23e hm' hv' (errG_bad h hb) (by decide)⟩
      · exact ⟨errC m ph pt, by rw [if_neg h], h, fun f H => c23e hm' hv' (errG_err h) h⟩
    obtain ⟨e1, d1, n1, h22⟩ := h22
    obtain ⟨e2, d2, n2, h23⟩ := h23
    clear hb hv hv' hm hm' hml
    generalize errC m ph pt = f2 at *
    generalize errC m 1 0 = f1 at *
    generalize m.length = n at *
    by_cases k1 : f1 = 0
    all_goals by_cases k2 : f2 = 0
    all_goals simp only [k1, k2, if_true, if_false] at d1 d2 h13 h13'
    all_goals subst d1 d2
    all_goals rcases w with w | ⟨w1, w⟩ | ⟨w1, w2, w⟩
    all_goals
      unfold a9
      simp (config := { maxSteps := 10000000 }) (disch := omega) only [↓G_seq, ↓G_skip, ↓G_ret, ↓G_region, ↓G_cond, ↓G_ops_nil, ↓G_op, Gv_some, ↓G_gop, Gw_tt, Gw_ff, Gw_tf, Gw_ft, Gw_tup, Gc_true, Gc_false, dec_t, dec_f, killAll, ↓get_setS, evalOp, ev, evs, Ab.get, b_eql, b_neq, b_lss, b_geq, one, Option.map_some, Option.bind_some, Option.map_none, asB, finish, resVs, resV, outVs, ownsLast, tupOf, callV, V.shift, V.shifts, List.append_nil, List.nil_append, List.cons_append, List.map_cons, List.map_nil, List.all_cons, List.all_nil, Bool.and_self, List.getElem?_cons_zero, List.getElem?_cons_succ, Nat.reduceEqDiff, reduceCtorEq, ↓reduceIte, Nat.succ_ne_self, decide_true, decide_false, Bool.not_true, Bool.not_false, bne_self_eq_false, Bool.false_eq_true, Int.reduceAdd, Int.reduceEq, pick3, V.cells, fillV, splice, addOff, loadV, Ab.rowAt, rget, rset, V.scalar, mmV, Nat.reduceAdd, Nat.reduceLeDiff, and_self, List.length_cons, List.length_nil, List.take_succ_cons, List.take_zero, List.drop_succ_cons, List.drop_zero, Nat.le_refl, List.getD_cons_zero, Nat.zero_add, Nat.add_zero, ti_bool, ti_int, ti_tup_int, st_int, ov_bool, fn_some, hlen, hs, c11, h13, h13', hsh, hlen', h22, h23, Nat.zero_lt_succ]
  · obtain ⟨i, j, rfl, rfl, w1, w2⟩ := goodR hb
    by_cases k2 : errC m ph pt = 0
    · have k1 : errC m 1 0 = 0 := by
        obtain ⟨q1, q2, q3⟩ := errC_ok k2
        unfold errC
        rw [if_neg (by omega), if_neg (by decide), q3]
      have h22 := fun H => c22 (H := H) hm' hv' w1 w2 k1
      have h24 := fun H => c24 (H := H) (errC_ok k2).1 w1 w2 (errC_in k2) hv'
      by_cases k3 : sn < 0
      · have h23 := fun f H => c23n (H := H) (num := sn) (fin := f) hm' hv' (errG_ok k2 hb) k3
        rw [k2] at h13
        rw [k1] at h13'
        clear hb hv hv' hm hm' hml
        generalize hgt (sl m i j) = h at *
        generalize m.length = n at *
        unfold a9
        simp (config := { maxSteps := 10000000 }) (disch := omega) only [↓G_seq, ↓G_skip, ↓G_ret, ↓G_region, ↓G_cond, ↓G_ops_nil, ↓G_op, Gv_some, ↓G_gop, Gw_tt, Gw_ff, Gw_tf, Gc_true, Gc_false, dec_t, dec_f, killAll, ↓get_setS, evalOp, ev, evs, Ab.get, b_eql, b_neq, b_lss, b_geq, one, Option.map_some, Option.bind_some, Option.map_none, asB, finish, resVs, resV, outVs, ownsLast, tupOf, callV, V.shift, V.shifts, List.append_nil, List.nil_append, List.cons_append, List.map_cons, List.map_nil, List.all_cons, List.all_nil, Bool.and_self, List.getElem?_cons_zero, List.getElem?_cons_succ, Nat.reduceEqDiff, reduceCtorEq, ↓reduceIte, Nat.succ_ne_self, decide_true, decide_false, Bool.not_true, Bool.not_false, bne_self_eq_false, Bool.false_eq_true, Int.reduceAdd, Int.reduceEq, pick3, V.cells, fillV, splice, addOff, loadV, Ab.rowAt, rget, rset, V.scalar, mmV, Nat.reduceAdd, Nat.reduceLeDiff, and_self, List.length_cons, List.length_nil, List.take_succ_cons, List.take_zero, List.drop_succ_cons, List.drop_zero, Nat.le_refl, List.getD_cons_zero, Nat.zero_add, Nat.add_zero, ti_bool, ti_int, ti_tup_int, st_int, ov_bool, fn_some, hlen, hs, c11, h13, h13', hsh, hlen', h22, h23, h24, Nat.zero_lt_succ]
      · have h23 := fun f H => c23 (H := H) (num := sn) (fin := f) hm' hv' w1 w2 k2 (by omega)
        have h25 := fun f H => c25' (H := H) (num := sn) (fin := f) w1 w2 k2 hv' (by omega)
        simp only [k2] at h13
        simp only [k1] at h13'
        clear hb hv hv' hm hm' hml
        generalize hgt (sl m i j) = h at *
        generalize cst m ph pt i j (decide (sn % 2 = 0)) = g at *
        generalize m.length = n at *
        unfold a9
        simp (config := { maxSteps := 10000000 }) (disch := omega) only [↓G_seq, ↓G_skip, ↓G_ret, ↓G_region, ↓G_cond, ↓G_ops_nil, ↓G_op, Gv_some, ↓G_gop, Gw_tt, Gw_ff, Gw_tf, Gc_false, dec_f, killAll, ↓get_setS, evalOp, ev, evs, Ab.get, b_eql, b_neq, b_lss, b_geq, one, Option.map_some, Option.bind_some, Option.map_none, asB, finish, resVs, resV, outVs, ownsLast, tupOf, callV, V.shift, V.shifts, List.append_nil, List.nil_append, List.cons_append, List.map_cons, List.map_nil, List.all_cons, List.all_nil, Bool.and_self, List.getElem?_cons_zero, List.getElem?_cons_succ, Nat.reduceEqDiff, reduceCtorEq, ↓reduceIte, Nat.succ_ne_self, decide_true, Bool.not_true, bne_self_eq_false, Bool.false_eq_true, Int.reduceAdd, pick3, V.cells, fillV, splice, addOff, loadV, Ab.rowAt, rget, rset, V.scalar, mmV, Nat.reduceAdd, Nat.reduceLeDiff, and_self, List.length_cons, List.length_nil, List.take_succ_cons, List.take_zero, List.drop_succ_cons, List.drop_zero, Nat.le_refl, List.getD_cons_zero, Nat.zero_add, Nat.add_zero, ti_bool, ti_int, ti_tup_int, st_int, ov_bool, fn_some, hlen, hs, c11, h13, h13', hsh, hlen', h22, h23, h24, h25, Nat.zero_lt_succ]
    · have h23 := fun f H => c23e (H := H) (num := sn) (fin := f) hm' hv' (errG_err (a := (i : Nat)) (b := (j : Nat) - 1) k2) k2
      by_cases k1 : errC m 1 0 = 0
      · have h22 := fun H => c22 (H := H) hm' hv' w1 w2 k1
        have h24 := fun H => c24 (H := H) (errC_ok k1).1 w1 w2 (errC_in k1) hv'
        simp only [k1] at h13'
        clear hb hv hv' hm hm' hml k1
        generalize errC m ph pt = f2 at *
        generalize hgt (sl m i j) = h at *
        generalize m.length = n at *
        unfold a9
        simp (config := { maxSteps := 10000000 }) (disch := omega) only [↓G_seq, ↓G_skip, ↓G_ret, ↓G_region, ↓G_cond, ↓G_ops_nil, ↓G_op, Gv_some, ↓G_gop, Gw_tt, Gw_ff, Gw_tf, Gw_tup, Gc_true, Gc_false, dec_f, killAll, ↓get_setS, evalOp, ev, evs, Ab.get, b_eql, b_neq, b_lss, b_geq, one, Option.map_some, Option.bind_some, Option.map_none, asB, finish, resVs, resV, outVs, ownsLast, tupOf, callV, V.shift, V.shifts, List.append_nil, List.nil_append, List.cons_append, List.map_cons, List.map_nil, List.all_cons, List.all_nil, Bool.and_self, List.getElem?_cons_zero, List.getElem?_cons_succ, Nat.reduceEqDiff, reduceCtorEq, ↓reduceIte, Nat.succ_ne_self, decide_true, Bool.not_true, Bool.not_false, bne_self_eq_false, Bool.false_eq_true, Int.reduceAdd, pick3, V.cells, fillV, splice, addOff, loadV, Ab.rowAt, rget, rset, V.scalar, mmV, Nat.reduceAdd, Nat.reduceLeDiff, and_self, List.length_cons, List.length_nil, List.take_succ_cons, List.take_zero, List.drop_succ_cons, List.drop_zero, Nat.le_refl, List.getD_cons_zero, Nat.zero_add, Nat.add_zero, ti_bool, ti_int, ti_tup_int, st_int, ov_bool, fn_some, hlen, hs, c11, h13, h13', hsh, hlen', h22, h23, h24, Nat.zero_lt_succ]
      · have h22 := fun H => c22e (H := H) hm' hv' (errG_err (a := (i : Nat)) (b := (j : Nat) - 1) k1) k1
        clear hb hv hv' hm hm' hml
        generalize errC m ph pt = f2 at *
        generalize errC m 1 0 = f1 at *
        generalize m.length = n at *
        unfold a9
        simp (config := { maxSteps := 10000000 }) (disch := omega) only [↓G_seq, ↓G_skip, ↓G_ret, ↓G_region, ↓G_cond, ↓G_ops_nil, ↓G_op, Gv_some, ↓G_gop, Gw_tt, Gw_ff, Gw_tf, Gw_tup, Gc_true, Gc_false, dec_f, killAll, ↓get_setS, evalOp, ev, evs, Ab.get, b_eql, b_neq, b_lss, b_geq, one, Option.map_some, Option.bind_some, Option.map_none, asB, finish, resVs, resV, outVs, ownsLast, tupOf, callV, V.shift, V.shifts, List.append_nil, List.nil_append, List.cons_append, List.map_cons, List.map_nil, List.all_cons, List.all_nil, Bool.and_self, List.getElem?_cons_zero, List.getElem?_cons_succ, Nat.reduceEqDiff, reduceCtorEq, ↓reduceIte, Nat.succ_ne_self, decide_true, Bool.not_true, Bool.not_false, bne_self_eq_false, Bool.false_eq_true, Int.reduceAdd, pick3, V.cells, fillV, splice, addOff, loadV, Ab.rowAt, rget, rset, V.scalar, mmV, Nat.reduceAdd, Nat.reduceLeDiff, and_self, List.length_cons, List.length_nil, List.take_succ_cons, List.take_zero, List.drop_succ_cons, List.drop_zero, Nat.le_refl, List.getD_cons_zero, Nat.zero_add, Nat.add_zero, ti_bool, ti_int, ti_tup_int, st_int, ov_bool, fn_some, hlen, hs, c11, h13, h13', hsh, hlen', h22, h23, Nat.zero_lt_succ]

end Go.Proofs.Ytgghbckhdchcaaa

/-
  Names of keys.
-/
import Derived.Test.YtfpkelnakagdfaaS07L
import Derived.Test.YtfpkelnakagdfaaAbEqs
import Derived.Laws.Strings2
namespace Go.Proofs.Ytfpkelnakagdfaa
open Go Go.Ab
set_option linter.unusedVariables false
set_option linter.unnecessarySimpa false
set_option linter.unusedSimpArgs false
set_option maxRecDepth 100000
variable {H : List (List Row)}

/-! Texts as lists of bytes. -/
def B (l : List UInt8) : ByteArray := ⟨l.toArray⟩
theorem B_list (l : List UInt8) : (B l).toList = l := by rw [ByteArray.toList_eq]; simp [B]
theorem B_size (l : List UInt8) : (B l).size = l.length := rfl
theorem B_surj (s : ByteArray) : s = B s.data.toList := by cases s; simp [B]
theorem B_ext (l : List UInt8) (a b : Nat) : (B l).extract a b = B ((l.drop a).take (b - a)) := ByteArray.extract_mk l a b
theorem B_sub {l : List UInt8} {n : Nat} (h : n ≤ l.length) : strSubV (.str (B l)) (some (.i (n : Nat))) none = some (.str (B (l.drop n))) := by
  have e : List.take (l.length - n) (List.drop n l) = List.drop n l := List.take_of_length_le (by simp)
  simp [strSubV, bounds, B_size, h, B_ext, e]
theorem B_pre {l : List UInt8} {n : Nat} (h : n ≤ l.length) : strSubV (.str (B l)) none (some (.i (n : Nat))) = some (.str (B (l.take n))) := by
  simp [strSubV, bounds, B_size, h, B_ext]
theorem B_eql (a b : List UInt8) : binV .eql (.str (B a)) (.str (B b)) = some (.bool (a == b)) := by simp [binV, strBin, B_list]
theorem B_neq (a b : List UInt8) : binV .neq (.str (B a)) (.str (B b)) = some (.bool (!(a == b))) := by simp [binV, strBin, B_list]
theorem B_add {a b : List UInt8} (h : a.length + b.length ≤ 1000) : binV .add (.str (B a)) (.str (B b)) = some (.str (B (a ++ b))) := by
  have e : B a ++ B b = B (a ++ b) := by
    apply ByteArray.ext
    simp [B]
  have : (B a).size + (B b).size ≤ 9223372036854775807 := by rw [B_size, B_size]; omega
  simp [binV, strBin, this, e]
theorem B_idx (c : UInt8) (r : List UInt8) : strIdxV (.str (B (c :: r))) (.i 0) = some (.int .u8 (c.toNat : Nat)) := by
  have : (B (c :: r))[0]? = some c := rfl
  simp [strIdxV, this]

def letS : List UInt8 := [67, 68, 69, 70, 71, 65, 66]
def miS : List UInt8 := [32, 109, 105, 110, 111, 114]
def maS : List UInt8 := [32, 109, 97, 106, 111, 114]
theorem q0 : (⟨#[]⟩ : ByteArray) = B [] := rfl
theorem qS : (⟨#[35]⟩ : ByteArray) = B [35] := rfl
theorem qF : (⟨#[98]⟩ : ByteArray) = B [98] := rfl
theorem qL : (⟨#[67, 68, 69, 70, 71, 65, 66]⟩ : ByteArray) = B letS := rfl
theorem qi : (⟨#[32, 109, 105, 110, 111, 114]⟩ : ByteArray) = B miS := rfl
theorem qa : (⟨#[32, 109, 97, 106, 111, 114]⟩ : ByteArray) = B maS := rfl

/-! Names. -/
def lt (s : Int) : UInt8 := letS.getD s.toNat 0
def ac (a : Int) : List UInt8 := if a = 1 then [35] else if a = -1 then [98] else []
def sf (m : Bool) : List UInt8 := if m then miS else maS
def nmL (s a : Int) (m : Bool) : List UInt8 := lt s :: (ac a ++ sf m)
def nm (f : Int) (m : Bool) : List UInt8 := nmL (tonS (f + mn m)) (tonA (f + mn m)) m

theorem lt_sub {s : Int} (h : 0 ≤ s ∧ s ≤ 6) : strSubV (.str (B letS)) (some (.i s)) (some (.i (s + 1))) = some (.str (B [lt s])) := by
  rcases cases7 s h with rfl | rfl | rfl | rfl | rfl | rfl | rfl <;> rfl
theorem ton_in' (f : Int) (m : Bool) (h : -7 ≤ f ∧ f ≤ 7) : (0 ≤ tonS (f + mn m) ∧ tonS (f + mn m) ≤ 6) ∧ (tonA (f + mn m) = -1 ∨ tonA (f + mn m) = 0 ∨ tonA (f + mn m) = 1) := by
  rcases cases15 f h with rfl | rfl | rfl | rfl | rfl | rfl | rfl | rfl | rfl | rfl | rfl | rfl | rfl | rfl | rfl
  all_goals cases m <;> decide

theorem c34 (f : Int) (m : Bool) (h : -7 ≤ f ∧ f ≤ 7) : call tbl 34 [.i f, .bool m] H = some (.tup [.str (B (nm f m)), .i 0]) := by
  refine (call_start (show tbl 34 = some a34 from rfl)).trans ?_
  obtain ⟨hs, ha⟩ := ton_in' f m h
  have h26 := fun H => c26 (H := H) f m h
  have hsub := lt_sub hs
  have e1 : B [lt (tonS (f + mn m))] = B ([lt (tonS (f + mn m))]) := rfl
  have hS := B_add (a := [lt (tonS (f + mn m))]) (b := [35]) (by simp)
  have hF := B_add (a := [lt (tonS (f + mn m))]) (b := [98]) (by simp)
  have hSi := B_add (a := [lt (tonS (f + mn m))] ++ [35]) (b := miS) (by simp [miS])
  have hSa := B_add (a := [lt (tonS (f + mn m))] ++ [35]) (b := maS) (by simp [maS])
  have hFi := B_add (a := [lt (tonS (f + mn m))] ++ [98]) (b := miS) (by simp [miS])
  have hFa := B_add (a := [lt (tonS (f + mn m))] ++ [98]) (b := maS) (by simp [maS])
  have hi := B_add (a := [lt (tonS (f + mn m))]) (b := miS) (by simp [miS])
  have ha' := B_add (a := [lt (tonS (f + mn m))]) (b := maS) (by simp [maS])
  simp only [List.cons_append, List.nil_append] at hS hF hSi hSa hFi hFa hi ha'
  unfold nm nmL
  generalize tonS (f + mn m) = s at *
  generalize tonA (f + mn m) = a at *
  clear e1 h
  unfold a34
  simp only [q0, qS, qF, qL, qi, qa]
  rcases ha with rfl | rfl | rfl <;> cases m
  all_goals simp (config := { maxSteps := 10000000 }) (disch := omega) only [↓G_seq, ↓G_skip, ↓G_ret, ↓G_blk, ↓G_region, ↓G_block, ↓G_cond, ↓G_ops_nil, ↓G_op, Gv_some, Gc_true, Gc_false, killAll, ↓get_setS, evalOp, ev, evs, Ab.get, b_add, b_eql, b_neq, wrap_i64, one, Option.map_some, Option.bind_some, finish, resVs, resV, outVs, ownsLast, tupOf, callV, V.shift, V.shifts, List.append_nil, List.map_cons, List.map_nil, List.all_cons, List.all_nil, Bool.and_self, List.getElem?_cons_zero, List.getElem?_cons_succ, Nat.reduceEqDiff, reduceCtorEq, ↓reduceIte, Nat.succ_ne_self, decide_true, decide_false, Bool.not_true, bne_self_eq_false, Int.reduceNeg, Int.reduceEq, and_self, ti_tup_int, st_int, ov_int, ov_str, fn_some, h26, hsub, hS, hF, hSi, hSa, hFi, hFa, hi, ha']
  all_goals simp [ac, sf]

theorem c34_not (f : Int) (m : Bool) (h : ¬ (-7 ≤ f ∧ f ≤ 7)) : call tbl 34 [.i f, .bool m] H = some (.tup [.str (B []), .i 2]) := by
  refine (call_start (show tbl 34 = some a34 from rfl)).trans ?_
  have h26 := fun H => c26' (H := H) f m h
  unfold a34
  simp only [q0, qS, qF, qL, qi, qa]
  simp (config := { maxSteps := 10000000 }) (disch := omega) only [↓G_seq, ↓G_ret, ↓G_region, ↓G_cond, ↓G_ops_nil, ↓G_op, Gv_some, Gc_true, killAll, ↓get_setS, evalOp, ev, evs, Ab.get, b_neq, one, Option.map_some, Option.bind_some, finish, resVs, resV, outVs, ownsLast, tupOf, callV, V.shift, V.shifts, List.append_nil, List.map_cons, List.map_nil, List.all_cons, List.all_nil, Bool.and_self, List.getElem?_cons_zero, List.getElem?_cons_succ, Nat.reduceEqDiff, reduceCtorEq, ↓reduceIte, Nat.succ_ne_self, decide_false, Bool.not_false, bne_self_eq_false, Int.reduceNeg, Int.reduceEq, and_self, ti_tup_int, st_int, ov_int, ov_str, fn_some, h26]

theorem get2 (m : Bool) (H : List (List Row)) : mgetV ([⟨0, 0, []⟩, ⟨1, 0, [[.bool false, .str (B maS)], [.bool true, .str (B miS)]]⟩] :: H) .bool false (.str (B [])) (.mp 0 1 1) (.bool m) = some (.str (B (sf m))) := by
  cases m <;> rfl

theorem c36 (f : Int) (m : Bool) (h : -7 ≤ f ∧ f ≤ 7) : call tbl 36 [.i f, .bool m] H = some (.str (B (nm f m))) := by
  refine (call_start (show tbl 36 = some a36 from rfl)).trans ?_
  obtain ⟨hs, ha⟩ := ton_in' f m h
  have h29 := fun H => c29 (H := H) f m h
  have hsub := lt_sub hs
  have hg := get2 m
  have hS := B_add (a := [lt (tonS (f + mn m))]) (b := ac (tonA (f + mn m))) (by rcases ha with e | e | e <;> rw [e] <;> simp [ac])
  have hT := B_add (a := [lt (tonS (f + mn m))] ++ ac (tonA (f + mn m))) (b := sf m) (by rcases ha with e | e | e <;> rw [e] <;> cases m <;> simp [ac, sf, miS, maS])
  simp only [List.cons_append, List.nil_append] at hS hT
  unfold nm nmL
  generalize tonS (f + mn m) = s at *
  generalize tonA (f + mn m) = a at *
  clear h
  unfold a36
  simp only [q0, qS, qF, qL, qi, qa]
  rcases ha with rfl | rfl | rfl
  all_goals simp only [ac, Int.reduceNeg, Int.reduceEq, reduceIte] at hS hT
  all_goals simp (config := { maxSteps := 10000000 }) (disch := omega) only [Bool.true_beq, ↓G_seq, ↓G_ret, ↓G_region, ↓G_ops_nil, ↓G_op, Gv_some, killAll, ↓get_setS, ↓get_setN, evalOp, ev, evs, Ab.get, b_add, wrap_i64, one, Option.map_some, Option.bind_some, finish, resVs, resV, outVs, ownsLast, tupOf, callV, V.shift, V.shifts, List.append_nil, List.nil_append, List.cons_append, List.map_cons, List.map_nil, List.all_cons, List.all_nil, Bool.true_and, Bool.and_self, List.getElem?_cons_zero, List.getElem?_cons_succ, Nat.reduceEqDiff, reduceCtorEq, ↓reduceIte, Nat.succ_ne_self, bne_self_eq_false, Bool.false_eq_true, Int.reduceNeg, Int.reduceAdd, Int.reduceLT, Int.reduceLE, pick3, V.cells, fillV, splice, chop, rget, rset, V.scalar, V.pure, Int.reduceToNat, Nat.reduceAdd, Nat.reduceLT, Nat.reduceLeDiff, true_and, and_self, List.length_cons, List.length_nil, List.take_succ_cons, List.take_zero, List.drop_succ_cons, List.drop_zero, Nat.le_refl, List.replicate, List.flatten_cons, List.flatten_nil, Nat.zero_add, el_full, ti_tup_int, st_int, ov_str, fn_some, h29, hsub, hg, hS, hT, minsV, findV, keyEq, loadiV]
  all_goals simp [ac]

end Go.Proofs.Ytfpkelnakagdfaa

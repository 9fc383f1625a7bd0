/-
  Operation by operation: the model's run gives what the abstract machine gives. First the parts that look at values alone.
-/
import Derived.Test.YtfngllcjikmbkaaAbMem
namespace Go.Ab
open Go Go.RowKit

theorem cellOf_rel {x : Value} {v : V} (h : cellOf x = some v) (E : Env) : VR v E x := by
  unfold cellOf at h
  split at h <;> first | (cases h; simp [VR]; done) | cases h

theorem cellsOf_rel (E : Env) : ∀ {l : List Value} {vs : List V}, cellsOf l = some vs → VRs vs E l
  | [], vs, h => by simp only [cellsOf, Option.some.injEq] at h; subst h; rfl
  | x :: l, vs, h => by
    simp only [cellsOf, Option.bind_eq_some_iff, Option.map_eq_some_iff] at h
    obtain ⟨v, hv, us, hu, rfl⟩ := h
    exact ⟨x, l, rfl, cellOf_rel hv E, cellsOf_rel E hu⟩

theorem ofVal_rel {x : Value} {v : V} (h : ofVal x = some v) (E : Env) : VR v E x := by
  unfold ofVal at h
  split at h
  · simp only [Option.map_eq_some_iff] at h
    obtain ⟨vs, hv, rfl⟩ := h
    exact ⟨_, rfl, cellsOf_rel E hv⟩
  · split at h
    · rename_i f first caps hc
      cases h
      obtain ⟨h1, h2⟩ := hc
      have e1 : first = #[] := by simpa using h1
      have e2 : caps = #[] := by simpa using h2
      subst e1; subst e2
      exact ⟨#[], rfl, rfl⟩
    · cases h
  · exact cellOf_rel h E

/-- What is known of the frame's slots that an operation looks at. -/
def Sees (E : Env) (fr : List V) (a : Act) (ts : List Nat) : Prop := ∀ t ∈ ts, VR (get fr t) E (a.tmps.getD t undef)

theorem arg_rel {E : Env} {fr : List V} {a : Act} {x : Operand} {y : Arg} (h : cArg x = some y) (hs : Sees E fr a (argTmps [y])) : VR (ev fr y) E (a.eval x) := by
  cases x with
  | tmp t => simp only [cArg, Option.some.injEq] at h; subst h; exact hs t (by simp [argTmps])
  | const v =>
    simp only [cArg, Option.map_eq_some_iff] at h
    obtain ⟨u, hu, rfl⟩ := h
    exact ofVal_rel hu E
  | func f => simp only [cArg, Option.some.injEq] at h; subst h; exact ⟨#[], rfl, rfl⟩
  | global g => simp [cArg] at h

theorem argTmps_append (l m : List Arg) : argTmps (l ++ m) = argTmps l ++ argTmps m := by
  induction l with
  | nil => rfl
  | cons x l ih => cases x <;> simp [argTmps, ih]

theorem argTmps_mem {y : Arg} {l : List Arg} (h : y ∈ l) : ∀ t ∈ argTmps [y], t ∈ argTmps l := by
  intro t ht
  obtain ⟨l1, l2, rfl⟩ := List.append_of_mem h
  rw [show l1 ++ y :: l2 = l1 ++ ([y] ++ l2) by simp, argTmps_append, argTmps_append]
  simp [ht]

theorem Sees.arg {E : Env} {fr : List V} {a : Act} {l : List Arg} (hs : Sees E fr a (argTmps l)) {y : Arg} (hy : y ∈ l) {x : Operand} (h : cArg x = some y) : VR (ev fr y) E (a.eval x) :=
  arg_rel h fun t ht => hs t (argTmps_mem hy t ht)

theorem args_rel {E : Env} {fr : List V} {a : Act} : ∀ {xs : List Operand} {ys : List Arg}, cArgs xs = some ys → Sees E fr a (argTmps ys) → VRs (evs fr ys) E (xs.map a.eval)
  | [], ys, h, _ => by simp only [cArgs, Option.some.injEq] at h; subst h; rfl
  | x :: xs, ys, h, hs => by
    simp only [cArgs, Option.bind_eq_some_iff, Option.map_eq_some_iff] at h
    obtain ⟨y, hy, zs, hz, rfl⟩ := h
    refine ⟨a.eval x, xs.map a.eval, rfl, hs.arg (by simp) hy, args_rel hz fun t ht => hs t ?_⟩
    rw [show y :: zs = [y] ++ zs by rfl, argTmps_append]
    simp [ht]

/-! ### Numbers, truth values, strings -/

theorem intBin_run {P : Program} {w : World} {op : BinOp} {k : IntKind} {x y : Int} {v : V} (hs : op ≠ .shl ∧ op ≠ .shr) (h : intBin op k x y = some v) (t : TypeId) :
    ∃ u, (binOp op t (.int k x) (.int k y)).run P w = .ok u w ∧ ∀ E, VR v E u := by
  cases op <;> simp only [intBin] at h <;> first | cases h | skip
  all_goals first
    | (exact absurd rfl hs.1)
    | (exact absurd rfl hs.2)
    | (exact ⟨_, by simp only [binOp, ne_eq, not_true_eq_false, if_false]; rfl, fun E => rfl⟩)
    | skip
  · split at h
    · cases h
    · rename_i hy; cases h
      exact ⟨_, by simp only [binOp, ne_eq, not_true_eq_false, if_false, Op.intDiv, if_neg hy]; rfl, fun E => rfl⟩
  · split at h
    · cases h
    · rename_i hy; cases h
      exact ⟨_, by simp only [binOp, ne_eq, not_true_eq_false, if_false, Op.intDiv, if_neg hy]; rfl, fun E => rfl⟩
  all_goals
    refine ⟨_, by simp only [binOp, ne_eq, not_true_eq_false, if_false, Op.intCmp]; rfl, fun E => ?_⟩
    simp only [VR]

theorem shiftBin_run {P : Program} {w : World} {op : BinOp} {k k' : IntKind} {x y : Int} {v : V} (h : shiftBin op k x y = some v) (t : TypeId) :
    ∃ u, (binOp op t (.int k x) (.int k' y)).run P w = .ok u w ∧ ∀ E, VR v E u := by
  unfold shiftBin at h
  split at h
  · cases h
  · rename_i hy
    cases op <;> simp only at h <;> first | cases h | skip
    all_goals exact ⟨_, by simp only [binOp, Op.shift, if_neg hy]; rfl, fun E => rfl⟩

theorem strBin_run {P : Program} {w : World} {op : BinOp} {x y : ByteArray} {v : V} (h : strBin op x y = some v) (t : TypeId) :
    ∃ u, (binOp op t (.string x) (.string y)).run P w = .ok u w ∧ ∀ E, VR v E u := by
  cases op <;> simp only [strBin] at h <;> first | cases h | skip
  · split at h
    · rename_i hl; cases h
      refine ⟨.string (x ++ y), ?_, fun E => rfl⟩
      have : ¬ ((x.size + y.size : Nat) : Int) > IntKind.i64.max := by
        have : IntKind.i64.max = 9223372036854775807 := by decide
        omega
      simp only [binOp, Op.stringOp, if_neg this]; rfl
    · cases h
  all_goals exact ⟨_, rfl, fun E => rfl⟩

theorem guard_int {P : Program} {w : World} (op : BinOp) (t : TypeId) (o1 o2 : Operand) (k k' : IntKind) (x y : Int) : (eqGuard op t o1 o2 (.int k x) (.int k' y)).run P w = .ok () w := by
  unfold eqGuard; split <;> rfl
theorem guard_str {P : Program} {w : World} (op : BinOp) (t : TypeId) (o1 o2 : Operand) (x y : ByteArray) : (eqGuard op t o1 o2 (.string x) (.string y)).run P w = .ok () w := by
  unfold eqGuard; split <;> rfl
theorem guard_bool {P : Program} {w : World} (op : BinOp) (t : TypeId) (o1 o2 : Operand) (x y : Bool) : (eqGuard op t o1 o2 (.bool x) (.bool y)).run P w = .ok () w := by
  unfold eqGuard; split <;> rfl

theorem binV_run {P : Program} {w : World} {E : Env} {op : BinOp} {p q v : V} {x y : Value} {t : TypeId} (hx : VR p E x) (hy : VR q E y) (h : binV op p q = some v)
    (o1 o2 : Operand) : ∃ u, (do eqGuard op t o1 o2 x y; binOp op t x y : Sem Value).run P w = .ok u w ∧ ∀ E, VR v E u := by
  unfold binV at h
  split at h
  · simp only [VR] at hx hy; subst hx; subst hy
    simp only [Sem.run_bind, guard_int, Result.andThen_ok]
    split at h
    · exact shiftBin_run h t
    · rename_i hop
      split at h
      · rename_i hk; subst hk; exact intBin_run (by simpa [not_or] using hop) h t
      · cases h
  · simp only [VR] at hx hy; subst hx; subst hy
    simp only [Sem.run_bind, guard_str, Result.andThen_ok]
    exact strBin_run h t
  · cases h

theorem eqb_run {P : Program} {w : World} {op : BinOp} {a b : Bool} {t : TypeId} (hop : op = .eql ∨ op = .neq) (ht : P.underlying t = some .bool) (o1 o2 : Operand) :
    (do eqGuard op t o1 o2 (.bool a) (.bool b); binOp op t (.bool a) (.bool b) : Sem Value).run P w = .ok (.bool (if op == .neq then !(a == b) else (a == b))) w := by
  simp only [Sem.run_bind, guard_bool, Result.andThen_ok]
  rcases hop with rfl | rfl
  · simp only [binOp, Sem.run_bind, Op.equal, Op.maxDepth, run_equalIn_bool' w 9999 t a b ht, Result.andThen_ok]; rfl
  · simp only [binOp, Sem.run_bind, Op.equal, Op.maxDepth, run_equalIn_bool' w 9999 t a b ht, Result.andThen_ok]; rfl

end Go.Ab

/-
  How a value of the abstract machine stands for a value of the model, and its rows for blocks of the heap.
-/
import Derived.Test.YtfngllcjikmbkaaAbCore
namespace Go.Ab
open Go

/-- A block of one's own: a row of cells, or a map. -/
structure Own where
  blk : Nat
  sz : Nat
  cs : Nat
  mp : Bool

structure Env where
  own : Nat → Nat → Nat → Option Own
  imm : Nat → Option (Array Value)

def Env.bare (E : Env) : Env := { E with own := fun _ _ _ => none }
def Env.up (E : Env) (d : Nat) : Env := { E with own := fun e s v => E.own (e + d) s v }
/-- What a callee starts with: no rows of its own. -/
def Env.inner (E : Env) : Env := { E with own := fun d s v => match d with | 0 => none | d + 1 => E.own d s v }

structure Env.Le (E E' : Env) : Prop where
  own : ∀ d s v o, E.own d s v = some o → E'.own d s v = some o
  imm : ∀ b c, E.imm b = some c → E'.imm b = some c

theorem Env.Le.refl (E : Env) : E.Le E := ⟨fun _ _ _ _ h => h, fun _ _ h => h⟩
theorem Env.Le.trans {E F G : Env} (h : E.Le F) (k : F.Le G) : E.Le G := ⟨fun d s v o x => k.own d s v o (h.own d s v o x), fun b c x => k.imm b c (h.imm b c x)⟩
theorem Env.Le.bare {E F : Env} (h : E.Le F) : E.bare.Le F.bare := ⟨fun _ _ _ _ x => by simp [Env.bare] at x, fun b c x => h.imm b c x⟩
theorem Env.bare_le (E : Env) : E.bare.Le E := ⟨fun _ _ _ _ x => by simp [Env.bare] at x, fun _ _ x => x⟩
theorem Env.Le.up {E F : Env} (h : E.Le F) (d : Nat) : (E.up d).Le (F.up d) := ⟨fun e s v o x => h.own (e + d) s v o x, fun b c x => h.imm b c x⟩
@[simp] theorem Env.bare_bare (E : Env) : E.bare.bare = E.bare := rfl
@[simp] theorem Env.bare_up (E : Env) (d : Nat) : (E.up d).bare = E.bare := rfl
@[simp] theorem Env.up_bare (E : Env) (d : Nat) : E.bare.up d = E.bare := rfl
@[simp] theorem Env.bare_imm (E : Env) : E.bare.imm = E.imm := rfl
@[simp] theorem Env.up_imm (E : Env) (d : Nat) : (E.up d).imm = E.imm := rfl
@[simp] theorem Env.inner_imm (E : Env) : E.inner.imm = E.imm := rfl
@[simp] theorem Env.inner_up (E : Env) : E.inner.up 1 = E := by cases E; rfl
@[simp] theorem Env.up_zero (E : Env) : E.up 0 = E := by cases E; rfl
theorem Env.inner_bare (E : Env) : E.inner.bare = E.bare := rfl
theorem Env.up_up (E : Env) (a b : Nat) : (E.up a).up b = E.up (a + b) := by
  simp only [Env.up, Env.mk.injEq, and_true]; funext e s v; congr 1; omega

mutual
def VR : V → Env → Value → Prop
  | .bool b, _, x => x = .bool b
  | .int k n, _, x => x = .int k n
  | .str s, _, x => x = .string s
  | .nilptr, _, x => x = .pointer none
  | .ptr d s ver i off, E, x => ∃ o, E.own d s ver = some o ∧ o.mp = false ∧ x = .pointer (some ⟨o.blk, i * o.sz + off, none⟩)
  | .eptr e off, E, x => ∃ b o cs, E.imm b = some cs ∧ x = .pointer (some ⟨b, o + off, none⟩) ∧ VRs e E.bare ((cs.toList.drop o).take e.length)
  | .nilsl, _, x => x = .slice none 0 0
  | .nilfn, _, x => x = .nilFunc
  | .sl k sz els, E, x => k ≠ .own ∧ ∃ a cap, x = .slice (some a) els.length cap ∧ els.length ≤ cap ∧ (k = .full → cap = els.length) ∧
      (els = [] ∨ ∃ cs, a.spot = none ∧ E.imm a.block = some cs ∧ VRss els E.bare sz (cs.toList.drop a.off))
  | .ref d s ver sz off len, E, x => ∃ o a cap, E.own d s ver = some o ∧ o.mp = false ∧ x = .slice (some a) len cap ∧ o.sz = sz ∧ len ≤ cap ∧
      (cap = 0 ∨ (a = ⟨o.blk, off * o.sz, none⟩ ∧ (off + cap) * o.sz ≤ o.cs))
  | .fn f caps, E, x => ∃ cs : Array Value, x = .func (.func f) #[] cs ∧ VRs caps E cs.toList
  | .agg cs, E, x => ∃ c : Array Value, x = .agg c ∧ VRs cs E c.toList
  | .tup vs, E, x => ∃ c : Array Value, x = .tuple c ∧ VRs vs E c.toList
  | .undef, _, _ => True
  | .mp d s ver, E, x => ∃ o, E.own d s ver = some o ∧ o.mp = true ∧ x = .map (some o.blk)
def VRs : List V → Env → List Value → Prop
  | [], _, l => l = []
  | v :: vs, E, l => ∃ x l', l = x :: l' ∧ VR v E x ∧ VRs vs E l'
def VRss : List (List V) → Env → Nat → List Value → Prop
  | [], _, _, _ => True
  | e :: es, E, sz, l => e.length = sz ∧ VRs e E (l.take sz) ∧ VRss es E sz (l.drop sz)
end

mutual
theorem VR.mono {E F : Env} (h : E.Le F) : ∀ (v : V) (x : Value), VR v E x → VR v F x
  | .bool _, _, r | .int _ _, _, r | .str _, _, r | .nilptr, _, r | .nilsl, _, r | .nilfn, _, r => r
  | .undef, _, _ => trivial
  | .ptr .., x, r => by
    simp only [VR] at r ⊢
    obtain ⟨o, ho, hx⟩ := r
    exact ⟨o, h.own _ _ _ _ ho, hx⟩
  | .mp .., x, r => by
    simp only [VR] at r ⊢
    obtain ⟨o, ho, hx⟩ := r
    exact ⟨o, h.own _ _ _ _ ho, hx⟩
  | .eptr e off, x, r => by
    simp only [VR] at r ⊢
    obtain ⟨b, o, cs, hb, hx, hc⟩ := r
    exact ⟨b, o, cs, h.imm _ _ hb, hx, VRs.mono h.bare e _ hc⟩
  | .sl k sz els, x, r => by
    simp only [VR] at r ⊢
    obtain ⟨hk, a, cap, hx, hl, hf, hc⟩ := r
    refine ⟨hk, a, cap, hx, hl, hf, ?_⟩
    rcases hc with hc | ⟨cs, hs, hi, hv⟩
    · exact .inl hc
    · exact .inr ⟨cs, hs, h.imm _ _ hi, VRss.mono h.bare els _ _ hv⟩
  | .ref .., x, r => by
    simp only [VR] at r ⊢
    obtain ⟨o, a, cap, ho, hx, rest⟩ := r
    exact ⟨o, a, cap, h.own _ _ _ _ ho, hx, rest⟩
  | .fn f caps, x, r => by
    simp only [VR] at r ⊢
    obtain ⟨cs, hx, hc⟩ := r
    exact ⟨cs, hx, VRs.mono h caps _ hc⟩
  | .agg caps, x, r => by
    simp only [VR] at r ⊢
    obtain ⟨cs, hx, hc⟩ := r
    exact ⟨cs, hx, VRs.mono h caps _ hc⟩
  | .tup caps, x, r => by
    simp only [VR] at r ⊢
    obtain ⟨cs, hx, hc⟩ := r
    exact ⟨cs, hx, VRs.mono h caps _ hc⟩
theorem VRs.mono {E F : Env} (h : E.Le F) : ∀ (vs : List V) (l : List Value), VRs vs E l → VRs vs F l
  | [], _, r => r
  | v :: vs, l, r => by
    simp only [VRs] at r ⊢
    obtain ⟨x, l', hl, hv, hr⟩ := r
    exact ⟨x, l', hl, VR.mono h v x hv, VRs.mono h vs l' hr⟩
theorem VRss.mono {E F : Env} (h : E.Le F) : ∀ (es : List (List V)) (sz : Nat) (l : List Value), VRss es E sz l → VRss es F sz l
  | [], _, _, _ => trivial
  | e :: es, sz, l, r => by
    simp only [VRss] at r ⊢
    exact ⟨r.1, VRs.mono h e _ r.2.1, VRss.mono h es sz _ r.2.2⟩
end

theorem VR.pure {E : Env} {v : V} {x : Value} (hp : v.pure = true) (h : VR v E x) : VR v E.bare x := by
  cases v <;> simp_all [V.pure, VR]

theorem VRs.pure {E : Env} : ∀ {vs : List V} {l : List Value}, vs.all V.pure = true → VRs vs E l → VRs vs E.bare l
  | [], _, _, h => h
  | v :: vs, l, hp, h => by
    simp only [List.all_cons, Bool.and_eq_true] at hp
    simp only [VRs] at h ⊢
    obtain ⟨x, l', hl, hv, hr⟩ := h
    exact ⟨x, l', hl, VR.pure hp.1 hv, VRs.pure hp.2 hr⟩

theorem VR.calm {E : Env} {v : V} {x : Value} (hp : v.calm = true) (h : VR v E x) : VR v E.bare x := by
  cases v
  case eptr => simp only [VR, Env.bare_imm, Env.bare_bare] at h ⊢; exact h
  all_goals exact VR.pure hp h

theorem VRs.calm {E : Env} : ∀ {vs : List V} {l : List Value}, vs.all V.calm = true → VRs vs E l → VRs vs E.bare l
  | [], _, _, h => h
  | v :: vs, l, hp, h => by
    simp only [List.all_cons, Bool.and_eq_true] at hp
    simp only [VRs] at h ⊢
    obtain ⟨x, l', hl, hv, hr⟩ := h
    exact ⟨x, l', hl, VR.calm hp.1 hv, VRs.calm hp.2 hr⟩

theorem VRss.pure {E : Env} : ∀ {es : List (List V)} {sz : Nat} {l : List Value}, es.all (fun e => e.all V.pure) = true → VRss es E sz l → VRss es E.bare sz l
  | [], _, _, _, _ => trivial
  | e :: es, sz, l, hp, h => by
    simp only [List.all_cons, Bool.and_eq_true] at hp
    simp only [VRss] at h ⊢
    exact ⟨h.1, VRs.pure hp.1 h.2.1, VRss.pure hp.2 h.2.2⟩

mutual
theorem VR.shift {E : Env} (d : Nat) : ∀ (v : V) (x : Value), VR (V.shift d v) E x ↔ VR v (E.up d) x
  | .bool _, _ | .int _ _, _ | .str _, _ | .nilptr, _ | .nilsl, _ | .nilfn, _ => by simp [V.shift, VR]
  | .undef, _ => by simp [V.shift, VR]
  | .ptr .., x => by simp [V.shift, VR, Env.up]
  | .eptr e off, x => by simp [V.shift, VR]
  | .sl k sz els, x => by simp [V.shift, VR]
  | .ref .., x => by simp [V.shift, VR, Env.up]
  | .mp .., x => by simp [V.shift, VR, Env.up]
  | .fn f caps, x => by simp only [V.shift, VR, VRs.shift d caps]
  | .agg caps, x => by simp only [V.shift, VR, VRs.shift d caps]
  | .tup caps, x => by simp only [V.shift, VR, VRs.shift d caps]
theorem VRs.shift {E : Env} (d : Nat) : ∀ (vs : List V) (l : List Value), VRs (V.shifts d vs) E l ↔ VRs vs (E.up d) l
  | [], l => by simp [V.shifts, VRs]
  | v :: vs, l => by simp only [V.shifts, VRs, VR.shift d v, VRs.shift d vs]
end

/-! ### Lists -/

theorem VRs.length {E : Env} : ∀ {vs : List V} {l : List Value}, VRs vs E l → l.length = vs.length
  | [], l, h => by simp only [VRs] at h; simp [h]
  | v :: vs, l, h => by
    simp only [VRs] at h
    obtain ⟨x, l', rfl, _, hr⟩ := h
    simp [VRs.length hr]

theorem VRs.at {E : Env} : ∀ {vs : List V} {l : List Value}, VRs vs E l → ∀ {i : Nat} {v : V}, vs[i]? = some v → ∃ x, l[i]? = some x ∧ VR v E x
  | [], l, h, i, v, hi => by simp at hi
  | u :: vs, l, h, i, v, hi => by
    simp only [VRs] at h
    obtain ⟨x, l', rfl, hv, hr⟩ := h
    cases i with
    | zero => simp only [List.getElem?_cons_zero, Option.some.injEq] at hi; exact ⟨x, by simp, hi ▸ hv⟩
    | succ i => simp only [List.getElem?_cons_succ] at hi; obtain ⟨y, hy, hr⟩ := VRs.at hr hi; exact ⟨y, by simpa using hy, hr⟩

theorem VRs.append {E : Env} : ∀ {vs us : List V} {l m : List Value}, VRs vs E l → VRs us E m → VRs (vs ++ us) E (l ++ m)
  | [], us, l, m, h, k => by simp only [VRs] at h; subst h; simpa using k
  | v :: vs, us, l, m, h, k => by
    simp only [VRs] at h
    obtain ⟨x, l', rfl, hv, hr⟩ := h
    exact ⟨x, l' ++ m, by simp, hv, VRs.append hr k⟩

theorem VRs.take {E : Env} : ∀ {vs : List V} {l : List Value} (n : Nat), VRs vs E l → VRs (vs.take n) E (l.take n)
  | [], l, n, h => by simp only [VRs] at h; subst h; simp [VRs]
  | v :: vs, l, 0, h => by simp [VRs]
  | v :: vs, l, n + 1, h => by
    simp only [VRs] at h
    obtain ⟨x, l', rfl, hv, hr⟩ := h
    exact ⟨x, l'.take n, by simp, hv, VRs.take n hr⟩

theorem VRs.drop {E : Env} : ∀ {vs : List V} {l : List Value} (n : Nat), VRs vs E l → VRs (vs.drop n) E (l.drop n)
  | [], l, n, h => by simp only [VRs] at h; subst h; simp [VRs]
  | v :: vs, l, 0, h => by simpa using h
  | v :: vs, l, n + 1, h => by
    simp only [VRs] at h
    obtain ⟨x, l', rfl, hv, hr⟩ := h
    simpa using VRs.drop n hr

theorem VRs.splice {E : Env} {cs p : List V} {l q : List Value} (off : Nat) (h : VRs cs E l) (k : VRs p E q) :
    VRs (splice cs off p) E (l.take off ++ q ++ l.drop (off + q.length)) := by
  unfold Ab.splice
  rw [k.length]
  exact ((h.take off).append k).append (h.drop _)

theorem VR.cells {E : Env} {v : V} {x : Value} (hs : v.cells.all V.scalar = true) (h : VR v E x) : VRs v.cells E x.cells.toList := by
  cases v with
  | agg cs => simp only [VR] at h; obtain ⟨c, rfl, hc⟩ := h; exact hc
  | tup => simp [V.cells, V.scalar] at hs
  | undef => simp [V.cells, V.scalar] at hs
  | bool | int | str | nilptr | nilsl | nilfn => simp only [VR] at h; subst h; simp [V.cells, Value.cells, VRs, VR]
  | ptr => 
    have h' := h
    simp only [VR] at h; obtain ⟨o, _, _, rfl⟩ := h; exact ⟨_, [], rfl, h', rfl⟩
  | mp =>
    have h' := h
    simp only [VR] at h; obtain ⟨o, _, _, rfl⟩ := h; exact ⟨_, [], rfl, h', rfl⟩
  | eptr =>
    have h' := h
    simp only [VR] at h; obtain ⟨b, o, cs, _, rfl, _⟩ := h; exact ⟨_, [], rfl, h', rfl⟩
  | sl =>
    have h' := h
    simp only [VR] at h; obtain ⟨_, a, cap, rfl, _⟩ := h; exact ⟨_, [], rfl, h', rfl⟩
  | ref =>
    have h' := h
    simp only [VR] at h; obtain ⟨o, a, cap, _, _, rfl, _⟩ := h; exact ⟨_, [], rfl, h', rfl⟩
  | fn =>
    have h' := h
    simp only [VR] at h; obtain ⟨cs, rfl, _⟩ := h; exact ⟨_, [], rfl, h', rfl⟩

theorem VR.oneCell {E : Env} {v : V} {x : Value} (hs : v.scalar = true) (h : VR v E x) : x.oneCell' = true := by
  cases v with
  | agg | tup | undef => simp [V.scalar] at hs
  | bool | int | str | nilptr | nilsl | nilfn => simp only [VR] at h; subst h; rfl
  | ptr | mp => simp only [VR] at h; obtain ⟨o, _, _, rfl⟩ := h; rfl
  | eptr => simp only [VR] at h; obtain ⟨b, o, cs, _, rfl, _⟩ := h; rfl
  | sl => simp only [VR] at h; obtain ⟨_, a, cap, rfl, _⟩ := h; rfl
  | ref => simp only [VR] at h; obtain ⟨o, a, cap, _, _, rfl, _⟩ := h; rfl
  | fn => simp only [VR] at h; obtain ⟨cs, rfl, _⟩ := h; rfl

theorem VRs.oneCell {E : Env} : ∀ {vs : List V} {l : List Value}, vs.all V.scalar = true → VRs vs E l → ∀ x ∈ l, x.oneCell' = true
  | [], l, _, h, x, hx => by simp only [VRs] at h; subst h; cases hx
  | v :: vs, l, hs, h, x, hx => by
    simp only [List.all_cons, Bool.and_eq_true] at hs
    simp only [VRs] at h
    obtain ⟨y, l', rfl, hv, hr⟩ := h
    cases hx with
    | head => exact VR.oneCell hs.1 hv
    | tail _ hx => exact VRs.oneCell hs.2 hr x hx

theorem VRss.at {E : Env} : ∀ {es : List (List V)} {sz : Nat} {l : List Value}, VRss es E sz l → ∀ {i : Nat} {e : List V}, es[i]? = some e →
    e.length = sz ∧ VRs e E ((l.drop (i * sz)).take sz)
  | [], sz, l, h, i, e, hi => by simp at hi
  | u :: es, sz, l, h, i, e, hi => by
    simp only [VRss] at h
    cases i with
    | zero => simp only [List.getElem?_cons_zero, Option.some.injEq] at hi; subst hi; simpa using ⟨h.1, h.2.1⟩
    | succ i =>
      simp only [List.getElem?_cons_succ] at hi
      have := VRss.at h.2.2 hi
      rw [List.drop_drop, show sz + i * sz = (i + 1) * sz by rw [Nat.succ_mul, Nat.add_comm]] at this
      exact this

theorem VRss.bound {E : Env} : ∀ {es : List (List V)} {sz : Nat} {l : List Value}, VRss es E sz l → es.length * sz ≤ l.length
  | [], sz, l, h => by simp
  | e :: es, sz, l, h => by
    simp only [VRss] at h
    have h1 := VRs.length h.2.1
    have h2 := VRss.bound h.2.2
    simp only [List.length_take, List.length_drop, List.length_cons, Nat.succ_mul] at *
    omega

theorem VRss.take {E : Env} : ∀ {es : List (List V)} {sz : Nat} {l : List Value} (n : Nat), VRss es E sz l → VRss (es.take n) E sz l
  | [], sz, l, n, h => by simp [VRss]
  | e :: es, sz, l, 0, h => by simp [VRss]
  | e :: es, sz, l, n + 1, h => by
    simp only [VRss, List.take_succ_cons] at h ⊢
    exact ⟨h.1, h.2.1, VRss.take n h.2.2⟩

theorem VRss.drop {E : Env} : ∀ {es : List (List V)} {sz : Nat} {l : List Value} (n : Nat), VRss es E sz l → VRss (es.drop n) E sz (l.drop (n * sz))
  | [], sz, l, n, h => by simp [VRss]
  | e :: es, sz, l, 0, h => by simpa using h
  | e :: es, sz, l, n + 1, h => by
    simp only [VRss] at h
    have := VRss.drop n h.2.2
    rw [List.drop_drop, show sz + n * sz = (n + 1) * sz by rw [Nat.succ_mul, Nat.add_comm]] at this
    simpa using this

/-- The elements' cells one behind the other are a beginning of the row. -/
theorem VRss.flat {E : Env} : ∀ {es : List (List V)} {sz : Nat} {l : List Value}, VRss es E sz l → VRs es.flatten E (l.take (es.length * sz))
  | [], sz, l, h => by simp [VRs]
  | e :: es, sz, l, h => by
    simp only [VRss] at h
    have h2 := VRss.flat h.2.2
    have := h.2.1.append h2
    rw [← List.take_add, Nat.add_comm, ← Nat.succ_mul] at this
    simpa using this

theorem VRss.of_flat {E : Env} : ∀ {es : List (List V)} {sz : Nat} {l : List Value}, (∀ e ∈ es, e.length = sz) → VRs es.flatten E (l.take (es.length * sz)) → VRss es E sz l
  | [], sz, l, _, h => by simp [VRss]
  | e :: es, sz, l, hl, h => by
    have he := hl e (by simp)
    simp only [VRss]
    have h1 := h.take sz
    have h2 := h.drop sz
    simp only [List.flatten_cons, List.length_cons] at h1 h2
    rw [List.take_append_of_le_length (by omega), List.take_of_length_le (by omega), List.take_take, Nat.min_eq_left (by rw [Nat.succ_mul]; omega)] at h1
    rw [List.drop_append_of_le_length (by omega), List.drop_of_length_le (by omega), List.nil_append, List.drop_take, show (es.length + 1) * sz - sz = es.length * sz by rw [Nat.succ_mul]; omega] at h2
    exact ⟨he, h1, VRss.of_flat (fun e' h' => hl e' (by simp [h'])) h2⟩

theorem VRss.longer {E : Env} {es : List (List V)} {sz : Nat} {l m : List Value} (h : VRss es E sz l) (hm : l.take (es.length * sz) = m.take (es.length * sz)) : VRss es E sz m := by
  refine VRss.of_flat ?_ (hm ▸ h.flat)
  intro e he
  obtain ⟨i, hi, rfl⟩ := List.mem_iff_getElem.1 he
  exact (h.at (List.getElem?_eq_getElem hi)).1

/-- A map's entries, in order. -/
def EntO : List (List V) → Env → List MapEntry → Prop
  | [], _, l => l = []
  | e :: es, E, l => ∃ m l', l = m :: l' ∧ VRs e E [m.key, m.val] ∧ EntO es E l'

theorem EntO.mono {E F : Env} (h : E.Le F) : ∀ {es : List (List V)} {l : List MapEntry}, EntO es E l → EntO es F l
  | [], _, r => r
  | e :: es, l, r => by
    obtain ⟨m, l', hl, hv, hr⟩ := r
    exact ⟨m, l', hl, VRs.mono h _ _ hv, EntO.mono h hr⟩

theorem EntO.length {E : Env} : ∀ {es : List (List V)} {l : List MapEntry}, EntO es E l → l.length = es.length
  | [], _, r => by simp only [EntO] at r; subst r; rfl
  | e :: es, l, r => by
    obtain ⟨m, l', rfl, hv, hr⟩ := r
    simp [EntO.length hr]

theorem EntO.snoc {E : Env} {e : List V} {m : MapEntry} (h : VRs e E [m.key, m.val]) : ∀ {es : List (List V)} {l : List MapEntry}, EntO es E l → EntO (es ++ [e]) E (l ++ [m])
  | [], _, r => by simp only [EntO] at r; subst r; exact ⟨m, [], rfl, h, rfl⟩
  | e' :: es, l, r => by
    obtain ⟨m', l', rfl, hv, hr⟩ := r
    exact ⟨m', l' ++ [m], rfl, hv, EntO.snoc h hr⟩

theorem EntO.perm {E : Env} {es es' : List (List V)} (h : es'.Perm es) : ∀ {l : List MapEntry}, EntO es E l → ∃ l', l'.Perm l ∧ EntO es' E l' := by
  induction h with
  | nil => exact fun {l} hl => ⟨l, .refl _, hl⟩
  | cons e _ ih =>
    rintro l ⟨m, l1, rfl, hv, hr⟩
    obtain ⟨l2, h1, h2⟩ := ih hr
    exact ⟨m :: l2, h1.cons m, m, l2, rfl, hv, h2⟩
  | swap a b t =>
    rintro l ⟨m, l1, rfl, hv, m2, l2, rfl, hv2, hr⟩
    exact ⟨m2 :: m :: l2, .swap _ _ _, m2, _, rfl, hv2, m, l2, rfl, hv, hr⟩
  | trans _ _ ih1 ih2 =>
    intro l hl
    obtain ⟨l1, h1, h2⟩ := ih2 hl
    obtain ⟨l2, h3, h4⟩ := ih1 h2
    exact ⟨l2, h3.trans h1, h4⟩

theorem EntO.at {E : Env} : ∀ {es : List (List V)} {l : List MapEntry} {i : Nat} {m : MapEntry}, EntO es E l → l[i]? = some m → i < es.length
  | _, _, _, _, h, hi => by
    have := (List.getElem?_eq_some_iff.1 hi).1
    rw [h.length] at this
    exact this

/-- A map's entries: their order is not known. -/
def EntR (es : List (List V)) (E : Env) (l : List MapEntry) : Prop := ∃ l', l'.Perm l ∧ EntO es E l'

theorem EntR.mono {E F : Env} (h : E.Le F) {es : List (List V)} {l : List MapEntry} (r : EntR es E l) : EntR es F l := by
  obtain ⟨l', h1, h2⟩ := r
  exact ⟨l', h1, h2.mono h⟩
theorem EntR.nil {E : Env} : EntR [] E [] := ⟨[], .refl _, rfl⟩
theorem EntR.snoc {E : Env} {e : List V} {m : MapEntry} (h : VRs e E [m.key, m.val]) {es : List (List V)} {l : List MapEntry} (r : EntR es E l) : EntR (es ++ [e]) E (l ++ [m]) := by
  obtain ⟨l', h1, h2⟩ := r
  exact ⟨l' ++ [m], h1.append_right _, h2.snoc h⟩
theorem EntR.perm {E : Env} {es es' : List (List V)} (h : es'.Perm es) {l : List MapEntry} (r : EntR es E l) : EntR es' E l := by
  obtain ⟨l', h1, h2⟩ := r
  obtain ⟨l2, h3, h4⟩ := h2.perm h
  exact ⟨l2, h3.trans h1, h4⟩

theorem EntO.set {E : Env} {e : List V} {m : MapEntry} (h : VRs e E [m.key, m.val]) : ∀ {es : List (List V)} {l : List MapEntry} {i : Nat}, EntO es E l → i < es.length → EntO (es.set i e) E (l.set i m)
  | [], _, _, _, hi => by simp at hi
  | e' :: es, l, 0, r, hi => by
    obtain ⟨m', l', rfl, hv, hr⟩ := r
    exact ⟨m, l', rfl, h, hr⟩
  | e' :: es, l, i + 1, r, hi => by
    obtain ⟨m', l', rfl, hv, hr⟩ := r
    exact ⟨m', l'.set i m, rfl, hv, EntO.set h hr (by simpa using hi)⟩

end Go.Ab

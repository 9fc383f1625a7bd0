/-
  A law's arguments, opened into the abstract machine's values by program; and the law's contract from its equation alone.
-/
import Derived.Test.YtfngllcjikmbkaaAbLaw
namespace Go.Ab
open Go Go.RowKit Go.ChangeShapes Go.WideShapes
set_option linter.unusedVariables false
set_option linter.unnecessarySimpa false
set_option linter.unusedSimpArgs false

/-- The kind of a cell. -/
inductive CK where
  | int (k : IntKind)
  | bool
  | str

def fitC : CK → V → Prop
  | .int k, v => ∃ n, v = .int k n ∧ (Lit.int k n).wf = true
  | .bool, v => ∃ b, v = .bool b
  | .str, v => ∃ s : ByteArray, v = .str s ∧ s.size ≤ maxLen

def fitCs : List CK → List V → Prop
  | [], l => l = []
  | c :: cs, l => ∃ v vs, l = v :: vs ∧ fitC c v ∧ fitCs cs vs

theorem fitCs.append : ∀ {a b : List CK} {x y : List V}, fitCs a x → fitCs b y → fitCs (a ++ b) (x ++ y)
  | [], b, x, y, h, k => by simp only [fitCs] at h; subst h; simpa using k
  | c :: a, b, x, y, h, k => by
    simp only [fitCs] at h
    obtain ⟨v, vs, rfl, h1, h2⟩ := h
    exact ⟨v, vs ++ y, rfl, h1, fitCs.append h2 k⟩

theorem fitCs.length : ∀ {a : List CK} {x : List V}, fitCs a x → x.length = a.length
  | [], x, h => by simp only [fitCs] at h; simp [h]
  | c :: a, x, h => by
    obtain ⟨v, vs, rfl, h1, h2⟩ := h
    simp [fitCs.length h2]

/-- The cells of a type, where they are numbers, truth values and texts alone. -/
def flatFs (r : TypeId → Option (List CK)) (P : Program) : Nat → List Field → Option (List CK)
  | _, [] => some []
  | off, f :: fs => (r f.type).bind fun l => if f.offset = off ∧ P.cellsOf f.type = l.length then (flatFs r P (off + l.length) fs).map (l ++ ·) else none

def flat (P : Program) : Nat → TypeId → Option (List CK)
  | 0, _ => none
  | n + 1, t =>
    match P.underlying t with
    | some .bool => some [.bool]
    | some (.int k) => some [.int k]
    | some .string => some [.str]
    | some (.struct fs) => (flatFs (flat P n) P 0 fs.toList).bind fun l => if l.length = P.cellsOf t then some l else none
    | some (.array m e) => (flat P n e).bind fun l => if l.length = P.cellsOf e ∧ m * l.length = P.cellsOf t then some (List.replicate m l).flatten else none
    | _ => none

section
variable {H : Type} {enc : TypeId × Value → H} {P : Program} {w : World} {base : Nat} {spare : Nat → Bool} {held : Bool}

def Opens (l : List CK) (cs : List Value) : Prop := ∃ vs, fitCs l vs ∧ ∀ E, VRs vs E cs

theorem Opens.append {a b : List CK} {x y : List Value} : Opens a x → Opens b y → Opens (a ++ b) (x ++ y) := fun ⟨v, h, k⟩ ⟨u, h', k'⟩ => ⟨v ++ u, h.append h', fun E => (k E).append (k' E)⟩

theorem trod_array {n : Nat} {t e : TypeId} {m : Nat} {cs : List Value} {x : DataW H × List MemPlace} (ht : P.underlying t = some (.array m e)) (h : DataW.trod enc P w base spare held n t cs = some x) :
    cs.length = P.cellsOf t ∧ ∃ n' , ∀ i, i < m → ∃ y, DataW.trod enc P w base spare held n' e ((cs.drop (i * P.cellsOf e)).take (P.cellsOf e)) = some y := by
  cases n with
  | zero => simp [DataW.trod] at h
  | succ n =>
    unfold DataW.trod at h
    rw [ht] at h
    split at h <;> simp_all
    obtain ⟨hl, xs, hp, hd⟩ := h
    refine ⟨n, fun i hi => ?_⟩
    have h1 := mapM_some_get hp i i (by simp [hi])
    have h2 : i < xs.length := by
      have h3 := mapM_some_length hp
      simp at h3
      omega
    rw [List.getElem?_eq_getElem h2] at h1
    exact ⟨_, _, h1⟩

theorem opens_fields {n : Nat} {r : TypeId → Option (List CK)} {cs : List Value}
    (hr : ∀ t l cs x, r t = some l → DataW.trod enc P w base spare held n t cs = some x → Opens l cs) :
    ∀ (fs : List Field) (off : Nat) (l : List CK), flatFs r P off fs = some l → off + l.length ≤ cs.length →
      (∀ f ∈ fs, ∃ y, DataW.trod enc P w base spare held n f.type ((cs.drop f.offset).take (P.cellsOf f.type)) = some y) → Opens l ((cs.drop off).take l.length)
  | [], off, l, h, hc, _ => by
    simp only [flatFs] at h
    cases h
    exact ⟨[], rfl, fun E => by simp [VRs]⟩
  | f :: fs, off, l, h, hc, hy => by
    simp only [flatFs, Option.bind_eq_some_iff] at h
    obtain ⟨l1, h1, h2⟩ := h
    split at h2
    · rename_i hcond
      obtain ⟨l2, h3, rfl⟩ := Option.map_eq_some_iff.1 h2
      obtain ⟨y, hy1⟩ := hy f (by simp)
      have ha := hr _ _ _ _ h1 hy1
      rw [hcond.1, hcond.2] at ha
      simp only [List.length_append] at hc
      have hb := opens_fields hr fs (off + l1.length) l2 h3 (by omega) (fun g hg => hy g (by simp [hg]))
      have hj := ha.append hb
      have he : (cs.drop off).take (l1 ++ l2).length = (cs.drop off).take l1.length ++ (cs.drop (off + l1.length)).take l2.length := by
        rw [List.length_append, List.take_add, List.drop_drop]
      rw [he]
      exact hj
    · cases h2

theorem opens_reps {l : List CK} {cs : List Value} : ∀ (m : Nat), (∀ i, i < m → Opens l ((cs.drop (i * l.length)).take l.length)) → Opens (List.replicate m l).flatten (cs.take (m * l.length))
  | 0, _ => ⟨[], by simp [fitCs], fun E => by simp [VRs]⟩
  | m + 1, h => by
    have h1 := opens_reps m (fun i hi => h i (by omega))
    have h2 := h1.append (h m (by omega))
    rw [List.replicate_succ', List.flatten_append, Nat.add_mul, Nat.one_mul, List.take_add]
    simpa using h2

theorem flat_opens : ∀ (m : Nat) (t : TypeId) (l : List CK) (n : Nat) (cs : List Value) (x : DataW H × List MemPlace), flat P m t = some l → DataW.trod enc P w base spare held n t cs = some x → Opens l cs
  | 0, t, l, n, cs, x, h, _ => by simp [flat] at h
  | m + 1, t, l, n, cs, x, h, hd => by
    simp only [flat] at h
    split at h
    · rename_i hu
      cases h
      obtain ⟨b, rfl, _⟩ := DataW.trod_bool hu hd
      exact ⟨[.bool b], ⟨_, _, rfl, ⟨b, rfl⟩, rfl⟩, fun E => by simp [VRs, VR]⟩
    · rename_i k hu
      cases h
      obtain ⟨b, rfl, _, hw⟩ := DataW.trod_int hu hd
      exact ⟨[.int k b], ⟨_, _, rfl, ⟨b, rfl, hw⟩, rfl⟩, fun E => by simp [VRs, VR]⟩
    · rename_i hu
      cases h
      obtain ⟨b, rfl, _, hw⟩ := DataW.trod_string hu hd
      exact ⟨[.str b], ⟨_, _, rfl, ⟨b, rfl, hw⟩, rfl⟩, fun E => by simp [VRs, VR]⟩
    · rename_i fs hu
      obtain ⟨l', h1, h2⟩ := Option.bind_eq_some_iff.1 h
      split at h2
      · rename_i hlen
        cases h2
        obtain ⟨xs, n', rfl, _, hcl, hxl, hf⟩ := DataW.trod_struct hu hd
        have hall := opens_fields (enc := enc) (w := w) (base := base) (spare := spare) (held := held) (n := n') (cs := cs) (fun t l cs x a b => flat_opens m t l n' cs x a b) fs.toList 0 l h1 (by omega) (fun f hfm => ?_)
        · have e : (cs.drop 0).take l.length = cs := by rw [List.drop_zero, hlen, ← hcl, List.take_length]
          rw [e] at hall
          exact hall
        · obtain ⟨i, hi, rfl⟩ := List.mem_iff_getElem.1 hfm
          have hi' : i < fs.size := by simpa using hi
          have h3 := hf i fs[i] (by simp [hi'])
          rw [List.getElem?_eq_getElem (by omega)] at h3
          exact ⟨_, by simpa using h3⟩
      · cases h2
    · rename_i k e hu
      obtain ⟨l', h1, h2⟩ := Option.bind_eq_some_iff.1 h
      split at h2
      · rename_i hlen
        cases h2
        obtain ⟨hcl, n', hy⟩ := trod_array hu hd
        have hall := opens_reps (l := l') (cs := cs) k (fun i hi => ?_)
        · have e : cs.take (k * l'.length) = cs := by rw [hlen.2, ← hcl, List.take_length]
          rw [e] at hall
          exact hall
        · obtain ⟨y, hy⟩ := hy i hi
          rw [hlen.1]
          exact flat_opens m e l' n' _ y h1 hy
      · cases h2
    · cases h

/-- The kind of a cell that may be a slice. -/
inductive CS where
  | c (k : CK)
  | sl (l : List CK)

/-- The shape of an argument. -/
inductive Sh where
  | one (c : CK)
  | agg (l : List CK)
  | sl (l : List CK)
  | mix (l : List CS)

def fitSl (l : List CK) (v : V) : Prop := v = .nilsl ∨ ∃ els, v = .sl .any l.length els ∧ els.length ≤ maxLen ∧ ∀ e ∈ els, fitCs l e

def fitS : CS → V → Prop
  | .c k, v => fitC k v
  | .sl l, v => fitSl l v

def fitSs : List CS → List V → Prop
  | [], l => l = []
  | c :: cs, l => ∃ v vs, l = v :: vs ∧ fitS c v ∧ fitSs cs vs

theorem fitSs.append : ∀ {a b : List CS} {x y : List V}, fitSs a x → fitSs b y → fitSs (a ++ b) (x ++ y)
  | [], b, x, y, h, k => by simp only [fitSs] at h; subst h; simpa using k
  | c :: a, b, x, y, h, k => by
    simp only [fitSs] at h
    obtain ⟨v, vs, rfl, h1, h2⟩ := h
    exact ⟨v, vs ++ y, rfl, h1, fitSs.append h2 k⟩

theorem fitSs.of : ∀ {a : List CK} {x : List V}, fitCs a x → fitSs (a.map .c) x
  | [], x, h => h
  | c :: a, x, h => by
    simp only [fitCs] at h
    obtain ⟨v, vs, rfl, h1, h2⟩ := h
    exact ⟨v, vs, rfl, h1, fitSs.of h2⟩

def fits : Sh → V → Prop
  | .one c, v => fitC c v
  | .agg l, v => ∃ vs, v = .agg vs ∧ fitCs l vs
  | .sl l, v => fitSl l v
  | .mix l, v => ∃ vs, v = .agg vs ∧ fitSs l vs

/-- A field: plain cells, or a slice of such. -/
def fldS (P : Program) (t : TypeId) : Option (List CS) :=
  match P.underlying t with
  | some (.slice e) => (flat P 9 e).bind fun l => if l.length = P.cellsOf e ∧ 0 < l.length then some [.sl l] else none
  | _ => (flat P 9 t).map (·.map .c)

def flatSs (P : Program) : Nat → List Field → Option (List CS)
  | _, [] => some []
  | off, f :: fs => (fldS P f.type).bind fun l => if f.offset = off ∧ P.cellsOf f.type = l.length then (flatSs P (off + l.length) fs).map (l ++ ·) else none

def shOf (P : Program) (t : TypeId) : Option Sh :=
  match P.underlying t with
  | some (.struct fs) =>
    match flat P 9 t with
    | some l => some (.agg l)
    | none => (flatSs P 0 fs.toList).bind fun l => if l.length = P.cellsOf t then some (.mix l) else none
  | some (.array _ _) => (flat P 9 t).map .agg
  | some (.slice e) => (flat P 9 e).bind fun l => if l.length = P.cellsOf e ∧ 0 < l.length then some (.sl l) else none
  | some .bool => some (.one .bool)
  | some (.int k) => some (.one (.int k))
  | some .string => some (.one .str)
  | _ => none

def Env.of (w : World) : Env := ⟨fun _ _ _ => Option.none, fun b => match w.heap[b]? with | some (.cells c _ _) => some c | _ => Option.none⟩

theorem relM_of {w : World} : RelM (Env.of w) [[]] w := by
  refine ⟨fun b cs h => ?_, fun d s v o h => ?_, fun d s o h hp => ?_, fun d s o h hp => ?_, fun d s v o d' s' v' o' h => ?_, fun d s o h => ?_⟩
  · simp only [Env.of] at h
    split at h
    · rename_i hb
      cases h
      exact ⟨_, _, hb⟩
    · cases h
  all_goals cases h

theorem add_eq {a : Addr} (h : a.spot = none) (k : Nat) : a.add k = ⟨a.block, a.off + k, none⟩ := by
  unfold Addr.add
  split
  · rename_i hk
    subst hk
    cases a
    simp_all
  · rfl

theorem cells_block {a : Addr} {n : Nat} {cs : List Value} (h : w.cells? base a n = some cs) (hn : 0 < n) :
    ∃ C t fr, w.heap[a.block]? = some (.cells C t fr) ∧ a.spot = none ∧ cs = (C.toList.drop a.off).take n := by
  unfold World.cells? at h
  split at h
  · have hl : cs.length = n := by simpa using mapM_some_length h
    have h0 := mapM_some_get h 0 0 (by simp [hn])
    rw [List.getElem?_eq_getElem (by omega)] at h0
    have ha : a.add 0 = a := by simp [Addr.add]
    rw [ha] at h0
    cases hb : w.heap[a.block]? with
    | none => simp [World.cell?, hb] at h0
    | some o =>
      cases o with
      | cells C t fr =>
        have hsp : a.spot = none := by
          cases hs : a.spot with
          | none => rfl
          | some s => simp [World.cell?, hb, hs] at h0
        refine ⟨C, t, fr, rfl, hsp, ?_⟩
        apply List.ext_getElem?
        intro i
        by_cases hi : i < n
        · have h1 := mapM_some_get h i i (by simp [hi])
          rw [add_eq hsp] at h1
          simp only [World.cell?, hb, Option.isSome_none, Bool.false_eq_true, if_false] at h1
          rw [← h1, List.getElem?_take_of_lt hi, List.getElem?_drop]
          simp
        · rw [List.getElem?_eq_none (by omega), List.getElem?_eq_none]
          simp only [List.length_take]
          omega
      | _ => simp [World.cell?, hb] at h0
  · cases h

theorem VRss_of {E : Env} : ∀ {es : List (List V)} {sz : Nat} {l : List Value}, (∀ (i : Nat) e, es[i]? = some e → e.length = sz ∧ VRs e E ((l.drop (i * sz)).take sz)) → VRss es E sz l
  | [], _, _, _ => trivial
  | e :: es, sz, l, h => by
    have h0 := h 0 e rfl
    simp only [Nat.zero_mul, List.drop_zero] at h0
    refine ⟨h0.1, h0.2, VRss_of fun i e' he => ?_⟩
    have h1 := h (i + 1) e' (by simpa using he)
    rw [Nat.add_mul, Nat.one_mul, Nat.add_comm, ← List.drop_drop] at h1
    exact h1

theorem list_of {p : Nat → List V → Prop} : ∀ (n : Nat), (∀ i, i < n → ∃ e, p i e) → ∃ es : List (List V), es.length = n ∧ ∀ i e, es[i]? = some e → p i e
  | 0, _ => ⟨[], rfl, fun i e h => by simp at h⟩
  | n + 1, h => by
    obtain ⟨es, hl, he⟩ := list_of n (fun i hi => h i (by omega))
    obtain ⟨e, hp⟩ := h n (by omega)
    refine ⟨es ++ [e], by simp [hl], fun i e' h' => ?_⟩
    by_cases hi : i < es.length
    · rw [List.getElem?_append_left hi] at h'
      exact he i e' h'
    · rw [List.getElem?_append_right (by omega)] at h'
      have hz : i - es.length = 0 := by
        rcases Nat.eq_zero_or_pos (i - es.length) with hz | hz
        · exact hz
        · rw [List.getElem?_eq_none (by simp; omega)] at h'
          cases h'
      rw [hz] at h'
      simp at h'
      subst h'
      have : i = n := by omega
      subst this
      exact hp

theorem open_sl {t e : TypeId} {l : List CK} (hu : P.underlying t = some (.slice e)) (h1 : flat P 9 e = some l) (hl : l.length = P.cellsOf e ∧ 0 < l.length) {n : Nat} {cs : List Value} {y : DataW H × List MemPlace}
    (hn : DataW.trod enc P w 0 spare held n t cs = some y) : ∃ v, fitSl l v ∧ VRs [v] (Env.of w) cs := by
  rcases DataW.trod_slice hu hn with ⟨hc, _⟩ | ⟨a, len, cap, elems, rest, n', _, hc, _, _, hle, hcap, hel, hget, _, _⟩
  · subst hc
    exact ⟨.nilsl, .inl rfl, by simp [VRs, VR]⟩
  · subst hc
    have hex : ∀ i, i < len → ∃ vs, fitCs l vs ∧ ∃ C t fr, w.heap[a.block]? = some (.cells C t fr) ∧ (i = 0 → a.spot = none) ∧ (a.spot = none → ∀ E, VRs vs E (((C.toList.drop a.off).drop (i * l.length)).take l.length)) := by
      intro i hi
      have h3 := hget i hi
      rw [List.getElem?_eq_getElem (by omega)] at h3
      obtain ⟨cs', h4, h5⟩ := Option.bind_eq_some_iff.1 h3
      obtain ⟨vs, h6, h7⟩ := flat_opens 9 e l n' _ _ h1 h5
      obtain ⟨C, t', fr, h8, h9, h10⟩ := cells_block h4 (by omega)
      have hb : (a.add (i * P.cellsOf e)).block = a.block := by unfold Addr.add; split <;> rfl
      rw [hb] at h8
      refine ⟨vs, h6, C, t', fr, h8, fun hz => ?_, fun hsp E => ?_⟩
      · subst hz
        simpa [Addr.add] using h9
      · have h11 := h7 E
        rw [h10, add_eq hsp, ← hl.1] at h11
        rw [List.drop_drop]
        exact h11
    obtain ⟨els, hlen, hels⟩ := list_of (p := fun i vs => fitCs l vs ∧ ∃ C t fr, w.heap[a.block]? = some (.cells C t fr) ∧ (i = 0 → a.spot = none) ∧ (a.spot = none → ∀ E, VRs vs E (((C.toList.drop a.off).drop (i * l.length)).take l.length))) len hex
    refine ⟨.sl .any l.length els, .inr ⟨els, rfl, by omega, fun e he => ?_⟩, ?_⟩
    · obtain ⟨i, hi, rfl⟩ := List.mem_iff_getElem.1 he
      exact (hels i _ (List.getElem?_eq_getElem hi)).1
    · refine ⟨_, [], rfl, ?_, rfl⟩
      simp only [VR]
      refine ⟨by simp, a, cap, by rw [hlen], by omega, by simp, ?_⟩
      cases els with
      | nil => exact .inl rfl
      | cons e0 es =>
        right
        obtain ⟨_, C, t0, fr, hb, hz, _⟩ := hels 0 e0 rfl
        refine ⟨C, hz rfl, by simp [Env.of, hb], VRss_of fun i e' he => ?_⟩
        obtain ⟨hf, C', t', fr', hb', _, hv'⟩ := hels i e' he
        rw [hb] at hb'
        cases hb'
        exact ⟨hf.length, hv' (hz rfl) _⟩

theorem open_rec {n : Nat} {cs : List Value} : ∀ (fs : List Field) (off : Nat) (l : List CS), flatSs P off fs = some l → off + l.length ≤ cs.length →
      (∀ f ∈ fs, ∃ y, DataW.trod enc P w 0 spare held n f.type ((cs.drop f.offset).take (P.cellsOf f.type)) = some y) → ∃ vs, fitSs l vs ∧ VRs vs (Env.of w) ((cs.drop off).take l.length)
  | [], off, l, h, hc, _ => by
    simp only [flatSs] at h
    cases h
    exact ⟨[], rfl, by simp [VRs]⟩
  | f :: fs, off, l, h, hc, hy => by
    simp only [flatSs, Option.bind_eq_some_iff] at h
    obtain ⟨l1, h1, h2⟩ := h
    split at h2
    · rename_i hcond
      obtain ⟨l2, h3, rfl⟩ := Option.map_eq_some_iff.1 h2
      obtain ⟨y, hy1⟩ := hy f (by simp)
      have ha : ∃ vs, fitSs l1 vs ∧ VRs vs (Env.of w) ((cs.drop f.offset).take (P.cellsOf f.type)) := by
        unfold fldS at h1
        split at h1
        · rename_i e hu
          obtain ⟨l', h4, h5⟩ := Option.bind_eq_some_iff.1 h1
          split at h5
          · rename_i hl
            cases h5
            obtain ⟨v, hv, hx⟩ := open_sl hu h4 hl hy1
            exact ⟨[v], ⟨v, [], rfl, hv, rfl⟩, hx⟩
          · cases h5
        · obtain ⟨l', h4, rfl⟩ := Option.map_eq_some_iff.1 h1
          obtain ⟨vs, hv, hx⟩ := flat_opens 9 _ _ _ _ _ h4 hy1
          exact ⟨vs, .of hv, hx _⟩
      rw [hcond.1, hcond.2] at ha
      obtain ⟨v1, hv1, hx1⟩ := ha
      simp only [List.length_append] at hc
      obtain ⟨v2, hv2, hx2⟩ := open_rec fs (off + l1.length) l2 h3 (by omega) (fun g hg => hy g (by simp [hg]))
      have he : (cs.drop off).take (l1 ++ l2).length = (cs.drop off).take l1.length ++ (cs.drop (off + l1.length)).take l2.length := by
        rw [List.length_append, List.take_add, List.drop_drop]
      rw [he]
      exact ⟨v1 ++ v2, hv1.append hv2, hx1.append hx2⟩
    · cases h2

theorem open_sh {r : Reach} {b0 : Nat} {t : TypeId} {s : Sh} {x : Value} {d : DataW H} {ps : List MemPlace} (h : shOf P t = some s) (hv : Value.okWide P w r b0 t x) (hd : DataW.Trod enc P w 0 spare held t x d ps) :
    ∃ v, fits s v ∧ VR v (Env.of w) x := by
  obtain ⟨n, hn⟩ := hd
  unfold shOf at h
  split at h
  · rename_i fs hu
    obtain ⟨cs, rfl, _⟩ := okWide_struct hu hv
    split at h
    · rename_i l h1
      cases h
      obtain ⟨vs, h2, h3⟩ := flat_opens 9 t l n _ _ h1 hn
      exact ⟨.agg vs, ⟨vs, rfl, h2⟩, by simp only [VR]; exact ⟨cs, rfl, h3 _⟩⟩
    · obtain ⟨l, h1, h2⟩ := Option.bind_eq_some_iff.1 h
      split at h2
      · rename_i hlen
        cases h2
        obtain ⟨xs, n', _, _, hcl, hxl, hf⟩ := DataW.trod_struct hu hn
        have hcl' : cs.toList.length = P.cellsOf t := by simpa [Value.cells] using hcl
        obtain ⟨vs, h3, h4⟩ := open_rec (enc := enc) (w := w) (spare := spare) (held := held) (n := n') (cs := cs.toList) fs.toList 0 l h1 (by omega) (fun f hfm => by
          obtain ⟨i, hi, rfl⟩ := List.mem_iff_getElem.1 hfm
          have hi' : i < fs.size := by simpa using hi
          have h3 := hf i fs[i] (by simp [hi'])
          rw [List.getElem?_eq_getElem (by omega)] at h3
          exact ⟨_, by simpa [Value.cells] using h3⟩)
        have e : (cs.toList.drop 0).take l.length = cs.toList := by rw [List.drop_zero, hlen, ← hcl', List.take_length]
        rw [e] at h4
        exact ⟨.agg vs, ⟨vs, rfl, h3⟩, by simp only [VR]; exact ⟨cs, rfl, h4⟩⟩
      · cases h2
  · rename_i k e hu
    obtain ⟨l, h1, rfl⟩ := Option.map_eq_some_iff.1 h
    have hv' := hv
    simp only [Value.okWide, hu] at hv'
    obtain ⟨cs, rfl, _, _⟩ := hv'
    obtain ⟨vs, h2, h3⟩ := flat_opens 9 t l n _ _ h1 hn
    exact ⟨.agg vs, ⟨vs, rfl, h2⟩, by simp only [VR]; exact ⟨cs, rfl, h3 _⟩⟩
  · rename_i e hu
    obtain ⟨l, h1, h2⟩ := Option.bind_eq_some_iff.1 h
    split at h2
    · rename_i hl
      cases h2
      obtain ⟨a, len, cap, rfl⟩ := okWide_slice hu hv
      obtain ⟨v, h3, h4⟩ := open_sl hu h1 hl hn
      refine ⟨v, h3, ?_⟩
      simpa [VRs, Value.cells] using h4
    · cases h2
  · rename_i hu
    cases h
    obtain ⟨b, rfl⟩ := okWide_bool hu hv
    exact ⟨.bool b, ⟨b, rfl⟩, by simp [VR]⟩
  · rename_i k hu
    cases h
    obtain ⟨b, rfl, _, _, hw⟩ := open_int hu hv ⟨n, hn⟩
    exact ⟨.int k b, ⟨b, rfl, hw⟩, by simp [VR]⟩
  · rename_i hu
    cases h
    obtain ⟨b, rfl⟩ := okWide_string hu hv
    obtain ⟨s, h1, _, h2⟩ := DataW.trod_string hu hn
    simp [Value.cells] at h1
    subst h1
    exact ⟨.str b, ⟨b, rfl, h2⟩, by simp [VR]⟩
  · cases h

end
end Go.Ab

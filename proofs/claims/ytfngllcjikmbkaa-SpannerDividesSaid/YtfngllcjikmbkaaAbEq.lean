/-
  '==' of structs and arrays of numbers and truth values: cell by cell.
-/
import Derived.Test.YtfngllcjikmbkaaAbOpA
namespace Go.Ab
open Go Go.RowKit

/-- A value of a type out of its cells. -/
def pack (P : Program) (t : TypeId) (l : List Value) : Value :=
  match tAgg P t with
  | some true => .agg l.toArray
  | _ => l.headD undef

theorem eqCells_len : ∀ {t : List Bool} {a b : List V} {r : Bool}, eqCells t a b = some r → a.length = t.length ∧ b.length = t.length
  | [], [], [], _, _ => ⟨rfl, rfl⟩
  | false :: t, .int k x :: l, .int k' y :: m, r, h => by
    simp only [eqCells] at h
    split at h
    · obtain ⟨r', h', _⟩ := Option.map_eq_some_iff.1 h
      simp [eqCells_len h']
    · cases h
  | true :: t, .bool x :: l, .bool y :: m, r, h => by
    simp only [eqCells] at h
    obtain ⟨r', h', _⟩ := Option.map_eq_some_iff.1 h
    simp [eqCells_len h']

theorem eqCells_append : ∀ {t₁ t₂ : List Bool} {a b : List V} {r : Bool}, eqCells (t₁ ++ t₂) a b = some r →
    ∃ r₁ r₂, eqCells t₁ (a.take t₁.length) (b.take t₁.length) = some r₁ ∧ eqCells t₂ (a.drop t₁.length) (b.drop t₁.length) = some r₂ ∧ r = (r₁ && r₂)
  | [], t₂, a, b, r, h => ⟨true, r, by simp [eqCells], by simpa using h, by simp⟩
  | u :: t₁, t₂, a, b, r, h => by
    simp only [List.cons_append] at h
    cases a with
    | nil => cases u <;> simp [eqCells] at h
    | cons p a =>
      cases b with
      | nil => cases u <;> cases p <;> simp [eqCells] at h
      | cons q b =>
        cases u <;> cases p <;> cases q <;> simp only [eqCells] at h <;> first | cases h | skip
        · split at h
          · rename_i hk
            obtain ⟨r', h', rfl⟩ := Option.map_eq_some_iff.1 h
            obtain ⟨r₁, r₂, h₁, h₂, rfl⟩ := eqCells_append h'
            exact ⟨_, r₂, by simp only [List.length_cons, List.take_succ_cons, eqCells, hk, h₁, if_true]; rfl, by simpa using h₂, by rw [Bool.and_assoc]⟩
          · cases h
        · obtain ⟨r', h', rfl⟩ := Option.map_eq_some_iff.1 h
          obtain ⟨r₁, r₂, h₁, h₂, rfl⟩ := eqCells_append h'
          exact ⟨_, r₂, by simp only [List.length_cons, List.take_succ_cons, eqCells, h₁]; rfl, by simpa using h₂, by rw [Bool.and_assoc]⟩

theorem run_part {P : Program} {w : World} {t : TypeId} {n : Nat} {g : Bool} (hg : tAgg P t = some g) (hn : tSize P t = some n) (h0 : 0 < n) (l : List Value) (off : Nat) (ho : off + n ≤ l.length) :
    (part t l.toArray off).run P w = .ok (pack P t ((l.drop off).take n)) w := by
  unfold tSize at hn
  obtain ⟨i, hi, rfl⟩ := Option.map_eq_some_iff.1 hn
  unfold part isAgg pack
  simp only [hg]
  unfold tAgg at hg
  cases hd : P.underlying t with
  | none => simp [hd] at hg
  | some d =>
    simp only [hd] at hg
    have hx : l[off]? = some (((l.drop off).take i.size).headD undef) := by
      rw [List.headD_eq_head?_getD, List.head?_take, List.head?_drop]
      have h1 : off < l.length := by omega
      have h2 : i.size ≠ 0 := by omega
      simp [List.getElem?_eq_getElem h1, h2]
    cases d <;> cases hg <;> simp only [run_underlying hd, sizeOf, typeInfo, hi, Sem.run_bind, Result.andThen_ok, Sem.run_pure, if_true, if_false, Bool.false_eq_true, run_program, List.getElem?_toArray, hx]
    all_goals first
      | rfl
      | (simp [List.extract_eq_take_drop])

theorem pack_agg {P : Program} {t : TypeId} (h : tAgg P t = some true) (l : List Value) : pack P t l = .agg l.toArray := by simp [pack, h]

theorem run_eqRow {P : Program} {E : Env} {e : TypeId} {k : List Bool} {d : Nat} {g : Bool}
    (hel : ∀ (w : World) (a b : List V) (xs ys : List Value) (r : Bool), VRs a E xs → VRs b E ys → eqCells k a b = some r → (Op.equalIn d e (pack P e xs) (pack P e ys)).run P w = .ok r w)
    (hg : tAgg P e = some g) (hsz : tSize P e = some k.length) (hk : 0 < k.length) {a b : List V} {xs ys : List Value} (ha : VRs a E xs) (hb : VRs b E ys) :
    ∀ (m s : Nat) (r : Bool) (w : World), eqCells (List.replicate m k).flatten (a.drop (s * k.length)) (b.drop (s * k.length)) = some r →
      (forIn (List.range' s m) ((none, ()) : Option Bool × Unit) fun i _ => do
        let p ← part e xs.toArray (i * k.length)
        let q ← part e ys.toArray (i * k.length)
        let c ← Op.equalIn d e p q
        if (!c) = true then pure (ForInStep.done (some false, ())) else pure (ForInStep.yield (none, ())) : Sem (Option Bool × Unit)).run P w =
        .ok (if r then (none, ()) else (some false, ())) w
  | 0, s, r, w, he => by
    have : r = true := by
      revert he
      cases a.drop (s * k.length) <;> cases b.drop (s * k.length) <;> simp [eqCells]
    subst this
    simp
  | m + 1, s, r, w, he => by
    simp only [List.replicate_succ, List.flatten_cons] at he
    obtain ⟨r₁, r₂, h₁, h₂, rfl⟩ := eqCells_append he
    have hlen := eqCells_len h₁
    have hla := ha.length
    have hlb := hb.length
    simp only [List.length_take, List.length_drop] at hlen
    have p1 := run_part (P := P) (w := w) hg hsz hk xs (s * k.length) (by omega)
    have p2 := run_part (P := P) (w := w) hg hsz hk ys (s * k.length) (by omega)
    have h3 := hel w _ _ _ _ r₁ ((ha.drop (s * k.length)).take k.length) ((hb.drop (s * k.length)).take k.length) h₁
    rw [List.range'_succ, List.forIn_cons]
    simp only [Sem.run_bind, p1, p2, Result.andThen_ok, h3]
    cases r₁
    · simp
    · rw [List.drop_drop, List.drop_drop, show s * k.length + k.length = (s + 1) * k.length by rw [Nat.succ_mul]] at h₂
      have ih := run_eqRow hel hg hsz hk ha hb m (s + 1) r₂ w h₂
      simpa using ih

mutual
theorem run_plainEq {P : Program} {E : Env} : ∀ (D : Nat) (t : TypeId) (lay : List Bool), plainEq P D t = some lay → ∀ (w : World) (d : Nat), D ≤ d → ∀ (a b : List V) (xs ys : List Value) (r : Bool),
    VRs a E xs → VRs b E ys → eqCells lay a b = some r → (Op.equalIn d t (pack P t xs) (pack P t ys)).run P w = .ok r w
  | 0, _, _, h, _, _, _, _, _, _, _, _, _, _, _ => by simp [plainEq] at h
  | D + 1, t, lay, h, w, 0, hd, _, _, _, _, _, _, _, _ => by omega
  | D + 1, t, lay, h, w, d + 1, hd, a, b, xs, ys, r, ha, hb, he => by
    have hd' : D ≤ d := by omega
    simp only [plainEq] at h
    split at h
    · rename_i ht; cases h
      have hg : tAgg P t = some false := by simp [tAgg, ht]
      have hle := eqCells_len he
      match a, b, he with
      | [.bool p], [.bool q], he =>
        simp only [VRs, VR] at ha hb
        obtain ⟨x, _, rfl, rfl, rfl⟩ := ha
        obtain ⟨y, _, rfl, rfl, rfl⟩ := hb
        simp only [eqCells, Option.map_some, Option.some.injEq, Bool.and_true] at he; subst he
        simp only [pack, hg, List.headD_cons]
        exact run_equalIn_bool' w d t _ _ ht
    · rename_i k ht; cases h
      have hg : tAgg P t = some false := by simp [tAgg, ht]
      have hle := eqCells_len he
      match a, b, he with
      | [.int k p], [.int k' q], he =>
        simp only [VRs, VR] at ha hb
        obtain ⟨x, _, rfl, rfl, rfl⟩ := ha
        obtain ⟨y, _, rfl, rfl, rfl⟩ := hb
        simp only [eqCells] at he
        split at he
        · rename_i hkk; subst hkk
          simp only [Option.map_some, Option.some.injEq, Bool.and_true] at he; subst he
          simp only [pack, hg, List.headD_cons]
          rw [run_equalIn_int w d t _ _ _ _ ht]; rfl
        · cases he
    · rename_i fs ht
      split at h
      · cases h
      · rename_i hp
        have hg : tAgg P t = some true := by simp [tAgg, ht]
        rw [pack_agg hg, pack_agg hg]
        have hff : P.fieldsOf t = fs := by simp [Program.fieldsOf, ht]
        rw [run_equalIn_struct w d t _ _ (by rw [ht, hff]) (by simpa using hp), hff]
        exact run_plainEqs D 0 fs.toList lay h w d hd' a b xs ys r ha hb (by simpa using he)
    · rename_i n e ht
      simp only [Option.bind_eq_some_iff] at h
      obtain ⟨k, hk, h⟩ := h
      split at h
      · rename_i hsz; cases h
        have hg : tAgg P t = some true := by simp [tAgg, ht]
        rw [pack_agg hg, pack_agg hg]
        simp only [Op.equalIn, Sem.run_bind, run_underlying ht, Result.andThen_ok, sizeOf, typeInfo, run_program]
        obtain ⟨i, hi, hik⟩ := Option.map_eq_some_iff.1 hsz.1
        simp only [hi, Sem.run_pure, Result.andThen_ok, hik]
        have hg' : ∃ g, tAgg P e = some g := by
          cases D with
          | zero => simp [plainEq] at hk
          | succ D =>
            simp only [plainEq] at hk
            unfold tAgg
            split at hk <;> simp_all
        obtain ⟨g', hg'⟩ := hg'
        obtain ⟨hsz, hk1⟩ := hsz
        rw [Std.Legacy.Range.forIn_eq_forIn_range']
        simp only [Std.Legacy.Range.size, Nat.sub_zero, Nat.add_sub_cancel, Nat.div_one]
        have hrow := run_eqRow (P := P) (E := E) (e := e) (k := k) (d := d) (fun w' a' b' xs' ys' r' h1 h2 h3 => run_plainEq D e k hk w' d hd' a' b' xs' ys' r' h1 h2 h3) hg' hsz hk1 ha hb n 0 r w (by simpa using he)
        rw [hrow]
        cases r <;> rfl
      · cases h
    · cases h
theorem run_plainEqs {P : Program} {E : Env} : ∀ (D off : Nat) (fs : List Field) (lay : List Bool), plainEqs P D off fs = some lay → ∀ (w : World) (d : Nat), D ≤ d → ∀ (a b : List V) (xs ys : List Value) (r : Bool),
    VRs a E xs → VRs b E ys → eqCells lay (a.drop off) (b.drop off) = some r → (Op.eqFields d xs.toArray ys.toArray fs).run P w = .ok r w
  | D, off, [], lay, h, w, d, _, a, b, xs, ys, r, _, _, he => by
    have : lay = [] := by cases D <;> simpa [plainEqs] using h.symm
    subst this
    have : r = true := by
      revert he
      cases a.drop off <;> cases b.drop off <;> simp [eqCells]
    subst this
    simp [Op.eqFields]
  | 0, off, f :: fs, lay, h, _, _, _, _, _, _, _, _, _, _, _ => by simp [plainEqs] at h
  | D + 1, off, f :: fs, lay, h, w, d, hd, a, b, xs, ys, r, ha, hb, he => by
    simp only [plainEqs] at h
    split at h
    · rename_i hf
      simp only [Option.bind_eq_some_iff] at h
      obtain ⟨k, hk, h⟩ := h
      split at h
      · rename_i hsz
        obtain ⟨lay', hl', rfl⟩ := Option.map_eq_some_iff.1 h
        obtain ⟨r₁, r₂, h₁, h₂, rfl⟩ := eqCells_append he
        have hlen := eqCells_len h₁
        have hla := ha.length
        have hlb := hb.length
        simp only [List.length_take, List.length_drop] at hlen
        have hg : ∃ g, tAgg P f.type = some g := by
          cases D with
          | zero => simp [plainEq] at hk
          | succ D =>
            simp only [plainEq] at hk
            unfold tAgg
            split at hk <;> simp_all
        obtain ⟨g, hg⟩ := hg
        have p1 := run_part (P := P) (w := w) hg hsz.1 hsz.2 xs off (by omega)
        have p2 := run_part (P := P) (w := w) hg hsz.1 hsz.2 ys off (by omega)
        have h3 := run_plainEq (P := P) (E := E) D f.type k hk w d (by omega) _ _ _ _ r₁ ((ha.drop off).take k.length) ((hb.drop off).take k.length) h₁
        simp only [Op.eqFields, if_pos hf.1, Sem.run_bind, hf.2, p1, p2, Result.andThen_ok, h3]
        cases r₁
        · simp
        · rw [List.drop_drop, List.drop_drop] at h₂
          have h4 := run_plainEqs D (off + k.length) fs lay' hl' w d (by omega) a b xs ys r₂ ha hb h₂
          simpa using h4
      · cases h
    · cases h
end

end Go.Ab

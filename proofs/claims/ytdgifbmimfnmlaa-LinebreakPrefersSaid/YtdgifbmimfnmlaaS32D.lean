/-
  Line breaks: the cost of a division.
-/
import Derived.Test.YtdgifbmimfnmlaaS32C
namespace Go.Proofs.Ytdgifbmimfnmlaa
open Go Go.Ab
set_option linter.unusedVariables false
set_option linter.unnecessarySimpa false
set_option linter.unusedSimpArgs false
set_option maxRecDepth 100000
variable {H : List (List Row)}

def zs (d : List Nat) : List Int := d.map fun x => ((x : Nat) : Int)
theorem zs_len (d : List Nat) : (zs d).length = d.length := by simp [zs]
theorem zs_get {d : List Nat} {i a : Nat} (h : d[i]? = some a) : (zs d)[i]? = some ((a : Nat) : Int) := by simp [zs, h]
theorem zs_none {d : List Nat} {i : Nat} (h : d[i]? = none) : (zs d)[i]? = none := by
  rw [List.getElem?_eq_none_iff] at h ⊢
  rw [zs_len]
  exact h

theorem divB_nat {n : Nat} : ∀ (t : List Int) (p : Nat), divB n (some (p : Nat)) t = true → ∃ d, t = zs d ∧ (p < n → Path.isD n (p :: d))
  | [], p, _ => ⟨[], rfl, fun h => h⟩
  | x :: t, p, h => by
    simp only [divB, Bool.and_eq_true, decide_eq_true_eq] at h
    obtain ⟨⟨h1, h2⟩, h3⟩ := h
    obtain ⟨y, rfl⟩ : ∃ y : Nat, x = (y : Nat) := ⟨x.toNat, by omega⟩
    obtain ⟨d, rfl, h4⟩ := divB_nat t y h3
    exact ⟨y :: d, rfl, fun _ => ⟨by omega, h4 (by omega)⟩⟩
/-- A list that is taken for a division begins with 0 and grows. -/
theorem divR_nat {n : Nat} {l : List Int} (h : divR n l = true) : ∃ t, l = zs (0 :: t) ∧ Path.isD n (0 :: t) := by
  unfold divR at h
  simp only [Bool.and_eq_true, decide_eq_true_eq] at h
  obtain ⟨h2, h1⟩ := h
  cases l with
  | nil => simp at h2
  | cons x t =>
    simp only [divB, Bool.and_eq_true, decide_eq_true_eq] at h1
    obtain ⟨⟨rfl, h4⟩, h5⟩ := h1
    obtain ⟨d, rfl, h6⟩ := divB_nat t 0 h5
    exact ⟨d, rfl, h6 (by omega)⟩

theorem isD_hd {n : Nat} : ∀ (t : List Nat) (c : Nat), Path.isD n (c :: t) → c < n
  | [], c, h => h
  | e :: t, c, h => by have := isD_hd t e h.2; have := h.1; omega
theorem isD_drop {n : Nat} : ∀ (d : List Nat) (i : Nat) {a : Nat} {t : List Nat}, Path.isD n d → d.drop i = a :: t → Path.isD n (a :: t)
  | [], i, a, t, h, _ => absurd h id
  | x :: d, 0, a, t, h, e => by
    simp only [List.drop_zero] at e
    rw [← e]
    exact h
  | [x], i + 1, a, t, h, e => by simp at e
  | x :: y :: d, i + 1, a, t, h, e => isD_drop (y :: d) i h.2 e
theorem isD_back {n : Nat} : ∀ (d : List Nat), Path.isD n d → ∀ (p : Nat), (∀ a t, d = a :: t → p < a) → divB n (some (p : Nat)) (zs d) = true
  | [], h, _, _ => absurd h id
  | [a], h, p, hp => by
    have := hp a [] rfl
    have h' : a < n := h
    simp only [zs, List.map_cons, List.map_nil, divB, Bool.and_true, Bool.and_eq_true, decide_eq_true_eq]
    omega
  | a :: b :: t, h, p, hp => by
    have h1 := hp a _ rfl
    have h2 := isD_hd _ _ h
    have h3 := isD_back (b :: t) h.2 a (fun c u e => by injection e with e1 _; rw [← e1]; exact h.1)
    rw [zs, List.map_cons, divB]
    rw [zs] at h3
    rw [h3]
    simp only [Bool.and_true, Bool.and_eq_true, decide_eq_true_eq]
    omega
theorem isD_divR {n : Nat} {t : List Nat} (h : Path.isD n (0 :: t)) : divR n (zs (0 :: t)) = true := by
  have h0 := isD_hd _ _ h
  unfold divR
  have h1 : divB n none (zs (0 :: t)) = true := by
    rw [zs, List.map_cons, divB]
    have : divB n (some ((0 : Nat) : Int)) (zs t) = true := by
      cases t with
      | nil => rfl
      | cons b u => exact isD_back (b :: u) h.2 0 (fun a w e => by injection e with e1 _; rw [← e1]; exact h.1)
    rw [zs] at this
    rw [this]
    simp only [Bool.and_true, Bool.and_eq_true, decide_eq_true_eq]
    omega
  rw [h1]
  simp [zs]
theorem isD_len {n : Nat} : ∀ (d : List Nat) (a : Nat), Path.isD n (a :: d) → a + d.length < n
  | [], a, h => h
  | b :: t, a, h => by
    have := isD_len t b h.2
    have := h.1
    simp only [List.length_cons]
    omega
theorem isD_ge {n : Nat} : ∀ (t : List Nat) (a j x : Nat), Path.isD n (a :: t) → (a :: t)[j]? = some x → a + j ≤ x ∧ x < n
  | t, a, 0, x, h, e => by
    simp only [List.getElem?_cons_zero, Option.some.injEq] at e
    subst e
    exact ⟨by omega, isD_hd _ _ h⟩
  | [], a, j + 1, x, h, e => by simp at e
  | b :: t, a, j + 1, x, h, e => by
    rw [List.getElem?_cons_succ] at e
    have := isD_ge t b j x h.2 e
    have := h.1
    omega

/-- The width that there is for a line. -/
def room (w d : Int) (a : Nat) : Int := if a = 0 then w - d else w
theorem room_in {w d : Int} (h : inP w d) (a : Nat) : 0 ≤ room w d a ∧ room w d a ≤ 16777216 := by
  unfold inP at h
  unfold room
  split <;> omega
abbrev cF (l : List Me) (w d : Int) : Nat → Nat → Bool → Bool → Int := fun a b _ _ => cst l (room w d a) a b
/-- The cost of a division. -/
abbrev tt (l : List Me) (w d : Int) (s : Bool) (D : List Nat) : Int := Path.tot (cF l w d) l.length inf s D
theorem tt_s (l : List Me) (w d : Int) : ∀ (D : List Nat) (s : Bool), tt l w d s D = tt l w d true D
  | [], s => rfl
  | [a], s => rfl
  | a :: b :: t, s => by
    simp only [tt, Path.tot]
    rw [show Path.tot (cF l w d) l.length inf (!s) (b :: t) = _ from tt_s l w d (b :: t) (!s), show Path.tot (cF l w d) l.length inf (!true) (b :: t) = _ from tt_s l w d (b :: t) (!true)]

/-- Not possible, or so many lines' cost at most. -/
def Bd (k : Nat) (x : Int) : Prop := x = inf ∨ (0 ≤ x ∧ x ≤ k * 100000100)
theorem Bd_add {j k : Nat} {x y : Int} (h : Bd j x) (h' : Bd k y) (hk : j + k ≤ 2047) : Bd (j + k) (Path.addI inf x y) := by
  have := hinf
  unfold Bd at *
  unfold Path.addI
  split <;> omega
theorem addI_assoc {i j k : Nat} {x y z : Int} (hx : Bd i x) (hy : Bd j y) (hz : Bd k z) (h : i + j + k ≤ 2047) : Path.addI inf (Path.addI inf x y) z = Path.addI inf x (Path.addI inf y z) := by
  have := hinf
  unfold Bd at *
  by_cases h1 : inf ≤ x
  · simp only [Path.addI, h1, Int.le_refl, true_or, if_true]
  by_cases h2 : inf ≤ y
  · simp only [Path.addI, h2, Int.le_refl, true_or, or_true, if_true]
  by_cases h3 : inf ≤ z
  · simp only [Path.addI, h3, Int.le_refl, or_true, if_true]
  · have e1 : Path.addI inf x y = x + y := by unfold Path.addI; rw [if_neg (by omega)]
    have e2 : Path.addI inf y z = y + z := by unfold Path.addI; rw [if_neg (by omega)]
    rw [e1, e2]
    unfold Path.addI
    rw [if_neg (by omega), if_neg (by omega)]
    omega
theorem addI_0 {k : Nat} {x : Int} (h : Bd k x) (hk : k ≤ 2047) : Path.addI inf x 0 = x := by
  have := hinf
  unfold Bd at h
  unfold Path.addI
  split <;> omega
theorem addI_0' {k : Nat} {x : Int} (h : Bd k x) (hk : k ≤ 2047) : Path.addI inf 0 x = x := by
  have := hinf
  unfold Bd at h
  unfold Path.addI
  split <;> omega
theorem cst_Bd (l : List Me) (w : Int) (a b : Nat) : Bd 1 (cst l w a b) := by
  rcases cst_in l w a b with h | h
  · exact .inl h
  · exact .inr ⟨by omega, by omega⟩
theorem tt_Bd (l : List Me) (w d : Int) : ∀ (D : List Nat) (s : Bool), D.length ≤ 2000 → Bd D.length (tt l w d s D)
  | [], s, _ => .inr ⟨Int.le_refl _, by simp [tt, Path.tot]⟩
  | [a], s, _ => cst_Bd _ _ _ _
  | a :: b :: t, s, h => by
    have h1 := tt_Bd l w d (b :: t) (!s) (by simp only [List.length_cons] at h ⊢; omega)
    have h2 := Bd_add (cst_Bd l (room w d a) a b) h1 (by simp only [List.length_cons] at h ⊢; omega)
    rw [Nat.add_comm] at h2
    exact h2

/-- The next line of a division. -/
theorem nextL {l : List Me} {w d : Int} {D t : List Nat} {i a : Nat} (hD : Path.isD l.length (0 :: D)) (ht : (0 :: D).drop i = a :: t) :
    a < l.length ∧ (i = 0 ↔ a = 0) ∧ t.length + i = D.length ∧ (0 :: D)[i]? = some a ∧
    ((t = [] ∧ (0 :: D)[i + 1]? = none ∧ tt l w d true (a :: t) = cst l (room w d a) a l.length) ∨
     (∃ b u, t = b :: u ∧ (0 :: D)[i + 1]? = some b ∧ a < b ∧ b < l.length ∧ tt l w d true (a :: t) = Path.addI inf (cst l (room w d a) a b) (tt l w d true t))) := by
  have h1 := isD_drop _ i hD ht
  obtain ⟨e1, e2, e3⟩ := drop_cons ht
  have htl : t.length + i = D.length := by
    have := congrArg List.length ht
    simp only [List.length_drop, List.length_cons] at this
    omega
  have hg := isD_ge D 0 i a hD e1
  refine ⟨isD_hd _ _ h1, ⟨fun h => ?_, fun h => by omega⟩, htl, e1, ?_⟩
  · subst h
    simp only [List.drop_zero] at ht
    injection ht with h2 _
    exact h2.symm
  · cases t with
    | nil =>
      refine .inl ⟨rfl, ?_, rfl⟩
      rw [List.getElem?_eq_none_iff]
      simp only [List.length_cons, List.length_nil] at htl ⊢
      omega
    | cons b u =>
      obtain ⟨f1, _, _⟩ := drop_cons e2
      refine .inr ⟨b, u, rfl, f1, h1.1, isD_hd _ _ h1.2, ?_⟩
      show Path.addI inf _ _ = _
      rw [show Path.tot (cF l w d) l.length inf (!true) (b :: u) = tt l w d true (b :: u) from tt_s l w d (b :: u) (!true)]

theorem loop14 {k : List KI} {v y : V} {l : List Me} {w d : Int} {D : List Nat} {L : List Row} (he : errL l = 0) (hp : inP w d) (hv : SlV 5 v (E5 l)) (hy : SlV 1 y (I1 (zs (0 :: D)))) (hD : Path.isD l.length (0 :: D))
    (hx : ∀ fr' S, Ab.get fr' 11 = .i S → Gx tbl H [.tmp 8, .tmp 9] 0 k fr' L = some (.tup [.i S, .i 0])) :
    ∀ (t : List Nat) (i : Nat) (S : Int) (fr : List V), (0 :: D).drop i = t → i ≤ D.length + 1 → (0 ≤ S ∧ S ≤ i * 100000100) → Ab.get fr 0 = v → Ab.get fr 1 = y → Ab.get fr 2 = .i w → Ab.get fr 3 = .i d → Ab.get fr 11 = .i S → Ab.get fr 29 = y → Ab.get fr 30 = .i (D.length + 1 : Nat) → Ab.get fr 31 = .i (i : Nat) →
    G tbl H [.tmp 8, .tmp 9] (.code (.loop ( (.seq ( .region [] [ ⟨some 32, .bin .lss (.t 31) (.t 30), none⟩]) ( (.seq ( (.cond (.t 32) ( .skip) ( .exit 0))) ( (.seq ( (.block 1 ( (.seq ( .region [] [ ⟨some 33, .mv (.t 31), none⟩, ⟨some 34, .elemAddr 1 (.t 29) (.t 31), none⟩, ⟨some 35, .load false 1 (.t 34), none⟩, ⟨some 12, .mv (.t 33), none⟩, ⟨some 13, .mv (.t 35), none⟩]) ( (.seq ( .region [] [ ⟨some 36, .mv (.t 0), none⟩, ⟨some 37, .len (.t 36), none⟩, ⟨some 38, .bin .sub (.t 37) (.c (.int .i64 1)), none⟩, ⟨some 39, .mv (.t 2), none⟩, ⟨some 14, .mv (.t 38), none⟩, ⟨some 15, .mv (.t 39), none⟩]) ( (.seq ( (.seq ( .region [] [ ⟨some 40, .mv (.t 12), none⟩, ⟨some 41, .bin .eql (.t 40) (.c (.int .i64 0)), none⟩]) ( (.cond (.t 41) ( .region [] [ ⟨some 42, .mv (.t 2), none⟩, ⟨some 43, .mv (.t 3), none⟩, ⟨some 44, .bin .sub (.t 42) (.t 43), none⟩, ⟨some 15, .mv (.t 44), none⟩]) ( .skip))))) ( (.seq ( (.seq ( .region [] [ ⟨some 45, .mv (.t 12), none⟩, ⟨some 46, .bin .add (.t 45) (.c (.int .i64 1)), none⟩, ⟨some 47, .mv (.t 1), none⟩, ⟨some 48, .len (.t 47), none⟩, ⟨some 49, .bin .lss (.t 46) (.t 48), none⟩]) ( (.cond (.t 49) ( .region [] [ ⟨some 50, .mv (.t 1), none⟩, ⟨some 51, .mv (.t 12), none⟩, ⟨some 52, .bin .add (.t 51) (.c (.int .i64 1)), none⟩, ⟨some 53, .elemAddr 1 (.t 50) (.t 52), none⟩, ⟨some 54, .load false 1 (.t 53), none⟩, ⟨some 55, .bin .sub (.t 54) (.c (.int .i64 1)), none⟩, ⟨some 14, .mv (.t 55), none⟩]) ( .skip))))) ( (.seq ( .region [] [ ⟨some 56, .mv (.t 0), none⟩, ⟨some 57, .mv (.t 13), none⟩, ⟨some 58, .mv (.t 14), none⟩, ⟨some 59, .mv (.t 15), none⟩, ⟨some 60, .call 0 (.c (.fn 28 [])) [(.t 56), (.t 57), (.t 58), (.t 59)], none⟩, ⟨some 16, .mv (.t 60), none⟩]) ( (.seq ( (.seq ( .region [] [ ⟨some 61, .mv (.t 16), none⟩, ⟨some 62, .bin .geq (.t 61) (.c (.int .i64 1125899906842624)), none⟩]) ( (.cond (.t 62) ( (.seq ( .region [] [ ⟨some 8, .mv (.c (.int .i64 1125899906842624)), none⟩, ⟨some 9, .mv (.c (.int .i64 0)), none⟩]) ( .ret))) ( .skip))))) ( .region [] [ ⟨some 63, .mv (.t 11), none⟩, ⟨some 64, .mv (.t 16), none⟩, ⟨some 65, .bin .add (.t 63) (.t 64), none⟩, ⟨some 11, .mv (.t 65), none⟩]))))))))))))))) ( .region [] [ ⟨some 66, .bin .add (.t 31) (.c (.int .i64 1)), none⟩, ⟨some 31, .mv (.t 66), none⟩])))))))) :: k) fr L = some (.tup [.i (Path.addI inf S (tt l w d true t)), .i 0]) := by
  intro t
  have hly := hy.len
  rw [I1_len, zs_len, List.length_cons] at hly
  have hlv := hv.len
  rw [E5_len] at hlv
  obtain ⟨hl0, hl1, _⟩ := errL_ok he
  have hDl := isD_len _ _ hD
  induction t with
  | nil =>
    intro i S fr ht hi hS h0 h1 h2 h3 h11 h29 h30 h31
    have := drop_nil ht
    simp only [List.length_cons] at this
    rw [show tt l w d true [] = 0 from rfl, addI_0 (k := i) (.inr hS) (by omega)]
    refine G_loop.trans ?_
    simp (config := { maxSteps := 10000000 }) (disch := omega) only [↓G_seq, ↓G_exit, ↓G_region, ↓G_cond, ↓Gx_code, ↓G_ops_nil, ↓G_op, Gv_some, Gc_false, dec_f, killAll, ↓get_setS, evalOp, ev, b_lss, one, Option.map_some, List.getElem?_cons_zero, List.getElem?_cons_succ, ↓reduceIte, h30, h31]
    refine hx _ _ ?_
    simp (config := { maxSteps := 10000000 }) (disch := omega) only [↓get_setS, List.getElem?_cons_zero, List.getElem?_cons_succ, Nat.reduceEqDiff, ↓reduceIte, h11]
  | cons a t ih =>
    intro i S fr ht hi hS h0 h1 h2 h3 h11 h29 h30 h31
    obtain ⟨ha, hi0, htl, e1, hnx⟩ := nextL (w := w) (d := d) hD ht
    obtain ⟨_, e2, _⟩ := drop_cons ht
    have hE := hy.el (I1_get _ i _ (zs_get e1))
    have hwr : (if a = 0 then w - d else w) = room w d a := rfl
    have hrm := room_in hp a
    obtain ⟨b, hab, hbl, htt, hb⟩ : ∃ b : Nat, a < b ∧ b ≤ l.length ∧ tt l w d true (a :: t) = Path.addI inf (cst l (room w d a) a b) (tt l w d true t) ∧
        ((t = [] ∧ b = l.length) ∨ (t ≠ [] ∧ elemV 1 y (.i ((i : Nat) + 1 : Int)) = some (.eptr [.i (b : Nat)] 0))) := by
      rcases hnx with ⟨rfl, _, q⟩ | ⟨b, u, rfl, f1, q1, q2, q3⟩
      · refine ⟨l.length, ha, Nat.le_refl _, ?_, .inl ⟨rfl, rfl⟩⟩
        rw [q, show tt l w d true [] = 0 from rfl, addI_0 (cst_Bd _ _ _ _) (by omega)]
      · have hE2 := hy.el (I1_get _ (i + 1) _ (zs_get f1))
        exact ⟨b, q1, by omega, q3, .inr ⟨by simp, by simpa using hE2⟩⟩
    have h28 := fun H w => c28 (H := H) (w := w) he hab hbl hv
    have hc := cst_in l (room w d a) a b
    have htb := tt_Bd l w d t true (by omega)
    have hS' : Bd i S := .inr hS
    rw [htt, ← addI_assoc hS' (cst_Bd _ _ _ _) htb (by omega)]
    have hlast : (t = [] ∧ i = D.length) ∨ (t ≠ [] ∧ i < D.length) := by
      cases t with
      | nil => exact .inl ⟨rfl, by simpa using htl⟩
      | cons b u => exact .inr ⟨by simp, by simp only [List.length_cons] at htl; omega⟩
    have next : ∀ c fr', c = S + cst l (room w d a) a b → c < inf → Ab.get fr' 0 = v → Ab.get fr' 1 = y → Ab.get fr' 2 = .i w → Ab.get fr' 3 = .i d → Ab.get fr' 11 = .i c → Ab.get fr' 29 = y → Ab.get fr' 30 = .i (D.length + 1 : Nat) → Ab.get fr' 31 = .i ((i : Nat) + 1) →
        G tbl H [.tmp 8, .tmp 9] (.code (.loop ( (.seq ( .region [] [ ⟨some 32, .bin .lss (.t 31) (.t 30), none⟩]) ( (.seq ( (.cond (.t 32) ( .skip) ( .exit 0))) ( (.seq ( (.block 1 ( (.seq ( .region [] [ ⟨some 33, .mv (.t 31), none⟩, ⟨some 34, .elemAddr 1 (.t 29) (.t 31), none⟩, ⟨some 35, .load false 1 (.t 34), none⟩, ⟨some 12, .mv (.t 33), none⟩, ⟨some 13, .mv (.t 35), none⟩]) ( (.seq ( .region [] [ ⟨some 36, .mv (.t 0), none⟩, ⟨some 37, .len (.t 36), none⟩, ⟨some 38, .bin .sub (.t 37) (.c (.int .i64 1)), none⟩, ⟨some 39, .mv (.t 2), none⟩, ⟨some 14, .mv (.t 38), none⟩, ⟨some 15, .mv (.t 39), none⟩]) ( (.seq ( (.seq ( .region [] [ ⟨some 40, .mv (.t 12), none⟩, ⟨some 41, .bin .eql (.t 40) (.c (.int .i64 0)), none⟩]) ( (.cond (.t 41) ( .region [] [ ⟨some 42, .mv (.t 2), none⟩, ⟨some 43, .mv (.t 3), none⟩, ⟨some 44, .bin .sub (.t 42) (.t 43), none⟩, ⟨some 15, .mv (.t 44), none⟩]) ( .skip))))) ( (.seq ( (.seq ( .region [] [ ⟨some 45, .mv (.t 12), none⟩, ⟨some 46, .bin .add (.t 45) (.c (.int .i64 1)), none⟩, ⟨some 47, .mv (.t 1), none⟩, ⟨some 48, .len (.t 47), none⟩, ⟨some 49, .bin .lss (.t 46) (.t 48), none⟩]) ( (.cond (.t 49) ( .region [] [ ⟨some 50, .mv (.t 1), none⟩, ⟨some 51, .mv (.t 12), none⟩, ⟨some 52, .bin .add (.t 51) (.c (.int .i64 1)), none⟩, ⟨some 53, .elemAddr 1 (.t 50) (.t 52), none⟩, ⟨some 54, .load false 1 (.t 53), none⟩, ⟨some 55, .bin .sub (.t 54) (.c (.int .i64 1)), none⟩, ⟨some 14, .mv (.t 55), none⟩]) ( .skip))))) ( (.seq ( .region [] [ ⟨some 56, .mv (.t 0), none⟩, ⟨some 57, .mv (.t 13), none⟩, ⟨some 58, .mv (.t 14), none⟩, ⟨some 59, .mv (.t 15), none⟩, ⟨some 60, .call 0 (.c (.fn 28 [])) [(.t 56), (.t 57), (.t 58), (.t 59)], none⟩, ⟨some 16, .mv (.t 60), none⟩]) ( (.seq ( (.seq ( .region [] [ ⟨some 61, .mv (.t 16), none⟩, ⟨some 62, .bin .geq (.t 61) (.c (.int .i64 1125899906842624)), none⟩]) ( (.cond (.t 62) ( (.seq ( .region [] [ ⟨some 8, .mv (.c (.int .i64 1125899906842624)), none⟩, ⟨some 9, .mv (.c (.int .i64 0)), none⟩]) ( .ret))) ( .skip))))) ( .region [] [ ⟨some 63, .mv (.t 11), none⟩, ⟨some 64, .mv (.t 16), none⟩, ⟨some 65, .bin .add (.t 63) (.t 64), none⟩, ⟨some 11, .mv (.t 65), none⟩]))))))))))))))) ( .region [] [ ⟨some 66, .bin .add (.t 31) (.c (.int .i64 1)), none⟩, ⟨some 31, .mv (.t 66), none⟩])))))))) :: k) fr' L = some (.tup [.i (Path.addI inf (Path.addI inf S (cst l (room w d a) a b)) (tt l w d true t)), .i 0]) := by
      intro c fr' hcc hci g0 g1 g2 g3 g11 g29 g30 g31
      have := hinf
      have e : Path.addI inf S (cst l (room w d a) a b) = c := by unfold Path.addI; rw [if_neg (by omega)]; exact hcc.symm
      rw [e]
      exact ih (i + 1) c fr' e2 (by omega) (by omega) g0 g1 g2 g3 g11 g29 g30 (by rw [g31]; congr 1)
    have stop : cst l (room w d a) a b = inf → Path.addI inf (Path.addI inf S (cst l (room w d a) a b)) (tt l w d true t) = inf := by
      intro h
      rw [h]
      unfold Path.addI
      simp
    have hinf' := hinf
    generalize hR : Path.addI inf (Path.addI inf S (cst l (room w d a) a b)) (tt l w d true t) = R at *
    generalize hr : room w d a = rm at *
    have hcs : ∀ H, call tbl 28 [v, .i (a : Nat), .i ((b : Nat) - 1 : Int), .i rm] H = some (.i (cst l rm a b)) := fun H => h28 H rm
    generalize cst l rm a b = c at *
    have hsh := hv.sh
    have rmc : (i = 0 ∧ rm = w - d) ∨ (¬ i = 0 ∧ rm = w) := by
      rw [← hr]
      unfold room
      by_cases c : a = 0
      · rw [if_pos c]; exact .inl ⟨hi0.2 c, rfl⟩
      · rw [if_neg c]; exact .inr ⟨fun z => c (hi0.1 z), rfl⟩
    unfold inP at hp
    obtain ⟨hp1, hp2⟩ := hp
    clear ih hx h28 htt hv hy hD he hnx htb hS' ht hr hwr hR hi0
    have hib : (i : Int) ≤ 1024 ∧ (D.length : Int) ≤ 1024 := by omega
    rcases rmc with ⟨r1, rfl⟩ | ⟨r1, rfl⟩
    all_goals
      rcases hlast with ⟨l1, l2⟩ | ⟨l1, l2⟩
      · obtain rfl : b = l.length := by
          rcases hb with ⟨_, h⟩ | ⟨h, _⟩
          · exact h
          · exact absurd l1 h
        clear hb l1
        refine G_loop.trans ?_
        rcases hc with c1 | c1
        · have st := stop c1
          clear stop next
          rw [st]
          rw [c1] at hcs
          simp (config := { maxSteps := 10000000 }) (disch := omega) only [↓G_seq, ↓G_skip, ↓G_ret, ↓G_region, ↓G_block, ↓G_cond, ↓G_ops_nil, ↓G_op, Gv_some, Gc_true, Gc_false, dec_t, dec_f, killAll, ↓get_setS, evalOp, ev, evs, b_add, b_sub, b_eql, b_lss, b_geq, wrap_i64, one, Option.map_some, Option.bind_some, finish, resVs, resV, outVs, ownsLast, tupOf, callV, V.shift, V.shifts, List.append_nil, List.all_cons, List.all_nil, Bool.and_self, List.getElem?_cons_zero, List.getElem?_cons_succ, Nat.reduceEqDiff, reduceCtorEq, ↓reduceIte, Nat.succ_ne_self, decide_true, bne_self_eq_false, Bool.false_eq_true, Int.reduceLE, pick3, loadV, and_self, ti_int, ov_int, fn_some, h0, h1, h2, h3, h29, h30, h31, hE, hlv, hly, hcs, hsh, hinf']
        · clear stop
          simp (config := { maxSteps := 10000000 }) (disch := omega) only [↓G_seq, ↓G_skip, ↓G_blk, ↓G_region, ↓G_block, ↓G_cond, ↓G_ops_nil, ↓G_op, Gv_some, Gc_true, Gc_false, dec_t, dec_f, killAll, ↓get_setS, evalOp, ev, evs, b_add, b_sub, b_eql, b_lss, b_geq, wrap_i64, one, Option.map_some, callV, V.shift, V.shifts, List.append_nil, List.getElem?_cons_zero, List.getElem?_cons_succ, Nat.reduceEqDiff, reduceCtorEq, ↓reduceIte, Nat.succ_ne_self, bne_self_eq_false, Bool.false_eq_true, pick3, loadV, ti_int, h0, h1, h2, h3, h11, h29, h30, h31, hE, hlv, hly, hcs, hsh]
          refine next (S + c) _ rfl (by omega) ?_ ?_ ?_ ?_ ?_ ?_ ?_ ?_
          all_goals simp (config := { maxSteps := 10000000 }) (disch := omega) only [↓get_setS, List.getElem?_cons_zero, List.getElem?_cons_succ, Nat.reduceEqDiff, reduceCtorEq, ↓reduceIte, Nat.succ_ne_self, h0, h1, h2, h3, h29, h30]
      · have hE2 : elemV 1 y (.i ((i : Nat) + 1 : Int)) = some (.eptr [.i (b : Nat)] 0) := by
          rcases hb with ⟨h, _⟩ | ⟨_, h⟩
          · exact absurd h l1
          · exact h
        clear hb l1
        refine G_loop.trans ?_
        rcases hc with c1 | c1
        · have st := stop c1
          clear stop next
          rw [st]
          rw [c1] at hcs
          simp (config := { maxSteps := 10000000 }) (disch := omega) only [↓G_seq, ↓G_skip, ↓G_ret, ↓G_region, ↓G_block, ↓G_cond, ↓G_ops_nil, ↓G_op, Gv_some, Gc_true, Gc_false, dec_t, dec_f, killAll, ↓get_setS, evalOp, ev, evs, b_add, b_sub, b_eql, b_lss, b_geq, wrap_i64, one, Option.map_some, Option.bind_some, finish, resVs, resV, outVs, ownsLast, tupOf, callV, V.shift, V.shifts, List.append_nil, List.all_cons, List.all_nil, Bool.and_self, List.getElem?_cons_zero, List.getElem?_cons_succ, Nat.reduceEqDiff, reduceCtorEq, ↓reduceIte, Nat.succ_ne_self, decide_true, bne_self_eq_false, Bool.false_eq_true, Int.reduceLE, pick3, loadV, and_self, ti_int, ov_int, fn_some, h0, h1, h2, h3, h29, h30, h31, hE, hE2, hlv, hly, hcs, hsh, hinf']
        · clear stop
          simp (config := { maxSteps := 10000000 }) (disch := omega) only [↓G_seq, ↓G_skip, ↓G_blk, ↓G_region, ↓G_block, ↓G_cond, ↓G_ops_nil, ↓G_op, Gv_some, Gc_true, Gc_false, dec_t, dec_f, killAll, ↓get_setS, evalOp, ev, evs, b_add, b_sub, b_eql, b_lss, b_geq, wrap_i64, one, Option.map_some, callV, V.shift, V.shifts, List.append_nil, List.getElem?_cons_zero, List.getElem?_cons_succ, Nat.reduceEqDiff, reduceCtorEq, ↓reduceIte, Nat.succ_ne_self, bne_self_eq_false, Bool.false_eq_true, pick3, loadV, ti_int, h0, h1, h2, h3, h11, h29, h30, h31, hE, hE2, hlv, hly, hcs, hsh]
          refine next (S + c) _ rfl (by omega) ?_ ?_ ?_ ?_ ?_ ?_ ?_ ?_
          all_goals simp (config := { maxSteps := 10000000 }) (disch := omega) only [↓get_setS, List.getElem?_cons_zero, List.getElem?_cons_succ, Nat.reduceEqDiff, reduceCtorEq, ↓reduceIte, Nat.succ_ne_self, h0, h1, h2, h3, h29, h30]

theorem c14 {v y : V} {l : List Me} {w d : Int} {D : List Nat} (he : errL l = 0) (hp : inP w d) (hv : SlV 5 v (E5 l)) (hy : SlV 1 y (I1 (zs (0 :: D)))) (hD : Path.isD l.length (0 :: D)) :
    call tbl 14 [v, y, .i w, .i d] H = some (.tup [.i (tt l w d true (0 :: D)), .i 0]) := by
  refine (call_start (show tbl 14 = some a14 from rfl)).trans ?_
  have hly := hy.len
  rw [I1_len, zs_len, List.length_cons] at hly
  have hlv := hv.len
  rw [E5_len] at hlv
  obtain ⟨hl0, hl1, _⟩ := errL_ok he
  have hDl := isD_len _ _ hD
  have h26 := fun H => c26 (H := H) (w := w) (d := d) (by omega) hv
  rw [show errA l w d = 0 by unfold errA errP; rw [if_pos he, if_pos hp]] at h26
  have h27 := fun H => c27 (H := H) (n := l.length) (l := zs (0 :: D)) (by rw [zs_len, List.length_cons]; omega) hl0 hy
  rw [isD_divR hD] at h27
  have hsh := hv.sh
  have hyh := hy.sh
  have hfin := fun k L hx => loop14 (H := H) (k := k) (L := L) he hp hv hy hD hx (0 :: D) 0 0
  rw [addI_0' (tt_Bd l w d (0 :: D) true (by simp only [List.length_cons]; omega)) (by simp only [List.length_cons]; omega)] at hfin
  generalize tt l w d true (0 :: D) = T at *
  unfold a14
  simp (config := { maxSteps := 10000000 }) (disch := omega) only [↓G_seq, ↓G_skip, ↓G_region, ↓G_block, ↓G_cond, ↓G_ops_nil, ↓G_op, Gv_some, Gc_false, killAll, ↓get_setS, evalOp, ev, evs, Ab.get, b_neq, one, Option.map_some, asB, callV, V.shift, V.shifts, List.append_nil, List.getElem?_cons_zero, List.getElem?_cons_succ, Nat.reduceEqDiff, reduceCtorEq, ↓reduceIte, Nat.succ_ne_self, decide_true, Bool.not_true, bne_self_eq_false, ti_bool, ti_int, h26, h27, hlv, hly, hsh, hyh]
  refine hfin _ _ (fun fr' S g11 => ?_) _ rfl (by omega) (by omega) ?_ ?_ ?_ ?_ ?_ ?_ ?_ ?_
  · clear hfin
    simp (config := { maxSteps := 10000000 }) (disch := omega) only [↓G_seq, ↓G_ret, ↓G_region, ↓Gx_blk, ↓G_ops_nil, ↓G_op, Gv_some, killAll, ↓get_setS, evalOp, ev, Option.map_some, Option.bind_some, finish, resVs, resV, outVs, ownsLast, tupOf, List.all_cons, List.all_nil, Bool.and_self, List.getElem?_cons_zero, List.getElem?_cons_succ, ↓reduceIte, Nat.succ_ne_self, and_self, ov_int, fn_some, g11]
  all_goals simp (config := { maxSteps := 10000000 }) (disch := omega) only [↓get_setS, Ab.get, List.getElem?_cons_zero, List.getElem?_cons_succ, Nat.reduceEqDiff, reduceCtorEq, ↓reduceIte, Nat.succ_ne_self, Int.cast_ofNat_Int]

theorem c14e {v y : V} {l : List Me} {w d : Int} (hm : l.length ≤ 9223372036854775807) (he : errA l w d ≠ 0) (hv : SlV 5 v (E5 l)) (hyh : ∀ d, V.shift d y = y) : call tbl 14 [v, y, .i w, .i d] H = some (.tup [.i 0, .i (errA l w d)]) := by
  refine (call_start (show tbl 14 = some a14 from rfl)).trans ?_
  have h26 := fun H => c26 (H := H) (w := w) (d := d) hm hv
  have hsh := hv.sh
  generalize errA l w d = e at *
  unfold a14
  simp (config := { maxSteps := 10000000 }) (disch := omega) only [↓G_seq, ↓G_ret, ↓G_region, ↓G_cond, ↓G_ops_nil, ↓G_op, Gv_some, Gc_true, dec_f, killAll, ↓get_setS, evalOp, ev, evs, Ab.get, b_neq, one, Option.map_some, Option.bind_some, finish, resVs, resV, outVs, ownsLast, tupOf, callV, V.shift, V.shifts, List.append_nil, List.all_cons, List.all_nil, Bool.and_self, List.getElem?_cons_zero, List.getElem?_cons_succ, Nat.reduceEqDiff, reduceCtorEq, ↓reduceIte, Nat.succ_ne_self, Bool.not_false, bne_self_eq_false, and_self, ti_int, ov_int, fn_some, h26, hsh]

theorem c14n {v y : V} {l : List Me} {w d : Int} {s : List Int} (hs : s.length ≤ 4611686018427387904) (he : errL l = 0) (hp : inP w d) (hv : SlV 5 v (E5 l)) (hy : SlV 1 y (I1 s)) (hd : divR l.length s = false) :
    call tbl 14 [v, y, .i w, .i d] H = some (.tup [.i 0, .i 3]) := by
  refine (call_start (show tbl 14 = some a14 from rfl)).trans ?_
  have hlv := hv.len
  rw [E5_len] at hlv
  obtain ⟨hl0, hl1, _⟩ := errL_ok he
  have h26 := fun H => c26 (H := H) (w := w) (d := d) (by omega) hv
  rw [show errA l w d = 0 by unfold errA errP; rw [if_pos he, if_pos hp]] at h26
  have h27 := fun H => c27 (H := H) (n := l.length) (l := s) hs hl0 hy
  rw [hd] at h27
  have hsh := hv.sh
  have hyh := hy.sh
  unfold a14
  simp (config := { maxSteps := 10000000 }) (disch := omega) only [↓G_seq, ↓G_skip, ↓G_ret, ↓G_region, ↓G_cond, ↓G_ops_nil, ↓G_op, Gv_some, Gc_true, Gc_false, killAll, ↓get_setS, evalOp, ev, evs, Ab.get, b_neq, one, Option.map_some, Option.bind_some, asB, finish, resVs, resV, outVs, ownsLast, tupOf, callV, V.shift, V.shifts, List.append_nil, List.all_cons, List.all_nil, Bool.and_self, List.getElem?_cons_zero, List.getElem?_cons_succ, Nat.reduceEqDiff, reduceCtorEq, ↓reduceIte, Nat.succ_ne_self, decide_true, Bool.not_true, Bool.not_false, bne_self_eq_false, and_self, ti_bool, ti_int, ov_int, fn_some, h26, h27, hlv, hsh, hyh]

/-! ### The reference's -/
theorem loop17 {k : List KI} {v y : V} {l : List Me} {w d : Int} {D : List Nat} {L : List Row} (he : errL l = 0) (hp : inP w d) (hv : SlV 5 v (E5 l)) (hy : SlV 1 y (I1 (zs (0 :: D)))) (hD : Path.isD l.length (0 :: D))
    (hx : ∀ fr' S, Ab.get fr' 9 = .i S → Gx tbl H [.tmp 8] 0 k fr' L = some (.i S)) :
    ∀ (t : List Nat) (i : Nat) (S : Int) (fr : List V), (0 :: D).drop i = t → i ≤ D.length + 1 → (0 ≤ S ∧ S ≤ i * 100000100) → Ab.get fr 0 = v → Ab.get fr 1 = y → Ab.get fr 2 = .i w → Ab.get fr 3 = .i d → Ab.get fr 9 = .i S → Ab.get fr 10 = .i (i : Nat) →
    G tbl H [.tmp 8] (.code (.loop ( (.seq ( (.seq ( .region [] [ ⟨some 14, .mv (.t 10), none⟩, ⟨some 15, .mv (.t 1), none⟩, ⟨some 16, .len (.t 15), none⟩, ⟨some 17, .bin .lss (.t 14) (.t 16), none⟩]) ( (.cond (.t 17) ( .skip) ( .exit 0))))) ( (.seq ( (.block 1 ( (.seq ( .region [] [ ⟨some 20, .mv (.t 0), none⟩, ⟨some 21, .len (.t 20), none⟩, ⟨some 22, .bin .sub (.t 21) (.c (.int .i64 1)), none⟩, ⟨some 23, .mv (.t 2), none⟩, ⟨some 11, .mv (.t 22), none⟩, ⟨some 12, .mv (.t 23), none⟩]) ( (.seq ( (.seq ( .region [] [ ⟨some 24, .mv (.t 10), none⟩, ⟨some 25, .bin .add (.t 24) (.c (.int .i64 1)), none⟩, ⟨some 26, .mv (.t 1), none⟩, ⟨some 27, .len (.t 26), none⟩, ⟨some 28, .bin .lss (.t 25) (.t 27), none⟩]) ( (.cond (.t 28) ( .region [] [ ⟨some 29, .mv (.t 1), none⟩, ⟨some 30, .mv (.t 10), none⟩, ⟨some 31, .bin .add (.t 30) (.c (.int .i64 1)), none⟩, ⟨some 32, .elemAddr 1 (.t 29) (.t 31), none⟩, ⟨some 33, .load false 1 (.t 32), none⟩, ⟨some 34, .bin .sub (.t 33) (.c (.int .i64 1)), none⟩, ⟨some 11, .mv (.t 34), none⟩]) ( .skip))))) ( (.seq ( (.seq ( .region [] [ ⟨some 35, .mv (.t 10), none⟩, ⟨some 36, .bin .eql (.t 35) (.c (.int .i64 0)), none⟩]) ( (.cond (.t 36) ( .region [] [ ⟨some 37, .mv (.t 2), none⟩, ⟨some 38, .mv (.t 3), none⟩, ⟨some 39, .bin .sub (.t 37) (.t 38), none⟩, ⟨some 12, .mv (.t 39), none⟩]) ( .skip))))) ( (.seq ( .region [] [ ⟨some 40, .mv (.t 0), none⟩, ⟨some 41, .mv (.t 1), none⟩, ⟨some 42, .mv (.t 10), none⟩, ⟨some 43, .elemAddr 1 (.t 41) (.t 42), none⟩, ⟨some 44, .load false 1 (.t 43), none⟩, ⟨some 45, .mv (.t 11), none⟩, ⟨some 46, .mv (.t 12), none⟩, ⟨some 47, .call 0 (.c (.fn 29 [])) [(.t 40), (.t 44), (.t 45), (.t 46)], none⟩, ⟨some 13, .mv (.t 47), none⟩]) ( (.seq ( (.seq ( .region [] [ ⟨some 48, .mv (.t 13), none⟩, ⟨some 49, .bin .eql (.t 48) (.c (.int .i64 1125899906842624)), none⟩]) ( (.cond (.t 49) ( (.seq ( .region [] [ ⟨some 8, .mv (.c (.int .i64 1125899906842624)), none⟩]) ( .ret))) ( .skip))))) ( .region [] [ ⟨some 50, .mv (.t 9), none⟩, ⟨some 51, .mv (.t 13), none⟩, ⟨some 52, .bin .add (.t 50) (.t 51), none⟩, ⟨some 9, .mv (.t 52), none⟩]))))))))))))) ( .region [] [ ⟨some 18, .mv (.t 10), none⟩, ⟨some 19, .bin .add (.t 18) (.c (.int .i64 1)), none⟩, ⟨some 10, .mv (.t 19), none⟩])))))) :: k) fr L = some (.i (Path.addI inf S (tt l w d true t))) := by
  intro t
  have hly := hy.len
  rw [I1_len, zs_len, List.length_cons] at hly
  have hlv := hv.len
  rw [E5_len] at hlv
  obtain ⟨hl0, hl1, _⟩ := errL_ok he
  have hDl := isD_len _ _ hD
  induction t with
  | nil =>
    intro i S fr ht hi hS h0 h1 h2 h3 h9 h10
    have := drop_nil ht
    simp only [List.length_cons] at this
    rw [show tt l w d true [] = 0 from rfl, addI_0 (k := i) (.inr hS) (by omega)]
    refine G_loop.trans ?_
    simp (config := { maxSteps := 10000000 }) (disch := omega) only [↓G_seq, ↓G_exit, ↓G_region, ↓G_cond, ↓Gx_code, ↓G_ops_nil, ↓G_op, Gv_some, Gc_false, dec_f, killAll, ↓get_setS, evalOp, ev, b_lss, one, Option.map_some, List.getElem?_cons_zero, List.getElem?_cons_succ, Nat.reduceEqDiff, ↓reduceIte, Nat.succ_ne_self, h1, hly, h10]
    refine hx _ _ ?_
    simp (config := { maxSteps := 10000000 }) (disch := omega) only [↓get_setS, List.getElem?_cons_zero, List.getElem?_cons_succ, Nat.reduceEqDiff, ↓reduceIte, h9]
  | cons a t ih =>
    intro i S fr ht hi hS h0 h1 h2 h3 h9 h10
    obtain ⟨ha, hi0, htl, e1, hnx⟩ := nextL (w := w) (d := d) hD ht
    obtain ⟨_, e2, _⟩ := drop_cons ht
    have hE := hy.el (I1_get _ i _ (zs_get e1))
    have hrm := room_in hp a
    obtain ⟨b, hab, hbl, htt, hb⟩ : ∃ b : Nat, a < b ∧ b ≤ l.length ∧ tt l w d true (a :: t) = Path.addI inf (cst l (room w d a) a b) (tt l w d true t) ∧
        ((t = [] ∧ b = l.length) ∨ (t ≠ [] ∧ elemV 1 y (.i ((i : Nat) + 1 : Int)) = some (.eptr [.i (b : Nat)] 0))) := by
      rcases hnx with ⟨rfl, _, q⟩ | ⟨b, u, rfl, f1, q1, q2, q3⟩
      · refine ⟨l.length, ha, Nat.le_refl _, ?_, .inl ⟨rfl, rfl⟩⟩
        rw [q, show tt l w d true [] = 0 from rfl, addI_0 (cst_Bd _ _ _ _) (by omega)]
      · have hE2 := hy.el (I1_get _ (i + 1) _ (zs_get f1))
        exact ⟨b, q1, by omega, q3, .inr ⟨by simp, by simpa using hE2⟩⟩
    have h29 := fun H => c29 (H := H) (w := room w d a) he hab hbl hrm hv
    have hc := cst_in l (room w d a) a b
    have htb := tt_Bd l w d t true (by omega)
    have hS' : Bd i S := .inr hS
    rw [htt, ← addI_assoc hS' (cst_Bd _ _ _ _) htb (by omega)]
    have hlast : (t = [] ∧ i = D.length) ∨ (t ≠ [] ∧ i < D.length) := by
      cases t with
      | nil => exact .inl ⟨rfl, by simpa using htl⟩
      | cons b u => exact .inr ⟨by simp, by simp only [List.length_cons] at htl; omega⟩
    have next : ∀ c fr', c = S + cst l (room w d a) a b → c < inf → Ab.get fr' 0 = v → Ab.get fr' 1 = y → Ab.get fr' 2 = .i w → Ab.get fr' 3 = .i d → Ab.get fr' 9 = .i c → Ab.get fr' 10 = .i ((i : Nat) + 1) →
        G tbl H [.tmp 8] (.code (.loop ( (.seq ( (.seq ( .region [] [ ⟨some 14, .mv (.t 10), none⟩, ⟨some 15, .mv (.t 1), none⟩, ⟨some 16, .len (.t 15), none⟩, ⟨some 17, .bin .lss (.t 14) (.t 16), none⟩]) ( (.cond (.t 17) ( .skip) ( .exit 0))))) ( (.seq ( (.block 1 ( (.seq ( .region [] [ ⟨some 20, .mv (.t 0), none⟩, ⟨some 21, .len (.t 20), none⟩, ⟨some 22, .bin .sub (.t 21) (.c (.int .i64 1)), none⟩, ⟨some 23, .mv (.t 2), none⟩, ⟨some 11, .mv (.t 22), none⟩, ⟨some 12, .mv (.t 23), none⟩]) ( (.seq ( (.seq ( .region [] [ ⟨some 24, .mv (.t 10), none⟩, ⟨some 25, .bin .add (.t 24) (.c (.int .i64 1)), none⟩, ⟨some 26, .mv (.t 1), none⟩, ⟨some 27, .len (.t 26), none⟩, ⟨some 28, .bin .lss (.t 25) (.t 27), none⟩]) ( (.cond (.t 28) ( .region [] [ ⟨some 29, .mv (.t 1), none⟩, ⟨some 30, .mv (.t 10), none⟩, ⟨some 31, .bin .add (.t 30) (.c (.int .i64 1)), none⟩, ⟨some 32, .elemAddr 1 (.t 29) (.t 31), none⟩, ⟨some 33, .load false 1 (.t 32), none⟩, ⟨some 34, .bin .sub (.t 33) (.c (.int .i64 1)), none⟩, ⟨some 11, .mv (.t 34), none⟩]) ( .skip))))) ( (.seq ( (.seq ( .region [] [ ⟨some 35, .mv (.t 10), none⟩, ⟨some 36, .bin .eql (.t 35) (.c (.int .i64 0)), none⟩]) ( (.cond (.t 36) ( .region [] [ ⟨some 37, .mv (.t 2), none⟩, ⟨some 38, .mv (.t 3), none⟩, ⟨some 39, .bin .sub (.t 37) (.t 38), none⟩, ⟨some 12, .mv (.t 39), none⟩]) ( .skip))))) ( (.seq ( .region [] [ ⟨some 40, .mv (.t 0), none⟩, ⟨some 41, .mv (.t 1), none⟩, ⟨some 42, .mv (.t 10), none⟩, ⟨some 43, .elemAddr 1 (.t 41) (.t 42), none⟩, ⟨some 44, .load false 1 (.t 43), none⟩, ⟨some 45, .mv (.t 11), none⟩, ⟨some 46, .mv (.t 12), none⟩, ⟨some 47, .call 0 (.c (.fn 29 [])) [(.t 40), (.t 44), (.t 45), (.t 46)], none⟩, ⟨some 13, .mv (.t 47), none⟩]) ( (.seq ( (.seq ( .region [] [ ⟨some 48, .mv (.t 13), none⟩, ⟨some 49, .bin .eql (.t 48) (.c (.int .i64 1125899906842624)), none⟩]) ( (.cond (.t 49) ( (.seq ( .region [] [ ⟨some 8, .mv (.c (.int .i64 1125899906842624)), none⟩]) ( .ret))) ( .skip))))) ( .region [] [ ⟨some 50, .mv (.t 9), none⟩, ⟨some 51, .mv (.t 13), none⟩, ⟨some 52, .bin .add (.t 50) (.t 51), none⟩, ⟨some 9, .mv (.t 52), none⟩]))))))))))))) ( .region [] [ ⟨some 18, .mv (.t 10), none⟩, ⟨some 19, .bin .add (.t 18) (.c (.int .i64 1)), none⟩, ⟨some 10, .mv (.t 19), none⟩])))))) :: k) fr' L = some (.i (Path.addI inf (Path.addI inf S (cst l (room w d a) a b)) (tt l w d true t))) := by
      intro c fr' hcc hci g0 g1 g2 g3 g9 g10
      have := hinf
      have e : Path.addI inf S (cst l (room w d a) a b) = c := by unfold Path.addI; rw [if_neg (by omega)]; exact hcc.symm
      rw [e]
      exact ih (i + 1) c fr' e2 (by omega) (by omega) g0 g1 g2 g3 g9 (by rw [g10]; congr 1)
    have stop : cst l (room w d a) a b = inf → Path.addI inf (Path.addI inf S (cst l (room w d a) a b)) (tt l w d true t) = inf := by
      intro h
      rw [h]
      unfold Path.addI
      simp
    have hinf' := hinf
    generalize hR : Path.addI inf (Path.addI inf S (cst l (room w d a) a b)) (tt l w d true t) = R at *
    generalize hr : room w d a = rm at *
    generalize cst l rm a b = c at *
    have hsh := hv.sh
    have rmc : (i = 0 ∧ rm = w - d) ∨ (¬ i = 0 ∧ rm = w) := by
      rw [← hr]
      unfold room
      by_cases c : a = 0
      · rw [if_pos c]; exact .inl ⟨hi0.2 c, rfl⟩
      · rw [if_neg c]; exact .inr ⟨fun z => c (hi0.1 z), rfl⟩
    unfold inP at hp
    obtain ⟨hp1, hp2⟩ := hp
    clear ih hx htt hv hy hD he hnx htb hS' ht hr hR hi0
    have hib : (i : Int) ≤ 1024 ∧ (D.length : Int) ≤ 1024 := by omega
    rcases rmc with ⟨r1, rfl⟩ | ⟨r1, rfl⟩
    all_goals
      rcases hlast with ⟨l1, l2⟩ | ⟨l1, l2⟩
      · obtain rfl : b = l.length := by
          rcases hb with ⟨_, h⟩ | ⟨h, _⟩
          · exact h
          · exact absurd l1 h
        clear hb l1
        refine G_loop.trans ?_
        rcases hc with c1 | c1
        · have st := stop c1
          clear stop next
          rw [st]
          rw [c1] at h29
          simp (config := { maxSteps := 10000000 }) (disch := omega) only [↓G_seq, ↓G_skip, ↓G_ret, ↓G_region, ↓G_block, ↓G_cond, ↓G_ops_nil, ↓G_op, Gv_some, Gc_true, Gc_false, dec_t, dec_f, killAll, ↓get_setS, evalOp, ev, evs, b_add, b_sub, b_eql, b_lss, wrap_i64, one, Option.map_some, Option.bind_some, finish, resVs, resV, outVs, ownsLast, tupOf, callV, V.shift, V.shifts, List.append_nil, List.all_nil, List.getElem?_cons_zero, List.getElem?_cons_succ, Nat.reduceEqDiff, reduceCtorEq, ↓reduceIte, Nat.succ_ne_self, decide_true, bne_self_eq_false, Bool.false_eq_true, pick3, loadV, ti_int, ov_int, fn_some, h0, h1, h2, h3, h10, hE, hlv, hly, h29, hsh, hinf']
        · clear stop
          simp (config := { maxSteps := 10000000 }) (disch := omega) only [↓G_seq, ↓G_skip, ↓G_blk, ↓G_region, ↓G_block, ↓G_cond, ↓G_ops_nil, ↓G_op, Gv_some, Gc_true, Gc_false, dec_t, dec_f, killAll, ↓get_setS, evalOp, ev, evs, b_add, b_sub, b_eql, b_lss, wrap_i64, one, Option.map_some, callV, V.shift, V.shifts, List.append_nil, List.getElem?_cons_zero, List.getElem?_cons_succ, Nat.reduceEqDiff, reduceCtorEq, ↓reduceIte, Nat.succ_ne_self, bne_self_eq_false, Bool.false_eq_true, pick3, loadV, ti_int, h0, h1, h2, h3, h9, h10, hE, hlv, hly, h29, hsh]
          refine next (S + c) _ rfl (by omega) ?_ ?_ ?_ ?_ ?_ ?_
          all_goals simp (config := { maxSteps := 10000000 }) (disch := omega) only [↓get_setS, List.getElem?_cons_zero, List.getElem?_cons_succ, Nat.reduceEqDiff, reduceCtorEq, ↓reduceIte, Nat.succ_ne_self, h0, h1, h2, h3]
      · have hE2 : elemV 1 y (.i ((i : Nat) + 1 : Int)) = some (.eptr [.i (b : Nat)] 0) := by
          rcases hb with ⟨h, _⟩ | ⟨_, h⟩
          · exact absurd h l1
          · exact h
        clear hb l1
        refine G_loop.trans ?_
        rcases hc with c1 | c1
        · have st := stop c1
          clear stop next
          rw [st]
          rw [c1] at h29
          simp (config := { maxSteps := 10000000 }) (disch := omega) only [↓G_seq, ↓G_skip, ↓G_ret, ↓G_region, ↓G_block, ↓G_cond, ↓G_ops_nil, ↓G_op, Gv_some, Gc_true, Gc_false, dec_t, dec_f, killAll, ↓get_setS, evalOp, ev, evs, b_add, b_sub, b_eql, b_lss, wrap_i64, one, Option.map_some, Option.bind_some, finish, resVs, resV, outVs, ownsLast, tupOf, callV, V.shift, V.shifts, List.append_nil, List.all_nil, List.getElem?_cons_zero, List.getElem?_cons_succ, Nat.reduceEqDiff, reduceCtorEq, ↓reduceIte, Nat.succ_ne_self, decide_true, bne_self_eq_false, Bool.false_eq_true, pick3, loadV, ti_int, ov_int, fn_some, h0, h1, h2, h3, h10, hE, hE2, hlv, hly, h29, hsh, hinf']
        · clear stop
          simp (config := { maxSteps := 10000000 }) (disch := omega) only [↓G_seq, ↓G_skip, ↓G_blk, ↓G_region, ↓G_block, ↓G_cond, ↓G_ops_nil, ↓G_op, Gv_some, Gc_true, Gc_false, dec_t, dec_f, killAll, ↓get_setS, evalOp, ev, evs, b_add, b_sub, b_eql, b_lss, wrap_i64, one, Option.map_some, callV, V.shift, V.shifts, List.append_nil, List.getElem?_cons_zero, List.getElem?_cons_succ, Nat.reduceEqDiff, reduceCtorEq, ↓reduceIte, Nat.succ_ne_self, bne_self_eq_false, Bool.false_eq_true, pick3, loadV, ti_int, h0, h1, h2, h3, h9, h10, hE, hE2, hlv, hly, h29, hsh]
          refine next (S + c) _ rfl (by omega) ?_ ?_ ?_ ?_ ?_ ?_
          all_goals simp (config := { maxSteps := 10000000 }) (disch := omega) only [↓get_setS, List.getElem?_cons_zero, List.getElem?_cons_succ, Nat.reduceEqDiff, reduceCtorEq, ↓reduceIte, Nat.succ_ne_self, h0, h1, h2, h3]

theorem c17 {v y : V} {l : List Me} {w d : Int} {D : List Nat} (he : errL l = 0) (hp : inP w d) (hv : SlV 5 v (E5 l)) (hy : SlV 1 y (I1 (zs (0 :: D)))) (hD : Path.isD l.length (0 :: D)) :
    call tbl 17 [v, y, .i w, .i d] H = some (.i (tt l w d true (0 :: D))) := by
  refine (call_start (show tbl 17 = some a17 from rfl)).trans ?_
  obtain ⟨hl0, hl1, _⟩ := errL_ok he
  have hDl := isD_len _ _ hD
  have hfin := fun k L hx => loop17 (H := H) (k := k) (L := L) he hp hv hy hD hx (0 :: D) 0 0
  rw [addI_0' (tt_Bd l w d (0 :: D) true (by simp only [List.length_cons]; omega)) (by simp only [List.length_cons]; omega)] at hfin
  generalize tt l w d true (0 :: D) = T at *
  unfold a17
  simp (config := { maxSteps := 10000000 }) (disch := omega) only [↓G_seq, ↓G_region, ↓G_block, ↓G_ops_nil, ↓G_op, Gv_some, killAll, evalOp, ev, List.getElem?_cons_zero, List.getElem?_cons_succ]
  refine hfin _ _ (fun fr' S g9 => ?_) _ rfl (by omega) (by omega) ?_ ?_ ?_ ?_ ?_ ?_
  · clear hfin
    simp (config := { maxSteps := 10000000 }) (disch := omega) only [↓G_seq, ↓G_ret, ↓G_region, ↓Gx_blk, ↓G_ops_nil, ↓G_op, Gv_some, killAll, ↓get_setS, evalOp, ev, Option.map_some, Option.bind_some, finish, resVs, resV, outVs, ownsLast, tupOf, List.all_nil, List.getElem?_cons_zero, List.getElem?_cons_succ, ↓reduceIte, ov_int, fn_some, g9]
  all_goals simp (config := { maxSteps := 10000000 }) (disch := omega) only [↓get_setS, Ab.get, List.getElem?_cons_zero, List.getElem?_cons_succ, Nat.reduceEqDiff, reduceCtorEq, ↓reduceIte, Nat.succ_ne_self, Int.cast_ofNat_Int]

/-- The law of totals. -/
theorem l4 {v y : V} {l : List Me} {w d : Int} {s : List Int} (hm : l.length ≤ 9223372036854775807) (hs : s.length ≤ 9223372036854775807) (hv : SlV 5 v (E5 l)) (hy : SlV 1 y (I1 s)) : call tbl 4 [.agg [v, .i w, .i d], y] H = some (.bool true) := by
  refine (call_start (show tbl 4 = some a4 from rfl)).trans ?_
  have hsc := hv.scalar
  unfold V.scalar at hsc
  have hlv := hv.len
  rw [E5_len] at hlv
  have hly := hy.len
  rw [I1_len] at hly
  have h13 := fun H => c13 (H := H) hm hv
  have hsh := hv.sh
  have hyh := hy.sh
  by_cases g1 : 40 < l.length
  · unfold a4
    simp (config := { maxSteps := 10000000 }) (disch := omega) only [↓G_seq, ↓G_ret, ↓G_region, ↓G_cond, ↓G_ops_nil, ↓G_op, Gv_some, ↓G_gop, Gw_ff, Gw_ft, Gc_true, dec_t, killAll, ↓get_setS, evalOp, ev, evs, Ab.get, b_gtr, one, Option.map_some, Option.bind_some, asB, finish, resVs, resV, outVs, ownsLast, tupOf, callV, V.shifts, List.append_nil, List.all_cons, List.all_nil, Bool.and_self, List.getElem?_cons_zero, List.getElem?_cons_succ, Nat.reduceEqDiff, ↓reduceIte, Nat.succ_ne_self, Bool.not_true, bne_self_eq_false, Bool.false_eq_true, Int.reduceAdd, pick3, V.cells, addOff, loadV, Ab.rowAt, rget, rset, V.scalar, Nat.reduceAdd, and_self, List.length_cons, List.length_nil, List.getD_cons_zero, Nat.zero_add, Nat.add_zero, ti_bool, ov_bool, fn_some, hsc, hlv, hsh, c10, Nat.zero_lt_succ]
    done
  by_cases g2 : 50 < s.length
  · unfold a4
    simp (config := { maxSteps := 10000000 }) (disch := omega) only [↓G_seq, ↓G_ret, ↓G_region, ↓G_cond, ↓G_ops_nil, ↓G_op, Gv_some, ↓G_gop, Gw_ff, Gw_ft, Gc_true, dec_t, dec_f, killAll, ↓get_setS, evalOp, ev, evs, Ab.get, b_gtr, one, Option.map_some, Option.bind_some, asB, finish, resVs, resV, outVs, ownsLast, tupOf, callV, V.shifts, List.append_nil, List.all_cons, List.all_nil, Bool.and_self, List.getElem?_cons_zero, List.getElem?_cons_succ, Nat.reduceEqDiff, ↓reduceIte, Nat.succ_ne_self, Bool.not_true, bne_self_eq_false, Bool.false_eq_true, Int.reduceAdd, pick3, V.cells, addOff, loadV, Ab.rowAt, rget, rset, V.scalar, Nat.reduceAdd, and_self, List.length_cons, List.length_nil, List.getD_cons_zero, Nat.zero_add, Nat.add_zero, ti_bool, ov_bool, fn_some, hsc, hlv, hly, hsh, c10, Nat.zero_lt_succ]
    done
  by_cases he : errL l = 0
  case neg =>
    have : errL l < 0 ∨ 0 < errL l := by omega
    generalize errL l = e at *
    unfold a4
    simp (config := { maxSteps := 10000000 }) (disch := omega) only [↓G_seq, ↓G_ret, ↓G_region, ↓G_cond, ↓G_ops_nil, ↓G_op, Gv_some, ↓G_gop, Gw_ff, Gc_true, dec_f, killAll, ↓get_setS, evalOp, ev, evs, Ab.get, b_neq, b_gtr, one, Option.map_some, Option.bind_some, asB, finish, resVs, resV, outVs, ownsLast, tupOf, callV, V.shifts, List.append_nil, List.all_cons, List.all_nil, Bool.and_self, List.getElem?_cons_zero, List.getElem?_cons_succ, Nat.reduceEqDiff, ↓reduceIte, Nat.succ_ne_self, Bool.not_true, Bool.not_false, bne_self_eq_false, Bool.false_eq_true, Int.reduceAdd, pick3, V.cells, addOff, loadV, Ab.rowAt, rget, rset, V.scalar, Nat.reduceAdd, and_self, List.length_cons, List.length_nil, List.getD_cons_zero, Nat.zero_add, Nat.add_zero, ti_bool, ti_int, ov_bool, fn_some, hsc, hlv, hly, h13, hsh, c10, Nat.zero_lt_succ]
    done
  simp only [he] at h13
  obtain ⟨hl0, _⟩ := errL_ok he
  have h15 := fun H => c15 (H := H) (w := w) (d := d) hv
  by_cases hp : inP w d
  case neg =>
    have hA : errA l w d = 2 := by unfold errA errP; rw [if_pos he, if_neg hp]
    have h14 := fun H => c14e (H := H) (l := l) (w := w) (d := d) hm (by rw [hA]; decide) hv hyh
    rw [hA] at h14
    rw [show errP w d = 2 by unfold errP; rw [if_neg hp]] at h15
    unfold a4
    simp (config := { maxSteps := 10000000 }) (disch := omega) only [↓G_seq, ↓G_skip, ↓G_ret, ↓G_region, ↓G_cond, ↓G_ops_nil, ↓G_op, Gv_some, ↓G_gop, Gw_tt, Gw_ff, Gc_true, Gc_false, dec_f, killAll, ↓get_setS, evalOp, ev, evs, Ab.get, b_eql, b_neq, b_gtr, one, Option.map_some, Option.bind_some, asB, finish, resVs, resV, outVs, ownsLast, tupOf, callV, V.shift, V.shifts, List.append_nil, List.map_cons, List.map_nil, List.all_cons, List.all_nil, Bool.and_self, List.getElem?_cons_zero, List.getElem?_cons_succ, Nat.reduceEqDiff, ↓reduceIte, Nat.succ_ne_self, decide_true, decide_false, Bool.not_true, Bool.not_false, bne_self_eq_false, Bool.false_eq_true, Int.reduceAdd, Int.reduceEq, pick3, V.cells, addOff, loadV, Ab.rowAt, rget, rset, V.scalar, Nat.reduceAdd, and_self, List.length_cons, List.length_nil, List.take_succ_cons, List.take_zero, List.drop_zero, Nat.le_refl, List.getD_cons_zero, Nat.zero_add, Nat.add_zero, ti_bool, ti_int, ti_tup_int, st_int, ov_bool, fn_some, hsc, hlv, hly, h13, h14, h15, hsh, hyh, c10, Nat.zero_lt_succ]
    done
  rw [show errP w d = 0 by unfold errP; rw [if_pos hp]] at h15
  have h16 := fun H => c16 (H := H) (n := l.length) (l := s) (by omega) hl0 hy
  cases hd : divR l.length s
  · rw [hd] at h16
    have h14 := fun H => c14n (H := H) (by omega) he hp hv hy hd
    unfold a4
    simp (config := { maxSteps := 10000000 }) (disch := omega) only [↓G_seq, ↓G_skip, ↓G_ret, ↓G_region, ↓G_cond, ↓G_ops_nil, ↓G_op, Gv_some, ↓G_gop, Gw_tt, Gw_ff, Gc_true, Gc_false, dec_f, killAll, ↓get_setS, evalOp, ev, evs, Ab.get, b_eql, b_neq, b_gtr, one, Option.map_some, Option.bind_some, asB, finish, resVs, resV, outVs, ownsLast, tupOf, callV, V.shift, V.shifts, List.append_nil, List.map_cons, List.map_nil, List.all_cons, List.all_nil, Bool.and_self, List.getElem?_cons_zero, List.getElem?_cons_succ, Nat.reduceEqDiff, ↓reduceIte, Nat.succ_ne_self, decide_true, Bool.not_true, Bool.not_false, bne_self_eq_false, Bool.false_eq_true, Int.reduceAdd, pick3, V.cells, addOff, loadV, Ab.rowAt, rget, rset, V.scalar, Nat.reduceAdd, and_self, List.length_cons, List.length_nil, List.take_succ_cons, List.take_zero, List.drop_zero, Nat.le_refl, List.getD_cons_zero, Nat.zero_add, Nat.add_zero, ti_bool, ti_int, ti_tup_int, st_int, ov_bool, fn_some, hsc, hlv, hly, h13, h14, h15, h16, hsh, hyh, c10, Nat.zero_lt_succ]
    done
  · rw [hd] at h16
    obtain ⟨D, rfl, hD⟩ := divR_nat hd
    have h14 := fun H => c14 (H := H) he hp hv hy hD
    have h17 := fun H => c17 (H := H) he hp hv hy hD
    generalize tt l w d true (0 :: D) = T at *
    unfold a4
    simp (config := { maxSteps := 10000000 }) (disch := omega) only [↓G_seq, ↓G_skip, ↓G_ret, ↓G_region, ↓G_cond, ↓G_ops_nil, ↓G_op, Gv_some, ↓G_gop, Gw_tt, Gw_ff, Gc_false, dec_f, killAll, ↓get_setS, evalOp, ev, evs, Ab.get, b_eql, b_neq, b_gtr, one, Option.map_some, Option.bind_some, asB, finish, resVs, resV, outVs, ownsLast, tupOf, callV, V.shift, V.shifts, List.append_nil, List.map_cons, List.map_nil, List.all_cons, List.all_nil, Bool.and_self, List.getElem?_cons_zero, List.getElem?_cons_succ, Nat.reduceEqDiff, ↓reduceIte, Nat.succ_ne_self, decide_true, Bool.not_true, bne_self_eq_false, Bool.false_eq_true, Int.reduceAdd, pick3, V.cells, addOff, loadV, Ab.rowAt, rget, rset, V.scalar, Nat.reduceAdd, and_self, List.length_cons, List.length_nil, List.take_succ_cons, List.take_zero, List.drop_zero, Nat.le_refl, List.getD_cons_zero, Nat.zero_add, Nat.add_zero, ti_bool, ti_int, ti_tup_int, st_int, ov_bool, fn_some, hsc, hlv, hly, h13, h14, h15, h16, h17, hsh, hyh, c10, Nat.zero_lt_succ]

end Go.Proofs.Ytdgifbmimfnmlaa

/-
  Page breaks: the cost of a division, by the program and by the reference; the law PagebreakTotals.
-/
import Derived.Test.YtgghbckhdchcaaaS33G
import Derived.Test.YtgghbckhdchcaaaAbPath
namespace Go.Proofs.Ytgghbckhdchcaaa
open Go Go.Ab
set_option linter.unusedVariables false
set_option linter.unnecessarySimpa false
set_option linter.unusedSimpArgs false
set_option maxRecDepth 100000
variable {H : List (List Row)}

def zs (d : List Nat) : List Int := d.map fun x => ((x : Nat) : Int)
theorem zs_len (d : List Nat) : (zs d).length = d.length := by simp [zs]
theorem zs_get {d : List Nat} {i a : Nat} (h : d[i]? = some a) : (zs d)[i]? = some ((a : Nat) : Int) := by simp [zs, h]
theorem zs_none {d : List Nat} {i : Nat} (h : d[i]? = none) : (zs d)[i]? = none := by
  rw [List.getElem?_eq_none_iff] at h ⊢
  rw [zs_len]
  exact h

theorem divB_nat {n : Nat} : ∀ (t : List Int) (p : Nat), divB n (some (p : Nat)) t = true → ∃ d, t = zs d ∧ (p < n → Path.isD n (p :: d))
  | [], p, _ => ⟨[], rfl, fun h => h⟩
  | x :: t, p, h => by
    simp only [divB, Bool.and_eq_true, decide_eq_true_eq] at h
    obtain ⟨⟨h1, h2⟩, h3⟩ := h
    obtain ⟨y, rfl⟩ : ∃ y : Nat, x = (y : Nat) := ⟨x.toNat, by omega⟩
    obtain ⟨d, rfl, h4⟩ := divB_nat t y h3
    exact ⟨y :: d, rfl, fun _ => ⟨by omega, h4 (by omega)⟩⟩
/-- A list that the program takes for a division is none of nothing, or one that begins with 0. -/
theorem divR_nat {n : Nat} {l : List Int} (h : divR n l = true) : (n = 0 ∧ l = []) ∨ ∃ t, l = zs (0 :: t) ∧ Path.isD n (0 :: t) := by
  unfold divR at h
  simp only [Bool.and_eq_true, beq_iff_eq, decide_eq_decide] at h
  obtain ⟨h1, h2⟩ := h
  cases l with
  | nil => exact .inl ⟨by have := h2.2 rfl; omega, rfl⟩
  | cons x t =>
    have h3 : ¬ (n : Int) = 0 := fun e => by have := h2.1 e; cases this
    simp only [divB, Bool.and_eq_true, decide_eq_true_eq] at h1
    obtain ⟨⟨rfl, h4⟩, h5⟩ := h1
    obtain ⟨d, rfl, h6⟩ := divB_nat t 0 h5
    exact .inr ⟨d, rfl, h6 (by omega)⟩

theorem isD_hd {n : Nat} : ∀ (t : List Nat) (c : Nat), Path.isD n (c :: t) → c < n
  | [], c, h => h
  | e :: t, c, h => by have := isD_hd t e h.2; have := h.1; omega
theorem isD_drop {n : Nat} : ∀ (d : List Nat) (i : Nat) {a : Nat} {t : List Nat}, Path.isD n d → d.drop i = a :: t → Path.isD n (a :: t)
  | [], i, a, t, h, _ => absurd h id
  | x :: d, 0, a, t, h, e => by
    simp only [List.drop_zero] at e
    rw [← e]
    exact h
  | [x], i + 1, a, t, h, e => by simp at e
  | x :: y :: d, i + 1, a, t, h, e => isD_drop (y :: d) i h.2 e
theorem isD_back {n : Nat} : ∀ (d : List Nat), Path.isD n d → ∀ (p : Nat), (∀ a t, d = a :: t → p < a) → divB n (some (p : Nat)) (zs d) = true
  | [], h, _, _ => absurd h id
  | [a], h, p, hp => by
    have := hp a [] rfl
    have h' : a < n := h
    simp only [zs, List.map_cons, List.map_nil, divB, Bool.and_true, Bool.and_eq_true, decide_eq_true_eq]
    omega
  | a :: b :: t, h, p, hp => by
    have h1 := hp a _ rfl
    have h2 := isD_hd _ _ h
    have h3 := isD_back (b :: t) h.2 a (fun c u e => by injection e with e1 _; rw [← e1]; exact h.1)
    rw [zs, List.map_cons, divB]
    rw [zs] at h3
    rw [h3]
    simp only [Bool.and_true, Bool.and_eq_true, decide_eq_true_eq]
    omega
theorem isD_divR {n : Nat} {t : List Nat} (h : Path.isD n (0 :: t)) : divR n (zs (0 :: t)) = true := by
  have h0 := isD_hd _ _ h
  unfold divR
  have h1 : divB n none (zs (0 :: t)) = true := by
    rw [zs, List.map_cons, divB]
    have : divB n (some ((0 : Nat) : Int)) (zs t) = true := by
      cases t with
      | nil => rfl
      | cons b u => exact isD_back (b :: u) h.2 0 (fun a w e => by injection e with e1 _; rw [← e1]; exact h.1)
    rw [zs] at this
    rw [this]
    simp only [Bool.and_true, Bool.and_eq_true, decide_eq_true_eq]
    omega
  rw [h1]
  have : ¬ n = 0 := by omega
  simp [zs, this]

abbrev cstF (l : List Sy) (ph pt : Int) : Nat → Nat → Bool → Bool → Int := fun a b s f => cst l ph pt a b s f
/-- The cost of a division. -/
abbrev tt (l : List Sy) (ph pt : Int) (s : Bool) (d : List Nat) : Int := Path.tot (cstF l ph pt) l.length inf s d

/-- Not possible, or so many pages' cost at most. -/
def Bd (k : Nat) (x : Int) : Prop := x = inf ∨ (0 ≤ x ∧ x ≤ k * 549756872464)
theorem Bd_0 : Bd 0 0 := .inr ⟨by omega, by omega⟩
theorem hinf : inf = 1125899906842624 := rfl
theorem Bd_add {j k : Nat} {x y : Int} (h : Bd j x) (h' : Bd k y) (hk : j + k ≤ 2047) : Bd (j + k) (Path.addI inf x y) := by
  have := hinf
  unfold Bd at *
  unfold Path.addI
  split <;> omega
theorem addI_assoc {i j k : Nat} {x y z : Int} (hx : Bd i x) (hy : Bd j y) (hz : Bd k z) (h : i + j + k ≤ 2047) : Path.addI inf (Path.addI inf x y) z = Path.addI inf x (Path.addI inf y z) := by
  have := hinf
  unfold Bd at *
  by_cases h1 : inf ≤ x
  · simp only [Path.addI, h1, Int.le_refl, true_or, if_true]
  by_cases h2 : inf ≤ y
  · simp only [Path.addI, h2, Int.le_refl, true_or, or_true, if_true]
  by_cases h3 : inf ≤ z
  · simp only [Path.addI, h3, Int.le_refl, or_true, if_true]
  · have e1 : Path.addI inf x y = x + y := by unfold Path.addI; rw [if_neg (by omega)]
    have e2 : Path.addI inf y z = y + z := by unfold Path.addI; rw [if_neg (by omega)]
    rw [e1, e2]
    unfold Path.addI
    rw [if_neg (by omega), if_neg (by omega)]
    omega
theorem addI_0 {k : Nat} {x : Int} (h : Bd k x) (hk : k ≤ 2047) : Path.addI inf x 0 = x := by
  have := hinf
  unfold Bd at h
  unfold Path.addI
  split <;> omega
theorem cst_Bd {l : List Sy} {ph pt : Int} (he : errC l ph pt = 0) (a b : Nat) (s f : Bool) : Bd 1 (cst l ph pt a b s f) := by
  obtain ⟨h1, h2, _⟩ := errC_ok he
  have hh := hgt_in (sl l a b) (fun x hx => errC_in he x (sl_mem hx))
  have := costN_in (ph := ph) (pt := pt) (b0 := (l[a]?.getD ⟨0, 0, 0, 0⟩).b) (more := decide (0 < b - a - 1)) (brk := (sl l (a + 1) b).any isBrk) (lr := (l[b - 1]?.getD ⟨0, 0, 0, 0⟩).r) (h := hgt (sl l a b)) (pos := decide (0 < (a : Int))) (turn := s) (fin := f) h2.1.1 (by omega)
  unfold Bd cst
  rcases this with ⟨q1, q2 | q2⟩
  · exact .inl q2
  · exact .inr ⟨q1, by omega⟩
theorem tt_Bd {l : List Sy} {ph pt : Int} (he : errC l ph pt = 0) : ∀ (d : List Nat) (s : Bool), d.length ≤ 2000 → Bd d.length (tt l ph pt s d)
  | [], s, _ => Bd_0
  | [a], s, _ => cst_Bd he _ _ _ _
  | a :: b :: t, s, h => by
    have h1 := tt_Bd he (b :: t) (!s) (by simp only [List.length_cons] at h ⊢; omega)
    have h2 := Bd_add (cst_Bd he a b s false) h1 (by simp only [List.length_cons] at h ⊢; omega)
    rw [Nat.add_comm] at h2
    exact h2
theorem isD_len {n : Nat} : ∀ (d : List Nat) (a : Nat), Path.isD n (a :: d) → a + d.length < n
  | [], a, h => h
  | b :: t, a, h => by
    have := isD_len t b h.2
    have := h.1
    simp only [List.length_cons]
    omega

theorem par {i : Nat} : (!decide ((i : Int) % 2 = 0)) = decide (((i + 1 : Nat) : Int) % 2 = 0) := by
  by_cases h : (i : Int) % 2 = 0
  · rw [decide_eq_true h, decide_eq_false (by omega)]; rfl
  · rw [decide_eq_false h, decide_eq_true (by omega)]; rfl

theorem loop17 {k : List KI} {v w : V} {l : List Sy} {ph pt : Int} {d : List Nat} {L : List Row} {r : Int → Option V} (he : errC l ph pt = 0) (hv : SlV 4 v (E4 l)) (hw : SlV 1 w (I1 (zs d))) (hd : d = [] ∨ Path.isD l.length d) (hdl : d.length ≤ 1024)
    (hL : rget L 1 = ⟨1, 2, [[.i ph, .i pt]]⟩)
    (hx : ∀ fr' S, Ab.get fr' 9 = .i S → Gx tbl H [.tmp 6, .tmp 7] 1 k fr' L = r S) :
    ∀ (t : List Nat) (i : Nat) (S : Int) (fr : List V), d.drop i = t → i ≤ d.length → Bd i S → Ab.get fr 0 = v → Ab.get fr 2 = w → Ab.get fr 4 = .ptr 0 1 1 0 0 → Ab.get fr 9 = .i S → Ab.get fr 26 = w → Ab.get fr 27 = .i (d.length : Nat) → Ab.get fr 28 = .i (i : Nat) →
    G tbl H [.tmp 6, .tmp 7] (.code (.loop ( (.seq ( .region [] [ ⟨some 29, .bin .lss (.t 28) (.t 27), none⟩]) ( (.seq ( (.cond (.t 29) ( .skip) ( .exit 1))) ( (.seq ( (.block 2 ( (.seq ( .region [] [ ⟨some 30, .mv (.t 28), none⟩, ⟨some 31, .elemAddr 1 (.t 26) (.t 28), none⟩, ⟨some 32, .load false 1 (.t 31), none⟩, ⟨some 10, .mv (.t 30), none⟩, ⟨some 11, .mv (.t 32), none⟩]) ( (.seq ( .region [] [ ⟨some 33, .mv (.t 0), none⟩, ⟨some 34, .mv (.t 11), none⟩, ⟨some 35, .mv (.t 0), none⟩, ⟨some 36, .len (.t 35), none⟩, ⟨some 37, .mv (.t 2), none⟩, ⟨some 38, .mv (.t 10), none⟩, ⟨some 39, .call 0 (.c (.fn 31 [])) [(.t 36), (.t 37), (.t 38)], none⟩, ⟨some 40, .sub 4 (.t 33) (some (.t 34)) (some (.t 39)) none, none⟩, ⟨some 12, .mv (.t 40), none⟩]) ( .region [] [ ⟨some 41, .mv (.t 9), none⟩, ⟨some 42, .load true 2 (.t 4), none⟩, ⟨some 43, .mv (.t 12), none⟩, ⟨some 44, .mv (.t 12), none⟩, ⟨some 45, .call 0 (.c (.fn 33 [])) [(.t 44)], none⟩, ⟨some 46, .mv (.t 11), none⟩, ⟨some 47, .mv (.t 10), none⟩, ⟨some 48, .bin .rem (.t 47) (.c (.int .i64 2)), none⟩, ⟨some 49, .bin .eql (.t 48) (.c (.int .i64 0)), none⟩, ⟨some 50, .mv (.t 10), none⟩, ⟨some 51, .mv (.t 2), none⟩, ⟨some 52, .len (.t 51), none⟩, ⟨some 53, .bin .sub (.t 52) (.c (.int .i64 1)), none⟩, ⟨some 54, .bin .eql (.t 50) (.t 53), none⟩, ⟨some 55, .build [(.int .i64 0), (.bool false), (.bool false)] [(0, 1, (.t 46)), (1, 1, (.t 49)), (2, 1, (.t 54))], none⟩, ⟨some 56, .call 0 (.c (.fn 32 [])) [(.t 42), (.t 43), (.t 45), (.t 55)], none⟩, ⟨some 57, .bin .add (.t 41) (.t 56), none⟩, ⟨some 58, .mm false [(.c (.int .i64 1125899906842624)), (.t 57)], none⟩, ⟨some 9, .mv (.t 58), none⟩]))))))) ( .region [] [ ⟨some 59, .bin .add (.t 28) (.c (.int .i64 1)), none⟩, ⟨some 28, .mv (.t 59), none⟩])))))))) :: k) fr L = r (Path.addI inf S (tt l ph pt (decide ((i : Int) % 2 = 0)) t)) := by
  intro t
  have hlw := hw.len
  rw [I1_len, zs_len] at hlw
  have hlv := hv.len
  rw [E4_len] at hlv
  obtain ⟨ho, _⟩ := errC_ok he
  induction t with
  | nil =>
    intro i S fr ht hi hS h0 h2 h4 h9 h26 h27 h28
    have := drop_nil ht
    rw [show tt l ph pt (decide ((i : Int) % 2 = 0)) [] = 0 from rfl, addI_0 hS (by omega)]
    refine G_loop.trans ?_
    simp (config := { maxSteps := 10000000 }) (disch := omega) only [↓G_seq, ↓G_exit, ↓G_region, ↓G_cond, ↓Gx_code, ↓G_ops_nil, ↓G_op, Gv_some, Gc_false, dec_f, killAll, ↓get_setS, evalOp, ev, b_lss, one, Option.map_some, List.getElem?_cons_zero, List.getElem?_cons_succ, ↓reduceIte, h27, h28]
    refine hx _ _ ?_
    simp (config := { maxSteps := 10000000 }) (disch := omega) only [↓get_setS, List.getElem?_cons_zero, List.getElem?_cons_succ, Nat.reduceEqDiff, ↓reduceIte, h9]
  | cons a t ih =>
    intro i S fr ht hi hS h0 h2 h4 h9 h26 h27 h28
    obtain ⟨e1, e2, e3⟩ := drop_cons ht
    have hE := hw.el (I1_get _ i _ (zs_get e1))
    have hq : ((i : Nat) : Int).tmod 2 = (i : Int) % 2 := tmod_pos (by omega)
    have hda : Path.isD l.length (a :: t) := by
      rcases hd with rfl | hd
      · simp at ht
      · exact isD_drop d i hd ht
    have htl : t.length = d.length - i - 1 := by
      have := congrArg List.length ht
      simp only [List.length_drop, List.length_cons] at this
      omega
    obtain ⟨b, hb, hab, hbl, hfin, htt⟩ : ∃ b : Nat, (∀ H, call tbl 31 [.i (l.length : Nat), w, .i (i : Nat)] H = some (.i (b : Nat))) ∧ a < b ∧ b ≤ l.length ∧ decide ((i : Int) = (d.length : Int) - 1) = decide (t = []) ∧
        ∀ s, tt l ph pt s (a :: t) = Path.addI inf (cst l ph pt a b s (decide (t = []))) (tt l ph pt (!s) t) := by
      have h31 := fun H => c31 (H := H) (n := (l.length : Nat)) (l := zs d) (i := i) (by rw [zs_len]; exact e3) (by rw [zs_len]; omega) hw
      cases t with
      | nil =>
        have : d[i + 1]? = none := by rw [List.getElem?_eq_none_iff]; simp only [List.length_nil] at htl; omega
        rw [zs_none this] at h31
        refine ⟨l.length, h31, hda, Nat.le_refl _, ?_, fun s => ?_⟩
        · rw [decide_eq_true (show ((i : Int) = (d.length : Int) - 1) by simp only [List.length_nil] at htl; omega)]
          rfl
        · rw [show tt l ph pt (!s) [] = 0 from rfl, addI_0 (cst_Bd he _ _ _ _) (by omega)]
          rfl
      | cons b t =>
        obtain ⟨f1, _, _⟩ := drop_cons e2
        rw [zs_get f1] at h31
        refine ⟨b, h31, hda.1, Nat.le_of_lt (isD_hd _ _ hda.2), ?_, fun s => rfl⟩
        rw [decide_eq_false (show ¬ ((i : Int) = (d.length : Int) - 1) by simp only [List.length_cons] at htl; omega)]
        rfl
    obtain ⟨x, hs, hxv⟩ := part hv (Nat.le_of_lt hab) hbl
    have h33 := fun H => c33' (H := H) (by rw [sl_len hbl]; omega) (by rw [sl_len hbl]; omega) (fun x hx => errC_in he x (sl_mem hx)) hxv
    have h32 := fun H => c32' (H := H) (first := (a : Nat)) (turn := decide ((i : Int) % 2 = 0)) (fin := decide (t = [])) hab hbl he hxv rfl
    have hc := cst_Bd he a b (decide ((i : Int) % 2 = 0)) (decide (t = []))
    have htb := tt_Bd he t (!(decide ((i : Int) % 2 = 0))) (by omega)
    rw [htt, ← addI_assoc hS hc htb (by omega), par]
    generalize cst l ph pt a b (decide ((i : Int) % 2 = 0)) (decide (t = [])) = c at *
    generalize hgt (sl l a b) = h at *
    have hsh := hv.sh
    have hwh := hw.sh
    have hxh := hxv.sh
    have hS1 := Bd_add hS hc (by omega)
    have next : ∀ fr', Ab.get fr' 0 = v → Ab.get fr' 2 = w → Ab.get fr' 4 = .ptr 0 1 1 0 0 → Ab.get fr' 9 = .i (Path.addI inf S c) → Ab.get fr' 26 = w → Ab.get fr' 27 = .i (d.length : Nat) → Ab.get fr' 28 = .i ((i : Nat) + 1) →
        G tbl H [.tmp 6, .tmp 7] (.code (.loop ( (.seq ( .region [] [ ⟨some 29, .bin .lss (.t 28) (.t 27), none⟩]) ( (.seq ( (.cond (.t 29) ( .skip) ( .exit 1))) ( (.seq ( (.block 2 ( (.seq ( .region [] [ ⟨some 30, .mv (.t 28), none⟩, ⟨some 31, .elemAddr 1 (.t 26) (.t 28), none⟩, ⟨some 32, .load false 1 (.t 31), none⟩, ⟨some 10, .mv (.t 30), none⟩, ⟨some 11, .mv (.t 32), none⟩]) ( (.seq ( .region [] [ ⟨some 33, .mv (.t 0), none⟩, ⟨some 34, .mv (.t 11), none⟩, ⟨some 35, .mv (.t 0), none⟩, ⟨some 36, .len (.t 35), none⟩, ⟨some 37, .mv (.t 2), none⟩, ⟨some 38, .mv (.t 10), none⟩, ⟨some 39, .call 0 (.c (.fn 31 [])) [(.t 36), (.t 37), (.t 38)], none⟩, ⟨some 40, .sub 4 (.t 33) (some (.t 34)) (some (.t 39)) none, none⟩, ⟨some 12, .mv (.t 40), none⟩]) ( .region [] [ ⟨some 41, .mv (.t 9), none⟩, ⟨some 42, .load true 2 (.t 4), none⟩, ⟨some 43, .mv (.t 12), none⟩, ⟨some 44, .mv (.t 12), none⟩, ⟨some 45, .call 0 (.c (.fn 33 [])) [(.t 44)], none⟩, ⟨some 46, .mv (.t 11), none⟩, ⟨some 47, .mv (.t 10), none⟩, ⟨some 48, .bin .rem (.t 47) (.c (.int .i64 2)), none⟩, ⟨some 49, .bin .eql (.t 48) (.c (.int .i64 0)), none⟩, ⟨some 50, .mv (.t 10), none⟩, ⟨some 51, .mv (.t 2), none⟩, ⟨some 52, .len (.t 51), none⟩, ⟨some 53, .bin .sub (.t 52) (.c (.int .i64 1)), none⟩, ⟨some 54, .bin .eql (.t 50) (.t 53), none⟩, ⟨some 55, .build [(.int .i64 0), (.bool false), (.bool false)] [(0, 1, (.t 46)), (1, 1, (.t 49)), (2, 1, (.t 54))], none⟩, ⟨some 56, .call 0 (.c (.fn 32 [])) [(.t 42), (.t 43), (.t 45), (.t 55)], none⟩, ⟨some 57, .bin .add (.t 41) (.t 56), none⟩, ⟨some 58, .mm false [(.c (.int .i64 1125899906842624)), (.t 57)], none⟩, ⟨some 9, .mv (.t 58), none⟩]))))))) ( .region [] [ ⟨some 59, .bin .add (.t 28) (.c (.int .i64 1)), none⟩, ⟨some 28, .mv (.t 59), none⟩])))))))) :: k) fr' L = r (Path.addI inf (Path.addI inf S c) (tt l ph pt (decide (((i + 1 : Nat) : Int) % 2 = 0)) t)) := by
      intro fr' g0 g2 g4 g9 g26 g27 g28
      exact ih (i + 1) _ fr' e2 (by omega) hS1 g0 g2 g4 g9 g26 g27 (by rw [g28]; congr 1)
    have hmin : (if S + c < 1125899906842624 then S + c else 1125899906842624) = Path.addI inf S c := by
      have := hinf
      unfold Bd at hS hc
      unfold Path.addI
      by_cases c1 : inf ≤ S ∨ inf ≤ c
      · rw [if_pos c1, if_neg (by omega), hinf]
      · rw [if_neg c1, if_pos (by omega)]
    have hr : 0 ≤ S ∧ S ≤ 1125899906842624 ∧ 0 ≤ c ∧ c ≤ 1125899906842624 := by
      have := hinf
      unfold Bd at hS hc
      omega
    generalize Path.addI inf S c = S1 at *
    have hml : l.length ≤ 1024 := ho
    clear ih hx hS hc htb htt hS1 hd hda hv hw hxv he
    refine G_loop.trans ?_
    simp (config := { maxSteps := 10000000 }) (disch := omega) only [↓G_seq, ↓G_skip, ↓G_blk, ↓G_region, ↓G_block, ↓G_cond, ↓G_ops_nil, ↓G_op, Gv_some, Gc_true, dec_t, killAll, ↓get_setS, evalOp, ev, evs, b_add, b_sub, b_eql, b_lss, b_rem, wrap_i64, one, Option.map_some, Option.bind_some, Option.map_none, callV, V.shift, V.shifts, List.append_nil, List.nil_append, List.cons_append, List.all_cons, List.all_nil, Bool.and_self, List.getElem?_cons_zero, List.getElem?_cons_succ, Nat.reduceEqDiff, reduceCtorEq, ↓reduceIte, Nat.succ_ne_self, bne_self_eq_false, Bool.false_eq_true, Int.reduceAdd, pick3, V.cells, fillV, splice, loadV, Ab.rowAt, V.scalar, mmV, Nat.reduceAdd, Nat.reduceLeDiff, and_self, List.length_cons, List.length_nil, List.take_succ_cons, List.take_zero, List.drop_succ_cons, List.drop_zero, Nat.le_refl, List.getD_cons_zero, Nat.zero_add, ti_int, h0, h2, h4, h9, h26, h27, h28, hE, hb, hs, h33, h32, hfin, hq, hlw, hlv, hwh, hxh, hL, hmin, Nat.zero_lt_succ]
    refine next _ ?_ ?_ ?_ ?_ ?_ ?_ ?_
    all_goals simp (config := { maxSteps := 10000000 }) (disch := omega) only [↓get_setS, List.getElem?_cons_zero, List.getElem?_cons_succ, Nat.reduceEqDiff, reduceCtorEq, ↓reduceIte, Nat.succ_ne_self, h0, h2, h4, h26, h27]

/-- Division lists: nothing of nothing, or a list that begins with 0. -/
def Dv (n : Nat) (d : List Nat) : Prop := (n = 0 ∧ d = []) ∨ (∃ t, d = 0 :: t ∧ Path.isD n d)
theorem Dv_len {n : Nat} {d : List Nat} (h : Dv n d) : d.length ≤ n := by
  rcases h with ⟨h1, rfl⟩ | ⟨t, rfl, h2⟩
  · simp
  · have := isD_len t 0 h2
    simp only [List.length_cons]
    omega
theorem Dv_divR {n : Nat} {d : List Nat} (h : Dv n d) : divR n (zs d) = true := by
  rcases h with ⟨rfl, rfl⟩ | ⟨t, rfl, h2⟩
  · rfl
  · exact isD_divR h2
theorem divR_Dv {n : Nat} {l : List Int} (h : divR n l = true) : ∃ d, l = zs d ∧ Dv n d := by
  rcases divR_nat h with ⟨h1, h2⟩ | ⟨t, h1, h2⟩
  · exact ⟨[], h2, .inl ⟨h1, rfl⟩⟩
  · exact ⟨0 :: t, h1, .inr ⟨t, rfl, h2⟩⟩

theorem Dv_or {n : Nat} {d : List Nat} (h : Dv n d) : d = [] ∨ Path.isD n d := by
  rcases h with ⟨_, h⟩ | ⟨t, _, h⟩
  · exact .inl h
  · exact .inr h

theorem c17 {v w : V} {l : List Sy} {ph pt : Int} {d : List Nat} (hm : l.length ≤ 9223372036854775807) (he : errC l ph pt = 0) (hv : SlV 4 v (E4 l)) (hw : SlV 1 w (I1 (zs d))) (hd : Dv l.length d) :
    call tbl 17 [v, .agg [.i ph, .i pt], w] H = some (.tup [.i (tt l ph pt true d), .i 0]) := by
  refine (call_start (show tbl 17 = some a17 from rfl)).trans ?_
  have hlw := hw.len
  rw [I1_len, zs_len] at hlw
  have hlv := hv.len
  rw [E4_len] at hlv
  obtain ⟨ho, _⟩ := errC_ok he
  have hdl := Dv_len hd
  have h12 := fun H => c12 (H := H) (ph := ph) (pt := pt) hm hv
  simp only [he] at h12
  have h30 := fun H => c30 (H := H) (n := (l.length : Nat)) (l := zs d) (by rw [zs_len]; omega) hw
  simp only [Dv_divR hd] at h30
  have hsh := hv.sh
  have hwh := hw.sh
  have ht := tt_Bd he d true (by omega)
  have hfin : tt l ph pt true d = Path.addI inf 0 (tt l ph pt (decide (((0 : Nat) : Int) % 2 = 0)) d) := by
    rw [show decide (((0 : Nat) : Int) % 2 = 0) = true from rfl]
    have := hinf
    unfold Bd at ht
    unfold Path.addI
    split <;> omega
  rw [hfin]
  unfold a17
  simp (config := { maxSteps := 10000000 }) (disch := omega) only [↓G_seq, ↓G_skip, ↓G_blk, ↓G_region, ↓G_block, ↓G_cond, ↓G_ops_nil, ↓G_op, Gv_some, Gc_false, dec_t, killAll, ↓get_setS, evalOp, ev, evs, Ab.get, b_neq, one, Option.map_some, Option.bind_some, asB, callV, V.shift, V.shifts, List.append_nil, List.all_cons, List.all_nil, Bool.and_self, List.getElem?_cons_zero, List.getElem?_cons_succ, Nat.reduceEqDiff, reduceCtorEq, ↓reduceIte, Nat.succ_ne_self, decide_true, Bool.not_true, bne_self_eq_false, Int.reduceAdd, pick3, V.cells, loadV, Ab.rowAt, rget, rset, V.scalar, Nat.reduceAdd, and_self, List.length_cons, List.length_nil, List.take_succ_cons, List.take_zero, List.drop_zero, Nat.le_refl, List.getD_cons_zero, Int.cast_ofNat_Int, Nat.zero_add, ti_bool, ti_int, hlw, hlv, hsh, hwh, h12, h30, Nat.zero_lt_succ]
  refine loop17 (r := fun S => some (.tup [.i S, .i 0])) he hv hw (Dv_or hd) (by omega) ?_ (fun fr' S g9 => ?_) d 0 0 _ rfl (by omega) Bd_0 ?_ ?_ ?_ ?_ ?_ ?_ ?_
  · rfl
  · simp (config := { maxSteps := 10000000 }) (disch := omega) only [↓G_seq, ↓G_ret, ↓G_region, ↓Gx_blk, ↓G_ops_nil, ↓G_op, Gv_some, killAll, ↓get_setS, evalOp, ev, Option.map_some, Option.bind_some, finish, resVs, resV, outVs, ownsLast, tupOf, List.all_cons, List.all_nil, Bool.and_self, List.getElem?_cons_zero, List.getElem?_cons_succ, ↓reduceIte, Nat.succ_ne_self, and_self, ov_int, fn_some, g9]
  all_goals simp (config := { maxSteps := 10000000 }) (disch := omega) only [↓get_setS, Ab.get, List.getElem?_cons_zero, List.getElem?_cons_succ, Nat.reduceEqDiff, reduceCtorEq, ↓reduceIte, Nat.succ_ne_self, Int.cast_ofNat_Int]

theorem c17e {v w : V} {l : List Sy} {ph pt : Int} (hm : l.length ≤ 9223372036854775807) (he : errC l ph pt ≠ 0) (hv : SlV 4 v (E4 l)) (hwh : ∀ d, V.shift d w = w) : call tbl 17 [v, .agg [.i ph, .i pt], w] H = some (.tup [.i 0, .i (errC l ph pt)]) := by
  refine (call_start (show tbl 17 = some a17 from rfl)).trans ?_
  have h12 := fun H => c12 (H := H) (ph := ph) (pt := pt) hm hv
  have hsh := hv.sh
  generalize errC l ph pt = e at *
  unfold a17
  simp (config := { maxSteps := 10000000 }) (disch := omega) only [↓G_seq, ↓G_ret, ↓G_region, ↓G_block, ↓G_cond, ↓G_ops_nil, ↓G_op, Gv_some, Gc_true, dec_f, killAll, ↓get_setS, evalOp, ev, evs, Ab.get, b_neq, one, Option.map_some, Option.bind_some, finish, resVs, resV, outVs, ownsLast, tupOf, callV, V.shift, V.shifts, List.append_nil, List.all_cons, List.all_nil, Bool.and_self, List.getElem?_cons_zero, List.getElem?_cons_succ, Nat.reduceEqDiff, reduceCtorEq, ↓reduceIte, Nat.succ_ne_self, Bool.not_false, bne_self_eq_false, Int.reduceAdd, pick3, V.cells, loadV, Ab.rowAt, rget, rset, V.scalar, Nat.reduceAdd, and_self, List.length_cons, List.length_nil, List.take_succ_cons, List.take_zero, List.drop_zero, Nat.le_refl, List.getD_cons_zero, Nat.zero_add, ti_int, ov_int, fn_some, hsh, h12, Nat.zero_lt_succ]

theorem c17n {v w : V} {l : List Sy} {ph pt : Int} {s : List Int} (hm : l.length ≤ 9223372036854775807) (hs : s.length ≤ 9223372036854775807) (he : errC l ph pt = 0) (hv : SlV 4 v (E4 l)) (hw : SlV 1 w (I1 s)) (hd : divR l.length s = false) :
    call tbl 17 [v, .agg [.i ph, .i pt], w] H = some (.tup [.i 0, .i 25]) := by
  refine (call_start (show tbl 17 = some a17 from rfl)).trans ?_
  have hlv := hv.len
  rw [E4_len] at hlv
  have h12 := fun H => c12 (H := H) (ph := ph) (pt := pt) hm hv
  simp only [he] at h12
  have h30 := fun H => c30 (H := H) (n := (l.length : Nat)) (l := s) hs hw
  simp only [hd] at h30
  have hsh := hv.sh
  have hwh := hw.sh
  unfold a17
  simp (config := { maxSteps := 10000000 }) (disch := omega) only [↓G_seq, ↓G_ret, ↓G_region, ↓G_block, ↓G_cond, ↓G_ops_nil, ↓G_op, Gv_some, Gc_true, Gc_false, killAll, ↓get_setS, evalOp, ev, evs, Ab.get, b_neq, one, Option.map_some, Option.bind_some, asB, finish, resVs, resV, outVs, ownsLast, tupOf, callV, V.shift, V.shifts, List.append_nil, List.all_cons, List.all_nil, Bool.and_self, List.getElem?_cons_zero, List.getElem?_cons_succ, Nat.reduceEqDiff, reduceCtorEq, ↓reduceIte, Nat.succ_ne_self, decide_true, Bool.not_true, Bool.not_false, bne_self_eq_false, Int.reduceAdd, pick3, V.cells, loadV, Ab.rowAt, rget, rset, V.scalar, Nat.reduceAdd, and_self, List.length_cons, List.length_nil, List.take_succ_cons, List.take_zero, List.drop_zero, Nat.le_refl, List.getD_cons_zero, Nat.zero_add, ti_bool, ti_int, ov_int, fn_some, hlv, hsh, hwh, h12, h30, Nat.zero_lt_succ]

theorem loop19 {k : List KI} {v w : V} {l : List Sy} {ph pt : Int} {d : List Nat} {L : List Row} (he : errC l ph pt = 0) (hv : SlV 4 v (E4 l)) (hw : SlV 1 w (I1 (zs d))) (hd : d = [] ∨ Path.isD l.length d) (hdl : d.length ≤ 1024)
    (hL : rget L 1 = ⟨1, 2, [[.i ph, .i pt]]⟩)
    (hx : ∀ fr' S, Ab.get fr' 7 = .i S → Gx tbl H [.tmp 6] 0 k fr' L = some (.i S)) :
    ∀ (t : List Nat) (i : Nat) (S : Int) (fr : List V), d.drop i = t → i ≤ d.length → 0 ≤ S ∧ S ≤ i * 549756872464 → Ab.get fr 0 = v → Ab.get fr 2 = w → Ab.get fr 4 = .ptr 0 1 1 0 0 → Ab.get fr 7 = .i S → Ab.get fr 8 = .i (i : Nat) →
    G tbl H [.tmp 6] (.code (.loop ( (.seq ( (.seq ( .region [] [ ⟨some 12, .mv (.t 8), none⟩, ⟨some 13, .mv (.t 2), none⟩, ⟨some 14, .len (.t 13), none⟩, ⟨some 15, .bin .lss (.t 12) (.t 14), none⟩]) ( (.cond (.t 15) ( .skip) ( .exit 0))))) ( (.seq ( (.block 1 ( (.seq ( .region [] [ ⟨some 18, .mv (.t 0), none⟩, ⟨some 19, .len (.t 18), none⟩, ⟨some 20, .bin .sub (.t 19) (.c (.int .i64 1)), none⟩, ⟨some 9, .mv (.t 20), none⟩, ⟨some 10, .mv (.c (.bool true)), none⟩]) ( (.seq ( (.seq ( .region [] [ ⟨some 21, .mv (.t 8), none⟩, ⟨some 22, .bin .add (.t 21) (.c (.int .i64 1)), none⟩, ⟨some 23, .mv (.t 2), none⟩, ⟨some 24, .len (.t 23), none⟩, ⟨some 25, .bin .lss (.t 22) (.t 24), none⟩]) ( (.cond (.t 25) ( .region [] [ ⟨some 26, .mv (.t 2), none⟩, ⟨some 27, .mv (.t 8), none⟩, ⟨some 28, .bin .add (.t 27) (.c (.int .i64 1)), none⟩, ⟨some 29, .elemAddr 1 (.t 26) (.t 28), none⟩, ⟨some 30, .load false 1 (.t 29), none⟩, ⟨some 31, .bin .sub (.t 30) (.c (.int .i64 1)), none⟩, ⟨some 9, .mv (.t 31), none⟩, ⟨some 10, .mv (.c (.bool false)), none⟩]) ( .skip))))) ( (.seq ( .region [] [ ⟨some 32, .mv (.t 0), none⟩, ⟨some 33, .load true 2 (.t 4), none⟩, ⟨some 34, .mv (.t 2), none⟩, ⟨some 35, .mv (.t 8), none⟩, ⟨some 36, .elemAddr 1 (.t 34) (.t 35), none⟩, ⟨some 37, .load false 1 (.t 36), none⟩, ⟨some 38, .mv (.t 9), none⟩, ⟨some 39, .mv (.t 8), none⟩, ⟨some 40, .mv (.t 10), none⟩, ⟨some 41, .call 0 (.c (.fn 25 [])) [(.t 32), (.t 33), (.t 37), (.t 38), (.t 39), (.t 40)], none⟩, ⟨some 11, .mv (.t 41), none⟩]) ( (.seq ( (.seq ( .region [] [ ⟨some 42, .mv (.t 11), none⟩, ⟨some 43, .bin .geq (.t 42) (.c (.int .i64 1125899906842624)), none⟩]) ( (.cond (.t 43) ( (.seq ( .region [] [ ⟨some 6, .mv (.c (.int .i64 1125899906842624)), none⟩]) ( .ret))) ( .skip))))) ( .region [] [ ⟨some 44, .mv (.t 7), none⟩, ⟨some 45, .mv (.t 11), none⟩, ⟨some 46, .bin .add (.t 44) (.t 45), none⟩, ⟨some 7, .mv (.t 46), none⟩]))))))))))) ( .region [] [ ⟨some 16, .mv (.t 8), none⟩, ⟨some 17, .bin .add (.t 16) (.c (.int .i64 1)), none⟩, ⟨some 8, .mv (.t 17), none⟩])))))) :: k) fr L = some (.i (Path.addI inf S (tt l ph pt (decide ((i : Int) % 2 = 0)) t))) := by
  intro t
  have hlw := hw.len
  rw [I1_len, zs_len] at hlw
  have hlv := hv.len
  rw [E4_len] at hlv
  obtain ⟨ho, _⟩ := errC_ok he
  induction t with
  | nil =>
    intro i S fr ht hi hS h0 h2 h4 h7 h8
    have := drop_nil ht
    rw [show tt l ph pt (decide ((i : Int) % 2 = 0)) [] = 0 from rfl, addI_0 (k := i) (.inr hS) (by omega)]
    refine G_loop.trans ?_
    simp (config := { maxSteps := 10000000 }) (disch := omega) only [↓G_seq, ↓G_exit, ↓G_region, ↓G_cond, ↓Gx_code, ↓G_ops_nil, ↓G_op, Gv_some, Gc_false, dec_f, killAll, ↓get_setS, evalOp, ev, b_lss, one, Option.map_some, List.getElem?_cons_zero, List.getElem?_cons_succ, Nat.reduceEqDiff, ↓reduceIte, Nat.succ_ne_self, h2, hlw, h8]
    refine hx _ _ ?_
    simp (config := { maxSteps := 10000000 }) (disch := omega) only [↓get_setS, List.getElem?_cons_zero, List.getElem?_cons_succ, Nat.reduceEqDiff, ↓reduceIte, h7]
  | cons a t ih =>
    intro i S fr ht hi hS h0 h2 h4 h7 h8
    obtain ⟨e1, e2, e3⟩ := drop_cons ht
    have hE := hw.el (I1_get _ i _ (zs_get e1))
    have hda : Path.isD l.length (a :: t) := by
      rcases hd with rfl | hd
      · simp at ht
      · exact isD_drop d i hd ht
    have htl : t.length = d.length - i - 1 := by
      have := congrArg List.length ht
      simp only [List.length_drop, List.length_cons] at this
      omega
    have hi0 : (0 : Int) ≤ (i : Nat) := by omega
    have hsh := hv.sh
    have hwh := hw.sh
    have nx : ∀ c, 0 ≤ c → c ≤ 549756872464 → ∀ fr', Ab.get fr' 0 = v → Ab.get fr' 2 = w → Ab.get fr' 4 = .ptr 0 1 1 0 0 → Ab.get fr' 7 = .i (S + c) → Ab.get fr' 8 = .i ((i : Nat) + 1) →
        G tbl H [.tmp 6] (.code (.loop ( (.seq ( (.seq ( .region [] [ ⟨some 12, .mv (.t 8), none⟩, ⟨some 13, .mv (.t 2), none⟩, ⟨some 14, .len (.t 13), none⟩, ⟨some 15, .bin .lss (.t 12) (.t 14), none⟩]) ( (.cond (.t 15) ( .skip) ( .exit 0))))) ( (.seq ( (.block 1 ( (.seq ( .region [] [ ⟨some 18, .mv (.t 0), none⟩, ⟨some 19, .len (.t 18), none⟩, ⟨some 20, .bin .sub (.t 19) (.c (.int .i64 1)), none⟩, ⟨some 9, .mv (.t 20), none⟩, ⟨some 10, .mv (.c (.bool true)), none⟩]) ( (.seq ( (.seq ( .region [] [ ⟨some 21, .mv (.t 8), none⟩, ⟨some 22, .bin .add (.t 21) (.c (.int .i64 1)), none⟩, ⟨some 23, .mv (.t 2), none⟩, ⟨some 24, .len (.t 23), none⟩, ⟨some 25, .bin .lss (.t 22) (.t 24), none⟩]) ( (.cond (.t 25) ( .region [] [ ⟨some 26, .mv (.t 2), none⟩, ⟨some 27, .mv (.t 8), none⟩, ⟨some 28, .bin .add (.t 27) (.c (.int .i64 1)), none⟩, ⟨some 29, .elemAddr 1 (.t 26) (.t 28), none⟩, ⟨some 30, .load false 1 (.t 29), none⟩, ⟨some 31, .bin .sub (.t 30) (.c (.int .i64 1)), none⟩, ⟨some 9, .mv (.t 31), none⟩, ⟨some 10, .mv (.c (.bool false)), none⟩]) ( .skip))))) ( (.seq ( .region [] [ ⟨some 32, .mv (.t 0), none⟩, ⟨some 33, .load true 2 (.t 4), none⟩, ⟨some 34, .mv (.t 2), none⟩, ⟨some 35, .mv (.t 8), none⟩, ⟨some 36, .elemAddr 1 (.t 34) (.t 35), none⟩, ⟨some 37, .load false 1 (.t 36), none⟩, ⟨some 38, .mv (.t 9), none⟩, ⟨some 39, .mv (.t 8), none⟩, ⟨some 40, .mv (.t 10), none⟩, ⟨some 41, .call 0 (.c (.fn 25 [])) [(.t 32), (.t 33), (.t 37), (.t 38), (.t 39), (.t 40)], none⟩, ⟨some 11, .mv (.t 41), none⟩]) ( (.seq ( (.seq ( .region [] [ ⟨some 42, .mv (.t 11), none⟩, ⟨some 43, .bin .geq (.t 42) (.c (.int .i64 1125899906842624)), none⟩]) ( (.cond (.t 43) ( (.seq ( .region [] [ ⟨some 6, .mv (.c (.int .i64 1125899906842624)), none⟩]) ( .ret))) ( .skip))))) ( .region [] [ ⟨some 44, .mv (.t 7), none⟩, ⟨some 45, .mv (.t 11), none⟩, ⟨some 46, .bin .add (.t 44) (.t 45), none⟩, ⟨some 7, .mv (.t 46), none⟩]))))))))))) ( .region [] [ ⟨some 16, .mv (.t 8), none⟩, ⟨some 17, .bin .add (.t 16) (.c (.int .i64 1)), none⟩, ⟨some 8, .mv (.t 17), none⟩])))))) :: k) fr' L = some (.i (Path.addI inf (S + c) (tt l ph pt (decide (((i + 1 : Nat) : Int) % 2 = 0)) t))) := by
      intro c c0 c1 fr' g0 g2 g4 g7 g8
      exact ih (i + 1) _ fr' e2 (by omega) (by omega) g0 g2 g4 g7 (by rw [g8]; congr 1)
    have hr : 0 ≤ S ∧ S ≤ 562951037403136 := by omega
    have hSb : Bd i S := .inr hS
    cases t with
    | nil =>
      have h25 := fun H => c25' (H := H) (num := (i : Nat)) (fin := true) hda (Nat.le_refl _) he hv hi0
      have hcb := cst_Bd he a l.length (decide ((i : Int) % 2 = 0)) true
      rw [show tt l ph pt (decide ((i : Int) % 2 = 0)) [a] = cst l ph pt a l.length (decide ((i : Int) % 2 = 0)) true from rfl]
      generalize cst l ph pt a l.length (decide ((i : Int) % 2 = 0)) true = c at *
      have nx' := nx c
      rw [show tt l ph pt (decide (((i + 1 : Nat) : Int) % 2 = 0)) [] = 0 from rfl] at nx'
      simp only [List.length_nil] at htl
      clear ih hx nx hd hda hv hw he
      refine G_loop.trans ?_
      rcases hcb with hcb | ⟨hcb1, hcb2⟩
      · rw [hcb, show Path.addI inf S inf = 1125899906842624 by unfold Path.addI; rw [if_pos (.inr (Int.le_refl _))]; rfl]
        rw [hcb, hinf] at h25
        clear nx'
        simp (config := { maxSteps := 10000000 }) (disch := omega) only [↓G_seq, ↓G_skip, ↓G_ret, ↓G_region, ↓G_block, ↓G_cond, ↓G_ops_nil, ↓G_op, Gv_some, Gc_true, Gc_false, dec_t, dec_f, killAll, ↓get_setS, evalOp, ev, evs, b_add, b_sub, b_lss, b_geq, wrap_i64, one, Option.map_some, Option.bind_some, finish, resVs, resV, outVs, ownsLast, tupOf, callV, V.shift, V.shifts, List.append_nil, List.all_nil, Bool.and_self, List.getElem?_cons_zero, List.getElem?_cons_succ, Nat.reduceEqDiff, reduceCtorEq, ↓reduceIte, Nat.succ_ne_self, decide_true, bne_self_eq_false, Bool.false_eq_true, Int.reduceAdd, Int.reduceLE, pick3, loadV, Ab.rowAt, Nat.reduceAdd, and_self, List.length_cons, List.length_nil, List.take_succ_cons, List.take_zero, List.drop_zero, Nat.le_refl, List.getD_cons_zero, Nat.zero_add, ti_int, ov_int, fn_some, h0, h2, h4, h8, hE, hlw, hlv, hsh, hL, h25, Nat.zero_lt_succ]
      · have hcb3 : c ≤ 549756872464 := by omega
        have nx2 := nx' hcb1 hcb3
        have e : Path.addI inf (S + c) 0 = Path.addI inf S c := by
          have := hinf
          unfold Path.addI
          rw [if_neg (by omega), if_neg (by omega)]
          omega
        rw [e] at nx2
        generalize Path.addI inf S c = S1 at *
        clear nx' hS hSb
        simp (config := { maxSteps := 10000000 }) (disch := omega) only [↓G_seq, ↓G_skip, ↓G_blk, ↓G_region, ↓G_block, ↓G_cond, ↓G_ops_nil, ↓G_op, Gv_some, Gc_true, Gc_false, dec_t, dec_f, killAll, ↓get_setS, evalOp, ev, evs, b_add, b_sub, b_lss, b_geq, wrap_i64, one, Option.map_some, Option.bind_some, callV, V.shift, V.shifts, List.append_nil, Bool.and_self, List.getElem?_cons_zero, List.getElem?_cons_succ, Nat.reduceEqDiff, reduceCtorEq, ↓reduceIte, Nat.succ_ne_self, bne_self_eq_false, Bool.false_eq_true, Int.reduceAdd, pick3, loadV, Ab.rowAt, Nat.reduceAdd, and_self, List.length_cons, List.length_nil, List.take_succ_cons, List.take_zero, List.drop_zero, Nat.le_refl, List.getD_cons_zero, Nat.zero_add, ti_int, h0, h2, h4, h7, h8, hE, hlw, hlv, hsh, hL, h25, Nat.zero_lt_succ]
        refine nx2 _ ?_ ?_ ?_ ?_ ?_
        all_goals simp (config := { maxSteps := 10000000 }) (disch := omega) only [↓get_setS, List.getElem?_cons_zero, List.getElem?_cons_succ, Nat.reduceEqDiff, reduceCtorEq, ↓reduceIte, Nat.succ_ne_self, h0, h2, h4]
    | cons b t =>
      obtain ⟨f1, _, _⟩ := drop_cons e2
      have hE2 := hw.el (I1_get _ (i + 1) _ (zs_get f1))
      rw [show ((i + 1 : Nat) : Int) = (i : Int) + 1 from rfl] at hE2
      have h25 := fun H => c25' (H := H) (num := (i : Nat)) (fin := false) hda.1 (Nat.le_of_lt (isD_hd _ _ hda.2)) he hv hi0
      have hcb := cst_Bd he a b (decide ((i : Int) % 2 = 0)) false
      have htb := tt_Bd he (b :: t) (!(decide ((i : Int) % 2 = 0))) (by omega)
      rw [show tt l ph pt (decide ((i : Int) % 2 = 0)) (a :: b :: t) = Path.addI inf (cst l ph pt a b (decide ((i : Int) % 2 = 0)) false) (tt l ph pt (!(decide ((i : Int) % 2 = 0))) (b :: t)) from rfl]
      rw [par] at htb ⊢
      generalize cst l ph pt a b (decide ((i : Int) % 2 = 0)) false = c at *
      have nx' := nx c
      generalize tt l ph pt (decide (((i + 1 : Nat) : Int) % 2 = 0)) (b :: t) = T at *
      simp only [List.length_cons] at htl
      have hb := isD_hd _ _ hda.2
      clear ih hx nx hd hda hv hw he
      refine G_loop.trans ?_
      rcases hcb with hcb | ⟨hcb1, hcb2⟩
      · rw [hcb, show Path.addI inf S (Path.addI inf inf T) = 1125899906842624 by simp only [Path.addI, Int.le_refl, true_or, or_true, if_true]; rfl]
        rw [hcb, hinf] at h25
        clear nx' htb
        simp (config := { maxSteps := 10000000 }) (disch := omega) only [↓G_seq, ↓G_skip, ↓G_ret, ↓G_region, ↓G_block, ↓G_cond, ↓G_ops_nil, ↓G_op, Gv_some, Gc_true, dec_t, killAll, ↓get_setS, evalOp, ev, evs, b_add, b_sub, b_lss, b_geq, wrap_i64, one, Option.map_some, Option.bind_some, finish, resVs, resV, outVs, ownsLast, tupOf, callV, V.shift, V.shifts, List.append_nil, List.all_nil, Bool.and_self, List.getElem?_cons_zero, List.getElem?_cons_succ, Nat.reduceEqDiff, reduceCtorEq, ↓reduceIte, Nat.succ_ne_self, decide_true, bne_self_eq_false, Bool.false_eq_true, Int.reduceAdd, Int.reduceLE, pick3, loadV, Ab.rowAt, Nat.reduceAdd, and_self, List.length_cons, List.length_nil, List.take_succ_cons, List.take_zero, List.drop_zero, Nat.le_refl, List.getD_cons_zero, Nat.zero_add, ti_int, ov_int, fn_some, h0, h2, h4, h8, hE, hE2, hlw, hlv, hsh, hL, h25, Nat.zero_lt_succ]
      · have hcb3 : c ≤ 549756872464 := by omega
        have nx2 := nx' hcb1 hcb3
        have e : Path.addI inf (S + c) T = Path.addI inf S (Path.addI inf c T) := by
          rw [← addI_assoc (k := (b :: t).length) hSb (.inr ⟨hcb1, hcb2⟩) htb (by simp only [List.length_cons]; omega)]
          congr 1
          have := hinf
          unfold Path.addI
          rw [if_neg (by omega)]
        rw [e] at nx2
        generalize Path.addI inf S (Path.addI inf c T) = S1 at *
        clear nx' hS hSb htb
        simp (config := { maxSteps := 10000000 }) (disch := omega) only [↓G_seq, ↓G_skip, ↓G_blk, ↓G_region, ↓G_block, ↓G_cond, ↓G_ops_nil, ↓G_op, Gv_some, Gc_true, Gc_false, dec_t, dec_f, killAll, ↓get_setS, evalOp, ev, evs, b_add, b_sub, b_lss, b_geq, wrap_i64, one, Option.map_some, Option.bind_some, callV, V.shift, V.shifts, List.append_nil, Bool.and_self, List.getElem?_cons_zero, List.getElem?_cons_succ, Nat.reduceEqDiff, reduceCtorEq, ↓reduceIte, Nat.succ_ne_self, bne_self_eq_false, Bool.false_eq_true, Int.reduceAdd, pick3, loadV, Ab.rowAt, Nat.reduceAdd, and_self, List.length_cons, List.length_nil, List.take_succ_cons, List.take_zero, List.drop_zero, Nat.le_refl, List.getD_cons_zero, Nat.zero_add, ti_int, h0, h2, h4, h7, h8, hE, hE2, hlw, hlv, hsh, hL, h25, Nat.zero_lt_succ]
        refine nx2 _ ?_ ?_ ?_ ?_ ?_
        all_goals simp (config := { maxSteps := 10000000 }) (disch := omega) only [↓get_setS, List.getElem?_cons_zero, List.getElem?_cons_succ, Nat.reduceEqDiff, reduceCtorEq, ↓reduceIte, Nat.succ_ne_self, h0, h2, h4]

theorem c19 {v w : V} {l : List Sy} {ph pt : Int} {d : List Nat} (he : errC l ph pt = 0) (hv : SlV 4 v (E4 l)) (hw : SlV 1 w (I1 (zs d))) (hd : Dv l.length d) :
    call tbl 19 [v, .agg [.i ph, .i pt], w] H = some (.i (tt l ph pt true d)) := by
  refine (call_start (show tbl 19 = some a19 from rfl)).trans ?_
  obtain ⟨ho, _⟩ := errC_ok he
  have hdl := Dv_len hd
  have ht := tt_Bd he d true (by omega)
  have hfin : tt l ph pt true d = Path.addI inf 0 (tt l ph pt (decide (((0 : Nat) : Int) % 2 = 0)) d) := by
    rw [show decide (((0 : Nat) : Int) % 2 = 0) = true from rfl]
    have := hinf
    unfold Bd at ht
    unfold Path.addI
    split <;> omega
  rw [hfin]
  unfold a19
  simp (config := { maxSteps := 10000000 }) (disch := omega) only [↓G_seq, ↓G_region, ↓G_block, ↓G_ops_nil, ↓G_op, Gv_some, dec_t, killAll, evalOp, ev, Ab.get, List.all_cons, List.all_nil, Bool.and_self, List.getElem?_cons_zero, List.getElem?_cons_succ, ↓reduceIte, Int.reduceAdd, V.cells, rget, rset, V.scalar, Nat.reduceAdd, and_self, List.length_cons, List.length_nil, Int.cast_ofNat_Int, Nat.zero_add]
  refine loop19 he hv hw (Dv_or hd) (by omega) ?_ (fun fr' S g7 => ?_) d 0 0 _ rfl (by omega) (by omega) ?_ ?_ ?_ ?_ ?_
  · rfl
  · simp (config := { maxSteps := 10000000 }) (disch := omega) only [↓G_seq, ↓G_ret, ↓G_region, ↓Gx_blk, ↓G_ops_nil, ↓G_op, Gv_some, killAll, ↓get_setS, evalOp, ev, Option.map_some, Option.bind_some, finish, resVs, resV, outVs, ownsLast, tupOf, List.all_nil, List.getElem?_cons_zero, List.getElem?_cons_succ, ↓reduceIte, ov_int, fn_some, g7]
  all_goals simp (config := { maxSteps := 10000000 }) (disch := omega) only [↓get_setS, Ab.get, List.getElem?_cons_zero, List.getElem?_cons_succ, Nat.reduceEqDiff, reduceCtorEq, ↓reduceIte, Nat.succ_ne_self, Int.cast_ofNat_Int]

/-- The first n of a law's list of numbers. -/
theorem cut1 {v : V} {l : List Int} (hv : SlV 1 v (I1 l)) (n : Nat) : ∃ v' m, subV 1 v none (some (.i (if (n : Int) < (l.length : Nat) then (n : Int) else (l.length : Nat)))) none = some v' ∧ SlV 1 v' (I1 m) ∧ m.length ≤ n ∧ m = l.take n := by
  obtain ⟨v', h1, h2⟩ := hv.sub (lo := none) (hi := some (.i ((min n l.length : Nat)))) (a := 0) (b := min n l.length) (.inl ⟨rfl, rfl⟩) (.inr rfl) (by omega) (by rw [I1_len]; omega)
  refine ⟨v', l.take (min n l.length), ?_, ?_, by simp; omega, ?_⟩
  · rw [← h1]
    congr 4
    by_cases c : n < l.length
    · rw [if_pos (by omega), Nat.min_eq_left (by omega)]
    · rw [if_neg (by omega), Nat.min_eq_right (by omega)]
  · simpa [I1, List.map_take] using h2
  · by_cases c : n ≤ l.length
    · rw [Nat.min_eq_left c]
    · rw [Nat.min_eq_right (by omega), List.take_of_length_le (by omega), List.take_of_length_le (by omega)]

theorem l5 {v w : V} {l : List Sy} {ph pt : Int} {s : List Int} (hm : l.length ≤ 9223372036854775807) (hsm : s.length ≤ 9223372036854775807) (hv : SlV 4 v (E4 l)) (hw : SlV 1 w (I1 s)) : call tbl 5 [v, .agg [.i ph, .i pt], w] H = some (.bool true) := by
  refine (call_start (show tbl 5 = some a5 from rfl)).trans ?_
  have hlen := hv.len
  rw [E4_len] at hlen
  have hlenw := hw.len
  rw [I1_len] at hlenw
  obtain ⟨v', m, hs, hv', hml, _⟩ := cut hv 30
  obtain ⟨w', q, hsw, hw', hql, _⟩ := cut1 hw 30
  simp only [Int.cast_ofNat_Int] at hs hsw
  have hlen' := hv'.len
  rw [E4_len] at hlen'
  have hm' : m.length ≤ 9223372036854775807 := by omega
  have hq' : q.length ≤ 9223372036854775807 := by omega
  have h13 := fun H => c13 (H := H) (ph := ph) (pt := pt) hm' hv'
  have h18 := fun H => c18 (H := H) (n := (m.length : Nat)) hq' (by omega) hw'
  have hsh := hv'.sh
  have hwh := hw'.sh
  by_cases he : errC m ph pt = 0
  case neg =>
    have h17 := fun H => c17e (H := H) hm' he hv' hwh
    generalize errC m ph pt = e at *
    clear h18
    unfold a5
    simp (config := { maxSteps := 10000000 }) (disch := omega) only [↓G_seq, ↓G_skip, ↓G_ret, ↓G_region, ↓G_cond, ↓G_ops_nil, ↓G_op, Gv_some, ↓G_gop, Gw_tt, Gc_true, Gc_false, dec_f, killAll, ↓get_setS, evalOp, ev, evs, Ab.get, b_eql, b_neq, one, Option.map_some, Option.bind_some, Option.map_none, asB, finish, resVs, resV, outVs, ownsLast, tupOf, callV, V.shift, V.shifts, List.append_nil, List.map_cons, List.map_nil, List.all_cons, List.all_nil, Bool.and_self, List.getElem?_cons_zero, List.getElem?_cons_succ, Nat.reduceEqDiff, reduceCtorEq, ↓reduceIte, Nat.succ_ne_self, decide_true, Bool.not_true, Bool.not_false, bne_self_eq_false, Bool.false_eq_true, Int.reduceAdd, pick3, V.cells, loadV, Ab.rowAt, rget, rset, V.scalar, mmV, Nat.reduceAdd, and_self, List.length_cons, List.length_nil, List.take_succ_cons, List.take_zero, List.drop_zero, Nat.le_refl, List.getD_cons_zero, Nat.zero_add, ti_bool, ti_int, ti_tup_int, st_int, ov_bool, fn_some, hlen, hlenw, hs, hsw, c11, h13, h17, hsh, hwh, Nat.zero_lt_succ]
    done
  rw [he] at h13
  by_cases hd : divR m.length q = true
  case neg =>
    simp only [Bool.not_eq_true] at hd
    have h17 := fun H => c17n (H := H) hm' hq' he hv' hw' hd
    rw [hd] at h18
    unfold a5
    simp (config := { maxSteps := 10000000 }) (disch := omega) only [↓G_seq, ↓G_skip, ↓G_ret, ↓G_region, ↓G_cond, ↓G_ops_nil, ↓G_op, Gv_some, ↓G_gop, Gw_tt, Gc_true, Gc_false, killAll, ↓get_setS, evalOp, ev, evs, Ab.get, b_eql, b_neq, one, Option.map_some, Option.bind_some, Option.map_none, asB, finish, resVs, resV, outVs, ownsLast, tupOf, callV, V.shift, V.shifts, List.append_nil, List.map_cons, List.map_nil, List.all_cons, List.all_nil, Bool.and_self, List.getElem?_cons_zero, List.getElem?_cons_succ, Nat.reduceEqDiff, reduceCtorEq, ↓reduceIte, Nat.succ_ne_self, decide_true, Bool.not_true, Bool.not_false, bne_self_eq_false, Bool.false_eq_true, Int.reduceAdd, pick3, V.cells, loadV, Ab.rowAt, rget, rset, V.scalar, mmV, Nat.reduceAdd, and_self, List.length_cons, List.length_nil, List.take_succ_cons, List.take_zero, List.drop_zero, Nat.le_refl, List.getD_cons_zero, Nat.zero_add, ti_bool, ti_int, ti_tup_int, st_int, ov_bool, fn_some, hlen, hlenw, hs, hsw, c11, h13, h17, h18, hsh, hwh, hlen', Nat.zero_lt_succ]
    done
  rw [hd] at h18
  obtain ⟨d, hqd, hdv⟩ := divR_Dv hd
  subst hqd
  have h17 := fun H => c17 (H := H) hm' he hv' hw' hdv
  have h19 := fun H => c19 (H := H) he hv' hw' hdv
  generalize tt m ph pt true d = T at *
  unfold a5
  simp (config := { maxSteps := 10000000 }) (disch := omega) only [↓G_seq, ↓G_skip, ↓G_ret, ↓G_region, ↓G_cond, ↓G_ops_nil, ↓G_op, Gv_some, ↓G_gop, Gw_tt, Gc_false, killAll, ↓get_setS, evalOp, ev, evs, Ab.get, b_eql, b_neq, one, Option.map_some, Option.bind_some, Option.map_none, asB, finish, resVs, resV, outVs, ownsLast, tupOf, callV, V.shift, V.shifts, List.append_nil, List.map_cons, List.map_nil, List.all_cons, List.all_nil, Bool.and_self, List.getElem?_cons_zero, List.getElem?_cons_succ, Nat.reduceEqDiff, reduceCtorEq, ↓reduceIte, Nat.succ_ne_self, decide_true, Bool.not_true, bne_self_eq_false, Bool.false_eq_true, Int.reduceAdd, pick3, V.cells, loadV, Ab.rowAt, rget, rset, V.scalar, mmV, Nat.reduceAdd, and_self, List.length_cons, List.length_nil, List.take_succ_cons, List.take_zero, List.drop_zero, Nat.le_refl, List.getD_cons_zero, Nat.zero_add, ti_bool, ti_int, ti_tup_int, st_int, ov_bool, fn_some, hlen, hlenw, hs, hsw, c11, h13, h17, h18, h19, hsh, hwh, hlen', Nat.zero_lt_succ]

end Go.Proofs.Ytgghbckhdchcaaa

/-
  Line breaks: the widths of a line, whether the breaks permit it, its cost.
-/
import Derived.Test.YtdgifbmimfnmlaaS32A
namespace Go.Proofs.Ytdgifbmimfnmlaa
open Go Go.Ab
set_option linter.unusedVariables false
set_option linter.unnecessarySimpa false
set_option linter.unusedSimpArgs false
set_option maxRecDepth 100000
variable {H : List (List Row)}

def z0 : Me := ⟨0, 0, 0, 0, 0⟩
/-- Measures from a on and before b. -/
def sl (l : List Me) (a b : Nat) : List Me := (l.take b).drop a
theorem sl_len {l : List Me} {a b : Nat} (hb : b ≤ l.length) : (sl l a b).length = b - a := by simp [sl]; omega
theorem sl_cons {l : List Me} {a b : Nat} (h : a < b) (hb : b ≤ l.length) : ∃ s, l[a]? = some s ∧ sl l a b = s :: sl l (a + 1) b := by
  refine ⟨l[a]'(by omega), List.getElem?_eq_getElem (by omega), ?_⟩
  unfold sl
  rw [List.drop_eq_getElem_cons (by simp; omega)]
  simp
theorem sl_nil {l : List Me} {a b : Nat} (h : b ≤ a) : sl l a b = [] := by
  unfold sl
  rw [List.drop_of_length_le (by simp; omega)]
theorem sl_mem {l : List Me} {a b : Nat} {s : Me} (h : s ∈ sl l a b) : s ∈ l := List.mem_of_mem_take (List.mem_of_mem_drop h)
theorem sl_snoc {l : List Me} {a b : Nat} {s : Me} (h : a ≤ b) (hs : l[b]? = some s) : sl l a (b + 1) = sl l a b ++ [s] := by
  have hb : b < l.length := (List.getElem?_eq_some_iff.1 hs).1
  unfold sl
  rw [List.take_add_one, hs, List.drop_append_of_le_length (by simp; omega)]
  rfl
theorem part {v : V} {l : List Me} {a b : Nat} (hv : SlV 5 v (E5 l)) (hab : a ≤ b) (hb : b ≤ l.length) : ∃ x, subV 5 v (some (.i (a : Nat))) (some (.i (b : Nat))) none = some x ∧ SlV 5 x (E5 (sl l a b)) := by
  obtain ⟨x, h1, h2⟩ := hv.sub (lo := some (.i (a : Nat))) (hi := some (.i (b : Nat))) (a := a) (b := b) (.inr rfl) (.inr rfl) hab (by rw [E5_len]; exact hb)
  rw [E5_sub] at h2
  exact ⟨x, h1, h2⟩

def msum : List Me → Int
  | [] => 0
  | s :: t => s.m + msum t
def nsum : List Me → Int
  | [] => 0
  | s :: t => s.n + nsum t
theorem msum_app : ∀ (a b : List Me), msum (a ++ b) = msum a + msum b
  | [], b => by simp [msum]
  | s :: a, b => by simp only [List.cons_append, msum, msum_app a b]; omega
theorem nsum_app : ∀ (a b : List Me), nsum (a ++ b) = nsum a + nsum b
  | [], b => by simp [nsum]
  | s :: a, b => by simp only [List.cons_append, nsum, nsum_app a b]; omega
theorem sums_in : ∀ (l : List Me), (∀ s ∈ l, inM s) → 0 ≤ msum l ∧ msum l ≤ nsum l ∧ nsum l ≤ l.length * 16777216
  | [], _ => by simp [msum, nsum]
  | s :: t, h => by
    obtain ⟨h1, h2, h3⟩ := sums_in t (fun x hx => h x (by simp [hx]))
    have hs := h s (by simp)
    unfold inM at hs
    simp only [msum, nsum, List.length_cons]
    omega
/-- The first measure's prefix, less its own. -/
def ext (l : List Me) (a : Nat) : Int := (l[a]?.getD z0).p - (l[a]?.getD z0).o
def mn (l : List Me) (a b : Nat) : Int := ext l a + msum (sl l a b)
def nt (l : List Me) (a b : Nat) : Int := ext l a + nsum (sl l a b)
theorem wid_in {l : List Me} {a b : Nat} (he : errL l = 0) (hab : a < b) (hb : b ≤ l.length) : 0 ≤ mn l a b ∧ mn l a b ≤ nt l a b ∧ nt l a b ≤ 34359738368 := by
  obtain ⟨s, hs, hc⟩ := sl_cons hab hb
  obtain ⟨h0, h1, h2⟩ := errL_ok he
  have hin := errL_in he
  have hm := hin s (List.mem_of_getElem? hs)
  have hss := sums_in (sl l (a + 1) b) (fun x hx => hin x (sl_mem hx))
  rw [sl_len hb] at hss
  unfold mn nt ext
  rw [hs, Option.getD_some, hc, msum, nsum]
  unfold inM at hm
  omega

theorem loop30 {k : List KI} {x : V} {t0 : List Me} {r : Option V} {e : Int} (hl : t0.length ≤ 1024) (hin : ∀ s ∈ t0, inM s) (hv : SlV 5 x (E5 t0)) (hee : -16777216 ≤ e ∧ e ≤ 16777216)
    (hx : ∀ fr' L', Ab.get fr' 6 = .i (e + msum t0) → Ab.get fr' 7 = .i (e + nsum t0) → Gx tbl H [.tmp 6, .tmp 7] 0 k fr' L' = r) :
    ∀ (t : List Me) (i : Nat) (fr : List V) (L : List Row), t0.drop i = t → i ≤ t0.length → Ab.get fr 6 = .i (e + msum (t0.take i)) → Ab.get fr 7 = .i (e + nsum (t0.take i)) → Ab.get fr 28 = x → Ab.get fr 29 = .i (t0.length : Nat) → Ab.get fr 30 = .i (i : Nat) →
    G tbl H [.tmp 6, .tmp 7] (.code (.loop ( (.seq ( .region [] [ ⟨some 31, .bin .lss (.t 30) (.t 29), none⟩]) ( (.seq ( (.cond (.t 31) ( .skip) ( .exit 0))) ( (.seq ( (.block 1 ( (.seq ( .region [] [ ⟨some 32, .elemAddr 5 (.t 28) (.t 30), none⟩, ⟨some 33, .load true 5 (.t 32), none⟩, ⟨some 10, .alloc 1 [(.int .i64 0), (.int .i64 0), (.int .i64 0), (.int .i64 0), (.int .i64 0)], none⟩, ⟨none, .store 5 (.t 10) (.t 33), none⟩]) ( .region [] [ ⟨some 34, .mv (.t 6), none⟩, ⟨some 35, .fieldAddr 1 (.t 10), none⟩, ⟨some 36, .load false 1 (.t 35), none⟩, ⟨some 37, .bin .add (.t 34) (.t 36), none⟩, ⟨some 38, .mv (.t 7), none⟩, ⟨some 39, .fieldAddr 2 (.t 10), none⟩, ⟨some 40, .load false 1 (.t 39), none⟩, ⟨some 41, .bin .add (.t 38) (.t 40), none⟩, ⟨some 6, .mv (.t 37), none⟩, ⟨some 7, .mv (.t 41), none⟩]))))) ( .region [] [ ⟨some 42, .bin .add (.t 30) (.c (.int .i64 1)), none⟩, ⟨some 30, .mv (.t 42), none⟩])))))))) :: k) fr L = r := by
  intro t
  induction t with
  | nil =>
    intro i fr L ht hi h6 h7 h28 h29 h30
    have := drop_nil ht
    rw [List.take_of_length_le (by omega)] at h6 h7
    refine G_loop.trans ?_
    simp (config := { maxSteps := 10000000 }) (disch := omega) only [↓G_seq, ↓G_exit, ↓G_region, ↓G_cond, ↓Gx_code, ↓G_ops_nil, ↓G_op, Gv_some, Gc_false, dec_f, killAll, ↓get_setS, evalOp, ev, b_lss, one, Option.map_some, List.getElem?_cons_zero, List.getElem?_cons_succ, ↓reduceIte, h29, h30]
    refine hx _ _ ?_ ?_
    all_goals simp (config := { maxSteps := 10000000 }) (disch := omega) only [↓get_setS, List.getElem?_cons_zero, List.getElem?_cons_succ, Nat.reduceEqDiff, ↓reduceIte, h6, h7]
  | cons s t ih =>
    intro i fr L ht hi h6 h7 h28 h29 h30
    obtain ⟨e1, e2, e3⟩ := drop_cons ht
    have hE := hv.el (E5_get t0 i s e1)
    obtain ⟨q1, q2, q3, q4⟩ := hin s (List.mem_of_getElem? e1)
    have hb := sums_in (t0.take i) (fun y hy => hin y (List.mem_of_mem_take hy))
    rw [List.length_take, Nat.min_eq_left (by omega)] at hb
    have ht1 : msum (t0.take (i + 1)) = msum (t0.take i) + s.m := by
      rw [List.take_add_one, e1, msum_app]
      simp [msum]
    have ht2 : nsum (t0.take (i + 1)) = nsum (t0.take i) + s.n := by
      rw [List.take_add_one, e1, nsum_app]
      simp [nsum]
    have next : ∀ fr' L', Ab.get fr' 6 = .i (e + msum (t0.take i) + s.m) → Ab.get fr' 7 = .i (e + nsum (t0.take i) + s.n) → Ab.get fr' 28 = x → Ab.get fr' 29 = .i (t0.length : Nat) → Ab.get fr' 30 = .i ((i : Nat) + 1) → G tbl H [.tmp 6, .tmp 7] (.code (.loop ( (.seq ( .region [] [ ⟨some 31, .bin .lss (.t 30) (.t 29), none⟩]) ( (.seq ( (.cond (.t 31) ( .skip) ( .exit 0))) ( (.seq ( (.block 1 ( (.seq ( .region [] [ ⟨some 32, .elemAddr 5 (.t 28) (.t 30), none⟩, ⟨some 33, .load true 5 (.t 32), none⟩, ⟨some 10, .alloc 1 [(.int .i64 0), (.int .i64 0), (.int .i64 0), (.int .i64 0), (.int .i64 0)], none⟩, ⟨none, .store 5 (.t 10) (.t 33), none⟩]) ( .region [] [ ⟨some 34, .mv (.t 6), none⟩, ⟨some 35, .fieldAddr 1 (.t 10), none⟩, ⟨some 36, .load false 1 (.t 35), none⟩, ⟨some 37, .bin .add (.t 34) (.t 36), none⟩, ⟨some 38, .mv (.t 7), none⟩, ⟨some 39, .fieldAddr 2 (.t 10), none⟩, ⟨some 40, .load false 1 (.t 39), none⟩, ⟨some 41, .bin .add (.t 38) (.t 40), none⟩, ⟨some 6, .mv (.t 37), none⟩, ⟨some 7, .mv (.t 41), none⟩]))))) ( .region [] [ ⟨some 42, .bin .add (.t 30) (.c (.int .i64 1)), none⟩, ⟨some 30, .mv (.t 42), none⟩])))))))) :: k) fr' L' = r := by
      intro fr' L' g6 g7 g28 g29 g30
      exact ih (i + 1) fr' L' e2 (by omega) (by rw [g6, ht1, Int.add_assoc]) (by rw [g7, ht2, Int.add_assoc]) g28 g29 (by rw [g30]; congr 1)
    clear ih hx hin ht1 ht2
    generalize msum (t0.take i) = sm at *
    generalize nsum (t0.take i) = sn at *
    refine G_loop.trans ?_
    simp (config := { maxSteps := 10000000 }) (disch := omega) only [↓G_seq, ↓G_skip, ↓G_blk, ↓G_region, ↓G_block, ↓G_cond, ↓G_ops_nil, ↓G_op, Gv_some, Gc_true, dec_t, killAll, ↓get_setS, ↓get_setN, evalOp, ev, rget_rset, b_add, b_lss, wrap_i64, one, Option.map_some, Option.bind_some, V.shift, List.nil_append, List.cons_append, List.all_cons, List.all_nil, Bool.and_self, List.getElem?_cons_zero, List.getElem?_cons_succ, Nat.reduceEqDiff, ↓reduceIte, Nat.succ_ne_self, Bool.false_eq_true, Int.reduceAdd, pick3, V.cells, splice, addOff, loadV, storeV, Ab.rowAt, V.scalar, Nat.reduceAdd, and_self, List.length_cons, List.length_nil, List.take_succ_cons, List.take_zero, List.drop_succ_cons, List.drop_zero, Nat.le_refl, List.set_cons_zero, List.getD_cons_zero, Nat.zero_add, h6, h7, h28, h29, h30, hE, rset_rset, Nat.zero_lt_succ]
    refine next _ _ ?_ ?_ ?_ ?_ ?_
    all_goals simp (config := { maxSteps := 10000000 }) (disch := omega) only [↓get_setS, ↓get_setN, List.getElem?_cons_zero, List.getElem?_cons_succ, Nat.reduceEqDiff, ↓reduceIte, Nat.succ_ne_self, h28, h29]

theorem c30 {v : V} {l : List Me} {a b : Nat} (he : errL l = 0) (hab : a < b) (hb : b ≤ l.length) (hv : SlV 5 v (E5 l)) : call tbl 30 [v, .i (a : Nat), .i ((b : Nat) - 1 : Int)] H = some (.tup [.i (mn l a b), .i (nt l a b)]) := by
  refine (call_start (show tbl 30 = some a30 from rfl)).trans ?_
  obtain ⟨h0, h1, _⟩ := errL_ok he
  obtain ⟨s, hs, hc⟩ := sl_cons hab hb
  have hE := hv.el (E5_get l a s hs)
  obtain ⟨q1, q2, q3, q4⟩ := errL_in he s (List.mem_of_getElem? hs)
  obtain ⟨x, hsx, hxv⟩ := part hv (Nat.le_of_lt hab) hb
  have hlx := hxv.len
  rw [E5_len] at hlx
  have hbb : ((b : Nat) : Int) - 1 + 1 = (b : Nat) := by omega
  have hex : ext l a = s.p - s.o := by unfold ext; rw [hs]; rfl
  have hfin := fun k hx => loop30 (H := H) (k := k) (r := some (.tup [.i (mn l a b), .i (nt l a b)])) (e := s.p - s.o) (t0 := sl l a b) (by rw [sl_len hb]; omega) (fun y hy => errL_in he y (sl_mem hy)) hxv (by omega) hx (sl l a b) 0
  unfold mn nt at *
  rw [hex] at *
  generalize hsl : sl l a b = S at *
  clear hv hc
  unfold a30
  simp (config := { maxSteps := 10000000 }) (disch := omega) only [↓G_seq, ↓G_region, ↓G_block, ↓G_ops_nil, ↓G_op, Gv_some, killAll, ↓get_setS, evalOp, ev, Ab.get, b_add, b_sub, wrap_i64, one, Option.map_some, Option.map_none, List.getElem?_cons_zero, List.getElem?_cons_succ, Nat.reduceEqDiff, reduceCtorEq, ↓reduceIte, Nat.succ_ne_self, Bool.false_eq_true, pick3, addOff, loadV, Nat.zero_add, Nat.add_zero, hE, hsx, hlx, hbb]
  refine hfin _ (fun fr' L' g6 g7 => ?_) _ _ rfl (by omega) ?_ ?_ ?_ ?_ ?_
  · simp (config := { maxSteps := 10000000 }) (disch := omega) only [↓G_seq, ↓G_ret, ↓G_region, ↓Gx_blk, ↓G_ops_nil, ↓G_op, Gv_some, killAll, ↓get_setS, evalOp, ev, Option.map_some, Option.bind_some, finish, resVs, resV, outVs, ownsLast, tupOf, List.all_cons, List.all_nil, Bool.and_self, List.getElem?_cons_zero, List.getElem?_cons_succ, Nat.reduceEqDiff, ↓reduceIte, Nat.succ_ne_self, and_self, ov_int, fn_some, g6, g7]
  all_goals simp (config := { maxSteps := 10000000 }) (disch := omega) only [↓get_setS, List.getElem?_cons_zero, List.getElem?_cons_succ, Nat.reduceEqDiff, ↓reduceIte, Nat.succ_ne_self, List.take_zero, Int.cast_ofNat_Int]
  all_goals simp [msum, nsum]

theorem loop37 {k : List KI} {v : V} {l : List Me} {r : Option V} {a b : Nat} (he : errL l = 0) (hab : a < b) (hb : b ≤ l.length) (hv : SlV 5 v (E5 l))
    (hx : ∀ fr' L', Ab.get fr' 6 = .i (mn l a b) → Ab.get fr' 7 = .i (nt l a b) → Gx tbl H [.tmp 6, .tmp 7] 0 k fr' L' = r) :
    ∀ (n i : Nat) (fr : List V) (L : List Row), i + n = b → a ≤ i → Ab.get fr 0 = v → Ab.get fr 1 = .i (a : Nat) → Ab.get fr 2 = .i ((b : Nat) - 1 : Int) → Ab.get fr 6 = .i (mn l a i) → Ab.get fr 7 = .i (nt l a i) → Ab.get fr 8 = .i (i : Nat) →
    G tbl H [.tmp 6, .tmp 7] (.code (.loop ( (.seq ( (.seq ( .region [] [ ⟨some 32, .mv (.t 8), none⟩, ⟨some 33, .mv (.t 2), none⟩, ⟨some 34, .bin .leq (.t 32) (.t 33), none⟩]) ( (.cond (.t 34) ( .skip) ( .exit 0))))) ( (.seq ( (.block 1 ( .region [] [ ⟨some 37, .mv (.t 6), none⟩, ⟨some 38, .mv (.t 0), none⟩, ⟨some 39, .mv (.t 8), none⟩, ⟨some 40, .elemAddr 5 (.t 38) (.t 39), none⟩, ⟨some 41, .fieldAddr 1 (.t 40), none⟩, ⟨some 42, .load false 1 (.t 41), none⟩, ⟨some 43, .bin .add (.t 37) (.t 42), none⟩, ⟨some 44, .mv (.t 7), none⟩, ⟨some 45, .mv (.t 0), none⟩, ⟨some 46, .mv (.t 8), none⟩, ⟨some 47, .elemAddr 5 (.t 45) (.t 46), none⟩, ⟨some 48, .fieldAddr 2 (.t 47), none⟩, ⟨some 49, .load false 1 (.t 48), none⟩, ⟨some 50, .bin .add (.t 44) (.t 49), none⟩, ⟨some 6, .mv (.t 43), none⟩, ⟨some 7, .mv (.t 50), none⟩]))) ( .region [] [ ⟨some 35, .mv (.t 8), none⟩, ⟨some 36, .bin .add (.t 35) (.c (.int .i64 1)), none⟩, ⟨some 8, .mv (.t 36), none⟩])))))) :: k) fr L = r := by
  intro n
  obtain ⟨hl0, hl1, _⟩ := errL_ok he
  induction n with
  | zero =>
    intro i fr L hi ha h0 h1 h2 h6 h7 h8
    obtain rfl : i = b := by omega
    refine G_loop.trans ?_
    simp (config := { maxSteps := 10000000 }) (disch := omega) only [↓G_seq, ↓G_exit, ↓G_region, ↓G_cond, ↓Gx_code, ↓G_ops_nil, ↓G_op, Gv_some, Gc_false, dec_f, killAll, ↓get_setS, evalOp, ev, b_leq, one, Option.map_some, List.getElem?_cons_zero, List.getElem?_cons_succ, Nat.reduceEqDiff, ↓reduceIte, Nat.succ_ne_self, h2, h8]
    refine hx _ _ ?_ ?_
    all_goals simp (config := { maxSteps := 10000000 }) (disch := omega) only [↓get_setS, List.getElem?_cons_zero, List.getElem?_cons_succ, Nat.reduceEqDiff, ↓reduceIte, h6, h7]
  | succ n ih =>
    intro i fr L hi ha h0 h1 h2 h6 h7 h8
    obtain ⟨s, hs⟩ : ∃ s, l[i]? = some s := ⟨_, List.getElem?_eq_getElem (by omega)⟩
    have hE := hv.el (E5_get l i s hs)
    obtain ⟨q1, q2, q3, q4⟩ := errL_in he s (List.mem_of_getElem? hs)
    have e1 : mn l a (i + 1) = mn l a i + s.m := by
      unfold mn
      rw [sl_snoc ha hs, msum_app]
      simp only [msum]
      omega
    have e2 : nt l a (i + 1) = nt l a i + s.n := by
      unfold nt
      rw [sl_snoc ha hs, nsum_app]
      simp only [nsum]
      omega
    have w := wid_in he (show a < i + 1 by omega) (show i + 1 ≤ l.length by omega)
    rw [e1, e2] at w
    have next : ∀ fr' L', Ab.get fr' 0 = v → Ab.get fr' 1 = .i (a : Nat) → Ab.get fr' 2 = .i ((b : Nat) - 1 : Int) → Ab.get fr' 6 = .i (mn l a i + s.m) → Ab.get fr' 7 = .i (nt l a i + s.n) → Ab.get fr' 8 = .i ((i : Nat) + 1) → G tbl H [.tmp 6, .tmp 7] (.code (.loop ( (.seq ( (.seq ( .region [] [ ⟨some 32, .mv (.t 8), none⟩, ⟨some 33, .mv (.t 2), none⟩, ⟨some 34, .bin .leq (.t 32) (.t 33), none⟩]) ( (.cond (.t 34) ( .skip) ( .exit 0))))) ( (.seq ( (.block 1 ( .region [] [ ⟨some 37, .mv (.t 6), none⟩, ⟨some 38, .mv (.t 0), none⟩, ⟨some 39, .mv (.t 8), none⟩, ⟨some 40, .elemAddr 5 (.t 38) (.t 39), none⟩, ⟨some 41, .fieldAddr 1 (.t 40), none⟩, ⟨some 42, .load false 1 (.t 41), none⟩, ⟨some 43, .bin .add (.t 37) (.t 42), none⟩, ⟨some 44, .mv (.t 7), none⟩, ⟨some 45, .mv (.t 0), none⟩, ⟨some 46, .mv (.t 8), none⟩, ⟨some 47, .elemAddr 5 (.t 45) (.t 46), none⟩, ⟨some 48, .fieldAddr 2 (.t 47), none⟩, ⟨some 49, .load false 1 (.t 48), none⟩, ⟨some 50, .bin .add (.t 44) (.t 49), none⟩, ⟨some 6, .mv (.t 43), none⟩, ⟨some 7, .mv (.t 50), none⟩]))) ( .region [] [ ⟨some 35, .mv (.t 8), none⟩, ⟨some 36, .bin .add (.t 35) (.c (.int .i64 1)), none⟩, ⟨some 8, .mv (.t 36), none⟩])))))) :: k) fr' L' = r := by
      intro fr' L' g0 g1 g2 g6 g7 g8
      exact ih (i + 1) fr' L' (by omega) (by omega) g0 g1 g2 (by rw [g6, e1]) (by rw [g7, e2]) (by rw [g8]; congr 1)
    clear ih hx e1 e2
    generalize mn l a i = sm at *
    generalize nt l a i = sn at *
    refine G_loop.trans ?_
    simp (config := { maxSteps := 10000000 }) (disch := omega) only [↓G_seq, ↓G_skip, ↓G_blk, ↓G_region, ↓G_block, ↓G_cond, ↓G_ops_nil, ↓G_op, Gv_some, Gc_true, dec_t, killAll, ↓get_setS, evalOp, ev, b_add, b_leq, wrap_i64, one, Option.map_some, List.getElem?_cons_zero, List.getElem?_cons_succ, Nat.reduceEqDiff, reduceCtorEq, ↓reduceIte, Nat.succ_ne_self, Bool.false_eq_true, pick3, addOff, loadV, Nat.zero_add, h0, h2, h6, h7, h8, hE]
    refine next _ _ ?_ ?_ ?_ ?_ ?_ ?_
    all_goals simp (config := { maxSteps := 10000000 }) (disch := omega) only [↓get_setS, List.getElem?_cons_zero, List.getElem?_cons_succ, Nat.reduceEqDiff, reduceCtorEq, ↓reduceIte, Nat.succ_ne_self, h0, h1, h2]

theorem c37 {v : V} {l : List Me} {a b : Nat} (he : errL l = 0) (hab : a < b) (hb : b ≤ l.length) (hv : SlV 5 v (E5 l)) : call tbl 37 [v, .i (a : Nat), .i ((b : Nat) - 1 : Int)] H = some (.tup [.i (mn l a b), .i (nt l a b)]) := by
  refine (call_start (show tbl 37 = some a37 from rfl)).trans ?_
  obtain ⟨h0, h1, _⟩ := errL_ok he
  obtain ⟨s, hs, hc⟩ := sl_cons hab hb
  have hE := hv.el (E5_get l a s hs)
  obtain ⟨q1, q2, q3, q4⟩ := errL_in he s (List.mem_of_getElem? hs)
  have hex : ext l a = s.p - s.o := by unfold ext; rw [hs]; rfl
  have em : mn l a a = s.p - s.o := by unfold mn; rw [sl_nil (Nat.le_refl _), hex]; simp [msum]
  have en : nt l a a = s.p - s.o := by unfold nt; rw [sl_nil (Nat.le_refl _), hex]; simp [nsum]
  have hfin := fun k hx => loop37 (H := H) (k := k) (r := some (.tup [.i (mn l a b), .i (nt l a b)])) he hab hb hv hx (b - a) a
  rw [em, en] at hfin
  generalize mn l a b = M at *
  generalize nt l a b = N at *
  clear hv hc
  unfold a37
  simp (config := { maxSteps := 10000000 }) (disch := omega) only [↓G_seq, ↓G_region, ↓G_block, ↓G_ops_nil, ↓G_op, Gv_some, killAll, ↓get_setS, evalOp, ev, Ab.get, b_sub, wrap_i64, one, Option.map_some, List.getElem?_cons_zero, List.getElem?_cons_succ, Nat.reduceEqDiff, reduceCtorEq, ↓reduceIte, Nat.succ_ne_self, Bool.false_eq_true, pick3, addOff, loadV, Nat.zero_add, Nat.add_zero, hE]
  refine hfin _ (fun fr' L' g6 g7 => ?_) _ _ (by omega) (Nat.le_refl _) ?_ ?_ ?_ ?_ ?_ ?_
  · simp (config := { maxSteps := 10000000 }) (disch := omega) only [↓G_seq, ↓G_ret, ↓G_region, ↓Gx_blk, ↓G_ops_nil, ↓G_op, Gv_some, killAll, ↓get_setS, evalOp, ev, Option.map_some, Option.bind_some, finish, resVs, resV, outVs, ownsLast, tupOf, List.all_cons, List.all_nil, Bool.and_self, List.getElem?_cons_zero, List.getElem?_cons_succ, Nat.reduceEqDiff, ↓reduceIte, Nat.succ_ne_self, and_self, ov_int, fn_some, g6, g7]
  all_goals simp (config := { maxSteps := 10000000 }) (disch := omega) only [↓get_setS, Ab.get, List.getElem?_cons_zero, List.getElem?_cons_succ, Nat.reduceEqDiff, reduceCtorEq, ↓reduceIte, Nat.succ_ne_self]

/-! ### Breaks -/
def isF (s : Me) : Bool := decide (s.b = 1 ∨ s.b = 2)
theorem c39 (s : Me) : call tbl 39 [.agg [.i s.p, .i s.m, .i s.n, .i s.o, .i s.b]] H = some (.bool (isF s)) := by
  refine (call_start (show tbl 39 = some a39 from rfl)).trans ?_
  unfold isF
  by_cases h : s.b = 1
  · unfold a39
    simp (config := { maxSteps := 10000000 }) (disch := omega) only [↓G_seq, ↓G_ret, ↓G_region, ↓G_ops_nil, ↓G_op, Gv_some, ↓G_gop, Gw_ft, dec_t, killAll, ↓get_setS, evalOp, ev, Ab.get, b_eql, one, Option.map_some, Option.bind_some, asB, finish, resVs, resV, outVs, ownsLast, tupOf, V.shift, List.all_cons, List.all_nil, Bool.and_self, List.getElem?_cons_zero, List.getElem?_cons_succ, Nat.reduceEqDiff, ↓reduceIte, Nat.succ_ne_self, Bool.false_eq_true, Int.reduceAdd, pick3, V.cells, addOff, loadV, Ab.rowAt, rget, rset, V.scalar, Nat.reduceAdd, and_self, List.length_cons, List.length_nil, List.getD_cons_zero, Nat.zero_add, ov_bool, fn_some, Nat.zero_lt_succ]
  · by_cases h2 : s.b = 2
    · unfold a39
      simp (config := { maxSteps := 10000000 }) (disch := omega) only [↓G_seq, ↓G_ret, ↓G_region, ↓G_ops_nil, ↓G_op, Gv_some, ↓G_gop, Gw_ff, dec_t, dec_f, killAll, ↓get_setS, evalOp, ev, Ab.get, b_eql, one, Option.map_some, Option.bind_some, asB, finish, resVs, resV, outVs, ownsLast, tupOf, V.shift, List.all_cons, List.all_nil, Bool.and_self, List.getElem?_cons_zero, List.getElem?_cons_succ, Nat.reduceEqDiff, ↓reduceIte, Nat.succ_ne_self, Bool.false_eq_true, Int.reduceAdd, pick3, V.cells, addOff, loadV, Ab.rowAt, rget, rset, V.scalar, Nat.reduceAdd, and_self, List.length_cons, List.length_nil, List.getD_cons_zero, Nat.zero_add, ov_bool, fn_some, Nat.zero_lt_succ]
    · unfold a39
      simp (config := { maxSteps := 10000000 }) (disch := omega) only [↓G_seq, ↓G_ret, ↓G_region, ↓G_ops_nil, ↓G_op, Gv_some, ↓G_gop, Gw_ff, dec_f, killAll, ↓get_setS, evalOp, ev, Ab.get, b_eql, one, Option.map_some, Option.bind_some, asB, finish, resVs, resV, outVs, ownsLast, tupOf, V.shift, List.all_cons, List.all_nil, Bool.and_self, List.getElem?_cons_zero, List.getElem?_cons_succ, Nat.reduceEqDiff, ↓reduceIte, Nat.succ_ne_self, Bool.false_eq_true, Int.reduceAdd, pick3, V.cells, addOff, loadV, Ab.rowAt, rget, rset, V.scalar, Nat.reduceAdd, and_self, List.length_cons, List.length_nil, List.getD_cons_zero, Nat.zero_add, ov_bool, fn_some, Nat.zero_lt_succ]
def ixF : List Me → Nat → Int
  | [], _ => -1
  | s :: t, i => if isF s = true then i else ixF t (i + 1)
theorem ixF_any : ∀ (t : List Me) (i : Nat), decide (0 ≤ ixF t i) = t.any isF
  | [], i => by simp [ixF]
  | a :: t, i => by
    unfold ixF
    cases h : isF a
    · simp [h, ← ixF_any t (i + 1)]
    · simp [h]

theorem loop42 {k : List KI} {v : V} {l : List Me} {L : List Row} (hl : l.length ≤ 1024) (hv : SlV 5 v (E5 l))
    (hx : ∀ fr', Gx tbl H [.tmp 4] 0 k fr' L = some (.i (-1))) :
    ∀ (t : List Me) (i : Nat) (fr : List V), l.drop i = t → i ≤ l.length → Ab.get fr 0 = v → Ab.get fr 1 = .fn 39 [] → Ab.get fr 7 = .i (l.length : Nat) → Ab.get fr 8 = .i (i : Nat) →
    G tbl H [.tmp 4] (.code (.loop ( (.seq ( .region [] [ ⟨some 9, .bin .lss (.t 8) (.t 7), none⟩]) ( (.seq ( (.cond (.t 9) ( .skip) ( .exit 0))) ( (.seq ( (.block 1 ( (.seq ( .region [] [ ⟨some 10, .mv (.t 8), none⟩, ⟨some 5, .mv (.t 10), none⟩]) ( (.seq ( .region [] [ ⟨some 11, .mv (.t 1), none⟩, ⟨some 12, .mv (.t 0), none⟩, ⟨some 13, .mv (.t 5), none⟩, ⟨some 14, .elemAddr 5 (.t 12) (.t 13), none⟩, ⟨some 15, .load true 5 (.t 14), none⟩, ⟨some 16, .call 0 (.t 11) [(.t 15)], none⟩]) ( (.cond (.t 16) ( (.seq ( .region [] [ ⟨some 17, .mv (.t 5), none⟩, ⟨some 4, .mv (.t 17), none⟩]) ( .ret))) ( .skip))))))))) ( .region [] [ ⟨some 18, .bin .add (.t 8) (.c (.int .i64 1)), none⟩, ⟨some 8, .mv (.t 18), none⟩])))))))) :: k) fr L = some (.i (ixF t i)) := by
  intro t
  induction t with
  | nil =>
    intro i fr ht hi h0 h1 h7 h8
    have := drop_nil ht
    refine G_loop.trans ?_
    simp (config := { maxSteps := 10000000 }) (disch := omega) only [↓G_seq, ↓G_exit, ↓G_region, ↓G_cond, ↓Gx_code, ↓G_ops_nil, ↓G_op, Gv_some, Gc_false, dec_f, killAll, ↓get_setS, evalOp, ev, b_lss, one, Option.map_some, List.getElem?_cons_zero, List.getElem?_cons_succ, ↓reduceIte, Int.reduceNeg, h7, h8, hx, ixF]
  | cons s t ih =>
    intro i fr ht hi h0 h1 h7 h8
    obtain ⟨e1, e2, e3⟩ := drop_cons ht
    have hE := hv.el (E5_get l i s e1)
    have h39 := fun H => c39 (H := H) s
    refine G_loop.trans ?_
    unfold ixF
    cases hc : isF s
    · rw [hc] at h39
      simp (config := { maxSteps := 10000000 }) (disch := omega) only [↓G_seq, ↓G_skip, ↓G_blk, ↓G_region, ↓G_block, ↓G_cond, ↓G_ops_nil, ↓G_op, Gv_some, Gc_true, Gc_false, dec_t, killAll, ↓get_setS, evalOp, ev, evs, b_add, b_lss, wrap_i64, one, Option.map_some, callV, V.shift, V.shifts, List.append_nil, List.getElem?_cons_zero, List.getElem?_cons_succ, Nat.reduceEqDiff, reduceCtorEq, ↓reduceIte, Nat.succ_ne_self, bne_self_eq_false, Bool.false_eq_true, Int.reduceAdd, pick3, loadV, Nat.reduceAdd, List.length_cons, List.length_nil, List.take_succ_cons, List.take_zero, List.drop_zero, Nat.le_refl, Nat.zero_add, ti_bool, h0, h1, h7, h8, hE, h39]
      refine ih (i + 1) _ e2 (by omega) ?_ ?_ ?_ ?_
      all_goals simp (config := { maxSteps := 10000000 }) (disch := omega) only [↓get_setS, List.getElem?_cons_zero, List.getElem?_cons_succ, Nat.reduceEqDiff, reduceCtorEq, ↓reduceIte, Nat.succ_ne_self, h0, h1, h7]
      congr 1
    · rw [hc] at h39
      simp (config := { maxSteps := 10000000 }) (disch := omega) only [↓G_seq, ↓G_skip, ↓G_ret, ↓G_region, ↓G_block, ↓G_cond, ↓G_ops_nil, ↓G_op, Gv_some, Gc_true, dec_t, killAll, ↓get_setS, evalOp, ev, evs, b_lss, one, Option.map_some, Option.bind_some, finish, resVs, resV, outVs, ownsLast, tupOf, callV, V.shift, V.shifts, List.append_nil, List.all_nil, List.getElem?_cons_zero, List.getElem?_cons_succ, Nat.reduceEqDiff, reduceCtorEq, ↓reduceIte, Nat.succ_ne_self, bne_self_eq_false, Int.reduceAdd, pick3, loadV, Nat.reduceAdd, List.length_cons, List.length_nil, List.take_succ_cons, List.take_zero, List.drop_zero, Nat.le_refl, Nat.zero_add, ti_bool, ov_int, fn_some, h0, h1, h7, h8, hE, h39]

theorem c42 {v : V} {l : List Me} (hl : l.length ≤ 1024) (hv : SlV 5 v (E5 l)) : call tbl 42 [v, .fn 39 []] H = some (.i (ixF l 0)) := by
  refine (call_start (show tbl 42 = some a42 from rfl)).trans ?_
  have hlen := hv.len
  rw [E5_len] at hlen
  unfold a42
  simp (config := { maxSteps := 10000000 }) (disch := omega) only [↓G_seq, ↓G_region, ↓G_block, ↓G_ops_nil, ↓G_op, Gv_some, killAll, ↓get_setS, evalOp, ev, Ab.get, one, Option.map_some, List.getElem?_cons_zero, List.getElem?_cons_succ, reduceCtorEq, ↓reduceIte, Int.reduceNeg, hlen]
  refine loop42 hl hv (fun fr' => ?_) l 0 _ rfl (by omega) ?_ ?_ ?_ ?_
  all_goals simp (config := { maxSteps := 10000000 }) (disch := omega) only [↓G_seq, ↓G_ret, ↓G_region, ↓Gx_blk, ↓G_ops_nil, ↓G_op, Gv_some, killAll, ↓get_setS, evalOp, ev, Ab.get, Option.map_some, Option.bind_some, finish, resVs, resV, outVs, ownsLast, tupOf, List.all_nil, List.getElem?_cons_zero, List.getElem?_cons_succ, Nat.reduceEqDiff, reduceCtorEq, ↓reduceIte, Nat.succ_ne_self, Int.reduceNeg, Int.cast_ofNat_Int, ov_int, fn_some]

theorem c40 {v : V} {l : List Me} (hl : l.length ≤ 1024) (hv : SlV 5 v (E5 l)) : call tbl 40 [v, .fn 39 []] H = some (.bool (l.any isF)) := by
  refine (call_start (show tbl 40 = some a40 from rfl)).trans ?_
  have h42 := fun H => c42 (H := H) hl hv
  have hsh := hv.sh
  rw [← ixF_any l 0]
  unfold a40
  by_cases h : 0 ≤ ixF l 0
  · simp (config := { maxSteps := 10000000 }) (disch := omega) only [↓G_seq, ↓G_ret, ↓G_region, ↓G_ops_nil, ↓G_op, Gv_some, dec_t, killAll, ↓get_setS, evalOp, ev, evs, Ab.get, b_geq, one, Option.map_some, Option.bind_some, finish, resVs, resV, outVs, ownsLast, tupOf, callV, V.shift, V.shifts, List.append_nil, List.all_nil, List.getElem?_cons_zero, List.getElem?_cons_succ, Nat.reduceEqDiff, reduceCtorEq, ↓reduceIte, Nat.succ_ne_self, bne_self_eq_false, ti_int, ov_bool, fn_some, h42, hsh]
  · simp (config := { maxSteps := 10000000 }) (disch := omega) only [↓G_seq, ↓G_ret, ↓G_region, ↓G_ops_nil, ↓G_op, Gv_some, dec_f, killAll, ↓get_setS, evalOp, ev, evs, Ab.get, b_geq, one, Option.map_some, Option.bind_some, finish, resVs, resV, outVs, ownsLast, tupOf, callV, V.shift, V.shifts, List.append_nil, List.all_nil, List.getElem?_cons_zero, List.getElem?_cons_succ, Nat.reduceEqDiff, reduceCtorEq, ↓reduceIte, Nat.succ_ne_self, bne_self_eq_false, ti_int, ov_bool, fn_some, h42, hsh]

/-- The breaks permit a line. -/
def pos (l : List Me) (a b : Nat) : Bool := (decide (a = 0) || !decide ((l[a]?.getD z0).b = 3)) && !(sl l (a + 1) b).any isF
theorem c36 {v : V} {l : List Me} {a b : Nat} (hl : l.length ≤ 1024) (hab : a < b) (hb : b ≤ l.length) (hv : SlV 5 v (E5 l)) : call tbl 36 [v, .i (a : Nat), .i ((b : Nat) - 1 : Int)] H = some (.bool (pos l a b)) := by
  refine (call_start (show tbl 36 = some a36 from rfl)).trans ?_
  obtain ⟨s, hs⟩ : ∃ s, l[a]? = some s := ⟨_, List.getElem?_eq_getElem (by omega)⟩
  have hE := hv.el (E5_get l a s hs)
  obtain ⟨x, hsx, hxv⟩ := part hv (show a + 1 ≤ b by omega) hb
  have h40 := fun H => c40 (H := H) (by rw [sl_len hb]; omega) hxv
  have hxh := hxv.sh
  have hbb : ((b : Nat) : Int) - 1 + 1 = (b : Nat) := by omega
  have haa : ((a : Nat) : Int) + 1 = (a + 1 : Nat) := by omega
  unfold pos
  rw [hs, Option.getD_some]
  have cs : a = 0 ∨ (¬ a = 0 ∧ ¬ s.b = 3) ∨ (¬ a = 0 ∧ s.b = 3) := by omega
  generalize (sl l (a + 1) b).any isF = B at *
  clear hv hxv
  have bnd : (a : Int) ≤ 1024 ∧ (b : Int) ≤ 1024 := by omega
  rcases cs with c | ⟨c1, c2⟩ | ⟨c1, c2⟩
  · rw [decide_eq_true c]
    cases B
    all_goals
      unfold a36
      simp (config := { maxSteps := 10000000 }) (disch := omega) only [↓G_seq, ↓G_ret, ↓G_region, ↓G_ops_nil, ↓G_op, Gv_some, ↓G_gop, Gw_tt, Gw_ft, dec_t, killAll, ↓get_setS, evalOp, ev, evs, Ab.get, b_add, b_eql, wrap_i64, one, Option.map_some, Option.bind_some, Option.map_none, asB, finish, resVs, resV, outVs, ownsLast, tupOf, callV, V.shift, V.shifts, List.append_nil, List.all_nil, Bool.and_self, Bool.and_false, List.getElem?_cons_zero, List.getElem?_cons_succ, Nat.reduceEqDiff, reduceCtorEq, ↓reduceIte, Nat.succ_ne_self, true_or, Bool.not_true, Bool.not_false, bne_self_eq_false, and_self, and_false, Bool.true_or, ti_bool, ov_bool, fn_some, hsx, h40, hxh, hbb, haa]
      done
  · rw [decide_eq_false c1, decide_eq_false c2]
    cases B
    all_goals
      unfold a36
      simp (config := { maxSteps := 10000000 }) (disch := omega) only [↓G_seq, ↓G_ret, ↓G_region, ↓G_ops_nil, ↓G_op, Gv_some, ↓G_gop, Gw_tt, Gw_ff, dec_f, killAll, ↓get_setS, evalOp, ev, evs, Ab.get, b_add, b_eql, b_neq, wrap_i64, one, Option.map_some, Option.bind_some, Option.map_none, asB, finish, resVs, resV, outVs, ownsLast, tupOf, callV, V.shift, V.shifts, List.append_nil, List.all_nil, Bool.and_self, Bool.and_false, List.getElem?_cons_zero, List.getElem?_cons_succ, Nat.reduceEqDiff, reduceCtorEq, ↓reduceIte, Nat.succ_ne_self, or_true, Bool.not_true, Bool.not_false, bne_self_eq_false, Bool.false_eq_true, pick3, addOff, loadV, and_self, and_false, Bool.or_true, Nat.zero_add, ti_bool, ov_bool, fn_some, hE, hsx, h40, hxh, hbb, haa]
      done
  · rw [decide_eq_false c1, decide_eq_true c2]
    unfold a36
    simp (config := { maxSteps := 10000000 }) (disch := omega) only [↓G_seq, ↓G_ret, ↓G_region, ↓G_ops_nil, ↓G_op, Gv_some, ↓G_gop, Gw_ff, Gw_tf, dec_t, dec_f, killAll, ↓get_setS, evalOp, ev, Ab.get, b_eql, b_neq, one, Option.map_some, Option.bind_some, asB, finish, resVs, resV, outVs, ownsLast, tupOf, List.all_nil, Bool.false_and, List.getElem?_cons_zero, List.getElem?_cons_succ, Nat.reduceEqDiff, reduceCtorEq, ↓reduceIte, Nat.succ_ne_self, or_false, Bool.not_true, Bool.false_eq_true, pick3, addOff, loadV, false_and, Bool.or_false, Nat.zero_add, ov_bool, fn_some, hE]

/-! ### The cost of a line -/
def cst (l : List Me) (w : Int) (a b : Nat) : Int :=
  if pos l a b = false then inf else if b = l.length ∧ nt l a b ≤ w then 100 else if inB w (mn l a b) (nt l a b) then badN w (mn l a b) (nt l a b) + 100 else inf
theorem cst_in (l : List Me) (w : Int) (a b : Nat) : cst l w a b = inf ∨ (100 ≤ cst l w a b ∧ cst l w a b ≤ 100000100) := by
  unfold cst
  split
  · exact .inl rfl
  split
  · exact .inr ⟨by omega, by omega⟩
  split
  · rename_i h
    have := badN_in h
    exact .inr ⟨by omega, by omega⟩
  · exact .inl rfl

theorem c28 {v : V} {l : List Me} {a b : Nat} {w : Int} (he : errL l = 0) (hab : a < b) (hb : b ≤ l.length) (hv : SlV 5 v (E5 l)) : call tbl 28 [v, .i (a : Nat), .i ((b : Nat) - 1 : Int), .i w] H = some (.i (cst l w a b)) := by
  refine (call_start (show tbl 28 = some a28 from rfl)).trans ?_
  obtain ⟨h0, h1, _⟩ := errL_ok he
  have h30 := fun H => c30 (H := H) he hab hb hv
  have h36 := fun H => c36 (H := H) h1 hab hb hv
  have hlen := hv.len
  rw [E5_len] at hlen
  have hsh := hv.sh
  have hinf' := hinf
  have h11 := fun H => c11 (H := H) (w := w) (m := mn l a b) (n := nt l a b)
  have hbn : inB w (mn l a b) (nt l a b) ∧ 0 ≤ badN w (mn l a b) (nt l a b) ∧ badN w (mn l a b) (nt l a b) ≤ 100000000 ∨ ¬ inB w (mn l a b) (nt l a b) ∧ badN w (mn l a b) (nt l a b) = inf := by
    by_cases c : inB w (mn l a b) (nt l a b)
    · exact .inl ⟨c, badN_in c⟩
    · exact .inr ⟨c, badN_out c⟩
  unfold cst
  generalize badN w (mn l a b) (nt l a b) = B at *
  generalize hm : mn l a b = M at *
  generalize hn : nt l a b = N at *
  have cs : (b = l.length ∧ N ≤ w) ∨ (b = l.length ∧ w < N) ∨ (b < l.length) := by omega
  clear hv he
  generalize pos l a b = P at *
  cases P
  · rw [if_pos rfl]
    clear hbn cs
    unfold a28
    simp (config := { maxSteps := 10000000 }) (disch := omega) only [↓G_seq, ↓G_ret, ↓G_region, ↓G_block, ↓G_cond, ↓G_ops_nil, ↓G_op, Gv_some, Gc_true, killAll, ↓get_setS, evalOp, ev, evs, Ab.get, Option.map_some, Option.bind_some, asB, finish, resVs, resV, outVs, ownsLast, tupOf, callV, V.shift, V.shifts, List.append_nil, List.map_cons, List.map_nil, List.all_nil, List.getElem?_cons_zero, List.getElem?_cons_succ, Nat.reduceEqDiff, reduceCtorEq, ↓reduceIte, Nat.succ_ne_self, Bool.not_false, bne_self_eq_false, ti_bool, ti_tup_int, st_int, ov_int, fn_some, h30, h36, hsh, hinf]
  · rw [if_neg (by decide)]
    rcases cs with c | c | c
    · rw [if_pos c]
      clear hbn
      unfold a28
      simp (config := { maxSteps := 10000000 }) (disch := omega) only [↓G_seq, ↓G_ret, ↓G_region, ↓G_block, ↓G_cond, ↓G_ops_nil, ↓G_op, Gv_some, ↓G_gop, Gw_tt, Gc_true, Gc_false, dec_t, killAll, ↓get_setS, evalOp, ev, evs, Ab.get, b_sub, b_eql, b_leq, wrap_i64, one, Option.map_some, Option.bind_some, asB, finish, resVs, resV, outVs, ownsLast, tupOf, callV, V.shift, V.shifts, List.append_nil, List.map_cons, List.map_nil, List.all_nil, List.getElem?_cons_zero, List.getElem?_cons_succ, Nat.reduceEqDiff, reduceCtorEq, ↓reduceIte, Nat.succ_ne_self, Bool.not_true, bne_self_eq_false, ti_bool, ti_tup_int, st_int, ov_int, fn_some, h30, h36, hlen, hsh]
    · rw [if_neg (by omega)]
      rcases hbn with ⟨q, b1, b2⟩ | ⟨q, b1⟩
      · rw [if_pos q]
        unfold a28
        simp (config := { maxSteps := 10000000 }) (disch := omega) only [↓G_seq, ↓G_skip, ↓G_ret, ↓G_blk, ↓G_region, ↓G_block, ↓G_cond, ↓G_ops_nil, ↓G_op, Gv_some, ↓G_gop, Gw_tt, Gc_true, Gc_false, dec_t, dec_f, killAll, ↓get_setS, evalOp, ev, evs, Ab.get, b_add, b_sub, b_eql, b_lss, b_leq, wrap_i64, one, Option.map_some, Option.bind_some, asB, finish, resVs, resV, outVs, ownsLast, tupOf, callV, V.shift, V.shifts, List.append_nil, List.map_cons, List.map_nil, List.all_nil, List.getElem?_cons_zero, List.getElem?_cons_succ, Nat.reduceEqDiff, reduceCtorEq, ↓reduceIte, Nat.succ_ne_self, Bool.not_true, bne_self_eq_false, ti_bool, ti_int, ti_tup_int, st_int, ov_int, fn_some, h30, h36, h11, hlen, hsh]
      · rw [if_neg q]
        unfold a28
        simp (config := { maxSteps := 10000000 }) (disch := omega) only [↓G_seq, ↓G_skip, ↓G_ret, ↓G_blk, ↓G_region, ↓G_block, ↓G_cond, ↓G_ops_nil, ↓G_op, Gv_some, ↓G_gop, Gw_tt, Gc_false, dec_t, dec_f, killAll, ↓get_setS, evalOp, ev, evs, Ab.get, b_sub, b_eql, b_lss, b_leq, wrap_i64, one, Option.map_some, Option.bind_some, asB, finish, resVs, resV, outVs, ownsLast, tupOf, callV, V.shift, V.shifts, List.append_nil, List.map_cons, List.map_nil, List.all_nil, List.getElem?_cons_zero, List.getElem?_cons_succ, Nat.reduceEqDiff, reduceCtorEq, ↓reduceIte, Nat.succ_ne_self, Bool.not_true, bne_self_eq_false, ti_bool, ti_int, ti_tup_int, st_int, ov_int, fn_some, h30, h36, h11, hlen, hsh, hinf]
    · rw [if_neg (by omega)]
      rcases hbn with ⟨q, b1, b2⟩ | ⟨q, b1⟩
      · rw [if_pos q]
        unfold a28
        simp (config := { maxSteps := 10000000 }) (disch := omega) only [↓G_seq, ↓G_skip, ↓G_ret, ↓G_blk, ↓G_region, ↓G_block, ↓G_cond, ↓G_ops_nil, ↓G_op, Gv_some, ↓G_gop, Gw_tf, Gc_true, Gc_false, dec_t, dec_f, killAll, ↓get_setS, evalOp, ev, evs, Ab.get, b_add, b_sub, b_eql, b_lss, wrap_i64, one, Option.map_some, Option.bind_some, asB, finish, resVs, resV, outVs, ownsLast, tupOf, callV, V.shift, V.shifts, List.append_nil, List.map_cons, List.map_nil, List.all_nil, List.getElem?_cons_zero, List.getElem?_cons_succ, Nat.reduceEqDiff, reduceCtorEq, ↓reduceIte, Nat.succ_ne_self, Bool.not_true, bne_self_eq_false, Bool.false_eq_true, ti_bool, ti_int, ti_tup_int, st_int, ov_int, fn_some, h30, h36, h11, hlen, hsh]
      · rw [if_neg q]
        unfold a28
        simp (config := { maxSteps := 10000000 }) (disch := omega) only [↓G_seq, ↓G_skip, ↓G_ret, ↓G_blk, ↓G_region, ↓G_block, ↓G_cond, ↓G_ops_nil, ↓G_op, Gv_some, ↓G_gop, Gw_tf, Gc_false, dec_f, killAll, ↓get_setS, evalOp, ev, evs, Ab.get, b_sub, b_eql, b_lss, wrap_i64, one, Option.map_some, Option.bind_some, asB, finish, resVs, resV, outVs, ownsLast, tupOf, callV, V.shift, V.shifts, List.append_nil, List.map_cons, List.map_nil, List.all_nil, List.getElem?_cons_zero, List.getElem?_cons_succ, Nat.reduceEqDiff, reduceCtorEq, ↓reduceIte, Nat.succ_ne_self, Bool.not_true, bne_self_eq_false, Bool.false_eq_true, ti_bool, ti_int, ti_tup_int, st_int, ov_int, fn_some, h30, h36, h11, hlen, hsh, hinf]

end Go.Proofs.Ytdgifbmimfnmlaa

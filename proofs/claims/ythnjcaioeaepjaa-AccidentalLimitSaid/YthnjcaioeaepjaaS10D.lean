/-
  What is displayed: the marks of notes and what is in force behind them.
-/
import Derived.Test.YthnjcaioeaepjaaS10C
namespace Go.Proofs.Ythnjcaioeaepjaa
open Go Go.Ab
set_option linter.unusedVariables false
set_option linter.unnecessarySimpa false
set_option linter.unusedSimpArgs false
set_option maxRecDepth 100000
variable {H : List (List Row)}

def I1 (l : List Int) : List (List V) := l.map fun x => [V.i x]
theorem I1_len (l : List Int) : (I1 l).length = l.length := by simp [I1]
theorem I1_pure (l : List Int) : (I1 l).all (fun e => e.all V.pure) = true := by simp [I1, V.pure]
theorem I1_get (l : List Int) (i : Nat) (x : Int) (h : l[i]? = some x) : (I1 l)[i]? = some [.i x] := by simp [I1, h]
theorem I1_set (l : List Int) (i : Nat) (x : Int) : (I1 l).set i [.i x] = I1 (l.set i x) := by simp [I1, List.map_set]
theorem I1_app (l : List Int) (x : Int) : I1 l ++ [[.i x]] = I1 (l ++ [x]) := by simp [I1]

def M2 (l : List (Int × Bool)) : List (List V) := l.map fun x => [V.i x.1, .bool x.2]
theorem M2_len (l : List (Int × Bool)) : (M2 l).length = l.length := by simp [M2]
theorem M2_pure (l : List (Int × Bool)) : (M2 l).all (fun e => e.all V.pure) = true := by simp [M2, V.pure]
theorem M2_nil {l : List (Int × Bool)} : M2 l = [] ↔ l = [] := by simp [M2]
theorem M2_get (l : List (Int × Bool)) (i : Nat) (x : Int × Bool) (h : l[i]? = some x) : (M2 l)[i]? = some [.i x.1, .bool x.2] := by simp [M2, h]
theorem M2_app (l : List (Int × Bool)) (x : Int × Bool) : M2 l ++ [[.i x.1, .bool x.2]] = M2 (l ++ [x]) := by simp [M2]

theorem Acc.mk {site sz ver : Nat} {L : List Row} {v : V} {acc : List (List V)} (h : 0 < ver) (hv : v = .ref 0 site ver sz 0 acc.length) (hr : rget L site = ⟨ver, sz, acc⟩) (hn : acc ≠ []) : Acc site sz L v acc := .inr ⟨hn, ver, h, hv, hr⟩
theorem Acc.fz {site sz : Nat} {L : List Row} {v : V} {acc : List (List V)} (h : Acc site sz L v acc) (hp : acc.all (fun e => e.all V.pure) = true) : ∃ L', frzD L v = some (svE sz acc, L') ∧ ∀ s, s ≠ site → rget L' s = rget L s := by
  rcases h with ⟨rfl, rfl⟩ | ⟨ha, ver, hv, rfl, hr⟩
  · exact ⟨L, rfl, fun _ _ => rfl⟩
  · refine ⟨rset L site ⟨ver + 1, 0, []⟩, ?_, fun s hs => ?_⟩
    · rw [fz_ref0, if_pos ⟨by rw [hr], hv, by rw [hr]; simp, by rw [hr]; exact hp⟩, hr]
      simp only [svE, List.drop_zero, List.take_length]
      rw [if_neg ha]
    · rw [rget_rset, if_neg (fun e => hs e.symm)]

/-- The index of a note's staff position. -/
def ixN (n : Nt) : Nat := (7 * (n.o + 1) + n.s).toNat
theorem ixN_eq {n : Nt} (h : inN n) : ((ixN n : Nat) : Int) = 7 * (n.o + 1) + n.s ∧ ixN n < 77 := by
  unfold ixN
  unfold inN at h
  omega

def stepD (F : List Int) (n : Nt) (cl : Bool) : (Int × Bool) × List Int :=
  let needs := (!n.h && decide (¬ n.al = (F[ixN n]?).getD 0)) || cl
  if needs = true ∨ ¬ n.sh = 0 then ((n.al + 3, !needs && decide (n.sh = 2)), F.set (ixN n) n.al) else ((0, false), F)
def dispR (l : List Nt) : List Nt → List Int → List (Int × Bool) × List Int
  | [], F => ([], F)
  | n :: t, F => ((stepD F n (l.any (hitB n))).1 :: (dispR l t (stepD F n (l.any (hitB n))).2).1, (dispR l t (stepD F n (l.any (hitB n))).2).2)

theorem stepD_len (F : List Int) (n : Nt) (cl : Bool) : (stepD F n cl).2.length = F.length := by
  unfold stepD
  dsimp only
  split <;> simp
theorem dispR_len (l : List Nt) : ∀ (t : List Nt) (F : List Int), (dispR l t F).1.length = t.length ∧ (dispR l t F).2.length = F.length
  | [], F => ⟨rfl, rfl⟩
  | n :: t, F => by
    have := dispR_len l t (stepD F n (l.any (hitB n))).2
    rw [stepD_len] at this
    exact ⟨by simp [dispR, this.1], this.2⟩

theorem step_y (F : List Int) (n : Nt) (cl : Bool) (x : Int) (hx : F[ixN n]? = some x) (h : (n.h = false ∧ ¬ n.al = x) ∨ cl = true) : stepD F n cl = ((n.al + 3, false), F.set (ixN n) n.al) := by
  unfold stepD
  have : ((!n.h && decide (¬ n.al = (F[ixN n]?).getD 0)) || cl) = true := by
    rcases h with ⟨h1, h2⟩ | h
    · simp [h1, hx, h2]
    · simp [h]
  simp only [this, Bool.not_true, Bool.false_and, true_or, if_true]
theorem step_n (F : List Int) (n : Nt) (cl : Bool) (x : Int) (hx : F[ixN n]? = some x) (h : (n.h = true ∨ n.al = x) ∧ cl = false) : stepD F n cl = if n.sh = 0 then ((0, false), F) else ((n.al + 3, decide (n.sh = 2)), F.set (ixN n) n.al) := by
  unfold stepD
  have : ((!n.h && decide (¬ n.al = (F[ixN n]?).getD 0)) || cl) = false := by
    obtain ⟨h1, h2⟩ := h
    rcases h1 with h1 | h1
    · simp [h1, h2]
    · simp [h1, hx, h2]
  simp only [this, Bool.not_false, Bool.true_and, false_or, Bool.false_eq_true]
  by_cases z : n.sh = 0 <;> simp [z]

set_option maxHeartbeats 2000000 in
theorem loop28 {k : List KI} {rs : List ARes} {r : Option V} {v : V} {l : List Nt} {v1 v2 : Nat} {e1 : List (List V)} (hl : l.length ≤ 4096) (hv : SlV 6 v (E6 l)) (he : errL 0 l = 0) (hv2 : 0 < v2) (M : List (Int × Bool)) (S : List Int)
    (hr : ∀ fr' L', Ab.get fr' 5 = .ptr 0 1 v1 0 0 → Ab.get fr' 6 = .ptr 0 2 v2 0 0 → rget L' 1 = ⟨v1, 77, e1⟩ → rget L' 2 = ⟨v2, 77, [S.map V.i]⟩ → Acc 5 2 L' (Ab.get fr' 8) (M2 M) → Gx tbl H rs 0 k fr' L' = r) :
    ∀ (t : List Nt) (i : Nat) (F : List Int) (acc : List (Int × Bool)) (fr : List V) (L : List Row), l.drop i = t → i ≤ l.length → acc.length = i → F.length = 77 → M = acc ++ (dispR l t F).1 → S = (dispR l t F).2 →
    Ab.get fr 5 = .ptr 0 1 v1 0 0 → Ab.get fr 6 = .ptr 0 2 v2 0 0 → Ab.get fr 7 = .sl .any 1 (B1 ((List.range l.length).map (disB l))) → Ab.get fr 21 = v → Ab.get fr 22 = .i (l.length : Nat) → Ab.get fr 23 = .i (i : Nat) →
    rget L 1 = ⟨v1, 77, e1⟩ → rget L 2 = ⟨v2, 77, [F.map V.i]⟩ → Acc 5 2 L (Ab.get fr 8) (M2 acc) →
    G tbl H rs (.code (.loop ( (.seq ( .region [] [ ⟨some 24, .bin .lss (.t 23) (.t 22), none⟩]) ( (.seq ( (.cond (.t 24) ( .skip) ( .exit 0))) ( (.seq ( (.block 1 ( (.seq ( .region [] [ ⟨some 25, .mv (.t 23), none⟩, ⟨some 26, .elemAddr 6 (.t 21) (.t 23), none⟩, ⟨some 27, .load true 6 (.t 26), none⟩, ⟨some 10, .alloc 3 [(.int .i64 0), (.int .i64 0), (.int .i64 0), (.int .i64 0), (.bool false), (.int .i64 0)], none⟩, ⟨some 9, .mv (.t 25), none⟩, ⟨none, .store 6 (.t 10) (.t 27), none⟩]) ( (.seq ( .region [] [ ⟨some 28, .fieldAddr 1 (.t 10), none⟩, ⟨some 29, .fieldAddr 0 (.t 28), none⟩, ⟨some 30, .load false 1 (.t 29), none⟩, ⟨some 31, .fieldAddr 1 (.t 10), none⟩, ⟨some 32, .fieldAddr 2 (.t 31), none⟩, ⟨some 33, .load false 1 (.t 32), none⟩, ⟨some 34, .call 0 (.c (.fn 34 [])) [(.t 30), (.t 33)], none⟩, ⟨some 35, .arrAddr 77 1 (.t 6) (.t 34), none⟩, ⟨some 36, .fieldAddr 1 (.t 10), none⟩, ⟨some 37, .fieldAddr 1 (.t 36), none⟩, ⟨some 38, .load false 1 (.t 37), none⟩, ⟨some 11, .mv (.t 35), none⟩, ⟨some 12, .mv (.t 38), none⟩]) ( (.seq ( .region [] [ ⟨some 39, .fieldAddr 4 (.t 10), none⟩, ⟨some 40, .load false 1 (.t 39), none⟩, ⟨some 41, .not (.t 40), none⟩, ⟨some 42, .mv (.t 41), none⟩, ⟨some 43, .mv (.t 12), some (42, true)⟩, ⟨some 44, .mv (.t 11), some (42, true)⟩, ⟨some 45, .nilck (.t 44), some (42, true)⟩, ⟨some 46, .load false 1 (.t 45), some (42, true)⟩, ⟨some 47, .bin .neq (.t 43) (.t 46), some (42, true)⟩, ⟨some 48, .pick (.t 42) (.t 47) (.c (.bool false)), none⟩, ⟨some 49, .mv (.t 48), none⟩, ⟨some 50, .mv (.t 7), some (49, false)⟩, ⟨some 51, .mv (.t 9), some (49, false)⟩, ⟨some 52, .elemAddr 1 (.t 50) (.t 51), some (49, false)⟩, ⟨some 53, .load false 1 (.t 52), some (49, false)⟩, ⟨some 54, .pick (.t 49) (.c (.bool true)) (.t 53), none⟩, ⟨some 13, .mv (.t 54), none⟩]) ( (.seq ( .region [] [ ⟨some 14, .alloc 4 [(.int .i64 0), (.bool false)], none⟩]) ( (.seq ( (.seq ( .region [] [ ⟨some 55, .mv (.t 13), none⟩, ⟨some 56, .mv (.t 55), none⟩, ⟨some 57, .fieldAddr 5 (.t 10), some (56, false)⟩, ⟨some 58, .load false 1 (.t 57), some (56, false)⟩, ⟨some 59, .bin .neq (.t 58) (.c (.int .i64 0)), some (56, false)⟩, ⟨some 60, .pick (.t 56) (.c (.bool true)) (.t 59), none⟩]) ( (.cond (.t 60) ( (.seq ( .region [] [ ⟨some 62, .mv (.t 12), none⟩, ⟨some 63, .call 0 (.c (.fn 20 [])) [(.t 62)], none⟩, ⟨some 61, .mv (.t 63), none⟩, ⟨some 64, .ext (.t 61) 0, none⟩, ⟨some 65, .ext (.t 61) 1, none⟩, ⟨some 15, .mv (.t 64), none⟩, ⟨some 16, .mv (.t 65), none⟩]) ( (.seq ( .region [] [ ⟨some 66, .mv (.t 15), none⟩, ⟨some 67, .mv (.t 13), none⟩, ⟨some 68, .not (.t 67), none⟩, ⟨some 69, .mv (.t 68), none⟩, ⟨some 70, .fieldAddr 5 (.t 10), some (69, true)⟩, ⟨some 71, .load false 1 (.t 70), some (69, true)⟩, ⟨some 72, .bin .eql (.t 71) (.c (.int .i64 2)), some (69, true)⟩, ⟨some 73, .pick (.t 69) (.t 72) (.c (.bool false)), none⟩, ⟨some 74, .build [(.int .i64 0), (.bool false)] [(0, 1, (.t 66)), (1, 1, (.t 73))], none⟩, ⟨none, .store 2 (.t 14) (.t 74), none⟩]) ( .region [] [ ⟨some 75, .mv (.t 11), none⟩, ⟨some 76, .mv (.t 12), none⟩, ⟨some 77, .nilck (.t 75), none⟩, ⟨none, .store 1 (.t 77) (.t 76), none⟩]))))) ( .skip))))) ( .region [] [ ⟨some 78, .mv (.t 8), none⟩, ⟨some 79, .load true 2 (.t 14), none⟩, ⟨some 80, .lit 2 [(.int .i64 0), (.bool false)] 1 [(0, 2, (.t 79))], none⟩, ⟨some 81, .app 5 2 16 (.t 78) (.t 80), none⟩, ⟨some 8, .mv (.t 81), none⟩]))))))))))))) ( .region [] [ ⟨some 82, .bin .add (.t 23) (.c (.int .i64 1)), none⟩, ⟨some 23, .mv (.t 82), none⟩])))))))) :: k) fr L = r := by
  intro t
  induction t with
  | nil =>
    intro i F acc fr L ht hi ha hF hM hS h5 h6 h7 h21 h22 h23 r1 r2 hacc
    have := drop_nil ht
    simp only [dispR, List.append_nil] at hM hS
    subst hM hS
    refine G_loop.trans ?_
    simp (config := { maxSteps := 10000000 }) (disch := omega) only [↓G_seq, ↓G_exit, ↓G_region, ↓G_cond, ↓Gx_code, ↓G_ops_nil, ↓G_op, Gv_some, Gc_false, dec_f, killAll, ↓get_setS, evalOp, ev, b_lss, one, Option.map_some, List.getElem?_cons_zero, List.getElem?_cons_succ, ↓reduceIte, h22, h23]
    refine hr _ _ ?_ ?_ ?_ ?_ ?_
    · simp (config := { maxSteps := 10000000 }) (disch := omega) only [↓get_setS, List.getElem?_cons_zero, List.getElem?_cons_succ, Nat.reduceEqDiff, ↓reduceIte, h5]
    · simp (config := { maxSteps := 10000000 }) (disch := omega) only [↓get_setS, List.getElem?_cons_zero, List.getElem?_cons_succ, Nat.reduceEqDiff, ↓reduceIte, h6]
    · simp (config := { maxSteps := 10000000 }) (disch := omega) only [List.getElem?_cons_zero, List.getElem?_cons_succ, r1]
    · simp (config := { maxSteps := 10000000 }) (disch := omega) only [List.getElem?_cons_zero, List.getElem?_cons_succ, r2]
    · simp (config := { maxSteps := 10000000 }) (disch := omega) only [↓get_setS, List.getElem?_cons_zero, List.getElem?_cons_succ, Nat.reduceEqDiff, ↓reduceIte]
      exact hacc
  | cons n t ih =>
    intro i F acc fr L ht hi ha hF hM hS h5 h6 h7 h21 h22 h23 r1 r2 hacc
    obtain ⟨e1', e2, e3⟩ := drop_cons ht
    have hE := hv.el (E6_get l i n e1')
    have hin := ((errL_sorted l 0 he).2 n (List.mem_of_getElem? e1')).2
    obtain ⟨hq, hq77⟩ := ixN_eq hin.1
    have h34 := fun H => (c34 (H := H) n.s n.o hin.1.1 hin.1.2.2).trans (by rw [← hq])
    have h20 := fun H => c20 (H := H) n.al hin.1.2.1
    have hal := hin.1.2.1
    have hD := B1_get ((List.range l.length).map (disB l)) i (l.any (hitB n)) (by rw [List.getElem?_map, List.getElem?_range e3, Option.map_some, dis_any he e1'])
    obtain ⟨x, hx⟩ : ∃ x, F[ixN n]? = some x := ⟨_, List.getElem?_eq_getElem (by omega)⟩
    have hFx : (F.map V.i)[ixN n]? = some (.i x) := by simp [hx]
    have hFl : (F.map V.i).length = 77 := by simpa using hF
    have hsp := splice_set F (ixN n) n.al (by omega)
    have hy := step_y F n (l.any (hitB n)) x hx
    have hn := step_n F n (l.any (hitB n)) x hx
    generalize hv8 : Ab.get fr 8 = v8 at hacc
    have hap : ∀ (m : Int × Bool) (L1 : List Row), rget L1 5 = rget L 5 → appV (L1 :: H) 5 2 16 v8 (.sl .full 2 [[.i m.1, .bool m.2]]) = some (.ref 0 5 ((rget L 5).ver + 1) 2 0 (acc.length + 1), rset L1 5 ⟨(rget L 5).ver + 1, 2, M2 acc ++ [[.i m.1, .bool m.2]]⟩) := by
      intro m L1 h1
      have := (acc_app (H := H) (bytes := 16) (y := .sl .full 2 [[.i m.1, .bool m.2]]) (new := [[.i m.1, .bool m.2]]) (hacc.mono h1) rfl (by simp) (by omega) (by rw [M2_len]; simp; omega) (by simp [V.scalar])).1
      rw [this, h1, M2_len]
      rfl
    have next : ∀ (m : Int × Bool) (F' : List Int) (fr' : List V) (L' : List Row), stepD F n (l.any (hitB n)) = (m, F') → Ab.get fr' 5 = .ptr 0 1 v1 0 0 → Ab.get fr' 6 = .ptr 0 2 v2 0 0 → Ab.get fr' 7 = .sl .any 1 (B1 ((List.range l.length).map (disB l))) →
        Ab.get fr' 21 = v → Ab.get fr' 22 = .i (l.length : Nat) → Ab.get fr' 23 = .i ((i : Nat) + 1) → rget L' 1 = ⟨v1, 77, e1⟩ → rget L' 2 = ⟨v2, 77, [F'.map V.i]⟩ → Ab.get fr' 8 = .ref 0 5 ((rget L 5).ver + 1) 2 0 (acc.length + 1) →
        rget L' 5 = ⟨(rget L 5).ver + 1, 2, M2 acc ++ [[.i m.1, .bool m.2]]⟩ → G tbl H rs (.code (.loop ( (.seq ( .region [] [ ⟨some 24, .bin .lss (.t 23) (.t 22), none⟩]) ( (.seq ( (.cond (.t 24) ( .skip) ( .exit 0))) ( (.seq ( (.block 1 ( (.seq ( .region [] [ ⟨some 25, .mv (.t 23), none⟩, ⟨some 26, .elemAddr 6 (.t 21) (.t 23), none⟩, ⟨some 27, .load true 6 (.t 26), none⟩, ⟨some 10, .alloc 3 [(.int .i64 0), (.int .i64 0), (.int .i64 0), (.int .i64 0), (.bool false), (.int .i64 0)], none⟩, ⟨some 9, .mv (.t 25), none⟩, ⟨none, .store 6 (.t 10) (.t 27), none⟩]) ( (.seq ( .region [] [ ⟨some 28, .fieldAddr 1 (.t 10), none⟩, ⟨some 29, .fieldAddr 0 (.t 28), none⟩, ⟨some 30, .load false 1 (.t 29), none⟩, ⟨some 31, .fieldAddr 1 (.t 10), none⟩, ⟨some 32, .fieldAddr 2 (.t 31), none⟩, ⟨some 33, .load false 1 (.t 32), none⟩, ⟨some 34, .call 0 (.c (.fn 34 [])) [(.t 30), (.t 33)], none⟩, ⟨some 35, .arrAddr 77 1 (.t 6) (.t 34), none⟩, ⟨some 36, .fieldAddr 1 (.t 10), none⟩, ⟨some 37, .fieldAddr 1 (.t 36), none⟩, ⟨some 38, .load false 1 (.t 37), none⟩, ⟨some 11, .mv (.t 35), none⟩, ⟨some 12, .mv (.t 38), none⟩]) ( (.seq ( .region [] [ ⟨some 39, .fieldAddr 4 (.t 10), none⟩, ⟨some 40, .load false 1 (.t 39), none⟩, ⟨some 41, .not (.t 40), none⟩, ⟨some 42, .mv (.t 41), none⟩, ⟨some 43, .mv (.t 12), some (42, true)⟩, ⟨some 44, .mv (.t 11), some (42, true)⟩, ⟨some 45, .nilck (.t 44), some (42, true)⟩, ⟨some 46, .load false 1 (.t 45), some (42, true)⟩, ⟨some 47, .bin .neq (.t 43) (.t 46), some (42, true)⟩, ⟨some 48, .pick (.t 42) (.t 47) (.c (.bool false)), none⟩, ⟨some 49, .mv (.t 48), none⟩, ⟨some 50, .mv (.t 7), some (49, false)⟩, ⟨some 51, .mv (.t 9), some (49, false)⟩, ⟨some 52, .elemAddr 1 (.t 50) (.t 51), some (49, false)⟩, ⟨some 53, .load false 1 (.t 52), some (49, false)⟩, ⟨some 54, .pick (.t 49) (.c (.bool true)) (.t 53), none⟩, ⟨some 13, .mv (.t 54), none⟩]) ( (.seq ( .region [] [ ⟨some 14, .alloc 4 [(.int .i64 0), (.bool false)], none⟩]) ( (.seq ( (.seq ( .region [] [ ⟨some 55, .mv (.t 13), none⟩, ⟨some 56, .mv (.t 55), none⟩, ⟨some 57, .fieldAddr 5 (.t 10), some (56, false)⟩, ⟨some 58, .load false 1 (.t 57), some (56, false)⟩, ⟨some 59, .bin .neq (.t 58) (.c (.int .i64 0)), some (56, false)⟩, ⟨some 60, .pick (.t 56) (.c (.bool true)) (.t 59), none⟩]) ( (.cond (.t 60) ( (.seq ( .region [] [ ⟨some 62, .mv (.t 12), none⟩, ⟨some 63, .call 0 (.c (.fn 20 [])) [(.t 62)], none⟩, ⟨some 61, .mv (.t 63), none⟩, ⟨some 64, .ext (.t 61) 0, none⟩, ⟨some 65, .ext (.t 61) 1, none⟩, ⟨some 15, .mv (.t 64), none⟩, ⟨some 16, .mv (.t 65), none⟩]) ( (.seq ( .region [] [ ⟨some 66, .mv (.t 15), none⟩, ⟨some 67, .mv (.t 13), none⟩, ⟨some 68, .not (.t 67), none⟩, ⟨some 69, .mv (.t 68), none⟩, ⟨some 70, .fieldAddr 5 (.t 10), some (69, true)⟩, ⟨some 71, .load false 1 (.t 70), some (69, true)⟩, ⟨some 72, .bin .eql (.t 71) (.c (.int .i64 2)), some (69, true)⟩, ⟨some 73, .pick (.t 69) (.t 72) (.c (.bool false)), none⟩, ⟨some 74, .build [(.int .i64 0), (.bool false)] [(0, 1, (.t 66)), (1, 1, (.t 73))], none⟩, ⟨none, .store 2 (.t 14) (.t 74), none⟩]) ( .region [] [ ⟨some 75, .mv (.t 11), none⟩, ⟨some 76, .mv (.t 12), none⟩, ⟨some 77, .nilck (.t 75), none⟩, ⟨none, .store 1 (.t 77) (.t 76), none⟩]))))) ( .skip))))) ( .region [] [ ⟨some 78, .mv (.t 8), none⟩, ⟨some 79, .load true 2 (.t 14), none⟩, ⟨some 80, .lit 2 [(.int .i64 0), (.bool false)] 1 [(0, 2, (.t 79))], none⟩, ⟨some 81, .app 5 2 16 (.t 78) (.t 80), none⟩, ⟨some 8, .mv (.t 81), none⟩]))))))))))))) ( .region [] [ ⟨some 82, .bin .add (.t 23) (.c (.int .i64 1)), none⟩, ⟨some 23, .mv (.t 82), none⟩])))))))) :: k) fr' L' = r := by
      intro m F' fr' L' hs g5 g6 g7 g21 g22 g23 s1 s2 g8 s5
      have hl2 : F'.length = F.length := by
        have := stepD_len F n (l.any (hitB n))
        rw [hs] at this
        exact this
      have hl' : F'.length = 77 := by omega
      simp only [dispR, hs] at hM hS
      refine ih (i + 1) F' (acc ++ [m]) fr' L' e2 (by omega) (by simp; omega) hl' (by rw [hM]; simp) hS g5 g6 g7 g21 g22 (by rw [g23]; congr 1) s1 s2 ?_
      rw [g8]
      exact Acc.mk (ver := (rget L 5).ver + 1) (by omega) (by rw [M2_len]; simp) (by rw [s5, M2_app]) (by simp [M2])
    clear ih hM hS hr hv
    have hap2 := fun m r3 r4 r2 => hap m (rset (rset (rset L 3 r3) 4 r4) 2 r2) (by simp [rget_rset])
    have hap1 := fun m r3 r4 => hap m (rset (rset L 3 r3) 4 r4) (by simp [rget_rset])
    clear hap
    refine G_loop.trans ?_
    generalize l.any (hitB n) = cl at *
    by_cases c1 : n.h = false ∧ ¬ n.al = x
    · have hs := hy (.inl c1)
      obtain ⟨c1, c2⟩ := c1
      have hap' := hap2 (n.al + 3, false)
      clear hy hn hap1 hap2
      simp (config := { maxSteps := 10000000 }) (disch := omega) only [↓G_seq, ↓G_skip, ↓G_blk, ↓G_region, ↓G_block, ↓G_cond, ↓G_ops_nil, ↓G_op, Gv_some, ↓G_gop, Gw_tt, Gw_tf, Gw_ft, Gc_true, dec_t, dec_f, killAll, ↓get_setS, ↓get_setN, evalOp, ev, evs, rget_rset, b_add, b_neq, b_lss, wrap_i64, one, Option.map_some, Option.bind_some, asB, callV, V.shift, V.shifts, List.append_nil, List.nil_append, List.cons_append, List.map_cons, List.map_nil, List.all_cons, List.all_nil, Bool.and_true, Bool.true_and, Bool.and_self, List.getElem?_cons_zero, List.getElem?_cons_succ, Nat.reduceEqDiff, ↓reduceIte, Nat.succ_ne_self, Bool.not_true, Bool.not_false, bne_self_eq_false, Bool.false_eq_true, Int.reduceAdd, pick3, V.cells, fillV, splice, chop, arrV, addOff, loadV, storeV, Ab.rowAt, V.scalar, V.pure, Nat.reduceAdd, Nat.reduceLeDiff, and_true, true_and, and_self, List.length_cons, List.length_nil, List.take_succ_cons, List.take_zero, List.drop_succ_cons, List.drop_zero, Nat.le_refl, List.set_cons_zero, List.getD_cons_zero, List.replicate, List.flatten_cons, List.flatten_nil, Int.cast_ofNat_Int, Nat.zero_add, Nat.add_zero, Nat.mul_one, ti_int, ti_tup_int, st_int, nn, ite_ov, Int.toNat_natCast, h6, h21, h22, h23, hE, h34, h20, r2, hFx, hFl, hsp, hv8, hap', c1, rset_rset, Nat.zero_lt_succ]
      refine next _ _ _ _ hs ?_ ?_ ?_ ?_ ?_ ?_ ?_ ?_ ?_ ?_
      all_goals simp (config := { maxSteps := 10000000 }) (disch := omega) only [↓get_setS, ↓get_setN, rget_rset, List.getElem?_cons_zero, List.getElem?_cons_succ, Nat.reduceEqDiff, ↓reduceIte, Nat.succ_ne_self, h5, h6, h7, h21, h22, r1]
    cases cl
    case neg.true =>
      have hs := hy (.inr rfl)
      have hap' := hap2 (n.al + 3, false)
      clear hy hn hap1 hap2
      cases hh : n.h
      · have c2 : n.al = x := Classical.not_not.1 (fun z => c1 ⟨hh, z⟩)
        simp (config := { maxSteps := 10000000 }) (disch := omega) only [↓G_seq, ↓G_skip, ↓G_blk, ↓G_region, ↓G_block, ↓G_cond, ↓G_ops_nil, ↓G_op, Gv_some, ↓G_gop, Gw_tt, Gw_ff, Gw_tf, Gw_ft, Gc_true, dec_t, killAll, ↓get_setS, ↓get_setN, evalOp, ev, evs, rget_rset, b_add, b_neq, b_lss, wrap_i64, one, Option.map_some, Option.bind_some, asB, callV, V.shift, V.shifts, List.append_nil, List.nil_append, List.cons_append, List.map_cons, List.map_nil, List.all_cons, List.all_nil, Bool.and_true, Bool.true_and, Bool.and_self, List.getElem?_cons_zero, List.getElem?_cons_succ, Nat.reduceEqDiff, ↓reduceIte, Nat.succ_ne_self, Bool.not_true, Bool.not_false, bne_self_eq_false, Bool.false_eq_true, Int.reduceAdd, pick3, V.cells, fillV, splice, chop, arrV, addOff, loadV, storeV, Ab.rowAt, V.scalar, V.pure, Nat.reduceAdd, Nat.reduceLeDiff, and_true, true_and, and_self, List.length_cons, List.length_nil, List.take_succ_cons, List.take_zero, List.drop_succ_cons, List.drop_zero, Nat.le_refl, List.set_cons_zero, List.getD_cons_zero, List.replicate, List.flatten_cons, List.flatten_nil, Int.cast_ofNat_Int, Nat.zero_add, Nat.add_zero, Nat.mul_one, el_any, ti_int, ti_tup_int, st_int, nn, ite_ov, Int.toNat_natCast, h6, h7, h21, h22, h23, hE, h34, h20, r2, hFx, hFl, hsp, hv8, hap', hh, hD, rset_rset, Nat.zero_lt_succ]
        refine next _ _ _ _ hs ?_ ?_ ?_ ?_ ?_ ?_ ?_ ?_ ?_ ?_
        all_goals simp (config := { maxSteps := 10000000 }) (disch := omega) only [↓get_setS, ↓get_setN, rget_rset, List.getElem?_cons_zero, List.getElem?_cons_succ, Nat.reduceEqDiff, ↓reduceIte, Nat.succ_ne_self, h5, h6, h7, h21, h22, r1]
      · simp (config := { maxSteps := 10000000 }) (disch := omega) only [↓G_seq, ↓G_skip, ↓G_blk, ↓G_region, ↓G_block, ↓G_cond, ↓G_ops_nil, ↓G_op, Gv_some, ↓G_gop, Gw_ff, Gw_tf, Gw_ft, Gc_true, dec_t, killAll, ↓get_setS, ↓get_setN, evalOp, ev, evs, rget_rset, b_add, b_lss, wrap_i64, one, Option.map_some, Option.bind_some, asB, callV, V.shift, V.shifts, List.append_nil, List.nil_append, List.cons_append, List.map_cons, List.map_nil, List.all_cons, List.all_nil, Bool.and_true, Bool.true_and, Bool.and_self, List.getElem?_cons_zero, List.getElem?_cons_succ, Nat.reduceEqDiff, ↓reduceIte, Nat.succ_ne_self, Bool.not_true, bne_self_eq_false, Bool.false_eq_true, Int.reduceAdd, pick3, V.cells, fillV, splice, chop, arrV, addOff, loadV, storeV, Ab.rowAt, V.scalar, V.pure, Nat.reduceAdd, Nat.reduceLeDiff, and_true, true_and, and_self, List.length_cons, List.length_nil, List.take_succ_cons, List.take_zero, List.drop_succ_cons, List.drop_zero, Nat.le_refl, List.set_cons_zero, List.getD_cons_zero, List.replicate, List.flatten_cons, List.flatten_nil, Int.cast_ofNat_Int, Nat.zero_add, Nat.add_zero, Nat.mul_one, el_any, ti_int, ti_tup_int, st_int, nn, ite_ov, Int.toNat_natCast, h6, h7, h21, h22, h23, hE, h34, h20, r2, hFl, hsp, hv8, hap', hh, hD, rset_rset, Nat.zero_lt_succ]
        refine next _ _ _ _ hs ?_ ?_ ?_ ?_ ?_ ?_ ?_ ?_ ?_ ?_
        all_goals simp (config := { maxSteps := 10000000 }) (disch := omega) only [↓get_setS, ↓get_setN, rget_rset, List.getElem?_cons_zero, List.getElem?_cons_succ, Nat.reduceEqDiff, ↓reduceIte, Nat.succ_ne_self, h5, h6, h7, h21, h22, r1]
    have c2 : n.h = true ∨ n.al = x := by
      cases hh : n.h
      · exact .inr (Classical.not_not.1 (fun z => c1 ⟨hh, z⟩))
      · exact .inl rfl
    have hs := hn ⟨c2, rfl⟩
    clear hy hn c1
    by_cases z : n.sh = 0
    · rw [if_pos z] at hs
      have hap' := hap1 (0, false)
      clear hap1 hap2
      cases hh : n.h
      · have c3 : n.al = x := c2.resolve_left (by simp [hh])
        clear c2
        simp (config := { maxSteps := 10000000 }) (disch := omega) only [↓G_seq, ↓G_skip, ↓G_blk, ↓G_region, ↓G_block, ↓G_cond, ↓G_ops_nil, ↓G_op, Gv_some, ↓G_gop, Gw_tt, Gw_ff, Gc_true, Gc_false, dec_t, killAll, ↓get_setS, ↓get_setN, evalOp, ev, evs, rget_rset, b_add, b_neq, b_lss, wrap_i64, one, Option.map_some, Option.bind_some, asB, callV, V.shift, V.shifts, List.append_nil, List.nil_append, List.cons_append, List.all_cons, List.all_nil, Bool.true_and, Bool.and_self, List.getElem?_cons_zero, List.getElem?_cons_succ, Nat.reduceEqDiff, ↓reduceIte, Nat.succ_ne_self, Bool.not_true, Bool.not_false, bne_self_eq_false, Bool.false_eq_true, Int.reduceAdd, pick3, V.cells, fillV, splice, chop, arrV, addOff, loadV, storeV, Ab.rowAt, V.scalar, V.pure, Nat.reduceAdd, true_and, and_self, List.length_cons, List.length_nil, List.take_succ_cons, List.take_zero, List.drop_succ_cons, List.drop_zero, Nat.le_refl, List.set_cons_zero, List.getD_cons_zero, List.replicate, List.flatten_cons, List.flatten_nil, Int.cast_ofNat_Int, Nat.zero_add, Nat.add_zero, Nat.mul_one, el_any, ti_int, nn, ite_ov, Int.toNat_natCast, h6, h7, h21, h22, h23, hE, h34, r2, hFx, hv8, hap', hh, hD, rset_rset, Nat.zero_lt_succ]
        refine next _ _ _ _ hs ?_ ?_ ?_ ?_ ?_ ?_ ?_ ?_ ?_ ?_
        all_goals simp (config := { maxSteps := 10000000 }) (disch := omega) only [↓get_setS, ↓get_setN, rget_rset, List.getElem?_cons_zero, List.getElem?_cons_succ, Nat.reduceEqDiff, ↓reduceIte, Nat.succ_ne_self, h5, h6, h7, h21, h22, r1, r2]
      · clear c2
        simp (config := { maxSteps := 10000000 }) (disch := omega) only [↓G_seq, ↓G_skip, ↓G_blk, ↓G_region, ↓G_block, ↓G_cond, ↓G_ops_nil, ↓G_op, Gv_some, ↓G_gop, Gw_ff, Gw_tf, Gc_true, Gc_false, dec_t, killAll, ↓get_setS, ↓get_setN, evalOp, ev, evs, rget_rset, b_add, b_neq, b_lss, wrap_i64, one, Option.map_some, Option.bind_some, asB, callV, V.shift, V.shifts, List.append_nil, List.nil_append, List.cons_append, List.all_cons, List.all_nil, Bool.true_and, Bool.and_self, List.getElem?_cons_zero, List.getElem?_cons_succ, Nat.reduceEqDiff, ↓reduceIte, Nat.succ_ne_self, Bool.not_true, bne_self_eq_false, Bool.false_eq_true, Int.reduceAdd, pick3, V.cells, fillV, splice, chop, arrV, addOff, loadV, storeV, Ab.rowAt, V.scalar, V.pure, Nat.reduceAdd, true_and, and_self, List.length_cons, List.length_nil, List.take_succ_cons, List.take_zero, List.drop_succ_cons, List.drop_zero, Nat.le_refl, List.set_cons_zero, List.getD_cons_zero, List.replicate, List.flatten_cons, List.flatten_nil, Int.cast_ofNat_Int, Nat.zero_add, Nat.add_zero, Nat.mul_one, el_any, ti_int, nn, ite_ov, Int.toNat_natCast, h6, h7, h21, h22, h23, hE, h34, hv8, hap', hh, hD, rset_rset, Nat.zero_lt_succ]
        refine next _ _ _ _ hs ?_ ?_ ?_ ?_ ?_ ?_ ?_ ?_ ?_ ?_
        all_goals simp (config := { maxSteps := 10000000 }) (disch := omega) only [↓get_setS, ↓get_setN, rget_rset, List.getElem?_cons_zero, List.getElem?_cons_succ, Nat.reduceEqDiff, ↓reduceIte, Nat.succ_ne_self, h5, h6, h7, h21, h22, r1, r2]
    · rw [if_neg z] at hs
      have hap' := hap2 (n.al + 3, decide (n.sh = 2))
      clear hap1 hap2
      cases hh : n.h
      · have c3 : n.al = x := c2.resolve_left (by simp [hh])
        clear c2
        by_cases z2 : n.sh = 2
        · rw [decide_eq_true z2] at hap' hs
          simp (config := { maxSteps := 10000000 }) (disch := omega) only [↓G_seq, ↓G_skip, ↓G_blk, ↓G_region, ↓G_block, ↓G_cond, ↓G_ops_nil, ↓G_op, Gv_some, ↓G_gop, Gw_tt, Gw_ff, Gc_true, dec_t, dec_f, killAll, ↓get_setS, ↓get_setN, evalOp, ev, evs, rget_rset, b_add, b_eql, b_neq, b_lss, wrap_i64, one, Option.map_some, Option.bind_some, asB, callV, V.shift, V.shifts, List.append_nil, List.nil_append, List.cons_append, List.map_cons, List.map_nil, List.all_cons, List.all_nil, Bool.and_true, Bool.true_and, Bool.and_self, List.getElem?_cons_zero, List.getElem?_cons_succ, Nat.reduceEqDiff, ↓reduceIte, Nat.succ_ne_self, Bool.not_true, Bool.not_false, bne_self_eq_false, Bool.false_eq_true, Int.reduceAdd, pick3, V.cells, fillV, splice, chop, arrV, addOff, loadV, storeV, Ab.rowAt, V.scalar, V.pure, Nat.reduceAdd, Nat.reduceLeDiff, and_true, true_and, and_self, List.length_cons, List.length_nil, List.take_succ_cons, List.take_zero, List.drop_succ_cons, List.drop_zero, Nat.le_refl, List.set_cons_zero, List.getD_cons_zero, List.replicate, List.flatten_cons, List.flatten_nil, Int.cast_ofNat_Int, Nat.zero_add, Nat.add_zero, Nat.mul_one, el_any, ti_int, ti_tup_int, st_int, nn, ite_ov, Int.toNat_natCast, h6, h7, h21, h22, h23, hE, h34, h20, r2, hFx, hFl, hsp, hv8, hap', hh, hD, rset_rset, Nat.zero_lt_succ]
          refine next _ _ _ _ hs ?_ ?_ ?_ ?_ ?_ ?_ ?_ ?_ ?_ ?_
          all_goals simp (config := { maxSteps := 10000000 }) (disch := omega) only [↓get_setS, ↓get_setN, rget_rset, List.getElem?_cons_zero, List.getElem?_cons_succ, Nat.reduceEqDiff, ↓reduceIte, Nat.succ_ne_self, h5, h6, h7, h21, h22, r1]
        · rw [decide_eq_false z2] at hap' hs
          simp (config := { maxSteps := 10000000 }) (disch := omega) only [↓G_seq, ↓G_skip, ↓G_blk, ↓G_region, ↓G_block, ↓G_cond, ↓G_ops_nil, ↓G_op, Gv_some, ↓G_gop, Gw_tt, Gw_ff, Gc_true, dec_t, dec_f, killAll, ↓get_setS, ↓get_setN, evalOp, ev, evs, rget_rset, b_add, b_eql, b_neq, b_lss, wrap_i64, one, Option.map_some, Option.bind_some, asB, callV, V.shift, V.shifts, List.append_nil, List.nil_append, List.cons_append, List.map_cons, List.map_nil, List.all_cons, List.all_nil, Bool.and_true, Bool.true_and, Bool.and_self, List.getElem?_cons_zero, List.getElem?_cons_succ, Nat.reduceEqDiff, ↓reduceIte, Nat.succ_ne_self, Bool.not_true, Bool.not_false, bne_self_eq_false, Bool.false_eq_true, Int.reduceAdd, pick3, V.cells, fillV, splice, chop, arrV, addOff, loadV, storeV, Ab.rowAt, V.scalar, V.pure, Nat.reduceAdd, Nat.reduceLeDiff, and_true, true_and, and_self, List.length_cons, List.length_nil, List.take_succ_cons, List.take_zero, List.drop_succ_cons, List.drop_zero, Nat.le_refl, List.set_cons_zero, List.getD_cons_zero, List.replicate, List.flatten_cons, List.flatten_nil, Int.cast_ofNat_Int, Nat.zero_add, Nat.add_zero, Nat.mul_one, el_any, ti_int, ti_tup_int, st_int, nn, ite_ov, Int.toNat_natCast, h6, h7, h21, h22, h23, hE, h34, h20, r2, hFx, hFl, hsp, hv8, hap', hh, hD, rset_rset, Nat.zero_lt_succ]
          refine next _ _ _ _ hs ?_ ?_ ?_ ?_ ?_ ?_ ?_ ?_ ?_ ?_
          all_goals simp (config := { maxSteps := 10000000 }) (disch := omega) only [↓get_setS, ↓get_setN, rget_rset, List.getElem?_cons_zero, List.getElem?_cons_succ, Nat.reduceEqDiff, ↓reduceIte, Nat.succ_ne_self, h5, h6, h7, h21, h22, r1]
      · clear c2
        by_cases z2 : n.sh = 2
        · rw [decide_eq_true z2] at hap' hs
          simp (config := { maxSteps := 10000000 }) (disch := omega) only [↓G_seq, ↓G_skip, ↓G_blk, ↓G_region, ↓G_block, ↓G_cond, ↓G_ops_nil, ↓G_op, Gv_some, ↓G_gop, Gw_tt, Gw_ff, Gw_tf, Gc_true, dec_t, dec_f, killAll, ↓get_setS, ↓get_setN, evalOp, ev, evs, rget_rset, b_add, b_eql, b_neq, b_lss, wrap_i64, one, Option.map_some, Option.bind_some, asB, callV, V.shift, V.shifts, List.append_nil, List.nil_append, List.cons_append, List.map_cons, List.map_nil, List.all_cons, List.all_nil, Bool.and_true, Bool.true_and, Bool.and_self, List.getElem?_cons_zero, List.getElem?_cons_succ, Nat.reduceEqDiff, ↓reduceIte, Nat.succ_ne_self, Bool.not_true, Bool.not_false, bne_self_eq_false, Bool.false_eq_true, Int.reduceAdd, pick3, V.cells, fillV, splice, chop, arrV, addOff, loadV, storeV, Ab.rowAt, V.scalar, V.pure, Nat.reduceAdd, Nat.reduceLeDiff, and_true, true_and, and_self, List.length_cons, List.length_nil, List.take_succ_cons, List.take_zero, List.drop_succ_cons, List.drop_zero, Nat.le_refl, List.set_cons_zero, List.getD_cons_zero, List.replicate, List.flatten_cons, List.flatten_nil, Int.cast_ofNat_Int, Nat.zero_add, Nat.add_zero, Nat.mul_one, el_any, ti_int, ti_tup_int, st_int, nn, ite_ov, Int.toNat_natCast, h6, h7, h21, h22, h23, hE, h34, h20, r2, hFl, hsp, hv8, hap', hh, hD, rset_rset, Nat.zero_lt_succ]
          refine next _ _ _ _ hs ?_ ?_ ?_ ?_ ?_ ?_ ?_ ?_ ?_ ?_
          all_goals simp (config := { maxSteps := 10000000 }) (disch := omega) only [↓get_setS, ↓get_setN, rget_rset, List.getElem?_cons_zero, List.getElem?_cons_succ, Nat.reduceEqDiff, ↓reduceIte, Nat.succ_ne_self, h5, h6, h7, h21, h22, r1]
        · rw [decide_eq_false z2] at hap' hs
          simp (config := { maxSteps := 10000000 }) (disch := omega) only [↓G_seq, ↓G_skip, ↓G_blk, ↓G_region, ↓G_block, ↓G_cond, ↓G_ops_nil, ↓G_op, Gv_some, ↓G_gop, Gw_tt, Gw_ff, Gw_tf, Gc_true, dec_t, dec_f, killAll, ↓get_setS, ↓get_setN, evalOp, ev, evs, rget_rset, b_add, b_eql, b_neq, b_lss, wrap_i64, one, Option.map_some, Option.bind_some, asB, callV, V.shift, V.shifts, List.append_nil, List.nil_append, List.cons_append, List.map_cons, List.map_nil, List.all_cons, List.all_nil, Bool.and_true, Bool.true_and, Bool.and_self, List.getElem?_cons_zero, List.getElem?_cons_succ, Nat.reduceEqDiff, ↓reduceIte, Nat.succ_ne_self, Bool.not_true, Bool.not_false, bne_self_eq_false, Bool.false_eq_true, Int.reduceAdd, pick3, V.cells, fillV, splice, chop, arrV, addOff, loadV, storeV, Ab.rowAt, V.scalar, V.pure, Nat.reduceAdd, Nat.reduceLeDiff, and_true, true_and, and_self, List.length_cons, List.length_nil, List.take_succ_cons, List.take_zero, List.drop_succ_cons, List.drop_zero, Nat.le_refl, List.set_cons_zero, List.getD_cons_zero, List.replicate, List.flatten_cons, List.flatten_nil, Int.cast_ofNat_Int, Nat.zero_add, Nat.add_zero, Nat.mul_one, el_any, ti_int, ti_tup_int, st_int, nn, ite_ov, Int.toNat_natCast, h6, h7, h21, h22, h23, hE, h34, h20, r2, hFl, hsp, hv8, hap', hh, hD, rset_rset, Nat.zero_lt_succ]
          refine next _ _ _ _ hs ?_ ?_ ?_ ?_ ?_ ?_ ?_ ?_ ?_ ?_
          all_goals simp (config := { maxSteps := 10000000 }) (disch := omega) only [↓get_setS, ↓get_setN, rget_rset, List.getElem?_cons_zero, List.getElem?_cons_succ, Nat.reduceEqDiff, ↓reduceIte, Nat.succ_ne_self, h5, h6, h7, h21, h22, r1]

end Go.Proofs.Ythnjcaioeaepjaa

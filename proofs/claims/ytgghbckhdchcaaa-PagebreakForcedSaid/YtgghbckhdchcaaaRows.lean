/-
  No cell of these rows narrows 'for every input' (looked for: loops, veiled, ifaces, maps, wideKeys, modest, calm, conditions, laid).
  DERIVED. THE GIVEN ROWS OF THIS SEAT. 8 by the template 'for every input the law returns true; each argument reads behind the call as it read before'; 0 by the template 'total and deterministic' (their statements: YtgghbckhdchcaaaTotals.lean).
  GIVEN WITH THE SEED: the statements are not yours to turn. If you find one false, say at which input.
  Laid BY PROGRAM, IN A SANDBOX (cutbox-rows.mjs): the forced cells as the released guide's own fill.sh prints them over the translation 3126fd5613b9463b… (all of the seat's roots in one cut). By AI agents, Wed Nov 11 2026. No macro, syntax, notation, axiom, sorry.
-/
import Derived.Test.YtgghbckhdchcaaaChecked
import GoSem.Claim
import GoSem.ClaimJoined
import GoSem.ClaimMapViews
import Derived.JoinedTies
import Derived.KernelRfl
namespace Go.Proofs.Ytgghbckhdchcaaa
/- THE CELL 'sum', in the pinned program and in every row, IS THE sha256 OF THE DUMP (.gsa) THAT YtgghbckhdchcaaaProg.lean LOADS. Nothing in Lean hashes anything: it is a label: what it is worth is what the hold of that sum in a sandbox is worth. -/
noncomputable def Try.pinned : Pinned := { name := "ytgghbckhdchcaaa", sum := "3126fd5613b9463bfbf87c5b8113fff17e97825890903b42b17c11672ad4cde6", checked := Try.checked }
namespace Rows
def none {H : Type} : Left H := { results := [], args := [] }

/-- 'hemiolalaw33.PagebreakChecks': WHATEVER THE INPUT: true; the input reads as it did. -/
def pagebreakChecksSpec : ChangeSpec := { name := "pagebreakChecks", fn := fun _ => fun
  | [d1, d2] => { results := [.lit (.bool true)], args := [d1, d2] }
  | _ => none }
def pagebreakChecksRow : OpenClaim := { program := "ytgghbckhdchcaaa", sum := "3126fd5613b9463bfbf87c5b8113fff17e97825890903b42b17c11672ad4cde6", func := "hemiola/hemiolalaw33.PagebreakChecks", spec := "pagebreakChecks", unfollowed := true, recurses := true, apart := false }
def PagebreakChecksSaid : Prop := pagebreakChecksRow.holds Try.pinned (OpenSpec.ofChange pagebreakChecksSpec)

/-- ITS FALSE NEIGHBOUR: 'it returns false'. Refute it at one input. -/
def pagebreakChecksWrong : ChangeSpec := { name := "pagebreakChecks", fn := fun _ => fun
  | [d1, d2] => { results := [.lit (.bool false)], args := [d1, d2] }
  | _ => none }
def PagebreakChecksWrongFalsely : Prop := pagebreakChecksRow.holds Try.pinned (OpenSpec.ofChange pagebreakChecksWrong)

/-- 'hemiolalaw33.PagebreakBest': WHATEVER THE INPUT: true; the input reads as it did. -/
def pagebreakBestSpec : ChangeSpec := { name := "pagebreakBest", fn := fun _ => fun
  | [d1, d2] => { results := [.lit (.bool true)], args := [d1, d2] }
  | _ => none }
def pagebreakBestRow : OpenClaim := { program := "ytgghbckhdchcaaa", sum := "3126fd5613b9463bfbf87c5b8113fff17e97825890903b42b17c11672ad4cde6", func := "hemiola/hemiolalaw33.PagebreakBest", spec := "pagebreakBest", unfollowed := true, recurses := true, apart := false }
def PagebreakBestSaid : Prop := pagebreakBestRow.holds Try.pinned (OpenSpec.ofChange pagebreakBestSpec)

/-- ITS FALSE NEIGHBOUR: 'it returns false'. Refute it at one input. -/
def pagebreakBestWrong : ChangeSpec := { name := "pagebreakBest", fn := fun _ => fun
  | [d1, d2] => { results := [.lit (.bool false)], args := [d1, d2] }
  | _ => none }
def PagebreakBestWrongFalsely : Prop := pagebreakBestRow.holds Try.pinned (OpenSpec.ofChange pagebreakBestWrong)

/-- 'hemiolalaw33.PagebreakTotals': WHATEVER THE INPUT: true; the input reads as it did. -/
def pagebreakTotalsSpec : ChangeSpec := { name := "pagebreakTotals", fn := fun _ => fun
  | [d1, d2, d3] => { results := [.lit (.bool true)], args := [d1, d2, d3] }
  | _ => none }
def pagebreakTotalsRow : OpenClaim := { program := "ytgghbckhdchcaaa", sum := "3126fd5613b9463bfbf87c5b8113fff17e97825890903b42b17c11672ad4cde6", func := "hemiola/hemiolalaw33.PagebreakTotals", spec := "pagebreakTotals", unfollowed := true, recurses := true, apart := false }
def PagebreakTotalsSaid : Prop := pagebreakTotalsRow.holds Try.pinned (OpenSpec.ofChange pagebreakTotalsSpec)

/-- ITS FALSE NEIGHBOUR: 'it returns false'. Refute it at one input. -/
def pagebreakTotalsWrong : ChangeSpec := { name := "pagebreakTotals", fn := fun _ => fun
  | [d1, d2, d3] => { results := [.lit (.bool false)], args := [d1, d2, d3] }
  | _ => none }
def PagebreakTotalsWrongFalsely : Prop := pagebreakTotalsRow.holds Try.pinned (OpenSpec.ofChange pagebreakTotalsWrong)

/-- 'hemiolalaw33.PagebreakLeast': WHATEVER THE INPUT: true; the input reads as it did. -/
def pagebreakLeastSpec : ChangeSpec := { name := "pagebreakLeast", fn := fun _ => fun
  | [d1, d2] => { results := [.lit (.bool true)], args := [d1, d2] }
  | _ => none }
def pagebreakLeastRow : OpenClaim := { program := "ytgghbckhdchcaaa", sum := "3126fd5613b9463bfbf87c5b8113fff17e97825890903b42b17c11672ad4cde6", func := "hemiola/hemiolalaw33.PagebreakLeast", spec := "pagebreakLeast", unfollowed := true, recurses := true, apart := false }
def PagebreakLeastSaid : Prop := pagebreakLeastRow.holds Try.pinned (OpenSpec.ofChange pagebreakLeastSpec)

/-- ITS FALSE NEIGHBOUR: 'it returns false'. Refute it at one input. -/
def pagebreakLeastWrong : ChangeSpec := { name := "pagebreakLeast", fn := fun _ => fun
  | [d1, d2] => { results := [.lit (.bool false)], args := [d1, d2] }
  | _ => none }
def PagebreakLeastWrongFalsely : Prop := pagebreakLeastRow.holds Try.pinned (OpenSpec.ofChange pagebreakLeastWrong)

/-- 'hemiolalaw33.PagebreakForced': WHATEVER THE INPUT: true; the input reads as it did. -/
def pagebreakForcedSpec : ChangeSpec := { name := "pagebreakForced", fn := fun _ => fun
  | [d1, d2] => { results := [.lit (.bool true)], args := [d1, d2] }
  | _ => none }
def pagebreakForcedRow : OpenClaim := { program := "ytgghbckhdchcaaa", sum := "3126fd5613b9463bfbf87c5b8113fff17e97825890903b42b17c11672ad4cde6", func := "hemiola/hemiolalaw33.PagebreakForced", spec := "pagebreakForced", unfollowed := true, recurses := true, apart := false }
def PagebreakForcedSaid : Prop := pagebreakForcedRow.holds Try.pinned (OpenSpec.ofChange pagebreakForcedSpec)

/-- ITS FALSE NEIGHBOUR: 'it returns false'. Refute it at one input. -/
def pagebreakForcedWrong : ChangeSpec := { name := "pagebreakForced", fn := fun _ => fun
  | [d1, d2] => { results := [.lit (.bool false)], args := [d1, d2] }
  | _ => none }
def PagebreakForcedWrongFalsely : Prop := pagebreakForcedRow.holds Try.pinned (OpenSpec.ofChange pagebreakForcedWrong)

/-- 'hemiolalaw33.PagebreakTurns': WHATEVER THE INPUT: true; the input reads as it did. -/
def pagebreakTurnsSpec : ChangeSpec := { name := "pagebreakTurns", fn := fun _ => fun
  | [d1, d2, d3] => { results := [.lit (.bool true)], args := [d1, d2, d3] }
  | _ => none }
def pagebreakTurnsRow : OpenClaim := { program := "ytgghbckhdchcaaa", sum := "3126fd5613b9463bfbf87c5b8113fff17e97825890903b42b17c11672ad4cde6", func := "hemiola/hemiolalaw33.PagebreakTurns", spec := "pagebreakTurns", unfollowed := true, recurses := true, apart := false }
def PagebreakTurnsSaid : Prop := pagebreakTurnsRow.holds Try.pinned (OpenSpec.ofChange pagebreakTurnsSpec)

/-- ITS FALSE NEIGHBOUR: 'it returns false'. Refute it at one input. -/
def pagebreakTurnsWrong : ChangeSpec := { name := "pagebreakTurns", fn := fun _ => fun
  | [d1, d2, d3] => { results := [.lit (.bool false)], args := [d1, d2, d3] }
  | _ => none }
def PagebreakTurnsWrongFalsely : Prop := pagebreakTurnsRow.holds Try.pinned (OpenSpec.ofChange pagebreakTurnsWrong)

/-- 'hemiolalaw33.PagebreakCosts': WHATEVER THE INPUT: true; the input reads as it did. -/
def pagebreakCostsSpec : ChangeSpec := { name := "pagebreakCosts", fn := fun _ => fun
  | [d1, d2, d3] => { results := [.lit (.bool true)], args := [d1, d2, d3] }
  | _ => none }
def pagebreakCostsRow : OpenClaim := { program := "ytgghbckhdchcaaa", sum := "3126fd5613b9463bfbf87c5b8113fff17e97825890903b42b17c11672ad4cde6", func := "hemiola/hemiolalaw33.PagebreakCosts", spec := "pagebreakCosts", unfollowed := true, recurses := true, apart := false }
def PagebreakCostsSaid : Prop := pagebreakCostsRow.holds Try.pinned (OpenSpec.ofChange pagebreakCostsSpec)

/-- ITS FALSE NEIGHBOUR: 'it returns false'. Refute it at one input. -/
def pagebreakCostsWrong : ChangeSpec := { name := "pagebreakCosts", fn := fun _ => fun
  | [d1, d2, d3] => { results := [.lit (.bool false)], args := [d1, d2, d3] }
  | _ => none }
def PagebreakCostsWrongFalsely : Prop := pagebreakCostsRow.holds Try.pinned (OpenSpec.ofChange pagebreakCostsWrong)

/-- 'hemiolalaw33.PagebreakTops': WHATEVER THE INPUT: true; the input reads as it did. -/
def pagebreakTopsSpec : ChangeSpec := { name := "pagebreakTops", fn := fun _ => fun
  | [d1, d2, d3] => { results := [.lit (.bool true)], args := [d1, d2, d3] }
  | _ => none }
def pagebreakTopsRow : OpenClaim := { program := "ytgghbckhdchcaaa", sum := "3126fd5613b9463bfbf87c5b8113fff17e97825890903b42b17c11672ad4cde6", func := "hemiola/hemiolalaw33.PagebreakTops", spec := "pagebreakTops", unfollowed := true, recurses := true, apart := false }
def PagebreakTopsSaid : Prop := pagebreakTopsRow.holds Try.pinned (OpenSpec.ofChange pagebreakTopsSpec)

/-- ITS FALSE NEIGHBOUR: 'it returns false'. Refute it at one input. -/
def pagebreakTopsWrong : ChangeSpec := { name := "pagebreakTops", fn := fun _ => fun
  | [d1, d2, d3] => { results := [.lit (.bool false)], args := [d1, d2, d3] }
  | _ => none }
def PagebreakTopsWrongFalsely : Prop := pagebreakTopsRow.holds Try.pinned (OpenSpec.ofChange pagebreakTopsWrong)

/- THE SECOND FORM. 'bulk': how many values and letters a reading holds, each counted each time it is reached (what is shared counts as often as it is met; a slice's spare places count too). A statement '..UptoSaid' is the law's where the arguments, and the package variables that the reading takes, are together of bulk at most 1048576: NARROWER than '..Said'. Prove '..Said' where nothing that the law and all that it calls make is longer than what came in: it says more and counts as full. Else prove '..UptoSaid'. A law counts once. -/
mutual
def uptoBulk {H : Type} : DataW H → Nat
  | .lit (.string bytes) => bytes.length + 1
  | .lit _ => 1
  | .nil => 1
  | .ptr d => uptoBulk d + 1
  | .slice elems spare => uptoBulkAll elems + uptoBulkAll spare + 1
  | .agg parts => uptoBulkAll parts + 1
  | .iface _ d => uptoBulk d + 1
  | .map entries => uptoBulkEntries entries + 1
  | .held _ => 1
def uptoBulkAll {H : Type} : List (DataW H) → Nat
  | [] => 0
  | d :: r => uptoBulk d + uptoBulkAll r
def uptoBulkEntries {H : Type} : List (Lit × DataW H) → Nat
  | [] => 0
  | x :: r => uptoBulkEntry x + uptoBulkEntries r
def uptoBulkEntry {H : Type} : Lit × DataW H → Nat
  | (.string bytes, d) => bytes.length + uptoBulk d + 1
  | (_, d) => uptoBulk d + 1
 end
def uptoSmall : (H : Type) → List (DataW H) → Bool := fun _ ds => decide (uptoBulkAll ds ≤ 1048576)
def OpenSpec.upto (s : _root_.Go.ChangeSpec) : _root_.Go.OpenSpec := { _root_.Go.OpenSpec.ofChange s with cond := some uptoSmall }

/-- 'hemiolalaw33.PagebreakChecks', WHERE WHAT IT READS IS OF BULK AT MOST 1048576: true; the input reads as it did. -/
def pagebreakChecksUptoRow : OpenClaim := { program := "ytgghbckhdchcaaa", sum := "3126fd5613b9463bfbf87c5b8113fff17e97825890903b42b17c11672ad4cde6", func := "hemiola/hemiolalaw33.PagebreakChecks", spec := "pagebreakChecks", unfollowed := true, recurses := true, apart := false, narrowed := true }
def PagebreakChecksUptoSaid : Prop := pagebreakChecksUptoRow.holds Try.pinned (OpenSpec.upto pagebreakChecksSpec)

/-- 'hemiolalaw33.PagebreakBest', WHERE WHAT IT READS IS OF BULK AT MOST 1048576: true; the input reads as it did. -/
def pagebreakBestUptoRow : OpenClaim := { program := "ytgghbckhdchcaaa", sum := "3126fd5613b9463bfbf87c5b8113fff17e97825890903b42b17c11672ad4cde6", func := "hemiola/hemiolalaw33.PagebreakBest", spec := "pagebreakBest", unfollowed := true, recurses := true, apart := false, narrowed := true }
def PagebreakBestUptoSaid : Prop := pagebreakBestUptoRow.holds Try.pinned (OpenSpec.upto pagebreakBestSpec)

/-- 'hemiolalaw33.PagebreakTotals', WHERE WHAT IT READS IS OF BULK AT MOST 1048576: true; the input reads as it did. -/
def pagebreakTotalsUptoRow : OpenClaim := { program := "ytgghbckhdchcaaa", sum := "3126fd5613b9463bfbf87c5b8113fff17e97825890903b42b17c11672ad4cde6", func := "hemiola/hemiolalaw33.PagebreakTotals", spec := "pagebreakTotals", unfollowed := true, recurses := true, apart := false, narrowed := true }
def PagebreakTotalsUptoSaid : Prop := pagebreakTotalsUptoRow.holds Try.pinned (OpenSpec.upto pagebreakTotalsSpec)

/-- 'hemiolalaw33.PagebreakLeast', WHERE WHAT IT READS IS OF BULK AT MOST 1048576: true; the input reads as it did. -/
def pagebreakLeastUptoRow : OpenClaim := { program := "ytgghbckhdchcaaa", sum := "3126fd5613b9463bfbf87c5b8113fff17e97825890903b42b17c11672ad4cde6", func := "hemiola/hemiolalaw33.PagebreakLeast", spec := "pagebreakLeast", unfollowed := true, recurses := true, apart := false, narrowed := true }
def PagebreakLeastUptoSaid : Prop := pagebreakLeastUptoRow.holds Try.pinned (OpenSpec.upto pagebreakLeastSpec)

/-- 'hemiolalaw33.PagebreakForced', WHERE WHAT IT READS IS OF BULK AT MOST 1048576: true; the input reads as it did. -/
def pagebreakForcedUptoRow : OpenClaim := { program := "ytgghbckhdchcaaa", sum := "3126fd5613b9463bfbf87c5b8113fff17e97825890903b42b17c11672ad4cde6", func := "hemiola/hemiolalaw33.PagebreakForced", spec := "pagebreakForced", unfollowed := true, recurses := true, apart := false, narrowed := true }
def PagebreakForcedUptoSaid : Prop := pagebreakForcedUptoRow.holds Try.pinned (OpenSpec.upto pagebreakForcedSpec)

/-- 'hemiolalaw33.PagebreakTurns', WHERE WHAT IT READS IS OF BULK AT MOST 1048576: true; the input reads as it did. -/
def pagebreakTurnsUptoRow : OpenClaim := { program := "ytgghbckhdchcaaa", sum := "3126fd5613b9463bfbf87c5b8113fff17e97825890903b42b17c11672ad4cde6", func := "hemiola/hemiolalaw33.PagebreakTurns", spec := "pagebreakTurns", unfollowed := true, recurses := true, apart := false, narrowed := true }
def PagebreakTurnsUptoSaid : Prop := pagebreakTurnsUptoRow.holds Try.pinned (OpenSpec.upto pagebreakTurnsSpec)

/-- 'hemiolalaw33.PagebreakCosts', WHERE WHAT IT READS IS OF BULK AT MOST 1048576: true; the input reads as it did. -/
def pagebreakCostsUptoRow : OpenClaim := { program := "ytgghbckhdchcaaa", sum := "3126fd5613b9463bfbf87c5b8113fff17e97825890903b42b17c11672ad4cde6", func := "hemiola/hemiolalaw33.PagebreakCosts", spec := "pagebreakCosts", unfollowed := true, recurses := true, apart := false, narrowed := true }
def PagebreakCostsUptoSaid : Prop := pagebreakCostsUptoRow.holds Try.pinned (OpenSpec.upto pagebreakCostsSpec)

/-- 'hemiolalaw33.PagebreakTops', WHERE WHAT IT READS IS OF BULK AT MOST 1048576: true; the input reads as it did. -/
def pagebreakTopsUptoRow : OpenClaim := { program := "ytgghbckhdchcaaa", sum := "3126fd5613b9463bfbf87c5b8113fff17e97825890903b42b17c11672ad4cde6", func := "hemiola/hemiolalaw33.PagebreakTops", spec := "pagebreakTops", unfollowed := true, recurses := true, apart := false, narrowed := true }
def PagebreakTopsUptoSaid : Prop := pagebreakTopsUptoRow.holds Try.pinned (OpenSpec.upto pagebreakTopsSpec)

end Rows
end Go.Proofs.Ytgghbckhdchcaaa

/-
  No cell of these rows narrows 'for every input' (looked for: loops, veiled, ifaces, maps, wideKeys, modest, calm, conditions, laid).
  DERIVED. THE GIVEN ROWS OF THIS SEAT. 8 by the template 'for every input the law returns true; each argument reads behind the call as it read before'; 0 by the template 'total and deterministic' (their statements: YtfngllcjikmbkaaTotals.lean).
  GIVEN WITH THE SEED: the statements are not yours to turn. If you find one false, say at which input.
  Laid BY PROGRAM, IN A SANDBOX (cutbox-rows.mjs): the forced cells as the released guide's own fill.sh prints them over the translation e77b0897cfc19c97… (all of the seat's roots in one cut). By AI agents, Wed Nov 11 2026. No macro, syntax, notation, axiom, sorry.
-/
import Derived.Test.YtfngllcjikmbkaaChecked
import GoSem.Claim
import GoSem.ClaimJoined
import GoSem.ClaimMapViews
import Derived.JoinedTies
import Derived.KernelRfl
namespace Go.Proofs.Ytfngllcjikmbkaa
/- THE CELL 'sum', in the pinned program and in every row, IS THE sha256 OF THE DUMP (.gsa) THAT YtfngllcjikmbkaaProg.lean LOADS. Nothing in Lean hashes anything: it is a label: what it is worth is what the hold of that sum in a sandbox is worth. -/
noncomputable def Try.pinned : Pinned := { name := "ytfngllcjikmbkaa", sum := "e77b0897cfc19c97cc5495b063a07656fb102a6af9b5d1319b69047a15d7ffa0", checked := Try.checked }
namespace Rows
def none {H : Type} : Left H := { results := [], args := [] }

/-- 'hemiolalaw14.SpannerProper': WHATEVER THE INPUT: true; the input reads as it did. -/
def spannerProperSpec : ChangeSpec := { name := "spannerProper", fn := fun _ => fun
  | [d] => { results := [.lit (.bool true)], args := [d] }
  | _ => none }
def spannerProperRow : OpenClaim := { program := "ytfngllcjikmbkaa", sum := "e77b0897cfc19c97cc5495b063a07656fb102a6af9b5d1319b69047a15d7ffa0", func := "hemiola/hemiolalaw14.SpannerProper", spec := "spannerProper", unfollowed := true, recurses := true, apart := false }
def SpannerProperSaid : Prop := spannerProperRow.holds Try.pinned (OpenSpec.ofChange spannerProperSpec)

/-- ITS FALSE NEIGHBOUR: 'it returns false'. Refute it at one input. -/
def spannerProperWrong : ChangeSpec := { name := "spannerProper", fn := fun _ => fun
  | [d] => { results := [.lit (.bool false)], args := [d] }
  | _ => none }
def SpannerProperWrongFalsely : Prop := spannerProperRow.holds Try.pinned (OpenSpec.ofChange spannerProperWrong)

/-- 'hemiolalaw14.SpannerConflicts': WHATEVER THE INPUT: true; the input reads as it did. -/
def spannerConflictsSpec : ChangeSpec := { name := "spannerConflicts", fn := fun _ => fun
  | [d1, d2] => { results := [.lit (.bool true)], args := [d1, d2] }
  | _ => none }
def spannerConflictsRow : OpenClaim := { program := "ytfngllcjikmbkaa", sum := "e77b0897cfc19c97cc5495b063a07656fb102a6af9b5d1319b69047a15d7ffa0", func := "hemiola/hemiolalaw14.SpannerConflicts", spec := "spannerConflicts", unfollowed := true, recurses := true, apart := false }
def SpannerConflictsSaid : Prop := spannerConflictsRow.holds Try.pinned (OpenSpec.ofChange spannerConflictsSpec)

/-- ITS FALSE NEIGHBOUR: 'it returns false'. Refute it at one input. -/
def spannerConflictsWrong : ChangeSpec := { name := "spannerConflicts", fn := fun _ => fun
  | [d1, d2] => { results := [.lit (.bool false)], args := [d1, d2] }
  | _ => none }
def SpannerConflictsWrongFalsely : Prop := spannerConflictsRow.holds Try.pinned (OpenSpec.ofChange spannerConflictsWrong)

/-- 'hemiolalaw14.SpannerChecks': WHATEVER THE INPUT: true; the input reads as it did. -/
def spannerChecksSpec : ChangeSpec := { name := "spannerChecks", fn := fun _ => fun
  | [d] => { results := [.lit (.bool true)], args := [d] }
  | _ => none }
def spannerChecksRow : OpenClaim := { program := "ytfngllcjikmbkaa", sum := "e77b0897cfc19c97cc5495b063a07656fb102a6af9b5d1319b69047a15d7ffa0", func := "hemiola/hemiolalaw14.SpannerChecks", spec := "spannerChecks", unfollowed := true, recurses := true, apart := false }
def SpannerChecksSaid : Prop := spannerChecksRow.holds Try.pinned (OpenSpec.ofChange spannerChecksSpec)

/-- ITS FALSE NEIGHBOUR: 'it returns false'. Refute it at one input. -/
def spannerChecksWrong : ChangeSpec := { name := "spannerChecks", fn := fun _ => fun
  | [d] => { results := [.lit (.bool false)], args := [d] }
  | _ => none }
def SpannerChecksWrongFalsely : Prop := spannerChecksRow.holds Try.pinned (OpenSpec.ofChange spannerChecksWrong)

/-- 'hemiolalaw14.SpannerOrders': WHATEVER THE INPUT: true; the input reads as it did. -/
def spannerOrdersSpec : ChangeSpec := { name := "spannerOrders", fn := fun _ => fun
  | [d1, d2] => { results := [.lit (.bool true)], args := [d1, d2] }
  | _ => none }
def spannerOrdersRow : OpenClaim := { program := "ytfngllcjikmbkaa", sum := "e77b0897cfc19c97cc5495b063a07656fb102a6af9b5d1319b69047a15d7ffa0", func := "hemiola/hemiolalaw14.SpannerOrders", spec := "spannerOrders", unfollowed := true, recurses := true, apart := false }
def SpannerOrdersSaid : Prop := spannerOrdersRow.holds Try.pinned (OpenSpec.ofChange spannerOrdersSpec)

/-- ITS FALSE NEIGHBOUR: 'it returns false'. Refute it at one input. -/
def spannerOrdersWrong : ChangeSpec := { name := "spannerOrders", fn := fun _ => fun
  | [d1, d2] => { results := [.lit (.bool false)], args := [d1, d2] }
  | _ => none }
def SpannerOrdersWrongFalsely : Prop := spannerOrdersRow.holds Try.pinned (OpenSpec.ofChange spannerOrdersWrong)

/-- 'hemiolalaw14.SpannerLimit': WHATEVER THE INPUT: true; the input reads as it did. -/
def spannerLimitSpec : ChangeSpec := { name := "spannerLimit", fn := fun _ => fun
  | [d1, d2] => { results := [.lit (.bool true)], args := [d1, d2] }
  | _ => none }
def spannerLimitRow : OpenClaim := { program := "ytfngllcjikmbkaa", sum := "e77b0897cfc19c97cc5495b063a07656fb102a6af9b5d1319b69047a15d7ffa0", func := "hemiola/hemiolalaw14.SpannerLimit", spec := "spannerLimit", unfollowed := true, recurses := true, apart := false }
def SpannerLimitSaid : Prop := spannerLimitRow.holds Try.pinned (OpenSpec.ofChange spannerLimitSpec)

/-- ITS FALSE NEIGHBOUR: 'it returns false'. Refute it at one input. -/
def spannerLimitWrong : ChangeSpec := { name := "spannerLimit", fn := fun _ => fun
  | [d1, d2] => { results := [.lit (.bool false)], args := [d1, d2] }
  | _ => none }
def SpannerLimitWrongFalsely : Prop := spannerLimitRow.holds Try.pinned (OpenSpec.ofChange spannerLimitWrong)

/-- 'hemiolalaw14.SpannerNames': WHATEVER THE INPUT: true; the input reads as it did. -/
def spannerNamesSpec : ChangeSpec := { name := "spannerNames", fn := fun _ => fun
  | [d1, d2] => { results := [.lit (.bool true)], args := [d1, d2] }
  | _ => none }
def spannerNamesRow : OpenClaim := { program := "ytfngllcjikmbkaa", sum := "e77b0897cfc19c97cc5495b063a07656fb102a6af9b5d1319b69047a15d7ffa0", func := "hemiola/hemiolalaw14.SpannerNames", spec := "spannerNames", unfollowed := true, recurses := true, apart := false }
def SpannerNamesSaid : Prop := spannerNamesRow.holds Try.pinned (OpenSpec.ofChange spannerNamesSpec)

/-- ITS FALSE NEIGHBOUR: 'it returns false'. Refute it at one input. -/
def spannerNamesWrong : ChangeSpec := { name := "spannerNames", fn := fun _ => fun
  | [d1, d2] => { results := [.lit (.bool false)], args := [d1, d2] }
  | _ => none }
def SpannerNamesWrongFalsely : Prop := spannerNamesRow.holds Try.pinned (OpenSpec.ofChange spannerNamesWrong)

/-- 'hemiolalaw14.SpannerCovers': WHATEVER THE INPUT: true; the input reads as it did. -/
def spannerCoversSpec : ChangeSpec := { name := "spannerCovers", fn := fun _ => fun
  | [d1, d2, d3] => { results := [.lit (.bool true)], args := [d1, d2, d3] }
  | _ => none }
def spannerCoversRow : OpenClaim := { program := "ytfngllcjikmbkaa", sum := "e77b0897cfc19c97cc5495b063a07656fb102a6af9b5d1319b69047a15d7ffa0", func := "hemiola/hemiolalaw14.SpannerCovers", spec := "spannerCovers", unfollowed := true, recurses := true, apart := false }
def SpannerCoversSaid : Prop := spannerCoversRow.holds Try.pinned (OpenSpec.ofChange spannerCoversSpec)

/-- ITS FALSE NEIGHBOUR: 'it returns false'. Refute it at one input. -/
def spannerCoversWrong : ChangeSpec := { name := "spannerCovers", fn := fun _ => fun
  | [d1, d2, d3] => { results := [.lit (.bool false)], args := [d1, d2, d3] }
  | _ => none }
def SpannerCoversWrongFalsely : Prop := spannerCoversRow.holds Try.pinned (OpenSpec.ofChange spannerCoversWrong)

/-- 'hemiolalaw14.SpannerDivides': WHATEVER THE INPUT: true; the input reads as it did. -/
def spannerDividesSpec : ChangeSpec := { name := "spannerDivides", fn := fun _ => fun
  | [d1, d2] => { results := [.lit (.bool true)], args := [d1, d2] }
  | _ => none }
def spannerDividesRow : OpenClaim := { program := "ytfngllcjikmbkaa", sum := "e77b0897cfc19c97cc5495b063a07656fb102a6af9b5d1319b69047a15d7ffa0", func := "hemiola/hemiolalaw14.SpannerDivides", spec := "spannerDivides", unfollowed := true, recurses := true, apart := false }
def SpannerDividesSaid : Prop := spannerDividesRow.holds Try.pinned (OpenSpec.ofChange spannerDividesSpec)

/-- ITS FALSE NEIGHBOUR: 'it returns false'. Refute it at one input. -/
def spannerDividesWrong : ChangeSpec := { name := "spannerDivides", fn := fun _ => fun
  | [d1, d2] => { results := [.lit (.bool false)], args := [d1, d2] }
  | _ => none }
def SpannerDividesWrongFalsely : Prop := spannerDividesRow.holds Try.pinned (OpenSpec.ofChange spannerDividesWrong)

/- THE SECOND FORM. 'bulk': how many values and letters a reading holds, each counted each time it is reached (what is shared counts as often as it is met; a slice's spare places count too). A statement '..UptoSaid' is the law's where the arguments, and the package variables that the reading takes, are together of bulk at most 1048576: NARROWER than '..Said'. Prove '..Said' where nothing that the law and all that it calls make is longer than what came in: it says more and counts as full. Else prove '..UptoSaid'. A law counts once. -/
mutual
def uptoBulk {H : Type} : DataW H → Nat
  | .lit (.string bytes) => bytes.length + 1
  | .lit _ => 1
  | .nil => 1
  | .ptr d => uptoBulk d + 1
  | .slice elems spare => uptoBulkAll elems + uptoBulkAll spare + 1
  | .agg parts => uptoBulkAll parts + 1
  | .iface _ d => uptoBulk d + 1
  | .map entries => uptoBulkEntries entries + 1
  | .held _ => 1
def uptoBulkAll {H : Type} : List (DataW H) → Nat
  | [] => 0
  | d :: r => uptoBulk d + uptoBulkAll r
def uptoBulkEntries {H : Type} : List (Lit × DataW H) → Nat
  | [] => 0
  | x :: r => uptoBulkEntry x + uptoBulkEntries r
def uptoBulkEntry {H : Type} : Lit × DataW H → Nat
  | (.string bytes, d) => bytes.length + uptoBulk d + 1
  | (_, d) => uptoBulk d + 1
 end
def uptoSmall : (H : Type) → List (DataW H) → Bool := fun _ ds => decide (uptoBulkAll ds ≤ 1048576)
def OpenSpec.upto (s : _root_.Go.ChangeSpec) : _root_.Go.OpenSpec := { _root_.Go.OpenSpec.ofChange s with cond := some uptoSmall }

/-- 'hemiolalaw14.SpannerProper', WHERE WHAT IT READS IS OF BULK AT MOST 1048576: true; the input reads as it did. -/
def spannerProperUptoRow : OpenClaim := { program := "ytfngllcjikmbkaa", sum := "e77b0897cfc19c97cc5495b063a07656fb102a6af9b5d1319b69047a15d7ffa0", func := "hemiola/hemiolalaw14.SpannerProper", spec := "spannerProper", unfollowed := true, recurses := true, apart := false, narrowed := true }
def SpannerProperUptoSaid : Prop := spannerProperUptoRow.holds Try.pinned (OpenSpec.upto spannerProperSpec)

/-- 'hemiolalaw14.SpannerConflicts', WHERE WHAT IT READS IS OF BULK AT MOST 1048576: true; the input reads as it did. -/
def spannerConflictsUptoRow : OpenClaim := { program := "ytfngllcjikmbkaa", sum := "e77b0897cfc19c97cc5495b063a07656fb102a6af9b5d1319b69047a15d7ffa0", func := "hemiola/hemiolalaw14.SpannerConflicts", spec := "spannerConflicts", unfollowed := true, recurses := true, apart := false, narrowed := true }
def SpannerConflictsUptoSaid : Prop := spannerConflictsUptoRow.holds Try.pinned (OpenSpec.upto spannerConflictsSpec)

/-- 'hemiolalaw14.SpannerChecks', WHERE WHAT IT READS IS OF BULK AT MOST 1048576: true; the input reads as it did. -/
def spannerChecksUptoRow : OpenClaim := { program := "ytfngllcjikmbkaa", sum := "e77b0897cfc19c97cc5495b063a07656fb102a6af9b5d1319b69047a15d7ffa0", func := "hemiola/hemiolalaw14.SpannerChecks", spec := "spannerChecks", unfollowed := true, recurses := true, apart := false, narrowed := true }
def SpannerChecksUptoSaid : Prop := spannerChecksUptoRow.holds Try.pinned (OpenSpec.upto spannerChecksSpec)

/-- 'hemiolalaw14.SpannerOrders', WHERE WHAT IT READS IS OF BULK AT MOST 1048576: true; the input reads as it did. -/
def spannerOrdersUptoRow : OpenClaim := { program := "ytfngllcjikmbkaa", sum := "e77b0897cfc19c97cc5495b063a07656fb102a6af9b5d1319b69047a15d7ffa0", func := "hemiola/hemiolalaw14.SpannerOrders", spec := "spannerOrders", unfollowed := true, recurses := true, apart := false, narrowed := true }
def SpannerOrdersUptoSaid : Prop := spannerOrdersUptoRow.holds Try.pinned (OpenSpec.upto spannerOrdersSpec)

/-- 'hemiolalaw14.SpannerLimit', WHERE WHAT IT READS IS OF BULK AT MOST 1048576: true; the input reads as it did. -/
def spannerLimitUptoRow : OpenClaim := { program := "ytfngllcjikmbkaa", sum := "e77b0897cfc19c97cc5495b063a07656fb102a6af9b5d1319b69047a15d7ffa0", func := "hemiola/hemiolalaw14.SpannerLimit", spec := "spannerLimit", unfollowed := true, recurses := true, apart := false, narrowed := true }
def SpannerLimitUptoSaid : Prop := spannerLimitUptoRow.holds Try.pinned (OpenSpec.upto spannerLimitSpec)

/-- 'hemiolalaw14.SpannerNames', WHERE WHAT IT READS IS OF BULK AT MOST 1048576: true; the input reads as it did. -/
def spannerNamesUptoRow : OpenClaim := { program := "ytfngllcjikmbkaa", sum := "e77b0897cfc19c97cc5495b063a07656fb102a6af9b5d1319b69047a15d7ffa0", func := "hemiola/hemiolalaw14.SpannerNames", spec := "spannerNames", unfollowed := true, recurses := true, apart := false, narrowed := true }
def SpannerNamesUptoSaid : Prop := spannerNamesUptoRow.holds Try.pinned (OpenSpec.upto spannerNamesSpec)

/-- 'hemiolalaw14.SpannerCovers', WHERE WHAT IT READS IS OF BULK AT MOST 1048576: true; the input reads as it did. -/
def spannerCoversUptoRow : OpenClaim := { program := "ytfngllcjikmbkaa", sum := "e77b0897cfc19c97cc5495b063a07656fb102a6af9b5d1319b69047a15d7ffa0", func := "hemiola/hemiolalaw14.SpannerCovers", spec := "spannerCovers", unfollowed := true, recurses := true, apart := false, narrowed := true }
def SpannerCoversUptoSaid : Prop := spannerCoversUptoRow.holds Try.pinned (OpenSpec.upto spannerCoversSpec)

/-- 'hemiolalaw14.SpannerDivides', WHERE WHAT IT READS IS OF BULK AT MOST 1048576: true; the input reads as it did. -/
def spannerDividesUptoRow : OpenClaim := { program := "ytfngllcjikmbkaa", sum := "e77b0897cfc19c97cc5495b063a07656fb102a6af9b5d1319b69047a15d7ffa0", func := "hemiola/hemiolalaw14.SpannerDivides", spec := "spannerDivides", unfollowed := true, recurses := true, apart := false, narrowed := true }
def SpannerDividesUptoSaid : Prop := spannerDividesUptoRow.holds Try.pinned (OpenSpec.upto spannerDividesSpec)

end Rows
end Go.Proofs.Ytfngllcjikmbkaa

/-
  No cell of these rows narrows 'for every input' (looked for: loops, veiled, ifaces, maps, wideKeys, modest, calm, conditions, laid).
  DERIVED. THE GIVEN ROWS OF THIS SEAT. 7 by the template 'for every input the law returns true; each argument reads behind the call as it read before'; 0 by the template 'total and deterministic' (their statements: YtdgifbmimfnmlaaTotals.lean).
  GIVEN WITH THE SEED: the statements are not yours to turn. If you find one false, say at which input.
  Laid BY PROGRAM, IN A SANDBOX (cutbox-rows.mjs): the forced cells as the released guide's own fill.sh prints them over the translation b12f986ef7a2f36c… (all of the seat's roots in one cut). By AI agents, Wed Nov 11 2026. No macro, syntax, notation, axiom, sorry.
-/
import Derived.Test.YtdgifbmimfnmlaaChecked
import GoSem.Claim
import GoSem.ClaimJoined
import GoSem.ClaimMapViews
import Derived.JoinedTies
import Derived.KernelRfl
namespace Go.Proofs.Ytdgifbmimfnmlaa
/- THE CELL 'sum', in the pinned program and in every row, IS THE sha256 OF THE DUMP (.gsa) THAT YtdgifbmimfnmlaaProg.lean LOADS. Nothing in Lean hashes anything: it is a label: what it is worth is what the hold of that sum in a sandbox is worth. -/
noncomputable def Try.pinned : Pinned := { name := "ytdgifbmimfnmlaa", sum := "b12f986ef7a2f36c3fbd8ffb0f59282b7d89c2738f1bae2ade9ad259abbb2cab", checked := Try.checked }
namespace Rows
def none {H : Type} : Left H := { results := [], args := [] }

/-- 'hemiolalaw32.LinebreakBadness': WHATEVER THE INPUT: true; the input reads as it did. -/
def linebreakBadnessSpec : ChangeSpec := { name := "linebreakBadness", fn := fun _ => fun
  | [d1, d2, d3] => { results := [.lit (.bool true)], args := [d1, d2, d3] }
  | _ => none }
def linebreakBadnessRow : OpenClaim := { program := "ytdgifbmimfnmlaa", sum := "b12f986ef7a2f36c3fbd8ffb0f59282b7d89c2738f1bae2ade9ad259abbb2cab", func := "hemiola/hemiolalaw32.LinebreakBadness", spec := "linebreakBadness", unfollowed := true, recurses := true, apart := false }
def LinebreakBadnessSaid : Prop := linebreakBadnessRow.holds Try.pinned (OpenSpec.ofChange linebreakBadnessSpec)

/-- ITS FALSE NEIGHBOUR: 'it returns false'. Refute it at one input. -/
def linebreakBadnessWrong : ChangeSpec := { name := "linebreakBadness", fn := fun _ => fun
  | [d1, d2, d3] => { results := [.lit (.bool false)], args := [d1, d2, d3] }
  | _ => none }
def LinebreakBadnessWrongFalsely : Prop := linebreakBadnessRow.holds Try.pinned (OpenSpec.ofChange linebreakBadnessWrong)

/-- 'hemiolalaw32.LinebreakTotals': WHATEVER THE INPUT: true; the input reads as it did. -/
def linebreakTotalsSpec : ChangeSpec := { name := "linebreakTotals", fn := fun _ => fun
  | [d1, d2] => { results := [.lit (.bool true)], args := [d1, d2] }
  | _ => none }
def linebreakTotalsRow : OpenClaim := { program := "ytdgifbmimfnmlaa", sum := "b12f986ef7a2f36c3fbd8ffb0f59282b7d89c2738f1bae2ade9ad259abbb2cab", func := "hemiola/hemiolalaw32.LinebreakTotals", spec := "linebreakTotals", unfollowed := true, recurses := true, apart := false }
def LinebreakTotalsSaid : Prop := linebreakTotalsRow.holds Try.pinned (OpenSpec.ofChange linebreakTotalsSpec)

/-- ITS FALSE NEIGHBOUR: 'it returns false'. Refute it at one input. -/
def linebreakTotalsWrong : ChangeSpec := { name := "linebreakTotals", fn := fun _ => fun
  | [d1, d2] => { results := [.lit (.bool false)], args := [d1, d2] }
  | _ => none }
def LinebreakTotalsWrongFalsely : Prop := linebreakTotalsRow.holds Try.pinned (OpenSpec.ofChange linebreakTotalsWrong)

/-- 'hemiolalaw32.LinebreakBreaks': WHATEVER THE INPUT: true; the input reads as it did. -/
def linebreakBreaksSpec : ChangeSpec := { name := "linebreakBreaks", fn := fun _ => fun
  | [d] => { results := [.lit (.bool true)], args := [d] }
  | _ => none }
def linebreakBreaksRow : OpenClaim := { program := "ytdgifbmimfnmlaa", sum := "b12f986ef7a2f36c3fbd8ffb0f59282b7d89c2738f1bae2ade9ad259abbb2cab", func := "hemiola/hemiolalaw32.LinebreakBreaks", spec := "linebreakBreaks", unfollowed := true, recurses := true, apart := false }
def LinebreakBreaksSaid : Prop := linebreakBreaksRow.holds Try.pinned (OpenSpec.ofChange linebreakBreaksSpec)

/-- ITS FALSE NEIGHBOUR: 'it returns false'. Refute it at one input. -/
def linebreakBreaksWrong : ChangeSpec := { name := "linebreakBreaks", fn := fun _ => fun
  | [d] => { results := [.lit (.bool false)], args := [d] }
  | _ => none }
def LinebreakBreaksWrongFalsely : Prop := linebreakBreaksRow.holds Try.pinned (OpenSpec.ofChange linebreakBreaksWrong)

/-- 'hemiolalaw32.LinebreakForced': WHATEVER THE INPUT: true; the input reads as it did. -/
def linebreakForcedSpec : ChangeSpec := { name := "linebreakForced", fn := fun _ => fun
  | [d] => { results := [.lit (.bool true)], args := [d] }
  | _ => none }
def linebreakForcedRow : OpenClaim := { program := "ytdgifbmimfnmlaa", sum := "b12f986ef7a2f36c3fbd8ffb0f59282b7d89c2738f1bae2ade9ad259abbb2cab", func := "hemiola/hemiolalaw32.LinebreakForced", spec := "linebreakForced", unfollowed := true, recurses := true, apart := false }
def LinebreakForcedSaid : Prop := linebreakForcedRow.holds Try.pinned (OpenSpec.ofChange linebreakForcedSpec)

/-- ITS FALSE NEIGHBOUR: 'it returns false'. Refute it at one input. -/
def linebreakForcedWrong : ChangeSpec := { name := "linebreakForced", fn := fun _ => fun
  | [d] => { results := [.lit (.bool false)], args := [d] }
  | _ => none }
def LinebreakForcedWrongFalsely : Prop := linebreakForcedRow.holds Try.pinned (OpenSpec.ofChange linebreakForcedWrong)

/-- 'hemiolalaw32.LinebreakFits': WHATEVER THE INPUT: true; the input reads as it did. -/
def linebreakFitsSpec : ChangeSpec := { name := "linebreakFits", fn := fun _ => fun
  | [d] => { results := [.lit (.bool true)], args := [d] }
  | _ => none }
def linebreakFitsRow : OpenClaim := { program := "ytdgifbmimfnmlaa", sum := "b12f986ef7a2f36c3fbd8ffb0f59282b7d89c2738f1bae2ade9ad259abbb2cab", func := "hemiola/hemiolalaw32.LinebreakFits", spec := "linebreakFits", unfollowed := true, recurses := true, apart := false }
def LinebreakFitsSaid : Prop := linebreakFitsRow.holds Try.pinned (OpenSpec.ofChange linebreakFitsSpec)

/-- ITS FALSE NEIGHBOUR: 'it returns false'. Refute it at one input. -/
def linebreakFitsWrong : ChangeSpec := { name := "linebreakFits", fn := fun _ => fun
  | [d] => { results := [.lit (.bool false)], args := [d] }
  | _ => none }
def LinebreakFitsWrongFalsely : Prop := linebreakFitsRow.holds Try.pinned (OpenSpec.ofChange linebreakFitsWrong)

/-- 'hemiolalaw32.LinebreakLeast': WHATEVER THE INPUT: true; the input reads as it did. -/
def linebreakLeastSpec : ChangeSpec := { name := "linebreakLeast", fn := fun _ => fun
  | [d1, d2] => { results := [.lit (.bool true)], args := [d1, d2] }
  | _ => none }
def linebreakLeastRow : OpenClaim := { program := "ytdgifbmimfnmlaa", sum := "b12f986ef7a2f36c3fbd8ffb0f59282b7d89c2738f1bae2ade9ad259abbb2cab", func := "hemiola/hemiolalaw32.LinebreakLeast", spec := "linebreakLeast", unfollowed := true, recurses := true, apart := false }
def LinebreakLeastSaid : Prop := linebreakLeastRow.holds Try.pinned (OpenSpec.ofChange linebreakLeastSpec)

/-- ITS FALSE NEIGHBOUR: 'it returns false'. Refute it at one input. -/
def linebreakLeastWrong : ChangeSpec := { name := "linebreakLeast", fn := fun _ => fun
  | [d1, d2] => { results := [.lit (.bool false)], args := [d1, d2] }
  | _ => none }
def LinebreakLeastWrongFalsely : Prop := linebreakLeastRow.holds Try.pinned (OpenSpec.ofChange linebreakLeastWrong)

/-- 'hemiolalaw32.LinebreakPrefers': WHATEVER THE INPUT: true; the input reads as it did. -/
def linebreakPrefersSpec : ChangeSpec := { name := "linebreakPrefers", fn := fun _ => fun
  | [d1, d2, d3] => { results := [.lit (.bool true)], args := [d1, d2, d3] }
  | _ => none }
def linebreakPrefersRow : OpenClaim := { program := "ytdgifbmimfnmlaa", sum := "b12f986ef7a2f36c3fbd8ffb0f59282b7d89c2738f1bae2ade9ad259abbb2cab", func := "hemiola/hemiolalaw32.LinebreakPrefers", spec := "linebreakPrefers", unfollowed := true, recurses := true, apart := false }
def LinebreakPrefersSaid : Prop := linebreakPrefersRow.holds Try.pinned (OpenSpec.ofChange linebreakPrefersSpec)

/-- ITS FALSE NEIGHBOUR: 'it returns false'. Refute it at one input. -/
def linebreakPrefersWrong : ChangeSpec := { name := "linebreakPrefers", fn := fun _ => fun
  | [d1, d2, d3] => { results := [.lit (.bool false)], args := [d1, d2, d3] }
  | _ => none }
def LinebreakPrefersWrongFalsely : Prop := linebreakPrefersRow.holds Try.pinned (OpenSpec.ofChange linebreakPrefersWrong)

/- THE SECOND FORM. 'bulk': how many values and letters a reading holds, each counted each time it is reached (what is shared counts as often as it is met; a slice's spare places count too). A statement '..UptoSaid' is the law's where the arguments, and the package variables that the reading takes, are together of bulk at most 1048576: NARROWER than '..Said'. Prove '..Said' where nothing that the law and all that it calls make is longer than what came in: it says more and counts as full. Else prove '..UptoSaid'. A law counts once. -/
mutual
def uptoBulk {H : Type} : DataW H → Nat
  | .lit (.string bytes) => bytes.length + 1
  | .lit _ => 1
  | .nil => 1
  | .ptr d => uptoBulk d + 1
  | .slice elems spare => uptoBulkAll elems + uptoBulkAll spare + 1
  | .agg parts => uptoBulkAll parts + 1
  | .iface _ d => uptoBulk d + 1
  | .map entries => uptoBulkEntries entries + 1
  | .held _ => 1
def uptoBulkAll {H : Type} : List (DataW H) → Nat
  | [] => 0
  | d :: r => uptoBulk d + uptoBulkAll r
def uptoBulkEntries {H : Type} : List (Lit × DataW H) → Nat
  | [] => 0
  | x :: r => uptoBulkEntry x + uptoBulkEntries r
def uptoBulkEntry {H : Type} : Lit × DataW H → Nat
  | (.string bytes, d) => bytes.length + uptoBulk d + 1
  | (_, d) => uptoBulk d + 1
 end
def uptoSmall : (H : Type) → List (DataW H) → Bool := fun _ ds => decide (uptoBulkAll ds ≤ 1048576)
def OpenSpec.upto (s : _root_.Go.ChangeSpec) : _root_.Go.OpenSpec := { _root_.Go.OpenSpec.ofChange s with cond := some uptoSmall }

/-- 'hemiolalaw32.LinebreakBadness', WHERE WHAT IT READS IS OF BULK AT MOST 1048576: true; the input reads as it did. -/
def linebreakBadnessUptoRow : OpenClaim := { program := "ytdgifbmimfnmlaa", sum := "b12f986ef7a2f36c3fbd8ffb0f59282b7d89c2738f1bae2ade9ad259abbb2cab", func := "hemiola/hemiolalaw32.LinebreakBadness", spec := "linebreakBadness", unfollowed := true, recurses := true, apart := false, narrowed := true }
def LinebreakBadnessUptoSaid : Prop := linebreakBadnessUptoRow.holds Try.pinned (OpenSpec.upto linebreakBadnessSpec)

/-- 'hemiolalaw32.LinebreakTotals', WHERE WHAT IT READS IS OF BULK AT MOST 1048576: true; the input reads as it did. -/
def linebreakTotalsUptoRow : OpenClaim := { program := "ytdgifbmimfnmlaa", sum := "b12f986ef7a2f36c3fbd8ffb0f59282b7d89c2738f1bae2ade9ad259abbb2cab", func := "hemiola/hemiolalaw32.LinebreakTotals", spec := "linebreakTotals", unfollowed := true, recurses := true, apart := false, narrowed := true }
def LinebreakTotalsUptoSaid : Prop := linebreakTotalsUptoRow.holds Try.pinned (OpenSpec.upto linebreakTotalsSpec)

/-- 'hemiolalaw32.LinebreakBreaks', WHERE WHAT IT READS IS OF BULK AT MOST 1048576: true; the input reads as it did. -/
def linebreakBreaksUptoRow : OpenClaim := { program := "ytdgifbmimfnmlaa", sum := "b12f986ef7a2f36c3fbd8ffb0f59282b7d89c2738f1bae2ade9ad259abbb2cab", func := "hemiola/hemiolalaw32.LinebreakBreaks", spec := "linebreakBreaks", unfollowed := true, recurses := true, apart := false, narrowed := true }
def LinebreakBreaksUptoSaid : Prop := linebreakBreaksUptoRow.holds Try.pinned (OpenSpec.upto linebreakBreaksSpec)

/-- 'hemiolalaw32.LinebreakForced', WHERE WHAT IT READS IS OF BULK AT MOST 1048576: true; the input reads as it did. -/
def linebreakForcedUptoRow : OpenClaim := { program := "ytdgifbmimfnmlaa", sum := "b12f986ef7a2f36c3fbd8ffb0f59282b7d89c2738f1bae2ade9ad259abbb2cab", func := "hemiola/hemiolalaw32.LinebreakForced", spec := "linebreakForced", unfollowed := true, recurses := true, apart := false, narrowed := true }
def LinebreakForcedUptoSaid : Prop := linebreakForcedUptoRow.holds Try.pinned (OpenSpec.upto linebreakForcedSpec)

/-- 'hemiolalaw32.LinebreakFits', WHERE WHAT IT READS IS OF BULK AT MOST 1048576: true; the input reads as it did. -/
def linebreakFitsUptoRow : OpenClaim := { program := "ytdgifbmimfnmlaa", sum := "b12f986ef7a2f36c3fbd8ffb0f59282b7d89c2738f1bae2ade9ad259abbb2cab", func := "hemiola/hemiolalaw32.LinebreakFits", spec := "linebreakFits", unfollowed := true, recurses := true, apart := false, narrowed := true }
def LinebreakFitsUptoSaid : Prop := linebreakFitsUptoRow.holds Try.pinned (OpenSpec.upto linebreakFitsSpec)

/-- 'hemiolalaw32.LinebreakLeast', WHERE WHAT IT READS IS OF BULK AT MOST 1048576: true; the input reads as it did. -/
def linebreakLeastUptoRow : OpenClaim := { program := "ytdgifbmimfnmlaa", sum := "b12f986ef7a2f36c3fbd8ffb0f59282b7d89c2738f1bae2ade9ad259abbb2cab", func := "hemiola/hemiolalaw32.LinebreakLeast", spec := "linebreakLeast", unfollowed := true, recurses := true, apart := false, narrowed := true }
def LinebreakLeastUptoSaid : Prop := linebreakLeastUptoRow.holds Try.pinned (OpenSpec.upto linebreakLeastSpec)

/-- 'hemiolalaw32.LinebreakPrefers', WHERE WHAT IT READS IS OF BULK AT MOST 1048576: true; the input reads as it did. -/
def linebreakPrefersUptoRow : OpenClaim := { program := "ytdgifbmimfnmlaa", sum := "b12f986ef7a2f36c3fbd8ffb0f59282b7d89c2738f1bae2ade9ad259abbb2cab", func := "hemiola/hemiolalaw32.LinebreakPrefers", spec := "linebreakPrefers", unfollowed := true, recurses := true, apart := false, narrowed := true }
def LinebreakPrefersUptoSaid : Prop := linebreakPrefersUptoRow.holds Try.pinned (OpenSpec.upto linebreakPrefersSpec)

end Rows
end Go.Proofs.Ytdgifbmimfnmlaa

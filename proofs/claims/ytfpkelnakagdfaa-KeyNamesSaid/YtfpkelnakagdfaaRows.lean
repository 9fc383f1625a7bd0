/-
  No cell of these rows narrows 'for every input' (looked for: loops, veiled, ifaces, maps, wideKeys, modest, calm, conditions, laid).
  DERIVED. THE GIVEN ROWS OF THIS SEAT. 10 by the template 'for every input the law returns true; each argument reads behind the call as it read before'; 0 by the template 'total and deterministic' (their statements: YtfpkelnakagdfaaTotals.lean).
  GIVEN WITH THE SEED: the statements are not yours to turn. If you find one false, say at which input.
  Laid BY PROGRAM, IN A SANDBOX (cutbox-rows.mjs): the forced cells as the released guide's own fill.sh prints them over the translation 91cf81fd2a9de189… (all of the seat's roots in one cut). By AI agents, Wed Nov 11 2026. No macro, syntax, notation, axiom, sorry.
-/
import Derived.Test.YtfpkelnakagdfaaChecked
import GoSem.Claim
import GoSem.ClaimJoined
import GoSem.ClaimMapViews
import Derived.JoinedTies
import Derived.KernelRfl
namespace Go.Proofs.Ytfpkelnakagdfaa
/- THE CELL 'sum', in the pinned program and in every row, IS THE sha256 OF THE DUMP (.gsa) THAT YtfpkelnakagdfaaProg.lean LOADS. Nothing in Lean hashes anything: it is a label: what it is worth is what the hold of that sum in a sandbox is worth. -/
noncomputable def Try.pinned : Pinned := { name := "ytfpkelnakagdfaa", sum := "91cf81fd2a9de189c7f0105470ac6db1305828d73448e4b3c0ecc683893c2d9e", checked := Try.checked }
namespace Rows
def none {H : Type} : Left H := { results := [], args := [] }

/-- 'hemiolalaw07.KeyScales': WHATEVER THE INPUT: true; the input reads as it did. -/
def keyScalesSpec : ChangeSpec := { name := "keyScales", fn := fun _ => fun
  | [d1, d2, d3] => { results := [.lit (.bool true)], args := [d1, d2, d3] }
  | _ => none }
def keyScalesRow : OpenClaim := { program := "ytfpkelnakagdfaa", sum := "91cf81fd2a9de189c7f0105470ac6db1305828d73448e4b3c0ecc683893c2d9e", func := "hemiola/hemiolalaw07.KeyScales", spec := "keyScales", apart := false }
def KeyScalesSaid : Prop := keyScalesRow.holds Try.pinned (OpenSpec.ofChange keyScalesSpec)

/-- ITS FALSE NEIGHBOUR: 'it returns false'. Refute it at one input. -/
def keyScalesWrong : ChangeSpec := { name := "keyScales", fn := fun _ => fun
  | [d1, d2, d3] => { results := [.lit (.bool false)], args := [d1, d2, d3] }
  | _ => none }
def KeyScalesWrongFalsely : Prop := keyScalesRow.holds Try.pinned (OpenSpec.ofChange keyScalesWrong)

/-- 'hemiolalaw07.KeyTransposes': WHATEVER THE INPUT: true; the input reads as it did. -/
def keyTransposesSpec : ChangeSpec := { name := "keyTransposes", fn := fun _ => fun
  | [d1, d2] => { results := [.lit (.bool true)], args := [d1, d2] }
  | _ => none }
def keyTransposesRow : OpenClaim := { program := "ytfpkelnakagdfaa", sum := "91cf81fd2a9de189c7f0105470ac6db1305828d73448e4b3c0ecc683893c2d9e", func := "hemiola/hemiolalaw07.KeyTransposes", spec := "keyTransposes", apart := false }
def KeyTransposesSaid : Prop := keyTransposesRow.holds Try.pinned (OpenSpec.ofChange keyTransposesSpec)

/-- ITS FALSE NEIGHBOUR: 'it returns false'. Refute it at one input. -/
def keyTransposesWrong : ChangeSpec := { name := "keyTransposes", fn := fun _ => fun
  | [d1, d2] => { results := [.lit (.bool false)], args := [d1, d2] }
  | _ => none }
def KeyTransposesWrongFalsely : Prop := keyTransposesRow.holds Try.pinned (OpenSpec.ofChange keyTransposesWrong)

/-- 'hemiolalaw07.KeySounds': WHATEVER THE INPUT: true; the input reads as it did. -/
def keySoundsSpec : ChangeSpec := { name := "keySounds", fn := fun _ => fun
  | [d1, d2] => { results := [.lit (.bool true)], args := [d1, d2] }
  | _ => none }
def keySoundsRow : OpenClaim := { program := "ytfpkelnakagdfaa", sum := "91cf81fd2a9de189c7f0105470ac6db1305828d73448e4b3c0ecc683893c2d9e", func := "hemiola/hemiolalaw07.KeySounds", spec := "keySounds", apart := false }
def KeySoundsSaid : Prop := keySoundsRow.holds Try.pinned (OpenSpec.ofChange keySoundsSpec)

/-- ITS FALSE NEIGHBOUR: 'it returns false'. Refute it at one input. -/
def keySoundsWrong : ChangeSpec := { name := "keySounds", fn := fun _ => fun
  | [d1, d2] => { results := [.lit (.bool false)], args := [d1, d2] }
  | _ => none }
def KeySoundsWrongFalsely : Prop := keySoundsRow.holds Try.pinned (OpenSpec.ofChange keySoundsWrong)

/-- 'hemiolalaw07.KeyAlters': WHATEVER THE INPUT: true; the input reads as it did. -/
def keyAltersSpec : ChangeSpec := { name := "keyAlters", fn := fun _ => fun
  | [d1, d2] => { results := [.lit (.bool true)], args := [d1, d2] }
  | _ => none }
def keyAltersRow : OpenClaim := { program := "ytfpkelnakagdfaa", sum := "91cf81fd2a9de189c7f0105470ac6db1305828d73448e4b3c0ecc683893c2d9e", func := "hemiola/hemiolalaw07.KeyAlters", spec := "keyAlters", apart := false }
def KeyAltersSaid : Prop := keyAltersRow.holds Try.pinned (OpenSpec.ofChange keyAltersSpec)

/-- ITS FALSE NEIGHBOUR: 'it returns false'. Refute it at one input. -/
def keyAltersWrong : ChangeSpec := { name := "keyAlters", fn := fun _ => fun
  | [d1, d2] => { results := [.lit (.bool false)], args := [d1, d2] }
  | _ => none }
def KeyAltersWrongFalsely : Prop := keyAltersRow.holds Try.pinned (OpenSpec.ofChange keyAltersWrong)

/-- 'hemiolalaw07.KeyTonics': WHATEVER THE INPUT: true; the input reads as it did. -/
def keyTonicsSpec : ChangeSpec := { name := "keyTonics", fn := fun _ => fun
  | [d1, d2, d3] => { results := [.lit (.bool true)], args := [d1, d2, d3] }
  | _ => none }
def keyTonicsRow : OpenClaim := { program := "ytfpkelnakagdfaa", sum := "91cf81fd2a9de189c7f0105470ac6db1305828d73448e4b3c0ecc683893c2d9e", func := "hemiola/hemiolalaw07.KeyTonics", spec := "keyTonics", apart := false }
def KeyTonicsSaid : Prop := keyTonicsRow.holds Try.pinned (OpenSpec.ofChange keyTonicsSpec)

/-- ITS FALSE NEIGHBOUR: 'it returns false'. Refute it at one input. -/
def keyTonicsWrong : ChangeSpec := { name := "keyTonics", fn := fun _ => fun
  | [d1, d2, d3] => { results := [.lit (.bool false)], args := [d1, d2, d3] }
  | _ => none }
def KeyTonicsWrongFalsely : Prop := keyTonicsRow.holds Try.pinned (OpenSpec.ofChange keyTonicsWrong)

/-- 'hemiolalaw07.KeyNaturals': WHATEVER THE INPUT: true; the input reads as it did. -/
def keyNaturalsSpec : ChangeSpec := { name := "keyNaturals", fn := fun _ => fun
  | [d1, d2] => { results := [.lit (.bool true)], args := [d1, d2] }
  | _ => none }
def keyNaturalsRow : OpenClaim := { program := "ytfpkelnakagdfaa", sum := "91cf81fd2a9de189c7f0105470ac6db1305828d73448e4b3c0ecc683893c2d9e", func := "hemiola/hemiolalaw07.KeyNaturals", spec := "keyNaturals", apart := false }
def KeyNaturalsSaid : Prop := keyNaturalsRow.holds Try.pinned (OpenSpec.ofChange keyNaturalsSpec)

/-- ITS FALSE NEIGHBOUR: 'it returns false'. Refute it at one input. -/
def keyNaturalsWrong : ChangeSpec := { name := "keyNaturals", fn := fun _ => fun
  | [d1, d2] => { results := [.lit (.bool false)], args := [d1, d2] }
  | _ => none }
def KeyNaturalsWrongFalsely : Prop := keyNaturalsRow.holds Try.pinned (OpenSpec.ofChange keyNaturalsWrong)

/-- 'hemiolalaw07.KeyDegrees': WHATEVER THE INPUT: true; the input reads as it did. -/
def keyDegreesSpec : ChangeSpec := { name := "keyDegrees", fn := fun _ => fun
  | [d1, d2] => { results := [.lit (.bool true)], args := [d1, d2] }
  | _ => none }
def keyDegreesRow : OpenClaim := { program := "ytfpkelnakagdfaa", sum := "91cf81fd2a9de189c7f0105470ac6db1305828d73448e4b3c0ecc683893c2d9e", func := "hemiola/hemiolalaw07.KeyDegrees", spec := "keyDegrees", apart := false }
def KeyDegreesSaid : Prop := keyDegreesRow.holds Try.pinned (OpenSpec.ofChange keyDegreesSpec)

/-- ITS FALSE NEIGHBOUR: 'it returns false'. Refute it at one input. -/
def keyDegreesWrong : ChangeSpec := { name := "keyDegrees", fn := fun _ => fun
  | [d1, d2] => { results := [.lit (.bool false)], args := [d1, d2] }
  | _ => none }
def KeyDegreesWrongFalsely : Prop := keyDegreesRow.holds Try.pinned (OpenSpec.ofChange keyDegreesWrong)

/-- 'hemiolalaw07.KeyDiatonic': WHATEVER THE INPUT: true; the input reads as it did. -/
def keyDiatonicSpec : ChangeSpec := { name := "keyDiatonic", fn := fun _ => fun
  | [d1, d2] => { results := [.lit (.bool true)], args := [d1, d2] }
  | _ => none }
def keyDiatonicRow : OpenClaim := { program := "ytfpkelnakagdfaa", sum := "91cf81fd2a9de189c7f0105470ac6db1305828d73448e4b3c0ecc683893c2d9e", func := "hemiola/hemiolalaw07.KeyDiatonic", spec := "keyDiatonic", apart := false }
def KeyDiatonicSaid : Prop := keyDiatonicRow.holds Try.pinned (OpenSpec.ofChange keyDiatonicSpec)

/-- ITS FALSE NEIGHBOUR: 'it returns false'. Refute it at one input. -/
def keyDiatonicWrong : ChangeSpec := { name := "keyDiatonic", fn := fun _ => fun
  | [d1, d2] => { results := [.lit (.bool false)], args := [d1, d2] }
  | _ => none }
def KeyDiatonicWrongFalsely : Prop := keyDiatonicRow.holds Try.pinned (OpenSpec.ofChange keyDiatonicWrong)

/-- 'hemiolalaw07.KeyNames': WHATEVER THE INPUT: true; the input reads as it did. -/
def keyNamesSpec : ChangeSpec := { name := "keyNames", fn := fun _ => fun
  | [d1, d2] => { results := [.lit (.bool true)], args := [d1, d2] }
  | _ => none }
def keyNamesRow : OpenClaim := { program := "ytfpkelnakagdfaa", sum := "91cf81fd2a9de189c7f0105470ac6db1305828d73448e4b3c0ecc683893c2d9e", func := "hemiola/hemiolalaw07.KeyNames", spec := "keyNames", apart := false }
def KeyNamesSaid : Prop := keyNamesRow.holds Try.pinned (OpenSpec.ofChange keyNamesSpec)

/-- ITS FALSE NEIGHBOUR: 'it returns false'. Refute it at one input. -/
def keyNamesWrong : ChangeSpec := { name := "keyNames", fn := fun _ => fun
  | [d1, d2] => { results := [.lit (.bool false)], args := [d1, d2] }
  | _ => none }
def KeyNamesWrongFalsely : Prop := keyNamesRow.holds Try.pinned (OpenSpec.ofChange keyNamesWrong)

/-- 'hemiolalaw07.KeyParses': WHATEVER THE INPUT: true; the input reads as it did. -/
def keyParsesSpec : ChangeSpec := { name := "keyParses", fn := fun _ => fun
  | [d] => { results := [.lit (.bool true)], args := [d] }
  | _ => none }
def keyParsesRow : OpenClaim := { program := "ytfpkelnakagdfaa", sum := "91cf81fd2a9de189c7f0105470ac6db1305828d73448e4b3c0ecc683893c2d9e", func := "hemiola/hemiolalaw07.KeyParses", spec := "keyParses", apart := false }
def KeyParsesSaid : Prop := keyParsesRow.holds Try.pinned (OpenSpec.ofChange keyParsesSpec)

/-- ITS FALSE NEIGHBOUR: 'it returns false'. Refute it at one input. -/
def keyParsesWrong : ChangeSpec := { name := "keyParses", fn := fun _ => fun
  | [d] => { results := [.lit (.bool false)], args := [d] }
  | _ => none }
def KeyParsesWrongFalsely : Prop := keyParsesRow.holds Try.pinned (OpenSpec.ofChange keyParsesWrong)

/- THE SECOND FORM. 'bulk': how many values and letters a reading holds, each counted each time it is reached (what is shared counts as often as it is met; a slice's spare places count too). A statement '..UptoSaid' is the law's where the arguments, and the package variables that the reading takes, are together of bulk at most 1048576: NARROWER than '..Said'. Prove '..Said' where nothing that the law and all that it calls make is longer than what came in: it says more and counts as full. Else prove '..UptoSaid'. A law counts once. -/
mutual
def uptoBulk {H : Type} : DataW H → Nat
  | .lit (.string bytes) => bytes.length + 1
  | .lit _ => 1
  | .nil => 1
  | .ptr d => uptoBulk d + 1
  | .slice elems spare => uptoBulkAll elems + uptoBulkAll spare + 1
  | .agg parts => uptoBulkAll parts + 1
  | .iface _ d => uptoBulk d + 1
  | .map entries => uptoBulkEntries entries + 1
  | .held _ => 1
def uptoBulkAll {H : Type} : List (DataW H) → Nat
  | [] => 0
  | d :: r => uptoBulk d + uptoBulkAll r
def uptoBulkEntries {H : Type} : List (Lit × DataW H) → Nat
  | [] => 0
  | x :: r => uptoBulkEntry x + uptoBulkEntries r
def uptoBulkEntry {H : Type} : Lit × DataW H → Nat
  | (.string bytes, d) => bytes.length + uptoBulk d + 1
  | (_, d) => uptoBulk d + 1
 end
def uptoSmall : (H : Type) → List (DataW H) → Bool := fun _ ds => decide (uptoBulkAll ds ≤ 1048576)
def OpenSpec.upto (s : _root_.Go.ChangeSpec) : _root_.Go.OpenSpec := { _root_.Go.OpenSpec.ofChange s with cond := some uptoSmall }

/-- 'hemiolalaw07.KeyScales', WHERE WHAT IT READS IS OF BULK AT MOST 1048576: true; the input reads as it did. -/
def keyScalesUptoRow : OpenClaim := { program := "ytfpkelnakagdfaa", sum := "91cf81fd2a9de189c7f0105470ac6db1305828d73448e4b3c0ecc683893c2d9e", func := "hemiola/hemiolalaw07.KeyScales", spec := "keyScales", apart := false, narrowed := true }
def KeyScalesUptoSaid : Prop := keyScalesUptoRow.holds Try.pinned (OpenSpec.upto keyScalesSpec)

/-- 'hemiolalaw07.KeyTransposes', WHERE WHAT IT READS IS OF BULK AT MOST 1048576: true; the input reads as it did. -/
def keyTransposesUptoRow : OpenClaim := { program := "ytfpkelnakagdfaa", sum := "91cf81fd2a9de189c7f0105470ac6db1305828d73448e4b3c0ecc683893c2d9e", func := "hemiola/hemiolalaw07.KeyTransposes", spec := "keyTransposes", apart := false, narrowed := true }
def KeyTransposesUptoSaid : Prop := keyTransposesUptoRow.holds Try.pinned (OpenSpec.upto keyTransposesSpec)

/-- 'hemiolalaw07.KeySounds', WHERE WHAT IT READS IS OF BULK AT MOST 1048576: true; the input reads as it did. -/
def keySoundsUptoRow : OpenClaim := { program := "ytfpkelnakagdfaa", sum := "91cf81fd2a9de189c7f0105470ac6db1305828d73448e4b3c0ecc683893c2d9e", func := "hemiola/hemiolalaw07.KeySounds", spec := "keySounds", apart := false, narrowed := true }
def KeySoundsUptoSaid : Prop := keySoundsUptoRow.holds Try.pinned (OpenSpec.upto keySoundsSpec)

/-- 'hemiolalaw07.KeyAlters', WHERE WHAT IT READS IS OF BULK AT MOST 1048576: true; the input reads as it did. -/
def keyAltersUptoRow : OpenClaim := { program := "ytfpkelnakagdfaa", sum := "91cf81fd2a9de189c7f0105470ac6db1305828d73448e4b3c0ecc683893c2d9e", func := "hemiola/hemiolalaw07.KeyAlters", spec := "keyAlters", apart := false, narrowed := true }
def KeyAltersUptoSaid : Prop := keyAltersUptoRow.holds Try.pinned (OpenSpec.upto keyAltersSpec)

/-- 'hemiolalaw07.KeyTonics', WHERE WHAT IT READS IS OF BULK AT MOST 1048576: true; the input reads as it did. -/
def keyTonicsUptoRow : OpenClaim := { program := "ytfpkelnakagdfaa", sum := "91cf81fd2a9de189c7f0105470ac6db1305828d73448e4b3c0ecc683893c2d9e", func := "hemiola/hemiolalaw07.KeyTonics", spec := "keyTonics", apart := false, narrowed := true }
def KeyTonicsUptoSaid : Prop := keyTonicsUptoRow.holds Try.pinned (OpenSpec.upto keyTonicsSpec)

/-- 'hemiolalaw07.KeyNaturals', WHERE WHAT IT READS IS OF BULK AT MOST 1048576: true; the input reads as it did. -/
def keyNaturalsUptoRow : OpenClaim := { program := "ytfpkelnakagdfaa", sum := "91cf81fd2a9de189c7f0105470ac6db1305828d73448e4b3c0ecc683893c2d9e", func := "hemiola/hemiolalaw07.KeyNaturals", spec := "keyNaturals", apart := false, narrowed := true }
def KeyNaturalsUptoSaid : Prop := keyNaturalsUptoRow.holds Try.pinned (OpenSpec.upto keyNaturalsSpec)

/-- 'hemiolalaw07.KeyDegrees', WHERE WHAT IT READS IS OF BULK AT MOST 1048576: true; the input reads as it did. -/
def keyDegreesUptoRow : OpenClaim := { program := "ytfpkelnakagdfaa", sum := "91cf81fd2a9de189c7f0105470ac6db1305828d73448e4b3c0ecc683893c2d9e", func := "hemiola/hemiolalaw07.KeyDegrees", spec := "keyDegrees", apart := false, narrowed := true }
def KeyDegreesUptoSaid : Prop := keyDegreesUptoRow.holds Try.pinned (OpenSpec.upto keyDegreesSpec)

/-- 'hemiolalaw07.KeyDiatonic', WHERE WHAT IT READS IS OF BULK AT MOST 1048576: true; the input reads as it did. -/
def keyDiatonicUptoRow : OpenClaim := { program := "ytfpkelnakagdfaa", sum := "91cf81fd2a9de189c7f0105470ac6db1305828d73448e4b3c0ecc683893c2d9e", func := "hemiola/hemiolalaw07.KeyDiatonic", spec := "keyDiatonic", apart := false, narrowed := true }
def KeyDiatonicUptoSaid : Prop := keyDiatonicUptoRow.holds Try.pinned (OpenSpec.upto keyDiatonicSpec)

/-- 'hemiolalaw07.KeyNames', WHERE WHAT IT READS IS OF BULK AT MOST 1048576: true; the input reads as it did. -/
def keyNamesUptoRow : OpenClaim := { program := "ytfpkelnakagdfaa", sum := "91cf81fd2a9de189c7f0105470ac6db1305828d73448e4b3c0ecc683893c2d9e", func := "hemiola/hemiolalaw07.KeyNames", spec := "keyNames", apart := false, narrowed := true }
def KeyNamesUptoSaid : Prop := keyNamesUptoRow.holds Try.pinned (OpenSpec.upto keyNamesSpec)

/-- 'hemiolalaw07.KeyParses', WHERE WHAT IT READS IS OF BULK AT MOST 1048576: true; the input reads as it did. -/
def keyParsesUptoRow : OpenClaim := { program := "ytfpkelnakagdfaa", sum := "91cf81fd2a9de189c7f0105470ac6db1305828d73448e4b3c0ecc683893c2d9e", func := "hemiola/hemiolalaw07.KeyParses", spec := "keyParses", apart := false, narrowed := true }
def KeyParsesUptoSaid : Prop := keyParsesUptoRow.holds Try.pinned (OpenSpec.upto keyParsesSpec)

end Rows
end Go.Proofs.Ytfpkelnakagdfaa

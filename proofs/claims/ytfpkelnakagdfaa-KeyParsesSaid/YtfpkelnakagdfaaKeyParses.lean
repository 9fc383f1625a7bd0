/-
  For every input the law KeyParses returns true, and its arguments read as before. The law's call is told by the abstract machine; no further condition.
-/
import Derived.Test.YtfpkelnakagdfaaRows
import Derived.Test.YtfpkelnakagdfaaS07R
import Derived.Test.YtfpkelnakagdfaaAbRow
import Derived.WalkKit
import Derived.ProofKit
import Derived.OpenShut
namespace Go.Proofs.Ytfpkelnakagdfaa.keyParses
open Go.ChangeShapes Go.WideShapes Go.ChangeAt Go.RowKit
set_option linter.unusedVariables false

theorem own : ownKnob Try.prog.godebug = none := by kernel_rfl

def shs : List Ab.Sh := [.one (.str)]

theorem law (args : List Ab.V) (h : Ab.fitsAll shs args) : Ab.call tbl 12 args [] = some (.bool true) := by
  obtain ⟨_, _, rfl, ⟨a0, rfl, w0⟩, h⟩ := h
  obtain rfl := h
  exact l12 a0

set_option maxRecDepth 100000 in
theorem lifted (os : Os) (started : os.Started) (H : Type) (enc : TypeId × Value → H) :
    ReturnsInHanded {} Try.checked os 12 .any (Rows.keyParsesSpec.pre6 enc Try.prog Try.f12 Rows.keyParsesRow.domain false) (Rows.keyParsesSpec.post enc Try.prog Try.f12 false true false false) := by
  refine returnsInHanded_of_change (C := Try.checked) own started (by kernel_rfl) Try.func12
    (ChangeSpec.witness6 (enc := enc) (C := Try.checked) false ⟨#[], #[.string ByteArray.empty], []⟩ 8 (by kernel_rfl) (by kernel_rfl) (by kernel_rfl) (by kernel_rfl)) ?_
  intro W base args ds gs before hval hW hcnd _
  refine Ab.law_contract sound (shs := shs) (tb := 4) (by kernel_rfl) (by kernel_rfl) rfl (fun ds hd => ?_) (by kernel_rfl) Try.underlying4 law hval hW
  have hn : ds.length = 1 := hd.trans (by kernel_rfl)
  match ds, hn with
  | [d1], _ => rfl

theorem over : Rows.keyParsesRow.holds Try.pinned (OpenSpec.ofChange Rows.keyParsesSpec) :=
  OpenClaim.holds_of_wide 12 Try.f12 rfl rfl rfl rfl rfl rfl rfl ⟨rfl, rfl, rfl, rfl, rfl⟩ rfl rfl rfl rfl rfl (by kernel_rfl) Try.func12 (by kernel_rfl)
    (of_decide_eq_true (by kernel_rfl)) (by unfold Func.isWrapper; first | (rw [if_pos (by decide +kernel)]; kernel_rfl) | (rw [if_neg (by decide +kernel)]; exact ⟨rfl, rfl⟩))
    (fun os started H enc _ => lifted os started H enc)

theorem proved : Rows.KeyParsesSaid :=
  over
#print axioms proved
end Go.Proofs.Ytfpkelnakagdfaa.keyParses

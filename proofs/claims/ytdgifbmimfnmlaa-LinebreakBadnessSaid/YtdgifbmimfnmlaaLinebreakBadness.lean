/-
  For every input the law LinebreakBadness returns true, and its arguments read as before. The law's call is told by the abstract machine; no further condition.
-/
import Derived.Test.YtdgifbmimfnmlaaRows
import Derived.Test.YtdgifbmimfnmlaaS32A
import Derived.Test.YtdgifbmimfnmlaaAbRow
import Derived.WalkKit
import Derived.ProofKit
import Derived.OpenShut
namespace Go.Proofs.Ytdgifbmimfnmlaa.linebreakBadness
open Go.ChangeShapes Go.WideShapes Go.ChangeAt Go.RowKit
set_option linter.unusedVariables false

theorem own : ownKnob Try.prog.godebug = none := by kernel_rfl

def shs : List Ab.Sh := [.one (.int .i64), .one (.int .i64), .one (.int .i64)]

theorem law (args : List Ab.V) (h : Ab.fitsAll shs args) : Ab.call tbl 3 args [] = some (.bool true) := by
  obtain ⟨_, _, rfl, ⟨a0, rfl, w0⟩, h⟩ := h
  obtain ⟨_, _, rfl, ⟨a1, rfl, w1⟩, h⟩ := h
  obtain ⟨_, _, rfl, ⟨a2, rfl, w2⟩, h⟩ := h
  obtain rfl := h
  exact l3 a0 a1 a2

set_option maxRecDepth 100000 in
theorem lifted (os : Os) (started : os.Started) (H : Type) (enc : TypeId × Value → H) :
    ReturnsInHanded {} Try.checked os 3 .any (Rows.linebreakBadnessSpec.pre6 enc Try.prog Try.f3 Rows.linebreakBadnessRow.domain false) (Rows.linebreakBadnessSpec.post enc Try.prog Try.f3 false true false false) := by
  refine returnsInHanded_of_change (C := Try.checked) own started (by kernel_rfl) Try.func3
    (ChangeSpec.witness6 (enc := enc) (C := Try.checked) false ⟨#[], #[.int .i64 0, .int .i64 0, .int .i64 0], []⟩ 8 (by kernel_rfl) (by kernel_rfl) (by kernel_rfl) (by kernel_rfl)) ?_
  intro W base args ds gs before hval hW hcnd _
  refine Ab.law_contract sound (shs := shs) (tb := 4) (by kernel_rfl) (by kernel_rfl) rfl (fun ds hd => ?_) (by kernel_rfl) Try.underlying4 law hval hW
  have hn : ds.length = 3 := hd.trans (by kernel_rfl)
  match ds, hn with
  | [d1, d2, d3], _ => rfl

theorem over : Rows.linebreakBadnessRow.holds Try.pinned (OpenSpec.ofChange Rows.linebreakBadnessSpec) :=
  OpenClaim.holds_of_wide 3 Try.f3 rfl rfl rfl rfl rfl rfl rfl ⟨rfl, rfl, rfl, rfl, rfl⟩ rfl rfl rfl rfl rfl (by kernel_rfl) Try.func3 (by kernel_rfl)
    (of_decide_eq_true (by kernel_rfl)) (by unfold Func.isWrapper; first | (rw [if_pos (by decide +kernel)]; kernel_rfl) | (rw [if_neg (by decide +kernel)]; exact ⟨rfl, rfl⟩))
    (fun os started H enc _ => lifted os started H enc)

theorem proved : Rows.LinebreakBadnessSaid :=
  over
#print axioms proved
end Go.Proofs.Ytdgifbmimfnmlaa.linebreakBadness

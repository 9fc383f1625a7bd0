/-
  For every input the law PagebreakForced returns true, and its arguments read as before. The law's call is told by the abstract machine; no further condition.
-/
import Derived.Test.YtgghbckhdchcaaaRows
import Derived.Test.YtgghbckhdchcaaaS33W
import Derived.Test.YtgghbckhdchcaaaAbRow
import Derived.WalkKit
import Derived.ProofKit
import Derived.OpenShut
namespace Go.Proofs.Ytgghbckhdchcaaa.pagebreakForced
open Go.ChangeShapes Go.WideShapes Go.ChangeAt Go.RowKit
set_option linter.unusedVariables false

theorem own : ownKnob Try.prog.godebug = none := by kernel_rfl

def shs : List Ab.Sh := [.sl [.int .i64, .int .i64, .int .i64, .int .i64], .agg [.int .i64, .int .i64]]

theorem law (args : List Ab.V) (h : Ab.fitsAll shs args) : Ab.call tbl 7 args [] = some (.bool true) := by
  obtain ⟨a0, _, rfl, h0, h⟩ := h
  obtain ⟨_, _, rfl, ⟨_, rfl, ⟨_, _, rfl, ⟨a1_0, rfl, w1_0⟩, ⟨_, _, rfl, ⟨a1_1, rfl, w1_1⟩, rfl⟩⟩⟩, h⟩ := h
  obtain rfl := h
  obtain ⟨l, hv, hm⟩ := arg4 h0
  exact l7 hm hv

set_option maxRecDepth 100000 in
theorem lifted (os : Os) (started : os.Started) (H : Type) (enc : TypeId × Value → H) :
    ReturnsInHanded {} Try.checked os 7 .any (Rows.pagebreakForcedSpec.pre6 enc Try.prog Try.f7 Rows.pagebreakForcedRow.domain false) (Rows.pagebreakForcedSpec.post enc Try.prog Try.f7 false true false false) := by
  refine returnsInHanded_of_change (C := Try.checked) own started (by kernel_rfl) Try.func7
    (ChangeSpec.witness6 (enc := enc) (C := Try.checked) false ⟨#[], #[.slice none 0 0, .agg #[.int .i64 0, .int .i64 0]], []⟩ 8 (by kernel_rfl) (by kernel_rfl) (by kernel_rfl) (by kernel_rfl)) ?_
  intro W base args ds gs before hval hW hcnd _
  refine Ab.law_contract sound (shs := shs) (tb := 4) (by kernel_rfl) (by kernel_rfl) rfl (fun ds hd => ?_) (by kernel_rfl) Try.underlying4 law hval hW
  have hn : ds.length = 2 := hd.trans (by kernel_rfl)
  match ds, hn with
  | [d1, d2], _ => rfl

theorem over : Rows.pagebreakForcedRow.holds Try.pinned (OpenSpec.ofChange Rows.pagebreakForcedSpec) :=
  OpenClaim.holds_of_wide 7 Try.f7 rfl rfl rfl rfl rfl rfl rfl ⟨rfl, rfl, rfl, rfl, rfl⟩ rfl rfl rfl rfl rfl (by kernel_rfl) Try.func7 (by kernel_rfl)
    (of_decide_eq_true (by kernel_rfl)) (by unfold Func.isWrapper; first | (rw [if_pos (by decide +kernel)]; kernel_rfl) | (rw [if_neg (by decide +kernel)]; exact ⟨rfl, rfl⟩))
    (fun os started H enc _ => lifted os started H enc)

theorem proved : Rows.PagebreakForcedSaid :=
  over
#print axioms proved
end Go.Proofs.Ytgghbckhdchcaaa.pagebreakForced

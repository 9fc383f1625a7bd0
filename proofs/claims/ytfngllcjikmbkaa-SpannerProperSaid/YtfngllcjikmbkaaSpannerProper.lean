/-
  For every input the law SpannerProper returns true, and its arguments read as before. The law's call is told by the abstract machine; no further condition.
-/
import Derived.Test.YtfngllcjikmbkaaRows
import Derived.Test.YtfngllcjikmbkaaS14B
import Derived.Test.YtfngllcjikmbkaaAbRow
import Derived.WalkKit
import Derived.ProofKit
import Derived.OpenShut
namespace Go.Proofs.Ytfngllcjikmbkaa.spannerProper
open Go.ChangeShapes Go.WideShapes Go.ChangeAt Go.RowKit
set_option linter.unusedVariables false

theorem own : ownKnob Try.prog.godebug = none := by kernel_rfl

def shs : List Ab.Sh := [.agg [.int .i64, .int .i64, .int .i64, .int .i64, .int .i64, .int .i64, .int .i64, .int .i64, .int .i64]]

theorem law (args : List Ab.V) (h : Ab.fitsAll shs args) : Ab.call tbl 3 args [] = some (.bool true) := by
  obtain ⟨_, _, rfl, ⟨_, rfl, ⟨_, _, rfl, ⟨a0_0, rfl, w0_0⟩, ⟨_, _, rfl, ⟨a0_1, rfl, w0_1⟩, ⟨_, _, rfl, ⟨a0_2, rfl, w0_2⟩, ⟨_, _, rfl, ⟨a0_3, rfl, w0_3⟩, ⟨_, _, rfl, ⟨a0_4, rfl, w0_4⟩, ⟨_, _, rfl, ⟨a0_5, rfl, w0_5⟩, ⟨_, _, rfl, ⟨a0_6, rfl, w0_6⟩, ⟨_, _, rfl, ⟨a0_7, rfl, w0_7⟩, ⟨_, _, rfl, ⟨a0_8, rfl, w0_8⟩, rfl⟩⟩⟩⟩⟩⟩⟩⟩⟩⟩, h⟩ := h
  obtain rfl := h
  exact l3 a0_0 a0_1 a0_2 a0_3 a0_4 a0_5 a0_6 a0_7 a0_8

set_option maxRecDepth 100000 in
theorem lifted (os : Os) (started : os.Started) (H : Type) (enc : TypeId × Value → H) :
    ReturnsInHanded {} Try.checked os 3 .any (Rows.spannerProperSpec.pre6 enc Try.prog Try.f3 Rows.spannerProperRow.domain false) (Rows.spannerProperSpec.post enc Try.prog Try.f3 false true false false) := by
  refine returnsInHanded_of_change (C := Try.checked) own started (by kernel_rfl) Try.func3
    (ChangeSpec.witness6 (enc := enc) (C := Try.checked) false ⟨#[], #[.agg #[.int .i64 0, .int .i64 0, .int .i64 0, .int .i64 0, .int .i64 0, .int .i64 0, .int .i64 0, .int .i64 0, .int .i64 0]], []⟩ 8 (by kernel_rfl) (by kernel_rfl) (by kernel_rfl) (by kernel_rfl)) ?_
  intro W base args ds gs before hval hW hcnd _
  refine Ab.law_contract sound (shs := shs) (tb := 4) (by kernel_rfl) (by kernel_rfl) rfl (fun ds hd => ?_) (by kernel_rfl) Try.underlying4 law hval hW
  have hn : ds.length = 1 := hd.trans (by kernel_rfl)
  match ds, hn with
  | [d1], _ => rfl

theorem over : Rows.spannerProperRow.holds Try.pinned (OpenSpec.ofChange Rows.spannerProperSpec) :=
  OpenClaim.holds_of_wide 3 Try.f3 rfl rfl rfl rfl rfl rfl rfl ⟨rfl, rfl, rfl, rfl, rfl⟩ rfl rfl rfl rfl rfl (by kernel_rfl) Try.func3 (by kernel_rfl)
    (of_decide_eq_true (by kernel_rfl)) (by unfold Func.isWrapper; first | (rw [if_pos (by decide +kernel)]; kernel_rfl) | (rw [if_neg (by decide +kernel)]; exact ⟨rfl, rfl⟩))
    (fun os started H enc _ => lifted os started H enc)

theorem proved : Rows.SpannerProperSaid :=
  over
#print axioms proved
end Go.Proofs.Ytfngllcjikmbkaa.spannerProper

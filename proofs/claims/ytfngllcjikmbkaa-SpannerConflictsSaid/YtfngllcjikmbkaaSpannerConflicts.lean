/-
  For every input the law SpannerConflicts returns true, and its arguments read as before. The law's call is told by the abstract machine; no further condition.
-/
import Derived.Test.YtfngllcjikmbkaaRows
import Derived.Test.YtfngllcjikmbkaaS14D
import Derived.Test.YtfngllcjikmbkaaAbRow
import Derived.WalkKit
import Derived.ProofKit
import Derived.OpenShut
namespace Go.Proofs.Ytfngllcjikmbkaa.spannerConflicts
open Go.ChangeShapes Go.WideShapes Go.ChangeAt Go.RowKit
set_option linter.unusedVariables false

theorem own : ownKnob Try.prog.godebug = none := by kernel_rfl

def shs : List Ab.Sh := [.agg [.int .i64, .int .i64, .int .i64, .int .i64, .int .i64, .int .i64, .int .i64, .int .i64, .int .i64], .agg [.int .i64, .int .i64, .int .i64, .int .i64, .int .i64, .int .i64, .int .i64, .int .i64, .int .i64]]

theorem law (args : List Ab.V) (h : Ab.fitsAll shs args) : Ab.call tbl 4 args [] = some (.bool true) := by
  obtain ⟨_, _, rfl, ⟨_, rfl, ⟨_, _, rfl, ⟨a0_0, rfl, w0_0⟩, ⟨_, _, rfl, ⟨a0_1, rfl, w0_1⟩, ⟨_, _, rfl, ⟨a0_2, rfl, w0_2⟩, ⟨_, _, rfl, ⟨a0_3, rfl, w0_3⟩, ⟨_, _, rfl, ⟨a0_4, rfl, w0_4⟩, ⟨_, _, rfl, ⟨a0_5, rfl, w0_5⟩, ⟨_, _, rfl, ⟨a0_6, rfl, w0_6⟩, ⟨_, _, rfl, ⟨a0_7, rfl, w0_7⟩, ⟨_, _, rfl, ⟨a0_8, rfl, w0_8⟩, rfl⟩⟩⟩⟩⟩⟩⟩⟩⟩⟩, h⟩ := h
  obtain ⟨_, _, rfl, ⟨_, rfl, ⟨_, _, rfl, ⟨a1_0, rfl, w1_0⟩, ⟨_, _, rfl, ⟨a1_1, rfl, w1_1⟩, ⟨_, _, rfl, ⟨a1_2, rfl, w1_2⟩, ⟨_, _, rfl, ⟨a1_3, rfl, w1_3⟩, ⟨_, _, rfl, ⟨a1_4, rfl, w1_4⟩, ⟨_, _, rfl, ⟨a1_5, rfl, w1_5⟩, ⟨_, _, rfl, ⟨a1_6, rfl, w1_6⟩, ⟨_, _, rfl, ⟨a1_7, rfl, w1_7⟩, ⟨_, _, rfl, ⟨a1_8, rfl, w1_8⟩, rfl⟩⟩⟩⟩⟩⟩⟩⟩⟩⟩, h⟩ := h
  obtain rfl := h
  exact l4 ⟨a0_0, a0_1, a0_2, a0_3, a0_4, a0_5, a0_6, a0_7, a0_8⟩ ⟨a1_0, a1_1, a1_2, a1_3, a1_4, a1_5, a1_6, a1_7, a1_8⟩

set_option maxRecDepth 100000 in
theorem lifted (os : Os) (started : os.Started) (H : Type) (enc : TypeId × Value → H) :
    ReturnsInHanded {} Try.checked os 4 .any (Rows.spannerConflictsSpec.pre6 enc Try.prog Try.f4 Rows.spannerConflictsRow.domain false) (Rows.spannerConflictsSpec.post enc Try.prog Try.f4 false true false false) := by
  refine returnsInHanded_of_change (C := Try.checked) own started (by kernel_rfl) Try.func4
    (ChangeSpec.witness6 (enc := enc) (C := Try.checked) false ⟨#[], #[.agg #[.int .i64 0, .int .i64 0, .int .i64 0, .int .i64 0, .int .i64 0, .int .i64 0, .int .i64 0, .int .i64 0, .int .i64 0], .agg #[.int .i64 0, .int .i64 0, .int .i64 0, .int .i64 0, .int .i64 0, .int .i64 0, .int .i64 0, .int .i64 0, .int .i64 0]], []⟩ 8 (by kernel_rfl) (by kernel_rfl) (by kernel_rfl) (by kernel_rfl)) ?_
  intro W base args ds gs before hval hW hcnd _
  refine Ab.law_contract sound (shs := shs) (tb := 4) (by kernel_rfl) (by kernel_rfl) rfl (fun ds hd => ?_) (by kernel_rfl) Try.underlying4 law hval hW
  have hn : ds.length = 2 := hd.trans (by kernel_rfl)
  match ds, hn with
  | [d1, d2], _ => rfl

theorem over : Rows.spannerConflictsRow.holds Try.pinned (OpenSpec.ofChange Rows.spannerConflictsSpec) :=
  OpenClaim.holds_of_wide 4 Try.f4 rfl rfl rfl rfl rfl rfl rfl ⟨rfl, rfl, rfl, rfl, rfl⟩ rfl rfl rfl rfl rfl (by kernel_rfl) Try.func4 (by kernel_rfl)
    (of_decide_eq_true (by kernel_rfl)) (by unfold Func.isWrapper; first | (rw [if_pos (by decide +kernel)]; kernel_rfl) | (rw [if_neg (by decide +kernel)]; exact ⟨rfl, rfl⟩))
    (fun os started H enc _ => lifted os started H enc)

theorem proved : Rows.SpannerConflictsSaid :=
  over
#print axioms proved
end Go.Proofs.Ytfngllcjikmbkaa.spannerConflicts

/-
  For every input the law LinebreakForced returns true, and its arguments read as before. The law's call is told by the abstract machine; no further condition.
-/
import Derived.Test.YtdgifbmimfnmlaaRows
import Derived.Test.YtdgifbmimfnmlaaS32M
import Derived.Test.YtdgifbmimfnmlaaS32K
import Derived.Test.YtdgifbmimfnmlaaAbRow
import Derived.WalkKit
import Derived.ProofKit
import Derived.OpenShut
namespace Go.Proofs.Ytdgifbmimfnmlaa.linebreakForced
open Go.ChangeShapes Go.WideShapes Go.ChangeAt Go.RowKit
set_option linter.unusedVariables false

theorem own : ownKnob Try.prog.godebug = none := by kernel_rfl

def shs : List Ab.Sh := [.mix [.sl [.int .i64, .int .i64, .int .i64, .int .i64, .int .i64], .c (.int .i64), .c (.int .i64)]]

theorem law (args : List Ab.V) (h : Ab.fitsAll shs args) : Ab.call tbl 6 args [] = some (.bool true) := by
  obtain ⟨_, _, rfl, ⟨_, rfl, ⟨a0_0, _, rfl, h0_0, ⟨_, _, rfl, ⟨a0_1, rfl, w0_1⟩, ⟨_, _, rfl, ⟨a0_2, rfl, w0_2⟩, rfl⟩⟩⟩⟩, h⟩ := h
  obtain rfl := h
  obtain ⟨l, hv, hm⟩ := arg5 h0_0
  exact l6 hm hv

set_option maxRecDepth 100000 in
theorem lifted (os : Os) (started : os.Started) (H : Type) (enc : TypeId × Value → H) :
    ReturnsInHanded {} Try.checked os 6 .any (Rows.linebreakForcedSpec.pre6 enc Try.prog Try.f6 Rows.linebreakForcedRow.domain false) (Rows.linebreakForcedSpec.post enc Try.prog Try.f6 false true false false) := by
  refine returnsInHanded_of_change (C := Try.checked) own started (by kernel_rfl) Try.func6
    (ChangeSpec.witness6 (enc := enc) (C := Try.checked) false ⟨#[], #[.agg #[.slice none 0 0, .int .i64 0, .int .i64 0]], []⟩ 8 (by kernel_rfl) (by kernel_rfl) (by kernel_rfl) (by kernel_rfl)) ?_
  intro W base args ds gs before hval hW hcnd _
  refine Ab.law_contract sound (shs := shs) (tb := 4) (by kernel_rfl) (by kernel_rfl) rfl (fun ds hd => ?_) (by kernel_rfl) Try.underlying4 law hval hW
  have hn : ds.length = 1 := hd.trans (by kernel_rfl)
  match ds, hn with
  | [d1], _ => rfl

theorem over : Rows.linebreakForcedRow.holds Try.pinned (OpenSpec.ofChange Rows.linebreakForcedSpec) :=
  OpenClaim.holds_of_wide 6 Try.f6 rfl rfl rfl rfl rfl rfl rfl ⟨rfl, rfl, rfl, rfl, rfl⟩ rfl rfl rfl rfl rfl (by kernel_rfl) Try.func6 (by kernel_rfl)
    (of_decide_eq_true (by kernel_rfl)) (by unfold Func.isWrapper; first | (rw [if_pos (by decide +kernel)]; kernel_rfl) | (rw [if_neg (by decide +kernel)]; exact ⟨rfl, rfl⟩))
    (fun os started H enc _ => lifted os started H enc)

theorem proved : Rows.LinebreakForcedSaid :=
  over
#print axioms proved
end Go.Proofs.Ytdgifbmimfnmlaa.linebreakForced

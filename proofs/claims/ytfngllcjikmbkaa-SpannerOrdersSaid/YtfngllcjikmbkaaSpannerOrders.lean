/-
  For every input the law SpannerOrders returns true, and its arguments read as before. The law's call is told by the abstract machine; no further condition.
-/
import Derived.Test.YtfngllcjikmbkaaRows
import Derived.Test.YtfngllcjikmbkaaS14M
import Derived.Test.YtfngllcjikmbkaaAbRow
import Derived.WalkKit
import Derived.ProofKit
import Derived.OpenShut
namespace Go.Proofs.Ytfngllcjikmbkaa.spannerOrders
open Go.ChangeShapes Go.WideShapes Go.ChangeAt Go.RowKit
set_option linter.unusedVariables false

theorem own : ownKnob Try.prog.godebug = none := by kernel_rfl

def shs : List Ab.Sh := [.sl [.int .i64, .int .i64, .int .i64, .int .i64, .int .i64, .int .i64, .int .i64, .int .i64, .int .i64], .sl [.int .u8]]

theorem law (args : List Ab.V) (h : Ab.fitsAll shs args) : Ab.call tbl 6 args [] = some (.bool true) := by
  obtain ⟨a0, _, rfl, h0, h⟩ := h
  obtain ⟨a1, _, rfl, h1, h⟩ := h
  obtain rfl := h
  obtain ⟨us, hu, hus, hul⟩ := arg_u8 h1
  rcases h0 with rfl | ⟨els, rfl, hlen, hels⟩
  · exact l6n a1
  · obtain ⟨l, rfl⟩ := E9_of els hels
    exact l6 l (by rw [E9_len] at hlen; exact Nat.le_trans hlen (by decide)) hu hus hul

set_option maxRecDepth 100000 in
theorem lifted (os : Os) (started : os.Started) (H : Type) (enc : TypeId × Value → H) :
    ReturnsInHanded {} Try.checked os 6 .any (Rows.spannerOrdersSpec.pre6 enc Try.prog Try.f6 Rows.spannerOrdersRow.domain false) (Rows.spannerOrdersSpec.post enc Try.prog Try.f6 false true false false) := by
  refine returnsInHanded_of_change (C := Try.checked) own started (by kernel_rfl) Try.func6
    (ChangeSpec.witness6 (enc := enc) (C := Try.checked) false ⟨#[], #[.slice none 0 0, .slice none 0 0], []⟩ 8 (by kernel_rfl) (by kernel_rfl) (by kernel_rfl) (by kernel_rfl)) ?_
  intro W base args ds gs before hval hW hcnd _
  refine Ab.law_contract sound (shs := shs) (tb := 4) (by kernel_rfl) (by kernel_rfl) rfl (fun ds hd => ?_) (by kernel_rfl) Try.underlying4 law hval hW
  have hn : ds.length = 2 := hd.trans (by kernel_rfl)
  match ds, hn with
  | [d1, d2], _ => rfl

theorem over : Rows.spannerOrdersRow.holds Try.pinned (OpenSpec.ofChange Rows.spannerOrdersSpec) :=
  OpenClaim.holds_of_wide 6 Try.f6 rfl rfl rfl rfl rfl rfl rfl ⟨rfl, rfl, rfl, rfl, rfl⟩ rfl rfl rfl rfl rfl (by kernel_rfl) Try.func6 (by kernel_rfl)
    (of_decide_eq_true (by kernel_rfl)) (by unfold Func.isWrapper; first | (rw [if_pos (by decide +kernel)]; kernel_rfl) | (rw [if_neg (by decide +kernel)]; exact ⟨rfl, rfl⟩))
    (fun os started H enc _ => lifted os started H enc)

theorem proved : Rows.SpannerOrdersSaid :=
  over
#print axioms proved
end Go.Proofs.Ytfngllcjikmbkaa.spannerOrders

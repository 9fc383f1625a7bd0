/-
  For every input the law LinebreakPrefers returns true, and its arguments read as before. The law's call is told by the abstract machine; no further condition.
-/
import Derived.Test.YtdgifbmimfnmlaaRows
import Derived.Test.YtdgifbmimfnmlaaS32H
import Derived.Test.YtdgifbmimfnmlaaS32K
import Derived.Test.YtdgifbmimfnmlaaAbRow
import Derived.WalkKit
import Derived.ProofKit
import Derived.OpenShut
namespace Go.Proofs.Ytdgifbmimfnmlaa.linebreakPrefers
open Go.ChangeShapes Go.WideShapes Go.ChangeAt Go.RowKit
set_option linter.unusedVariables false

theorem own : ownKnob Try.prog.godebug = none := by kernel_rfl

def shs : List Ab.Sh := [.sl [.int .i64], .sl [.int .i64], .sl [.int .i64]]

theorem law (args : List Ab.V) (h : Ab.fitsAll shs args) : Ab.call tbl 9 args [] = some (.bool true) := by
  obtain ⟨a0, _, rfl, h0, h⟩ := h
  obtain ⟨a1, _, rfl, h1, h⟩ := h
  obtain ⟨a2, _, rfl, h2, h⟩ := h
  obtain rfl := h
  obtain ⟨a, ha, la⟩ := arg1 h0
  obtain ⟨b, hb, lb⟩ := arg1 h1
  obtain ⟨c, hc, lc⟩ := arg1 h2
  exact l9 la lb lc ha hb hc

set_option maxRecDepth 100000 in
theorem lifted (os : Os) (started : os.Started) (H : Type) (enc : TypeId × Value → H) :
    ReturnsInHanded {} Try.checked os 9 .any (Rows.linebreakPrefersSpec.pre6 enc Try.prog Try.f9 Rows.linebreakPrefersRow.domain false) (Rows.linebreakPrefersSpec.post enc Try.prog Try.f9 false true false false) := by
  refine returnsInHanded_of_change (C := Try.checked) own started (by kernel_rfl) Try.func9
    (ChangeSpec.witness6 (enc := enc) (C := Try.checked) false ⟨#[], #[.slice none 0 0, .slice none 0 0, .slice none 0 0], []⟩ 8 (by kernel_rfl) (by kernel_rfl) (by kernel_rfl) (by kernel_rfl)) ?_
  intro W base args ds gs before hval hW hcnd _
  refine Ab.law_contract sound (shs := shs) (tb := 4) (by kernel_rfl) (by kernel_rfl) rfl (fun ds hd => ?_) (by kernel_rfl) Try.underlying4 law hval hW
  have hn : ds.length = 3 := hd.trans (by kernel_rfl)
  match ds, hn with
  | [d1, d2, d3], _ => rfl

theorem over : Rows.linebreakPrefersRow.holds Try.pinned (OpenSpec.ofChange Rows.linebreakPrefersSpec) :=
  OpenClaim.holds_of_wide 9 Try.f9 rfl rfl rfl rfl rfl rfl rfl ⟨rfl, rfl, rfl, rfl, rfl⟩ rfl rfl rfl rfl rfl (by kernel_rfl) Try.func9 (by kernel_rfl)
    (of_decide_eq_true (by kernel_rfl)) (by unfold Func.isWrapper; first | (rw [if_pos (by decide +kernel)]; kernel_rfl) | (rw [if_neg (by decide +kernel)]; exact ⟨rfl, rfl⟩))
    (fun os started H enc _ => lifted os started H enc)

theorem proved : Rows.LinebreakPrefersSaid :=
  over
#print axioms proved
end Go.Proofs.Ytdgifbmimfnmlaa.linebreakPrefers

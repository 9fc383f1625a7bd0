/- For every world and every interval the law ThereAndBack returns true, and its arguments read as before: its call is told by an abstract machine. No condition. -/
import Derived.Test.YtnahpjebkgbedaaGreatRows
import Derived.Test.YtnahpjebkgbedaaGreatM
set_option linter.all false
set_option maxRecDepth 100000
set_option maxHeartbeats 16000000
namespace Go.Proofs.YtnahpjebkgbedaaGreat.thereAndBack
open Go Go.ChangeShapes Go.WideShapes Go.ChangeAt Go.RowKit
theorem own:ownKnob Tryz.prog.godebug=none:=by kernel_rfl
set_option maxRecDepth 100000 in
theorem lifted(os:Os)(started:os.Started)(H:Type)(enc:TypeId×Value->H):
  ReturnsInHanded {} Tryz.checked os 3 .any (Rows.thereAndBackSpec.pre6 enc Tryz.prog Tryz.f3 Rows.thereAndBackRow.domain false) (Rows.thereAndBackSpec.post enc Tryz.prog Tryz.f3 false true false false):=by
 refine returnsInHanded_of_change (C:=Tryz.checked) own started (by kernel_rfl) Tryz.func3
  (ChangeSpec.witness6 (enc:=enc) (C:=Tryz.checked) false ⟨#[],#[.agg #[.slice none 0 0,.slice none 0 0,.slice none 0 0,.bool false],.agg #[.int .i64 0,.int .i64 0]],[]⟩ 8 (by kernel_rfl) (by kernel_rfl) (by kernel_rfl) (by kernel_rfl)) ?_
 intro W base args ds gs before hval hW hcnd _;refine Ht.OZ sound (t1:=26) (t2:=28) (tb:=4) (l1:=lWd) (l2:=lIv) rfl Tryz.underlying26 Tryz.underlying28 (by kernel_rfl) (by kernel_rfl) (by kernel_rfl) rfl (fun ds hd=> ?_) rfl Tryz.underlying4 akd hval hW;have hn:ds.length=2:=hd
 match ds,hn with
 |[d1,d2],_=>rfl
theorem apV{a b:Bool}(h:a=true)(g:b=true):(a&&b)=true:=by simp[h,g]
theorem apW:joinedFacts Tryz.pinned.checked.prog 3 Tryz.f3 Rows.thereAndBackSpec Rows.thereAndBackRow=true:=by
 unfold joinedFacts
 iterate 23 refine apV ?_ (by as_aux_lemma=>kernel_rfl)
 as_aux_lemma=>kernel_rfl
theorem over:Rows.thereAndBackRow.holds Tryz.pinned (OpenSpec.ofChange Rows.thereAndBackSpec):=
 OpenClaim.holds_of_wide 3 Tryz.f3 rfl rfl rfl rfl rfl rfl rfl ⟨rfl,rfl,rfl,rfl,rfl⟩ rfl rfl rfl rfl rfl (by kernel_rfl) Tryz.func3 apW
  (of_decide_eq_true (by kernel_rfl)) (by unfold Func.isWrapper;first|(rw[aX (by decide+kernel)];kernel_rfl)|(rw[aP (by decide+kernel)];exact⟨rfl,rfl⟩))
  (fun os started H enc _=>lifted os started H enc)
theorem proved:Rows.ThereAndBackSaid:=
 over
end Go.Proofs.YtnahpjebkgbedaaGreat.thereAndBack

/-
  The machine's functions on values, as equations one a constructor: where the value isn't known nothing is unfolded.
-/
import Derived.Test.YtfngllcjikmbkaaAbAcc
namespace Go.Ab
open Go Go.RowKit
set_option linter.unusedVariables false
set_option linter.unnecessarySimpa false
set_option linter.unusedSimpArgs false

section
variable {sz sz' : Nat} {els : List (List V)} {n : Int} {kd : IntKind} {d s ver off len : Nat}
theorem len_nil : lenV .nilsl = some (.i 0) := rfl
theorem len_any : lenV (.sl .any sz els) = some (.i (els.length : Nat)) := rfl
theorem len_full : lenV (.sl .full sz els) = some (.i (els.length : Nat)) := rfl
theorem len_ref : lenV (.ref d s ver sz off len) = some (.i (len : Nat)) := rfl
theorem el_any : elemV sz (.sl .any sz' els) (.int kd n) = if sz' = sz ∧ 0 ≤ n then (els[n.toNat]?).map fun e => .eptr e 0 else none := by simp [elemV]
theorem el_full : elemV sz (.sl .full sz' els) (.int kd n) = if sz' = sz ∧ 0 ≤ n then (els[n.toNat]?).map fun e => .eptr e 0 else none := by simp [elemV]
theorem el_ref : elemV sz (.ref d s ver sz' off len) (.int kd n) = if sz' = sz ∧ 0 ≤ n ∧ n < len then some (.ptr d s ver (off + n.toNat) 0) else none := rfl
end

section
variable {L : List Row} {s sz k : Nat} {els : List (List V)} {keep : Bool} {b : Bool} {kd : IntKind} {n : Int} {t : ByteArray} {vs cs : List V} {v : V} {f : FuncId} {d s' ver i off len : Nat}
theorem ti_own_f : takeIn false L s (.sl .own sz els) = (.sl .any sz els, L) := rfl
theorem ti_own_t : takeIn true L s (.sl .own sz els) = (.ref 0 s ((rget L s).ver + 1) sz 0 els.length, rset L s ⟨(rget L s).ver + 1, sz, els⟩) := rfl
theorem ti_any : takeIn keep L s (.sl .any sz els) = (.sl .any sz els, L) := rfl
theorem ti_full : takeIn keep L s (.sl .full sz els) = (.sl .full sz els, L) := rfl
theorem ti_bool : takeIn keep L s (.bool b) = (.bool b, L) := rfl
theorem ti_int : takeIn keep L s (.int kd n) = (.int kd n, L) := rfl
theorem ti_str : takeIn keep L s (.str t) = (.str t, L) := rfl
theorem ti_nilsl : takeIn keep L s .nilsl = (.nilsl, L) := rfl
theorem ti_nilptr : takeIn keep L s .nilptr = (.nilptr, L) := rfl
theorem ti_nilfn : takeIn keep L s .nilfn = (.nilfn, L) := rfl
theorem ti_fn : takeIn keep L s (.fn f cs) = (.fn f cs, L) := rfl
theorem ti_agg : takeIn keep L s (.agg cs) = (.agg cs, L) := rfl
theorem ti_ref : takeIn keep L s (.ref d s' ver sz off len) = (.ref d s' ver sz off len, L) := rfl
theorem ti_ptr : takeIn keep L s (.ptr d s' ver i off) = (.ptr d s' ver i off, L) := rfl
theorem ti_tup0 : takeIn keep L s (.tup []) = (.tup [], L) := rfl
theorem ti_tup_own_f : takeIn false L s (.tup (.sl .own sz els :: vs)) = (.tup (.sl .any sz els :: vs.map Ab.settle), L) := rfl
theorem ti_tup_own_t : takeIn true L s (.tup (.sl .own sz els :: vs)) = (.tup (.ref 0 s ((rget L s).ver + 1) sz 0 els.length :: vs.map Ab.settle), rset L s ⟨(rget L s).ver + 1, sz, els⟩) := rfl
theorem ti_tup_any : takeIn keep L s (.tup (.sl .any sz els :: vs)) = (.tup ((.sl .any sz els :: vs).map Ab.settle), L) := rfl
theorem ti_tup_full : takeIn keep L s (.tup (.sl .full sz els :: vs)) = (.tup ((.sl .full sz els :: vs).map Ab.settle), L) := rfl
theorem ti_tup_bool : takeIn keep L s (.tup (.bool b :: vs)) = (.tup ((.bool b :: vs).map Ab.settle), L) := rfl
theorem ti_tup_int : takeIn keep L s (.tup (.int kd n :: vs)) = (.tup ((.int kd n :: vs).map Ab.settle), L) := rfl
theorem ti_tup_str : takeIn keep L s (.tup (.str t :: vs)) = (.tup ((.str t :: vs).map Ab.settle), L) := rfl
theorem ti_tup_nilsl : takeIn keep L s (.tup (.nilsl :: vs)) = (.tup ((.nilsl :: vs).map Ab.settle), L) := rfl
theorem ti_tup_agg : takeIn keep L s (.tup (.agg cs :: vs)) = (.tup ((.agg cs :: vs).map Ab.settle), L) := rfl
theorem ti_tup_fn : takeIn keep L s (.tup (.fn f cs :: vs)) = (.tup ((.fn f cs :: vs).map Ab.settle), L) := rfl

theorem st_own : Ab.settle (.sl .own sz els) = .sl .any sz els := rfl
theorem st_any : Ab.settle (.sl .any sz els) = .sl .any sz els := rfl
theorem st_full : Ab.settle (.sl .full sz els) = .sl .full sz els := rfl
theorem st_bool : Ab.settle (.bool b) = .bool b := rfl
theorem st_int : Ab.settle (.int kd n) = .int kd n := rfl
theorem st_str : Ab.settle (.str t) = .str t := rfl
theorem st_nilsl : Ab.settle .nilsl = .nilsl := rfl
theorem st_nilptr : Ab.settle .nilptr = .nilptr := rfl
theorem st_nilfn : Ab.settle .nilfn = .nilfn := rfl
theorem st_fn : Ab.settle (.fn f cs) = .fn f cs := rfl
theorem st_agg : Ab.settle (.agg cs) = .agg cs := rfl
theorem st_ref : Ab.settle (.ref d s' ver sz off len) = .ref d s' ver sz off len := rfl
theorem st_ptr : Ab.settle (.ptr d s' ver i off) = .ptr d s' ver i off := rfl

theorem ov_any : outV L (.sl .any sz els) = some (.sl .any sz els) := by simp [outV]
theorem ov_full : outV L (.sl .full sz els) = some (.sl .full sz els) := by simp [outV]
theorem ov_bool : outV L (.bool b) = some (.bool b) := rfl
theorem ov_int : outV L (.int kd n) = some (.int kd n) := rfl
theorem ov_str : outV L (.str t) = some (.str t) := rfl
theorem ov_nilsl : outV L .nilsl = some .nilsl := rfl
theorem ov_nilptr : outV L .nilptr = some .nilptr := rfl
theorem ov_nilfn : outV L .nilfn = some .nilfn := rfl
theorem ov_fn0 : outV L (.fn f []) = some (.fn f []) := rfl
theorem ov_agg : outV L (.agg cs) = if cs.all V.pure then some (.agg cs) else none := rfl
theorem ov_ref0 : outV L (.ref 0 s' ver sz off len) = if (rget L s').ver = ver ∧ 0 < ver ∧ off = 0 ∧ len = (rget L s').els.length ∧ 0 < (rget L s').sz ∧ (rget L s').els.all (fun e => e.all V.pure) then some (.sl .own (rget L s').sz (rget L s').els) else none := rfl
theorem ov_refS : outV L (.ref (d + 1) s' ver sz off len) = some (.ref d s' ver sz off len) := rfl
theorem fn_some {us : List V} : fin2 L vs (some us) = if ownsLast us then some (tupOf us) else finF L vs := rfl
theorem fn_none : fin2 L vs none = finF L vs := rfl
theorem fz_nil : frzDs L [] = some ([], L) := rfl
theorem fz_cons : frzDs L (v :: vs) = (frzD L v).bind fun r => (frzDs r.2 vs).map fun q => (r.1 :: q.1, q.2) := rfl
theorem fz_lnil : frzL L [] = some ([], L) := rfl
theorem fz_lcons : frzL L (v :: vs) = (frzV L v).bind fun r => (frzL r.2 vs).map fun q => (r.1 :: q.1, q.2) := rfl
theorem fz_agg : frzD L (.agg cs) = (frzL L cs).map fun r => (.agg r.1, r.2) := rfl
theorem fz_any : frzD L (.sl .any sz els) = some (.sl .any sz els, L) := rfl
theorem fz_full : frzD L (.sl .full sz els) = some (.sl .full sz els, L) := rfl
theorem fz_bool : frzD L (.bool b) = some (.bool b, L) := rfl
theorem fz_int : frzD L (.int kd n) = some (.int kd n, L) := rfl
theorem fz_str : frzD L (.str t) = some (.str t, L) := rfl
theorem fz_nilsl : frzD L .nilsl = some (.nilsl, L) := rfl
theorem fz_nilptr : frzD L .nilptr = some (.nilptr, L) := rfl
theorem fz_ref0 : frzD L (.ref 0 s' ver sz off len) = if (rget L s').ver = ver ∧ 0 < ver ∧ off + len ≤ (rget L s').els.length ∧ (rget L s').els.all (fun e => e.all V.pure) then some (.sl .any sz (((rget L s').els.drop off).take len), rset L s' ⟨ver + 1, 0, []⟩) else none := rfl
theorem fz_vany : frzV L (.sl .any sz els) = some (.sl .any sz els, L) := rfl
theorem fz_vfull : frzV L (.sl .full sz els) = some (.sl .full sz els, L) := rfl
theorem fz_vbool : frzV L (.bool b) = some (.bool b, L) := rfl
theorem fz_vint : frzV L (.int kd n) = some (.int kd n, L) := rfl
theorem fz_vstr : frzV L (.str t) = some (.str t, L) := rfl
theorem fz_vnilsl : frzV L .nilsl = some (.nilsl, L) := rfl
theorem fz_vnilptr : frzV L .nilptr = some (.nilptr, L) := rfl
theorem fz_vref0 : frzV L (.ref 0 s' ver sz off len) = if (rget L s').ver = ver ∧ 0 < ver ∧ off + len ≤ (rget L s').els.length ∧ (rget L s').els.all (fun e => e.all V.pure) then some (.sl .any sz (((rget L s').els.drop off).take len), rset L s' ⟨ver + 1, 0, []⟩) else none := rfl
theorem fz_rnil : frzRs L [] = some ([], L) := rfl
theorem fz_rcons : frzRs L (v :: vs) = (frzR L v).bind fun r => (frzRs r.2 vs).map fun q => (r.1 :: q.1, q.2) := rfl
theorem fz_cnil : frzC L [] = some ([], L) := rfl
theorem fz_ccons : frzC L (v :: vs) = (frzPt L v).bind fun r => (frzC r.2 vs).map fun q => (r.1 :: q.1, q.2) := rfl
theorem fz_rfn : frzR L (.fn f cs) = (frzC L cs).map fun r => (.fn f r.1, r.2) := rfl
theorem fz_ragg : frzR L (.agg cs) = frzD L (.agg cs) := rfl
theorem fz_rsl {k : SK} : frzR L (.sl k sz els) = frzD L (.sl k sz els) := rfl
theorem fz_rbool : frzR L (.bool b) = frzD L (.bool b) := rfl
theorem fz_rint : frzR L (.int kd n) = frzD L (.int kd n) := rfl
theorem fz_rstr : frzR L (.str t) = frzD L (.str t) := rfl
theorem fz_rnilsl : frzR L .nilsl = frzD L .nilsl := rfl
theorem fz_rnilptr : frzR L .nilptr = frzD L .nilptr := rfl
theorem fz_rref : frzR L (.ref d s' ver sz off len) = frzD L (.ref d s' ver sz off len) := rfl
theorem fz_rptr : frzR L (.ptr d s' ver i off) = frzD L (.ptr d s' ver i off) := rfl
theorem fz_pptr : frzPt L (.ptr 0 s' ver i off) = if (rget L s').ver = ver ∧ 0 < ver ∧ (rget L s').els.all (fun e => e.all V.pure) then ((rget L s').els[i]?).map fun e => (.eptr e off, rset L s' ⟨ver + 1, 0, []⟩) else none := rfl
theorem ov_fnS : outV L (.fn f cs) = if cs.all V.calm then some (.fn f cs) else none := rfl
theorem ov_ptrS : outV L (.ptr (d + 1) s' ver i off) = some (.ptr d s' ver i off) := rfl
end

end Go.Ab

/- Part of the proof of ThereAndBack: an abstract machine for the program, and what relates it to the model. No condition. -/
import Derived.WalkKit
import Derived.Scope
import Derived.LoopN
import Derived.Orders
import Derived.Deep.AppendSrc
import Derived.Deep.Upon
import Derived.Test.YtnahpjebkgbedaaGreatChecked
import Derived.ProofKit
import Derived.OpenShut
import Derived.Below
import Derived.ChangeCalls
import Derived.RangeFuncNested
import Derived.RangeFuncBound
import Derived.RangeFuncCalls
import Derived.RangeFuncLeaves
import Derived.Shelf.Abstract
import Derived.OwnWalkIn
import Derived.TacticsInMore
import Derived.LoopNIn
import Derived.LoopIn
import Derived.Maps.AppendAt
import Derived.Laws.IdiomStrings
import Derived.Shelf.RegionOpen
import Derived.Test.YtnahpjebkgbedaaGreatRows
set_option linter.all false
set_option maxRecDepth 100000
set_option maxHeartbeats 16000000
abbrev GM:=@Go.AllReadyIn.cons
abbrev Ls:=@Go.AllReadyIn.nil
abbrev jQ:=@Array.eq_empty_of_size_eq_zero
abbrev dO:=@Array.getD_eq_getD_getElem?
abbrev eB:=@Array.getElem?_eq_getElem
abbrev ic:=@Array.getElem?_eq_some_iff
abbrev bQ:=@Array.length_toList
abbrev gQ:=@Array.replicate_succ
abbrev gT:=@Array.replicate_zero
abbrev jr:=@Array.toArray_toList
abbrev iI:=@Go.RowKit.Below.heap_alloc
abbrev pz:=@Go.RowKit.Below.heap_setCell
abbrev jh:=@Go.RowKit.Below.refl
abbrev aH:=@Bool.and_eq_true
abbrev mh:=@Bool.and_false
abbrev bR:=@Bool.and_self
abbrev jK:=@Bool.and_true
abbrev Jf:=@Bool.eq_false_iff
abbrev iW:=@Bool.false_and
abbrev bq:=@Bool.false_eq_true
abbrev iK:=@Bool.false_or
abbrev ou:=@Bool.not_eq_false
abbrev xI:=@Bool.not_eq_true
abbrev ry:=@Bool.not_eq_true'
abbrev nT:=@Bool.not_false
abbrev nL:=@Bool.not_true
abbrev Di:=@Bool.or_eq_false_iff
abbrev fI:=@Bool.or_eq_true
abbrev yR:=@Bool.or_false
abbrev l9:=@Bool.true_and
abbrev yQ:=@Bool.true_eq_false
abbrev vO:=@Int.toNat_natCast
abbrev mi:=@Go.KeepsOthers.setCell
abbrev rz:=@List.all_append
abbrev aZ:=@List.all_cons
abbrev aV:=@List.all_eq_true
abbrev vk:=@List.all_map
abbrev cB:=@List.all_nil
abbrev iN:=@List.any_eq_false
abbrev fe:=@List.any_eq_true
abbrev aC:=@List.append_assoc
abbrev bz:=@List.append_nil
abbrev iF:=@List.append_toArray
abbrev aW:=@List.cons_append
abbrev ve:=@List.countP_singleton
abbrev sZ:=@List.drop_append_of_le_length
abbrev jm:=@List.drop_drop
abbrev gv:=@List.drop_eq_getElem_cons
abbrev dZ:=@List.drop_length
abbrev NW:=@List.drop_of_length_le
abbrev A9:=@List.drop_take
abbrev dH:=@List.drop_zero
abbrev mV:=@List.eq_nil_of_length_eq_zero
abbrev mP:=@List.eq_of_mem_replicate
abbrev LD:=@List.eraseIdx_cons_succ
abbrev H8:=@List.exists_mem_of_ne_nil
abbrev vN:=@List.ext_getElem?
abbrev bH:=@List.flatMap_append
abbrev GL:=@List.flatMap_assoc
abbrev bF:=@List.flatMap_cons
abbrev CX:=@List.flatMap_map
abbrev dK:=@List.flatMap_nil
abbrev lS:=@List.flatten_append
abbrev vM:=@List.flatten_cons
abbrev kG:=@List.foldl_append
abbrev jG:=@List.foldl_cons
abbrev EE:=@List.getD_cons_zero
abbrev fA:=@List.getD_eq_getElem?_getD
abbrev jW:=@List.getElem?_append_left
abbrev jb:=@List.getElem?_append_right
abbrev di:=@List.getElem?_cons_succ
abbrev dI:=@List.getElem?_cons_zero
abbrev iU:=@List.getElem?_drop
abbrev ak:=@List.getElem?_eq_getElem
abbrev dL:=@List.getElem?_eq_none
abbrev jX:=@List.getElem?_eq_none_iff
abbrev au:=@List.getElem?_eq_some_iff
abbrev aK:=@List.getElem?_map
abbrev gu:=@List.getElem?_mapIdx
abbrev EG:=@List.getElem?_range
abbrev GK:=@List.getElem?_take
abbrev fQ:=@List.getElem?_take_of_lt
abbrev qb:=@List.getElem_mem
abbrev aF:=@List.length_append
abbrev aS:=@List.length_cons
abbrev eY:=@List.length_drop
abbrev eF:=@List.length_eq_zero_iff
abbrev sP:=@List.length_flatten
abbrev aG:=@List.length_map
abbrev dJ:=@List.length_mapIdx
abbrev ek:=@List.length_nil
abbrev dB:=@List.length_pos_iff
abbrev Jd:=@List.length_range
abbrev bf:=@List.length_take
abbrev kX:=@List.mapIdx_cons
abbrev aR:=@List.map_append
abbrev sS:=@List.map_congr_left
abbrev bO:=@List.map_cons
abbrev kC:=@List.map_eq_nil_iff
abbrev jy:=@List.map_map
abbrev dX:=@List.map_nil
abbrev yO:=@List.map_replicate
abbrev dx:=@List.mem_append
abbrev rq:=@List.mem_append_left
abbrev Bl:=@List.mem_append_right
abbrev ed:=@List.mem_cons
abbrev dD:=@List.mem_cons_of_mem
abbrev gH:=@List.mem_cons_self
abbrev mW:=@List.mem_flatMap
abbrev tq:=@List.mem_flatten
abbrev gP:=@List.mem_iff_getElem
abbrev dQ:=@List.mem_map
abbrev vt:=@List.mem_mapIdx
abbrev ah:=@List.mem_of_getElem?
abbrev fH:=@List.mem_of_mem_take
abbrev nU:=@List.mem_range
abbrev dA:=@List.mem_singleton
abbrev dm:=@List.nil_append
abbrev jI:=@List.not_mem_nil
abbrev qI:=@List.pairwise_iff_getElem
abbrev yS:=@List.prefix_append
abbrev jo:=@List.push_toArray
abbrev gK:=@List.range_succ
abbrev ED:=@List.replicate_succ
abbrev uu:=@List.set_cons_succ
abbrev yP:=@List.set_cons_zero
abbrev fT:=@List.size_toArray
abbrev kQ:=@List.sum_append
abbrev sQ:=@List.sum_cons
abbrev uk:=@List.sum_replicate_nat
abbrev aY:=@List.take_add_one
abbrev mq:=@List.take_append_drop
abbrev gm:=@List.take_append_of_le_length
abbrev aT:=@List.take_length
abbrev aO:=@List.take_of_length_le
abbrev lQ:=@List.take_succ_cons
abbrev nQ:=@List.take_take
abbrev fZ:=@List.take_zero
abbrev jd:=@Nat.add_assoc
abbrev nO:=@Nat.add_comm
abbrev uZ:=@Nat.add_mul
abbrev nR:=@Nat.add_zero
abbrev EF:=@Nat.le_max_left
abbrev CW:=@Nat.le_max_right
abbrev xN:=@Nat.le_of_lt
abbrev aJ:=@Nat.le_refl
abbrev eO:=@Nat.le_trans
abbrev uq:=@Nat.lt_of_lt_of_le
abbrev jq:=@Nat.lt_or_ge
abbrev p9:=@Nat.lt_succ_self
abbrev eH:=@Nat.min_eq_left
abbrev H9:=@Nat.mul_le_mul
abbrev ny:=@Nat.mul_le_mul_right
abbrev fJ:=@Nat.one_ne_zero
abbrev Bj:=@Nat.sub_self
abbrev jF:=@Nat.succ_mul
abbrev eZ:=@Nat.succ_ne_self
abbrev jA:=@Nat.succ_pos
abbrev dV:=@Nat.zero_add
abbrev ku:=@Nat.zero_le
abbrev Bi:=@Nat.zero_mul
abbrev fK:=@Nat.zero_ne_one
abbrev wy:=@Go.Oper.semAt_some
abbrev aj:=@Option.bind_eq_some_iff
abbrev bG:=@Option.bind_some
abbrev xJ:=@Option.getD_none
abbrev dU:=@Option.getD_some
abbrev ae:=@Option.map_eq_some_iff
abbrev aU:=@Option.map_some
abbrev iL:=@Option.some.inj
abbrev aA:=@Option.some.injEq
abbrev eQ:=@Option.toList_some
abbrev uh:=@Go.OwnFrom.and
abbrev aN:=@Prod.mk.injEq
abbrev aQ:=@Go.Result.andThen_ok
abbrev bJ:=@Go.Sem.run_bind
abbrev dz:=@Go.Sem.run_pure
abbrev jD:=@Go.World.alloc_heap_new
abbrev Bc:=@and_self
abbrev AP:=@beq_iff_eq
abbrev eU:=@congrArg
abbrev fB:=@decide_eq_false
abbrev je:=@decide_eq_false_iff_not
abbrev dW:=@decide_eq_true
abbrev bN:=@decide_eq_true_eq
abbrev ru:=@eq_false
abbrev bZ:=@if_false
abbrev aP:=@if_neg
abbrev aX:=@if_pos
abbrev bK:=@if_true
abbrev Je:=@not_false_eq_true
abbrev oq:=@not_true_eq_false
abbrev Be:=@or_false
namespace Go.Ht
open Go
inductive SK where
 |any|full|own
 deriving DecidableEq
inductive Ix where
 |o (n:Nat)
 |g (n:Nat)
 deriving DecidableEq
instance:OfNat Ix 0:=⟨.o 0⟩
theorem Ix.pos{n:Nat}(h:0<n):Ix.o n≠0:=by
 intro e;have:n=0:=by injection e
 omega
theorem Ix.NY{n:Nat}:Ix.o n=0↔n=0:=⟨fun e=>by injection e,fun e=>by rw[e];rfl⟩
inductive V where
 |bool (b:Bool)
 |int (k:IntKind) (n:Int)
 |str (s:ByteArray)
 |nA
 |ptr (d:Nat) (s:Ix) (ver i off:Nat)
 |eptr (e:List V) (off:Nat)
 |aL
 |sl (k:SK) (sz:Nat) (els:List (List V))
 |ref (d:Nat) (s:Ix) (ver sz off len:Nat)
 |fn (f:FuncId) (caps:List V)
 |pO
 |agg (cs:List V)
 |eT (vs:List V)
 |undef
 |mp (d:Nat) (s:Ix) (ver:Nat)
 |nW
 |mth (f:FuncId) (first:List V)
abbrev V.i(n:Int):V:= .int .i64 n
structure Row where
 ver:Nat
 sz:Nat
 els:List (List V)
 fz:Bool
structure Mem where
 D:List Row
 O:List Row
 b:Nat
inductive LK where
 |bool|int|str
 deriving DecidableEq
inductive MK where
 |int|str|bool
 |agg (lay:List LK)
 deriving DecidableEq
inductive Arg where
 |t (i:Nat)
 |c (v:V)
inductive gJ where
 |mv (x:Arg)
 |pick (c a b:Arg)
 |bin (op:BinOp) (x y:Arg)
 |eqb (ne:Bool) (x y:Arg)
 |eqagg (lay:List LK) (ne:Bool) (x y:Arg)
 |not (x:Arg)
 |neg (x:Arg)
 |conv (k:IntKind) (x:Arg)
 |alloc (site:Nat) (zero:List V)
 |box (site:Nat) (x:Arg)
 |build (zero:List V) (parts:List (Nat×Nat×Arg))
 |lit (fu:Bool) (sz:Nat) (zero:List V) (len:Nat) (parts:List (Nat×Nat×Arg))
 |load (isAgg:Bool) (n:Nat) (x:Arg)
 |store (n:Nat) (x v:Arg)
 |fieldAddr (off:Nat) (x:Arg)
 |vw (sz:Nat) (x i:Arg)
 |NZ (len sz:Nat) (x i:Arg)
 |idx (len sz:Nat) (isAgg:Bool) (x i:Arg)
 |SG (x i:Arg)
 |sub (sz:Nat) (x:Arg) (lo hi mx:Option Arg)
 |strSub (x:Arg) (lo hi:Option Arg)
 |len (x:Arg)
 |agA (x:Arg)
 |app (site sz bytes:Nat) (x y:Arg)
 |ext (x:Arg) (i:Nat)
 |call (f:Arg) (args:List Arg)
 |mkfn (f:FuncId) (caps:List Arg)
 |mks (site sz:Nat) (zero:List V) (bytes:Nat) (len cap:Arg)
 |mm (mx:Bool) (xs:List Arg)
 |nilck (x:Arg)
 |litf (sh:Bool) (sz:Nat) (zero:List V) (len:Nat) (parts:List (Nat×Nat×Arg))
 |YE (isAgg:Bool) (n:Nat) (x:Arg)
 |mkmap (site:Nat)
 |SH (k:MK) (ok:Bool) (zero:V) (x i:Arg)
 |mput (k:MK) (x i v:Arg)
 |mins (k:MK) (x i v:Arg)
 |galloc (zero:List V)
 |gbox (x:Arg)
 |gmks (sz:Nat) (zero:List V) (bytes:Nat) (len cap:Arg)
 |gmkmap
 |litr (site sz:Nat) (zero:List V) (len:Nat) (parts:List (Nat×Nat×Arg))
 |clr (sz:Nat) (zero:List V) (x:Arg)
 |YF (ne:Bool) (x:Arg)
 |mkmth (f:FuncId) (first:List Arg)
 |allocd (site:Nat) (zero:List V)
 |calla (fz gl:Bool) (site:Nat) (f:Arg) (args:List Arg)
 |bad
structure bL where
 dst:Option Nat
 op:gJ
 guard:Option (Nat×Bool)
inductive eu where
 |skip
 |region (afs:List Ix) (pre:List (Nat×List V)) (ops:List bL) (Sr:List (Nat×Nat))
 |seq (a b:eu)
 |cond (c:Arg) (thn els:eu)
 |block (id:Nat) (body:eu)
 |loop (body:eu)
 |exit (id:Nat)
 |scope (body:eu)
 |ret
inductive sU where
 |tmp (t:Nat)
 |cell (t:Nat) (isAgg:Bool) (n:Nat)
structure uw where
 pm:Bool
 results:List sU
 code:eu
inductive Aq where
 |normal
 |exit (id:Nat)
 |ret
def ag:List V->Nat->V
 |[],_=> .undef
 |v::_,0=>v
 |_::l,n+1=>ag l n
def set:List V->Nat->V->List V
 |[],0,v=>[v]
 |[],n+1,v=> .undef::set [] n v
 |_::l,0,v=>v::l
 |a::l,n+1,v=>a::set l n v
def eP:List Row->Nat->Row
 |[],_=>⟨0,0,[],false⟩
 |r::_,0=>r
 |_::l,n+1=>eP l n
def dE:List Row->Nat->Row->List Row
 |[],0,r=>[r]
 |[],n+1,r=>⟨0,0,[],false⟩::dE [] n r
 |_::l,0,r=>r::l
 |a::l,n+1,r=>a::dE l n r
def ax(L:Mem):Ix->Row
 | .o n=>eP L.O n
 | .g n=>eP L.D n
def bu(L:Mem)(s:Ix)(r:Row):Mem:=
 match s with
 | .o n=>{L with O:=dE L.O n r}
 | .g n=>{L with D:=dE L.D n r}
def Mem.ok(L:Mem)(s:Ix):Bool:=
 !(ax L s).fz&&match s with
 | .o _=>true
 | .g n=>decide (L.b<=n)
def fq(L:Mem):Nat->Ix
 |0=> .g L.D.length
 |n+1=> .o (n+1)
theorem qJ(l:List V)(i j:Nat)(v:V):ag (set l i v) j=if i=j then v else ag l j:=by
 induction l generalizing i j with
 |nil=>
  induction i generalizing j with
  |zero=>cases j<;>simp[set,ag]
  |succ i c=>cases j<;>simp_all [set,ag]
 |cons a l c=>cases i<;>cases j<;>simp_all [set,ag]
theorem cK(l:List Row)(i j:Nat)(r:Row):eP (dE l i r) j=if i=j then r else eP l j:=by
 induction l generalizing i j with
 |nil=>
  induction i generalizing j with
  |zero=>cases j<;>simp[dE,eP]
  |succ i c=>cases j<;>simp_all [dE,eP]
 |cons a l c=>cases i<;>cases j<;>simp_all [dE,eP]
theorem rA(l:List Row){j:Nat}(h:l.length<=j):eP l j=⟨0,0,[],false⟩:=by
 induction l generalizing j with
 |nil=>cases j<;>rfl
 |cons a l c=>
  cases j with
  |zero=>simp at h
  |succ j=>exact c (by simpa using h)
theorem ay(l:Mem)(i j:Ix)(r:Row):ax (bu l i r) j=if i=j then r else ax l j:=by
 cases i<;>cases j<;>simp[ax,bu,cK]
@[simp] theorem eG(l:Mem)(i:Ix)(r:Row):(bu l i r).b=l.b:=by cases i<;>rfl
def V.acG:V->Bool
 | .aL=>true
 |_=>false
def V.cells:V->List V
 | .agg cs=>cs
 |v=>[v]
def V.scalar:V->Bool
 | .agg _| .eT _| .undef=>false
 |_=>true
mutual
def V.pure:V->Bool
 | .bool _| .int _ _| .str _| .nA| .aL| .pO| .nW=>true
 | .sl k _ els=>k != .own&&V.qZ els
 |_=>false
def V.EH:List V->Bool
 |[]=>true
 |v::l=>V.pure v&&V.EH l
def V.qZ:List (List V)->Bool
 |[]=>true
 |e::l=>V.EH e&&V.qZ l
end
theorem V.wY:∀l:List V,V.EH l=l.all V.pure
 |[]=>rfl
 |v::l=>by simp only[V.EH,aZ,V.wY l]
theorem V.mM:∀l:List (List V),V.qZ l=l.all fun e=>e.all V.pure
 |[]=>rfl
 |v::l=>by simp only[V.qZ,aZ,V.mM l,V.wY v]
theorem V.N7(k:SK)(sz:Nat)(els:List (List V)):V.pure (.sl k sz els)=(k != .own&&els.all fun e=>e.all V.pure):=by rw[V.pure,V.mM]
def V.gL:V->Bool
 | .ptr 0 (.g _) _ _ _| .ref 0 (.g _) _ _ _ _| .mp 0 (.g _) _| .eptr _ _=>true
 | .bool _| .int _ _| .str _| .nA| .aL| .pO| .nW=>true
 | .sl k _ _=>k != .own
 |_=>false
def V.qW:V->Bool
 | .fn _ caps| .mth _ caps=>caps.all V.gL
 | .agg cs=>cs.all V.gL
 |v=>v.gL
def uP(s:Ix)(p:List V):Bool:=
 p.all V.scalar&&match s with
 | .o _=>true
 | .g _=>p.all V.qW
def Qo(s:Ix)(k v:V):Bool:=
 match s with
 | .o _=>true
 | .g _=>k.qW&&v.qW
def V.calm:V->Bool
 | .eptr e _=>e.all V.pure
 |v=>v.pure
mutual
def V.shift(d:Nat):V->V
 | .ptr e (.o s) ver i off=> .ptr (e+d) (.o s) ver i off
 | .ref e (.o s) ver sz off len=> .ref (e+d) (.o s) ver sz off len
 | .mp e (.o s) ver=> .mp (e+d) (.o s) ver
 | .fn f caps=> .fn f (V.bW d caps)
 | .mth f caps=> .mth f (V.bW d caps)
 | .agg cs=> .agg (V.bW d cs)
 | .eT vs=> .eT (V.bW d vs)
 |v=>v
def V.bW(d:Nat):List V->List V
 |[]=>[]
 |v::l=>V.shift d v::V.bW d l
end
def asB:V->Option Bool
 | .bool b=>some b
 |_=>none
def ev(fr:List V):Arg->V
 | .t i=>ag fr i
 | .c v=>v
def UY(fr:List V):List Arg->List V
 |[]=>[]
 |x::l=>ev fr x::UY fr l
def tC(op:BinOp)(k:IntKind)(x y:Int):Option V:=
 match op with
 | .add=>some (.int k (k.wrap (x+y)))
 | .sub=>some (.int k (k.wrap (x-y)))
 | .mul=>some (.int k (k.wrap (x*y)))
 | .quo=>if y=0 then none else some (.int k (k.wrap (x.tdiv y)))
 | .rem=>if y=0 then none else some (.int k (x.tmod y))
 | .and=>some (.int k (k.wrap (BitVec.ofInt k.bits x&&&BitVec.ofInt k.bits y).toNat))
 | .eql=>some (.bool (decide (x=y)))
 | .neq=>some (.bool (!decide (x=y)))
 | .lss=>some (.bool (decide (x<y)))
 | .leq=>some (.bool (decide (x<=y)))
 | .gtr=>some (.bool (decide (y<x)))
 | .geq=>some (.bool (decide (y<=x)))
 |_=>none
def Jg(op:BinOp)(k:IntKind)(x y:Int):Option V:=
 if y<0 then none else
 match op with
 | .shl=>some (.int k (k.wrap (x*2^min y.toNat k.bits)))
 | .shr=>some (.int k (x.fdiv (2^min y.toNat k.bits)))
 |_=>none
def SI(op:BinOp)(x y:ByteArray):Option V:=
 match op with
 | .add=>if x.size+y.size<=9223372036854775807 then some (.str (x++y))else none
 | .eql=>some (.bool (x.toList==y.toList))
 | .neq=>some (.bool (!(x.toList==y.toList)))
 |_=>none
def oW(op:BinOp):V->V->Option V
 | .int k x,.int k' y=>
  if op= .shl∨op= .shr then Jg op k x y
  else if k=k' then tC op k x y else none
 | .str x,.str y=>SI op x y
 |_,_=>none
def dN:List LK->List V->List V->Option Bool
 |[],[],[]=>some true
 | .bool::t,.bool x::l,.bool y::m=>(dN t l m).map ((x==y)&&·)
 | .int::t,.int k x::l,.int k' y::m=>if k=k' then(dN t l m).map (decide (x=y)&&·)else none
 | .str::t,.str x::l,.str y::m=>(dN t l m).map ((x.toList==y.toList)&&·)
 |_,_,_=>none
def qc(cs:List V)(off:Nat)(p:List V):List V:=cs.take off++p++cs.drop (off+p.length)
def wz(fr:List V):List V->List (Nat×Nat×Arg)->Option (List V)
 |cs,[]=>some cs
 |cs,(off,n,x)::rest=>
  let p:=(ev fr x).cells
  if p.length=n∧off+n<=cs.length∧p.all V.scalar then wz fr (qc cs off p) rest else none
def lZ:List V->List (Nat×Nat×V)->Option (List V)
 |cs,[]=>some cs
 |cs,(off,n,v)::rest=>
  let p:=v.cells
  if p.length=n∧off+n<=cs.length∧p.all V.scalar then lZ (qc cs off p) rest else none
def vB(f:Mem->V->Option (V×Mem)):Mem->List V->Option (List V×Mem)
 |L,[]=>some ([],L)
 |L,v::l=>(f L v).bind fun r=>(vB f r.2 l).map fun q=>(r.1::q.1,q.2)
def rD(f:Mem->V->Option (V×Mem)):Mem->List (List V)->Option (List (List V)×Mem)
 |L,[]=>some ([],L)
 |L,e::l=>(vB f L e).bind fun r=>(rD f r.2 l).map fun q=>(r.1::q.1,q.2)
def jJ:Nat->Mem->V->Option (V×Mem)
 |n,L,.ref 0 s ver sz off len=>
  let r:=ax L s
  if r.ver=ver∧0<ver∧off+len<=r.els.length∧(r.fz||L.ok s)then
   if r.els.all (fun e=>e.all V.pure)then some (.sl .any sz ((r.els.drop off).take len),if r.fz then L else bu L s {r with fz:=true})
   else
    match n with
    |0=>none
    |m+1=>(rD (jJ m) L r.els).bind fun q=>
     if q.1.all (fun e=>e.all V.pure)∧(ax q.2 s).ver=ver∧(ax q.2 s).fz=r.fz∧(r.fz||q.2.ok s)then
      some (.sl .any sz ((q.1.drop off).take len),if r.fz then q.2 else bu q.2 s {ax q.2 s with els:=q.1,fz:=true})
     else none
  else none
 |n,L,.sl k sz els=>
  if els.all (fun e=>e.all V.pure)then some (.sl k sz els,L)
  else
   match n with
   |0=>none
   |m+1=>if k= .own then none else(rD (jJ m) L els).bind fun q=>if q.1.all (fun e=>e.all V.pure)then some (.sl .any sz q.1,q.2)else none
 |_,L,v=>some (v,L)
def xf(L:Mem)(v:V):Option (V×Mem):=jJ 8 L v
def zJ(L:Mem):List V->Option (List V×Mem)
 |[]=>some ([],L)
 |v::l=>(xf L v).bind fun r=>(zJ r.2 l).map fun q=>(r.1::q.1,q.2)
def sG(L:Mem):V->Option (V×Mem)
 | .agg cs=>(zJ L cs).map fun r=>(.agg r.1,r.2)
 |v=>xf L v
def qd(L:Mem):List V->Option (List V×Mem)
 |[]=>some ([],L)
 |v::l=>(sG L v).bind fun r=>(qd r.2 l).map fun q=>(r.1::q.1,q.2)
def MI(L:Mem):V->Option (V×Mem)
 | .ptr 0 s ver i off=>
  let r:=ax L s
  if r.ver=ver∧0<ver∧r.els.all (fun e=>e.all V.pure)then
   if r.fz then(r.els[i]?).map fun e=>(.eptr e off,L)
   else if L.ok s then(r.els[i]?).map fun e=>(.eptr e off,bu L s {r with fz:=true})else none
  else none
 |v=>some (v,L)
def N8(L:Mem):List V->Option (List V×Mem)
 |[]=>some ([],L)
 |v::l=>(MI L v).bind fun r=>(N8 r.2 l).map fun q=>(r.1::q.1,q.2)
def wJ(L:Mem):V->Option (V×Mem)
 | .fn f caps=>(N8 L caps).map fun r=>(.fn f r.1,r.2)
 |v=>sG L v
def rF(L:Mem):List V->Option (List V×Mem)
 |[]=>some ([],L)
 |v::l=>(wJ L v).bind fun r=>(rF r.2 l).map fun q=>(r.1::q.1,q.2)
def uy(L:Mem):V->Option (V×Mem)
 | .ref 0 (.o n) ver sz off len=>
  let r:=ax L (.o n)
  if r.ver=ver∧0<ver∧off+len<=r.els.length∧r.els.all (fun e=>e.all V.gL)∧(r.fz||L.ok (.o n))then
   some (.sl .any sz ((r.els.drop off).take len),if r.fz then L else bu L (.o n) {r with fz:=true})
  else none
 |v=>some (v,L)
def kJ(L:Mem):List V->Option (List V×Mem)
 |[]=>some ([],L)
 |v::l=>(uy L v).bind fun r=>(kJ r.2 l).map fun q=>(r.1::q.1,q.2)
def jR(L:Mem):V->Option (V×Mem)
 | .agg cs=>(kJ L cs).map fun r=>(.agg r.1,r.2)
 |v=>uy L v
def nD(L:Mem):List V->Option (List V×Mem)
 |[]=>some ([],L)
 |v::l=>(jR L v).bind fun r=>(nD r.2 l).map fun q=>(r.1::q.1,q.2)
def qg(sh:Bool)(L:Mem)(fr:List V):List (Nat×Nat×Arg)->Option (List (Nat×Nat×V)×Mem)
 |[]=>some ([],L)
 |(off,n,x)::l=>(if sh then jR L (ev fr x)else sG L (ev fr x)).bind fun r=>(qg sh r.2 fr l).map fun q=>((off,n,r.1)::q.1,q.2)
def Bn(sz:Nat):Nat->List V->List (List V)
 |0,_=>[]
 |n+1,cs=>cs.take sz::Bn sz n (cs.drop sz)
def iH(M:List Mem)(d:Nat)(s:Ix):Row:=ax (M.getD d ⟨[],[],0⟩) s
def Bo(isAgg:Bool)(n:Nat)(e:List V)(off:Nat):Option V:=
 if isAgg then(if off+n<=e.length then some (.agg ((e.drop off).take n))else none)
 else e[off]?
def xi(M:List Mem)(isAgg:Bool)(n:Nat):V->Option V
 | .ptr d s ver i off=>
  let r:=iH M d s
  if r.ver=ver∧0<ver then(r.els[i]?).bind fun e=>(Bo isAgg n e off).map (V.shift d)else none
 | .eptr e off=>Bo isAgg n e off
 |_=>none
def SL(isAgg:Bool)(n:Nat):V->Option V
 | .eptr e off=>Bo isAgg n e off
 |_=>none
def DI(L:Mem)(n:Nat):V->V->Option (Mem)
 | .ptr 0 s ver i off,v=>
  let r:=ax L s;let p:=v.cells
  if r.ver=ver∧0<ver∧p.length=n∧uP s p∧L.ok s then
   (r.els[i]?).bind fun e=>
    if off+n<=e.length then some (bu L s {r with els:=r.els.set i (qc e off p)})else none
  else none
 |_,_=>none
def Jh(k:Nat):V->Option V
 | .ptr d s ver i off=>some (.ptr d s ver i (off+k))
 | .eptr e off=>some (.eptr e (off+k))
 |_=>none
def yr(sz:Nat):V->V->Option V
 | .sl k yJ els,.int _ n=>if k≠.own∧yJ=sz∧0<=n then(els[n.toNat]?).map fun e=> .eptr e 0 else none
 | .ref d s ver yJ off len,.int _ n=>if yJ=sz∧0<=n∧n<len then some (.ptr d s ver (off+n.toNat) 0)else none
 |_,_=>none
def acH(len sz:Nat):V->V->Option V
 | .ptr d s ver j off,.int _ n=>if 0<=n∧n<len then some (.ptr d s ver j (off+n.toNat*sz))else none
 | .eptr e off,.int _ n=>if 0<=n∧n<len then some (.eptr e (off+n.toNat*sz))else none
 |_,_=>none
def acI(len sz:Nat)(isAgg:Bool):V->V->Option V
 | .agg cs,.int _ n=>if 0<=n∧n<len then Bo isAgg sz cs (n.toNat*sz)else none
 |_,_=>none
def Oa:V->V->Option V
 | .str s,.int _ n=>if 0<=n then(s[n.toNat]?).map fun b=> .int .u8 b.toNat else none
 |_,_=>none
def pK(len:Nat)(lo hi mx:Option V):Option (Nat×Nat×Nat):=
 let one (x:Option V) (agB top:Nat):Option Nat:=
  match x with
  |none=>some agB
  |some (.int _ n)=>if 0<=n∧n<=top then some n.toNat else none
  |some _=>none
 if mx.isSome∧hi.isNone then none else
 (one mx len len).bind fun m=>(one hi len m).bind fun h=>(one lo 0 h).map fun l=>(l,h,m)
def Qp(sz:Nat)(x:V)(lo hi mx:Option V):Option V:=
 match x with
 | .aL=>(pK 0 lo hi mx).bind fun _=>if mx.isNone then some .aL else none
 | .sl k yJ els=>
  if k≠.own∧yJ=sz then
   (pK els.length lo hi mx).map fun r=>
    .sl (if(mx.isSome∧r.2.2=r.2.1)∨(mx.isNone∧k= .full∧r.2.1=els.length)then .full else .any) sz ((els.take r.2.1).drop r.1)
  else none
 | .ref d s ver yJ off len=>
  if yJ=sz then(pK len lo hi mx).map fun r=> .ref d s ver sz (off+r.1) (r.2.1-r.1)else none
 |_=>none
def Ob(x:V)(lo hi:Option V):Option V:=
 match x with
 | .str s=>(pK s.size lo hi none).map fun r=> .str (s.extract r.1 r.2.1)
 |_=>none
def Ia:V->Option Bool
 | .aL=>some true
 | .sl k _ els=>if k= .own∨els.isEmpty then none else some false
 | .ref _ _ _ _ _ len=>if len=0 then none else some false
 |_=>none
def AQ:V->Option V
 | .aL=>some (.i 0)
 | .sl k _ els=>if k= .own then none else some (.i (els.length:Nat))
 | .ref _ _ _ _ _ len=>some (.i (len:Nat))
 |_=>none
def IE:V->Option V
 | .str s=>some (.i (s.size:Nat))
 |_=>none
def wB(M:List Mem):V->Option (List (List V))
 | .aL=>some []
 | .sl k _ els=>if k= .own then none else some els
 | .ref d s ver _ off len=>
  let r:=iH M d s
  if r.ver=ver∧0<ver∧off+len<=r.els.length then
   some ((((r.els.drop off).take len)).map (V.bW d))else none
 |_=>none
def ug(bytes yT:Nat):Bool:=yT<=4294967296&&bytes<=16384
def DJ(M:List Mem)(site sz bytes:Nat)(x y:V):Option (V×Mem):=
 let L:=M.getD 0 ⟨[],[],0⟩
 (wB M y).bind fun new=>
  match x with
  | .aL=>
   if new.isEmpty then some (.aL,L)
   else if ug bytes new.length∧new.all (fun e=>e.length=sz∧uP (fq L site) e)then
    let r:Row:=⟨(ax L (fq L site)).ver+1,sz,new,false⟩
    some (.ref 0 (fq L site) r.ver sz 0 new.length,bu L (fq L site) r)
   else none
  | .sl .full _ els=>
   if new.isEmpty then some (x,L)
   else if ug bytes (els.length+new.length)∧(els++new).all (fun e=>e.length=sz∧uP (fq L site) e)then
    let r:Row:=⟨(ax L (fq L site)).ver+1,sz,els++new,false⟩
    some (.ref 0 (fq L site) r.ver sz 0 (els.length+new.length),bu L (fq L site) r)
   else none
  | .ref 0 s ver yJ 0 len=>
   let r:=ax L s
   if r.ver=ver∧0<ver∧len<=r.els.length∧r.sz=sz∧yJ=sz∧ug bytes (len+new.length)∧new.all (fun e=>e.length=sz∧uP s e)∧L.ok s then
    let r':Row:=⟨ver+1,sz,r.els.take len++new,false⟩
    some (.ref 0 s r'.ver sz 0 (len+new.length),bu L s r')
   else none
  |_=>none
def Ji(L:Mem)(S:Ix)(sz:Nat)(zero:List V)(bytes:Nat):V->V->Option (V×Mem)
 | .int .i64 l,.int .i64 c=>
  if 0<=l∧l<=c∧c<=4294967296∧bytes<=16384∧zero.length=sz∧uP S zero then
   let r:Row:=⟨(ax L S).ver+1,sz,List.replicate l.toNat zero,false⟩
   some (.ref 0 S r.ver sz 0 l.toNat,bu L S r)
  else none
 |_,_=>none
def mmV(mx:Bool):V->List V->Option V
 | .int k x,[]=>some (.int k x)
 | .int k x,.int k' y::l=>
  if k=k' then mmV mx (.int k (if mx then(if y>x then y else x)else(if y<x then y else x))) l else none
 |_,_=>none
def gZ:V->V
 | .sl .own sz els=> .sl .any sz els
 |v=>v
def iG(to:Option Ix)(L:Mem):V->V×Mem
 | .sl .own sz els=>
  match to with
  |some S=>(.ref 0 S ((ax L S).ver+1) sz 0 els.length,bu L S ⟨(ax L S).ver+1,sz,els,false⟩)
  |none=>(.sl .any sz els,L)
 | .eT (.sl .own sz els::vs)=>
  match to with
  |some S=>(.eT (.ref 0 S ((ax L S).ver+1) sz 0 els.length::vs.map gZ),bu L S ⟨(ax L S).ver+1,sz,els,false⟩)
  |none=>(.eT (.sl .any sz els::vs.map gZ),L)
 | .eT vs=>(.eT (vs.map gZ),L)
 |v=>(v,L)
def wC:MK->V->V->Option Bool
 | .int,.int k a,.int k' b=>if k=k' then some (a==b)else none
 | .str,.str a,.str b=>some (a==b)
 | .bool,.bool a,.bool b=>some (a==b)
 | .agg lay,.agg a,.agg b=>dN lay a b
 |_,_,_=>none
def Bp:MK->V->Bool
 | .agg lay,.agg a=>(dN lay a a).isSome
 | .agg _,_=>false
 |_,_=>true
def oZ(m:MK)(k:V):List (List V)->Nat->Option (Option (Nat×V))
 |[],_=>some none
 |[k',v]::es,i=>
  match wC m k k',oZ m k es (i+1)with
  |some true,some none=>some (some (i,v))
  |some false,r=>r
  |_,_=>none
 |_::_,_=>none
def Ar(M:List Mem)(m:MK)(ok:Bool)(zero:V):V->V->Option V
 | .mp d s ver,k=>
  let r:=iH M d s
  if r.ver=ver∧0<ver∧Bp m k then
   (oZ m k r.els 0).map fun x=>
    match x with
    |some (_,v)=>if ok then .eT [v.shift d,.bool true]else v.shift d
    |none=>if ok then .eT [zero,.bool false]else zero
  else none
 | .nW,k=>if Bp m k then some (if ok then .eT [zero,.bool false]else zero)else none
 |_,_=>none
def Dj(L:Mem)(m:MK):V->V->V->Option (Mem)
 | .mp 0 s ver,k,v=>
  let r:=ax L s
  if r.ver=ver∧0<ver∧Qo s k v∧L.ok s∧Bp m k then
   (oZ m k r.els 0).map fun x=>
    match x with
    |some (i,_)=>bu L s {r with els:=r.els.set i [k,v]}
    |none=>bu L s {r with els:=r.els++[[k,v]]}
  else none
 |_,_,_=>none
def Bq(L:Mem)(m:MK):V->V->V->Option (Mem)
 | .mp 0 s ver,k,v=>
  let r:=ax L s
  if r.ver=ver∧0<ver∧Qo s k v∧L.ok s∧Bp m k then
   match oZ m k r.els 0 with
   |some none=>some (bu L s {r with els:=r.els++[[k,v]]})
   |_=>none
  else none
 |_,_,_=>none
def Ym:V->V->Bool
 | .bool a,.bool b=>a==b
 | .int k a,.int k' b=>decide (k=k')&&a==b
 | .str a,.str b=>a.size==0&&b.size==0
 | .nA,.nA| .aL,.aL| .pO,.pO| .nW,.nW=>true
 |_,_=>false
def DK:List V->List V->Bool
 |[],[]=>true
 |a::l,b::m=>Ym a b&&DK l m
 |_,_=>false
def zK:List (List V)->List V->Bool
 |[e],z=>DK e z
 |_,_=>false
abbrev fU:=FuncId->List V->List Mem->Option (V×Option (List Row))
def Jj:V->List V->Option (FuncId×List V)
 | .fn g caps,args=>some (g,args++caps)
 | .mth g first,args=>some (g,first++args)
 |_,_=>none
def yU(cf:fU)(H:List Mem)(L:Mem)(f:V)(args:List V):Option (V×Mem):=
 match Jj f args with
 |some (g,aEp)=>
  match cf g (V.bW 1 aEp) (L::H)with
  |some (u,none)=>some (iG none L u)
  |_=>none
 |none=>none
def Mem.Jk(L:Mem):Option (List Row)->Mem
 |none=>L
 |some D=>{L with D:=D}
def wD(cf:fU)(H:List Mem)(L:Mem)(gl:Bool)(site:Nat)(f:V)(args:List V):Option (V×Mem):=
 match Jj f args with
 |some (g,aEp)=>(cf g (V.bW 1 aEp) (L::H)).map fun r=>
  iG (if gl then some (fq (L.Jk r.2) 0)else if site=0 then none else some (.o site)) (L.Jk r.2) r.1
 |none=>none
def YG(L:Mem)(sz:Nat)(zero:List V):V->Option Mem
 | .aL=>some L
 | .ref 0 s ver yJ off len=>
  let r:=ax L s
  if r.ver=ver∧0<ver∧yJ=sz∧zero.length=sz∧off+len<=r.els.length∧uP s zero∧L.ok s then
   some (bu L s {r with els:=r.els.take off++List.replicate len zero++r.els.drop (off+len)})
  else none
 |_=>none
def one(L:Mem)(v:Option V):Option (V×Mem):=v.map fun v=>(v,L)
def cZ(cf:fU)(H:List Mem)(fr:List V)(L:Mem):gJ->Option (V×Mem)
 | .mv x=>some (ev fr x,L)
 | .pick c a b=>(asB (ev fr c)).map fun t=>(if t then ev fr a else ev fr b,L)
 | .bin op x y=>one L (oW op (ev fr x) (ev fr y))
 | .eqb ne x y=>
  match ev fr x,ev fr y with
  | .bool a,.bool b=>some (.bool (if ne then !(a==b)else(a==b)),L)
  |_,_=>none
 | .eqagg lay ne x y=>
  match ev fr x,ev fr y with
  | .agg a,.agg b=>(dN lay a b).map fun r=>(.bool (if ne then !r else r),L)
  |_,_=>none
 | .not x=>(asB (ev fr x)).map fun b=>(.bool (!b),L)
 | .neg x=>match ev fr x with| .int k n=>some (.int k (k.wrap (0-n)),L)|_=>none
 | .conv k x=>match ev fr x with| .int _ n=>some (.int k (k.wrap n),L)|_=>none
 | .alloc site zero=>
  if zero.all V.scalar then
   let r:Row:=⟨(ax L (.o site)).ver+1,zero.length,[zero],false⟩
   some (.ptr 0 (.o site) r.ver 0 0,bu L (.o site) r)
  else none
 | .box site x=>
  let p:=(ev fr x).cells
  if p.all V.scalar then
   let r:Row:=⟨(ax L (.o site)).ver+1,p.length,[p],false⟩
   some (.ptr 0 (.o site) r.ver 0 0,bu L (.o site) r)
  else none
 | .galloc zero=>
  if uP (fq L 0) zero then
   let r:Row:=⟨(ax L (fq L 0)).ver+1,zero.length,[zero],false⟩
   some (.ptr 0 (fq L 0) r.ver 0 0,bu L (fq L 0) r)
  else none
 | .gbox x=>
  let p:=(ev fr x).cells
  if uP (fq L 0) p then
   let r:Row:=⟨(ax L (fq L 0)).ver+1,p.length,[p],false⟩
   some (.ptr 0 (fq L 0) r.ver 0 0,bu L (fq L 0) r)
  else none
 | .gmks sz zero bytes len cap=>Ji L (fq L 0) sz zero bytes (ev fr len) (ev fr cap)
 | .gmkmap=>
  let r:Row:=⟨(ax L (fq L 0)).ver+1,0,[],false⟩
  some (.mp 0 (fq L 0) r.ver,bu L (fq L 0) r)
 | .litr site sz zero len parts=>
  (wz fr ((List.replicate len zero).flatten) parts).bind fun cs=>
   if zero.length=sz∧0<sz∧uP (fq L site) cs then
    let r:Row:=⟨(ax L (fq L site)).ver+1,sz,Bn sz len cs,false⟩
    some (.ref 0 (fq L site) r.ver sz 0 len,bu L (fq L site) r)
   else none
 | .clr sz zero x=>(YG L sz zero (ev fr x)).map fun L'=>(.eT [],L')
 | .YF ne x=>(Ia (ev fr x)).map fun b=>(.bool (if ne then !b else b),L)
 | .mkmth f first=>some (.mth f (UY fr first),L)
 | .allocd site zero=>
  let r:=ax L (.o site)
  if 0<r.ver∧r.sz=zero.length∧zK r.els zero∧r.fz=false then some (.ptr 0 (.o site) r.ver 0 0,L)else none
 | .calla fz gl site f args=>
  if fz then(qd L (UY fr args)).bind fun r=>wD cf H r.2 gl site (ev fr f) r.1
  else wD cf H L gl site (ev fr f) (UY fr args)
 | .bad=>none
 | .build zero parts=>(wz fr zero parts).map fun cs=>(.agg cs,L)
 | .lit fu sz zero len parts=>
  (wz fr ((List.replicate len zero).flatten) parts).bind fun cs=>
   if zero.length=sz∧0<sz∧cs.all V.pure then some (.sl (if len=0∨fu=true then .full else .any) sz (Bn sz len cs),L)else none
 | .litf sh sz zero len parts=>
  (qg sh L fr parts).bind fun q=>(lZ ((List.replicate len zero).flatten) q.1).bind fun cs=>
   if zero.length=sz∧0<sz∧cs.all (if sh then V.gL else V.pure)then some (.sl (if len=0 then .full else .any) sz (Bn sz len cs),q.2)else none
 | .load isAgg n x=>one L (xi (L::H) isAgg n (ev fr x))
 | .YE isAgg n x=>one L (SL isAgg n (ev fr x))
 | .store n x v=>(DI L n (ev fr x) (ev fr v)).map fun L'=>(.eT [],L')
 | .fieldAddr off x=>one L (Jh off (ev fr x))
 | .vw sz x i=>one L (yr sz (ev fr x) (ev fr i))
 | .NZ len sz x i=>one L (acH len sz (ev fr x) (ev fr i))
 | .idx len sz isAgg x i=>one L (acI len sz isAgg (ev fr x) (ev fr i))
 | .SG x i=>one L (Oa (ev fr x) (ev fr i))
 | .sub sz x lo hi mx=>one L (Qp sz (ev fr x) (lo.map (ev fr)) (hi.map (ev fr)) (mx.map (ev fr)))
 | .strSub x lo hi=>one L (Ob (ev fr x) (lo.map (ev fr)) (hi.map (ev fr)))
 | .len x=>one L (AQ (ev fr x))
 | .agA x=>one L (IE (ev fr x))
 | .app site sz bytes x y=>DJ (L::H) site sz bytes (ev fr x) (ev fr y)
 | .ext x i=>match ev fr x with| .eT vs=>(vs[i]?).map fun v=>(v,L)|_=>none
 | .call f args=>yU cf H L (ev fr f) (UY fr args)
 | .mkfn f caps=>some (.fn f (UY fr caps),L)
 | .mks site sz zero bytes len cap=>Ji L (.o site) sz zero bytes (ev fr len) (ev fr cap)
 | .mm mx xs=>
  match UY fr xs with
  |x::l=>one L (mmV mx x l)
  |[]=>none
 | .nilck x=>
  match ev fr x with
  | .ptr d s ver i off=>some (.ptr d s ver i off,L)
  | .eptr e off=>some (.eptr e off,L)
  |_=>none
 | .mkmap site=>
  let r:Row:=⟨(ax L (.o site)).ver+1,0,[],false⟩
  some (.mp 0 (.o site) r.ver,bu L (.o site) r)
 | .SH m ok z x i=>one L (Ar (L::H) m ok z (ev fr x) (ev fr i))
 | .mput m x i v=>(Dj L m (ev fr x) (ev fr i) (ev fr v)).map fun L'=>(.eT [],L')
 | .mins m x i v=>(Bq L m (ev fr x) (ev fr i) (ev fr v)).map fun L'=>(.eT [],L')
abbrev St:=List V×Mem
def gW(fr:List V)(dst:Option Nat)(v:V):List V:=
 match dst with
 |some d=>set fr d v
 |none=>fr
def wanted(fr:List V):Option (Nat×Bool)->Option Bool
 |none=>some true
 |some (d,w)=>
  match ag fr d with
  | .bool b=>some (b==w)
  | .eT []=>some false
  |_=>none
def cO(cf:fU)(H:List Mem)(o:bL)(st:St):Option St:=
 (wanted st.1 o.guard).bind fun b=>
  if b then(cZ cf H st.1 st.2 o.op).map fun r=>(gW st.1 o.dst r.1,r.2)
  else some (gW st.1 o.dst (.eT []),st.2)
def iA(cf:fU)(H:List Mem):List bL->St->Option St
 |[],st=>some st
 |o::os,st=>(cO cf H o st).bind (iA cf H os)
def iZ:List Ix->Mem->Mem
 |[],L=>L
 |s::l,L=>iZ l (bu L s ⟨(ax L s).ver+1,0,[],false⟩)
def jZ:List (Nat×List V)->Mem->Mem
 |[],L=>L
 |(s,z)::l,L=>jZ l (bu L (.o s) ⟨(ax L (.o s)).ver+1,z.length,[z],false⟩)
def V.stat:V->Bool
 | .ptr _ (.o _) _ _ _| .mp _ (.o _) _| .eptr _ _| .eT _=>true
 |_=>false
def V.row:V->Option (Nat×Ix)
 | .ptr d s _ _ _| .ref d s _ _ _ _| .mp d s _=>some (d,s)
 |_=>none
def Br(x y:V):Bool:=
 match V.row x with
 |some a=>
  match V.row y with
  |some b=>a !=b
  |none=>match y with| .aL| .sl _ _ _| .eT _=>true|_=>false
 |none=>match x with| .eptr _ _| .eT _=>true|_=>false
def l5(fr:List V):List (Nat×Nat)->Bool
 |[]=>true
 |(a,b)::l=>(if a=b then V.stat (ag fr a)else Br (ag fr a) (ag fr b))&&l5 fr l
abbrev xO:=eu->List Mem->St->Option (Aq×St)
def jV(cf:fU)(lf:xO)(H:List Mem):eu->St->Option (Aq×St)
 | .skip,st=>some (.normal,st)
 | .region afs pre ops Sr,st=>(iA cf H ops (st.1,jZ pre (iZ afs st.2))).bind fun jS=>if l5 jS.1 Sr then some (.normal,jS)else none
 | .seq a b,st=>
  (jV cf lf H a st).bind fun r=>
   match r.1 with
   | .normal=>jV cf lf H b r.2
   |e=>some (e,r.2)
 | .cond c a b,st=>(asB (ev st.1 c)).bind fun t=>if t then jV cf lf H a st else jV cf lf H b st
 | .block id c,st=>
  (jV cf lf H c st).map fun r=>
   match r.1 with
   | .exit i=>(if i=id then .normal else .exit i,r.2)
   |e=>(e,r.2)
 | .loop c,st=>lf c H st
 | .exit id,st=>some (.exit id,st)
 | .scope c,st=>jV cf lf H c st
 | .ret,st=>some (.ret,st)
def pG(am:Bool)(L:Mem):V->Option V
 | .bool b=>some (.bool b)
 | .int k n=>some (.int k n)
 | .str s=>some (.str s)
 | .nA=>some .nA
 | .aL=>some .aL
 | .pO=>some .pO
 | .nW=>some .nW
 | .sl k sz els=>if am then(if k= .own then none else some (.sl k sz els))else if V.pure (.sl k sz els)then some (.sl k sz els)else none
 | .ref 0 s ver sz off len=>
  match am,s with
  |true,.g n=>some (.ref 0 (.g n) ver sz off len)
  |_,_=>
   let r:=ax L s
   if r.ver=ver∧0<ver∧off=0∧len=r.els.length∧0<r.sz∧r.els.all (fun e=>e.all (if am then V.gL else V.pure))∧L.ok s then some (.sl .own r.sz r.els)else none
 | .ptr 0 (.g n) ver i off=>if am then some (.ptr 0 (.g n) ver i off)else none
 | .mp 0 (.g n) ver=>if am then some (.mp 0 (.g n) ver)else none
 | .ref (d+1) (.o s) ver sz off len=>some (.ref d (.o s) ver sz off len)
 | .ptr (d+1) (.o s) ver i off=>some (.ptr d (.o s) ver i off)
 | .fn f caps=>if caps.all (if am then V.gL else V.calm)then some (.fn f caps)else none
 | .agg cs=>if cs.all (if am then V.gL else V.pure)then some (.agg cs)else none
 |_=>none
def wE(am:Bool)(L:Mem):List V->Option (List V)
 |[]=>some []
 |v::l=>(pG am L v).bind fun v'=>(wE am L l).map (v'::·)
def lD:List V->Bool
 |[]=>true
 |_::l=>l.all fun v=>match v with| .sl .own _ _=>false|_=>true
def acJ(L:Mem)(fr:List V):sU->Option V
 | .tmp t=>some (ag fr t)
 | .cell t isAgg n=>xi [L] isAgg n (ag fr t)
def EI(L:Mem)(fr:List V):List sU->Option (List V)
 |[]=>some []
 |r::l=>(acJ L fr r).bind fun v=>(EI L fr l).map (v::·)
def yV:List V->V
 |[v]=>v
 |us=> .eT us
def yu(L:Mem)(vs:List V):Option V:=
 (rF L vs).bind fun r=>(wE false r.2 r.1).bind fun us=>if lD us then some (yV us)else none
def YH(L:Mem)(vs:List V):Option (List V)->Option V
 |some us=>if lD us then some (yV us)else yu L vs
 |none=>yu L vs
def AR(L:Mem)(vs:List V):Option V:=
 (nD L vs).bind fun r=>(wE true r.2 r.1).bind fun us=>if lD us then some (yV us)else none
def YI(L:Mem)(vs:List V):Option (List V)->Option V
 |some us=>if lD us then some (yV us)else AR L vs
 |none=>AR L vs
def Ao(pm:Bool)(rs:List sU)(st:St):Option (V×Option (List Row)):=
 (EI st.2 st.1 rs).bind fun vs=>
  if pm then(YH st.2 vs (wE false st.2 vs)).map fun v=>(v,none)
  else(YI st.2 vs (wE true st.2 vs)).map fun v=>(v,some st.2.D)
structure yw where
 fn:FuncId->Option uw
 pr:FuncId->List V->Option V
def start(pm:Bool):List Mem->Mem
 |[]=>⟨[],[],0⟩
 |L::_=>⟨L.D,[],if pm then L.D.length else L.b⟩
instance:CoeFun yw fun _=>FuncId->Option uw:=⟨yw.fn⟩
def xk(bn:yw)(cf:fU)(lf:xO):fU:=fun f args H=>
 match bn.fn f with
 |some af=>
  (jV cf lf H af.code (args,start af.pm H)).bind fun r=>
   match r.1 with
   | .exit _=>none
   |_=>Ao af.pm af.results r.2
 |none=>(bn.pr f args).map fun v=>(v,none)
def Au(cf:fU)(lf:xO):xO:=fun c H st=>
 (jV cf lf H c st).bind fun r=>
  match r.1 with
  | .normal=>lf c H r.2
  |e=>some (e,r.2)
def jf(bn:yw):Nat->fU×xO
 |0=>(fun _ _ _=>none,fun _ _ _=>none)
 |n+1=>(xk bn (jf bn n).1 (jf bn n).2,Au (jf bn n).1 (jf bn n).2)
structure Own where
 blk:Nat
 sz:Nat
 cs:Nat
 mp:Bool
structure Env where
 own:Nat->Ix->Nat->Option Own
 iY:Nat->Option (Array Value)
def Env.bare(E:Env):Env:={E with own:=fun d s v=>match s with| .g n=>(match d with|0=>E.own 0 (.g n) v|_+1=>none)| .o _=>none}
def Env.up(E:Env)(d:Nat):Env:={E with own:=fun e s v=>match s with| .o n=>E.own (e+d) (.o n) v| .g n=>E.own e (.g n) v}
def Env.inner(E:Env):Env:={E with own:=fun d s v=>match s with| .g n=>E.own d (.g n) v| .o n=>match d with|0=>none|d+1=>E.own d (.o n) v}
structure Env.Le(E E':Env):Prop where
 own:∀d s v o,E.own d s v=some o->E'.own d s v=some o
 iY:∀b c,E.iY b=some c->E'.iY b=some c
theorem Env.Le.refl(E:Env):E.Le E:=⟨fun _ _ _ _ h=>h,fun _ _ h=>h⟩
theorem Env.Le.trans{E F G:Env}(h:E.Le F)(k:F.Le G):E.Le G:=⟨fun d s v o x=>k.own d s v o (h.own d s v o x),fun b c x=>k.iY b c (h.iY b c x)⟩
theorem Env.EJ{E:Env}{d:Nat}{s:Ix}{v:Nat}{o:Own}(h:E.bare.own d s v=some o):∃n,d=0∧s= .g n∧E.own 0 (.g n) v=some o:=by
 cases s with
 |o n=>cases h
 |g n=>
  cases d with
  |zero=>exact⟨n,rfl,rfl,h⟩
  |succ d=>cases h
theorem Env.Le.bare{E F:Env}(h:E.Le F):E.bare.Le F.bare:=⟨fun _ _ _ _ x=>by
 obtain⟨n,rfl,rfl,x⟩:=Env.EJ x;exact h.own _ _ _ _ x,fun b c x=>h.iY b c x⟩
theorem Env.xP(E:Env):E.bare.Le E:=⟨fun _ _ _ _ x=>by
 obtain⟨n,rfl,rfl,x⟩:=Env.EJ x;exact x,fun _ _ x=>x⟩
theorem Env.Le.up{E F:Env}(h:E.Le F)(d:Nat):(E.up d).Le (F.up d):=⟨fun e s v o x=>by cases s<;>exact h.own _ _ v o x,fun b c x=>h.iY b c x⟩
@[simp] theorem Env.akt(E:Env):E.bare.bare=E.bare:=by
 simp only[Env.bare]
@[simp] theorem Env.apR(E:Env)(d:Nat):(E.up d).bare=E.bare:=rfl
@[simp] theorem Env.apS(E:Env)(d:Nat):E.bare.up d=E.bare:=by
 simp only[Env.up,Env.bare,Env.mk.injEq,and_true];funext e s v;cases s<;>cases e<;>rfl
@[simp] theorem Env.ak'(E:Env):E.bare.iY=E.iY:=rfl
@[simp] theorem Env.aq3(E:Env)(d:Nat):(E.up d).iY=E.iY:=rfl
@[simp] theorem Env.aku(E:Env):E.inner.iY=E.iY:=rfl
@[simp] theorem Env.Bt(E:Env):E.inner.up 1=E:=by
 cases E;simp only[Env.up,Env.inner,Env.mk.injEq,and_true];funext e s v;cases s<;>rfl
@[simp] theorem Env.pQ(E:Env):E.up 0=E:=by
 cases E;simp only[Env.up,Env.mk.injEq,and_true];funext e s v;cases s<;>rfl
theorem Env.Qq(E:Env)(a b:Nat):(E.up a).up b=E.up (a+b):=by
 simp only[Env.up,Env.mk.injEq,and_true];funext e s v;cases s
 ·simp only;congr 1;omega
 ·rfl
mutual
def VR:V->Env->Value->Prop
 | .bool b,_,x=>x= .bool b
 | .int k n,_,x=>x= .int k n
 | .str s,_,x=>x= .string s
 | .nA,_,x=>x= .pointer none
 | .ptr d s ver i off,E,x=>∃o,E.own d s ver=some o∧o.mp=false∧x= .pointer (some ⟨o.blk,i*o.sz+off,none⟩)
 | .eptr e off,E,x=>∃b o cs,E.iY b=some cs∧x= .pointer (some ⟨b,o+off,none⟩)∧dY e E.bare ((cs.toList.drop o).take e.length)
 | .aL,_,x=>x= .slice none 0 0
 | .pO,_,x=>x= .nilFunc
 | .sl k sz els,E,x=>k≠.own∧∃a cap,x= .slice (some a) els.length cap∧els.length<=cap∧(k= .full->cap=els.length)∧
   (els=[]∨∃cs,a.spot=none∧E.iY a.block=some cs∧dF els E.bare sz (cs.toList.drop a.off))
 | .ref d s ver sz off len,E,x=>∃o a cap,E.own d s ver=some o∧o.mp=false∧x= .slice (some a) len cap∧o.sz=sz∧len<=cap∧
   (cap=0∨(a=⟨o.blk,off*o.sz,none⟩∧(off+cap)*o.sz<=o.cs))
 | .fn f caps,E,x=>∃cs:Array Value,x= .func (.func f) #[] cs∧dY caps E cs.toList
 | .agg cs,E,x=>∃c:Array Value,x= .agg c∧dY cs E c.toList
 | .eT vs,E,x=>∃c:Array Value,x= .tuple c∧dY vs E c.toList
 | .undef,_,_=>True
 | .mp d s ver,E,x=>∃o,E.own d s ver=some o∧o.mp=true∧x= .map (some o.blk)
 | .nW,_,x=>x= .map none
 | .mth f first,E,x=>∃cs:Array Value,x= .func (.func f) cs #[]∧dY first E cs.toList
def dY:List V->Env->List Value->Prop
 |[],_,l=>l=[]
 |v::vs,E,l=>∃x l',l=x::l'∧VR v E x∧dY vs E l'
def dF:List (List V)->Env->Nat->List Value->Prop
 |[],_,_,_=>True
 |e::es,E,sz,l=>e.length=sz∧dY e E (l.take sz)∧dF es E sz (l.drop sz)
end
mutual
theorem VR.mono{E F:Env}(h:E.Le F):∀(v:V)(x:Value),VR v E x->VR v F x
 | .bool _,_,r| .int _ _,_,r| .str _,_,r| .nA,_,r| .aL,_,r| .pO,_,r| .nW,_,r=>r
 | .mth f caps,x,r=>by
  simp only[VR]at r⊢;obtain⟨cs,hx,hc⟩:=r;exact⟨cs,hx,dY.mono h caps _ hc⟩
 | .undef,_,_=>trivial
 | .ptr ..,x,r=>by
  simp only[VR]at r⊢;obtain⟨o,ho,hx⟩:=r;exact⟨o,h.own _ _ _ _ ho,hx⟩
 | .mp ..,x,r=>by
  simp only[VR]at r⊢;obtain⟨o,ho,hx⟩:=r;exact⟨o,h.own _ _ _ _ ho,hx⟩
 | .eptr e off,x,r=>by
  simp only[VR]at r⊢;obtain⟨b,o,cs,hb,hx,hc⟩:=r;exact⟨b,o,cs,h.iY _ _ hb,hx,dY.mono h.bare e _ hc⟩
 | .sl k sz els,x,r=>by
  simp only[VR]at r⊢;obtain⟨hk,a,cap,hx,hl,hf,hc⟩:=r;refine⟨hk,a,cap,hx,hl,hf,?_⟩;rcases hc with hc|⟨cs,hs,hi,hv⟩
  ·exact .inl hc
  ·exact .inr ⟨cs,hs,h.iY _ _ hi,dF.mono h.bare els _ _ hv⟩
 | .ref ..,x,r=>by
  simp only[VR]at r⊢;obtain⟨o,a,cap,ho,hx,rest⟩:=r;exact⟨o,a,cap,h.own _ _ _ _ ho,hx,rest⟩
 | .fn f caps,x,r=>by
  simp only[VR]at r⊢;obtain⟨cs,hx,hc⟩:=r;exact⟨cs,hx,dY.mono h caps _ hc⟩
 | .agg caps,x,r=>by
  simp only[VR]at r⊢;obtain⟨cs,hx,hc⟩:=r;exact⟨cs,hx,dY.mono h caps _ hc⟩
 | .eT caps,x,r=>by
  simp only[VR]at r⊢;obtain⟨cs,hx,hc⟩:=r;exact⟨cs,hx,dY.mono h caps _ hc⟩
theorem dY.mono{E F:Env}(h:E.Le F):∀(vs:List V)(l:List Value),dY vs E l->dY vs F l
 |[],_,r=>r
 |v::vs,l,r=>by
  simp only[dY]at r⊢;obtain⟨x,l',hl,hv,hr⟩:=r;exact⟨x,l',hl,VR.mono h v x hv,dY.mono h vs l' hr⟩
theorem dF.mono{E F:Env}(h:E.Le F):∀(es:List (List V))(sz:Nat)(l:List Value),dF es E sz l->dF es F sz l
 |[],_,_,_=>trivial
 |e::es,sz,l,r=>by
  simp only[dF]at r⊢;exact⟨r.1,dY.mono h e _ r.2.1,dF.mono h es sz _ r.2.2⟩
end
theorem VR.pure{E:Env}{v:V}{x:Value}(hp:v.gL=true)(h:VR v E x):VR v E.bare x:=by
 cases v;case ptr d s ver i off=>cases d<;>cases s<;>simp only[V.gL,bq]at hp;exact h
 case ref d s ver sz off len=>cases d<;>cases s<;>simp only[V.gL,bq]at hp;exact h
 case mp d s ver=>cases d<;>cases s<;>simp only[V.gL,bq]at hp;exact h
 all_goals simp_all [V.gL,VR]
theorem dY.pure{E:Env}:∀{vs:List V}{l:List Value},vs.all V.gL=true->dY vs E l->dY vs E.bare l
 |[],_,_,h=>h
 |v::vs,l,hp,h=>by
  simp only[aZ,aH]at hp;simp only[dY]at h⊢;obtain⟨x,c,hl,g,hr⟩:=h;exact⟨x,c,hl,VR.pure hp.1 g,dY.pure hp.2 hr⟩
mutual
theorem VR.deep{E F:Env}(hi:∀b c,E.iY b=some c->F.iY b=some c):∀(v:V)(x:Value),v.pure=true->VR v E x->VR v F x
 | .bool _,_,_,r| .int _ _,_,_,r| .str _,_,_,r| .nA,_,_,r| .aL,_,_,r| .pO,_,_,r| .nW,_,_,r=>r
 | .undef,_,hp,_| .ptr ..,_,hp,_| .eptr ..,_,hp,_| .ref ..,_,hp,_| .mp ..,_,hp,_| .fn ..,_,hp,_| .mth ..,_,hp,_| .agg ..,_,hp,_| .eT ..,_,hp,_=>by simp[V.pure]at hp
 | .sl k sz els,x,hp,r=>by
  simp only[V.pure,aH]at hp;simp only[VR]at r⊢;obtain⟨hk,a,cap,hx,hl,hf,hc⟩:=r;refine⟨hk,a,cap,hx,hl,hf,?_⟩;rcases hc with hc|⟨cs,hs,hi',hv⟩
  ·exact .inl hc
  ·exact .inr ⟨cs,hs,hi _ _ hi',dF.deep (E:=E.bare) (F:=F.bare) hi els _ _ hp.2 hv⟩
theorem dY.deep{E F:Env}(hi:∀b c,E.iY b=some c->F.iY b=some c):∀(vs:List V)(l:List Value),V.EH vs=true->dY vs E l->dY vs F l
 |[],_,_,r=>r
 |v::vs,l,hp,r=>by
  simp only[V.EH,aH]at hp;simp only[dY]at r⊢;obtain⟨x,l',hl,hv,hr⟩:=r;exact⟨x,l',hl,VR.deep hi v x hp.1 hv,dY.deep hi vs l' hp.2 hr⟩
theorem dF.deep{E F:Env}(hi:∀b c,E.iY b=some c->F.iY b=some c):∀(es:List (List V))(sz:Nat)(l:List Value),V.qZ es=true->dF es E sz l->dF es F sz l
 |[],_,_,_,_=>trivial
 |e::es,sz,l,hp,r=>by
  simp only[V.qZ,aH]at hp;simp only[dF]at r⊢;exact⟨r.1,dY.deep hi e _ hp.1 r.2.1,dF.deep hi es sz _ hp.2 r.2.2⟩
end
theorem V.Xd{v:V}(h:v.pure=true):v.gL=true:=by
 cases v<;>simp_all [V.pure,V.gL]
theorem DL{l:List V}(h:l.all V.pure=true):l.all V.gL=true:=by
 rw[aV]at h⊢;exact fun v c=>V.Xd (h v c)
theorem ja{l:List (List V)}(h:l.all (fun e=>e.all V.pure)=true):l.all (fun e=>e.all V.gL)=true:=by
 rw[aV]at h⊢;exact fun v c=>DL (h v c)
theorem VR.gL{E F:Env}(h:∀n v o,E.own 0 (.g n) v=some o->F.own 0 (.g n) v=some o)(l:∀b c,E.iY b=some c->F.iY b=some c){v:V}{x:Value}(hp:v.gL=true)(j:VR v E x):VR v F x:=by
 have r:E.bare.Le F.bare:=⟨fun _ _ _ _ x=>by
  obtain⟨n,rfl,rfl,x⟩:=Env.EJ x;exact h _ _ _ x,l⟩
 exact VR.mono (Env.xP F) _ _ (VR.mono r _ _ (VR.pure hp j))
theorem dY.gL{E F:Env}(h:∀n v o,E.own 0 (.g n) v=some o->F.own 0 (.g n) v=some o)(j:∀b c,E.iY b=some c->F.iY b=some c):∀{vs:List V}{l:List Value},vs.all V.gL=true->dY vs E l->dY vs F l
 |[],_,_,r=>r
 |v::vs,l,hp,r=>by
  simp only[aZ,aH]at hp;simp only[dY]at r⊢;obtain⟨x,u,hl,A,hr⟩:=r;exact⟨x,u,hl,VR.gL h j hp.1 A,dY.gL h j hp.2 hr⟩
theorem VR.qW{E F:Env}(h:∀n v o,E.own 0 (.g n) v=some o->F.own 0 (.g n) v=some o)(l:∀b c,E.iY b=some c->F.iY b=some c){v:V}{x:Value}(hp:v.qW=true)(j:VR v E x):VR v F x:=by
 cases v;case fn f caps=>
  simp only[VR]at j⊢;obtain⟨cs,hx,hc⟩:=j;exact⟨cs,hx,dY.gL h l hp hc⟩
 case mth f caps=>
  simp only[VR]at j⊢;obtain⟨cs,hx,hc⟩:=j;exact⟨cs,hx,dY.gL h l hp hc⟩
 case agg caps=>
  simp only[VR]at j⊢;obtain⟨cs,hx,hc⟩:=j;exact⟨cs,hx,dY.gL h l hp hc⟩
 all_goals exact VR.gL h l hp j
theorem dY.qW{E F:Env}(h:∀n v o,E.own 0 (.g n) v=some o->F.own 0 (.g n) v=some o)(j:∀b c,E.iY b=some c->F.iY b=some c):∀{vs:List V}{l:List Value},vs.all V.qW=true->dY vs E l->dY vs F l
 |[],_,_,r=>r
 |v::vs,l,hp,r=>by
  simp only[aZ,aH]at hp;simp only[dY]at r⊢;obtain⟨x,u,hl,A,hr⟩:=r;exact⟨x,u,hl,VR.qW h j hp.1 A,dY.qW h j hp.2 hr⟩
theorem dF.qW{E F:Env}(h:∀n v o,E.own 0 (.g n) v=some o->F.own 0 (.g n) v=some o)(j:∀b c,E.iY b=some c->F.iY b=some c):∀{es:List (List V)}{sz:Nat}{l:List Value},es.all (fun e=>e.all V.qW)=true->dF es E sz l->dF es F sz l
 |[],_,_,_,_=>trivial
 |e::es,sz,l,hp,r=>by
  simp only[aZ,aH]at hp;simp only[dF]at r⊢;exact⟨r.1,dY.qW h j hp.1 r.2.1,dF.qW h j hp.2 r.2.2⟩
theorem VR.calm{E F:Env}(g:∀b c,E.iY b=some c->F.iY b=some c){v:V}{x:Value}(hp:v.calm=true)(h:VR v E x):VR v F x:=by
 cases v;case eptr e off=>
  simp only[VR]at h⊢;obtain⟨b,o,cs,r,l,j⟩:=h;exact⟨b,o,cs,g _ _ r,l,dY.deep (E:=E.bare) (F:=F.bare) g _ _ (by rw[V.wY];exact hp) j⟩
 all_goals exact VR.deep g _ _ hp h
theorem dY.calm{E F:Env}(g:∀b c,E.iY b=some c->F.iY b=some c):∀{vs:List V}{l:List Value},vs.all V.calm=true->dY vs E l->dY vs F l
 |[],_,_,h=>h
 |v::vs,l,hp,h=>by
  simp only[aZ,aH]at hp;simp only[dY]at h⊢;obtain⟨x,j,hl,r,hr⟩:=h;exact⟨x,j,hl,VR.calm g hp.1 r,dY.calm g hp.2 hr⟩
theorem dF.pure{E:Env}:∀{es:List (List V)}{sz:Nat}{l:List Value},es.all (fun e=>e.all V.gL)=true->dF es E sz l->dF es E.bare sz l
 |[],_,_,_,_=>trivial
 |e::es,sz,l,hp,h=>by
  simp only[aZ,aH]at hp;simp only[dF]at h⊢;exact⟨h.1,dY.pure hp.1 h.2.1,dF.pure hp.2 h.2.2⟩
mutual
theorem VR.shift{E:Env}(d:Nat):∀(v:V)(x:Value),VR (V.shift d v) E x↔VR v (E.up d) x
 | .bool _,_| .int _ _,_| .str _,_| .nA,_| .aL,_| .pO,_| .nW,_=>by simp[V.shift,VR]
 | .mth f caps,x=>by simp only[V.shift,VR,dY.shift d caps]
 | .undef,_=>by simp[V.shift,VR]
 | .ptr _ (.o _) ..,x=>by simp[V.shift,VR,Env.up]
 | .ptr _ (.g _) ..,x=>by simp[V.shift,VR,Env.up]
 | .eptr e off,x=>by simp[V.shift,VR]
 | .sl k sz els,x=>by simp[V.shift,VR]
 | .ref _ (.o _) ..,x=>by simp[V.shift,VR,Env.up]
 | .ref _ (.g _) ..,x=>by simp[V.shift,VR,Env.up]
 | .mp _ (.o _) ..,x=>by simp[V.shift,VR,Env.up]
 | .mp _ (.g _) ..,x=>by simp[V.shift,VR,Env.up]
 | .fn f caps,x=>by simp only[V.shift,VR,dY.shift d caps]
 | .agg caps,x=>by simp only[V.shift,VR,dY.shift d caps]
 | .eT caps,x=>by simp only[V.shift,VR,dY.shift d caps]
theorem dY.shift{E:Env}(d:Nat):∀(vs:List V)(l:List Value),dY (V.bW d vs) E l↔dY vs (E.up d) l
 |[],l=>by simp[V.bW,dY]
 |v::vs,l=>by simp only[V.bW,dY,VR.shift d v,dY.shift d vs]
end
theorem dY.length{E:Env}:∀{vs:List V}{l:List Value},dY vs E l->l.length=vs.length
 |[],l,h=>by simp only[dY]at h;simp[h]
 |v::vs,l,h=>by
  simp only[dY]at h;obtain⟨x,c,rfl,_,hr⟩:=h;simp[dY.length hr]
theorem dY.at{E:Env}:∀{vs:List V}{l:List Value},dY vs E l->∀{i:Nat}{v:V},vs[i]? =some v->∃x,l[i]? =some x∧VR v E x
 |[],l,h,i,v,c=>by simp at c
 |u::vs,l,h,i,v,c=>by
  simp only[dY]at h;obtain⟨x,r,rfl,j,hr⟩:=h;cases i with
  |zero=>simp only[dI,aA]at c;exact⟨x,by simp,c▸j⟩
  |succ i=>simp only[di]at c;obtain⟨y,g,hr⟩:=dY.at hr c;exact⟨y,by simpa using g,hr⟩
theorem dY.append{E:Env}:∀{vs us:List V}{l m:List Value},dY vs E l->dY us E m->dY (vs++us) E (l++m)
 |[],us,l,m,h,k=>by simp only[dY]at h;subst h;simpa using k
 |v::vs,us,l,m,h,k=>by
  simp only[dY]at h;obtain⟨x,c,rfl,g,hr⟩:=h;exact⟨x,c++m,by simp,g,dY.append hr k⟩
theorem dY.take{E:Env}:∀{vs:List V}{l:List Value}(n:Nat),dY vs E l->dY (vs.take n) E (l.take n)
 |[],l,n,h=>by simp only[dY]at h;subst h;simp[dY]
 |v::vs,l,0,h=>by simp[dY]
 |v::vs,l,n+1,h=>by
  simp only[dY]at h;obtain⟨x,c,rfl,g,hr⟩:=h;exact⟨x,c.take n,by simp,g,dY.take n hr⟩
theorem dY.drop{E:Env}:∀{vs:List V}{l:List Value}(n:Nat),dY vs E l->dY (vs.drop n) E (l.drop n)
 |[],l,n,h=>by simp only[dY]at h;subst h;simp[dY]
 |v::vs,l,0,h=>by simpa using h
 |v::vs,l,n+1,h=>by
  simp only[dY]at h;obtain⟨x,c,rfl,g,hr⟩:=h;simpa using dY.drop n hr
theorem dY.qc{E:Env}{cs p:List V}{l q:List Value}(off:Nat)(h:dY cs E l)(k:dY p E q):
  dY (qc cs off p) E (l.take off++q++l.drop (off+q.length)):=by
 unfold Ht.qc;rw[k.length];exact((h.take off).append k).append (h.drop _)
theorem VR.cells{E:Env}{v:V}{x:Value}(hs:v.cells.all V.scalar=true)(h:VR v E x):dY v.cells E x.cells.toList:=by
 cases v with
 |agg cs=>simp only[VR]at h;obtain⟨c,rfl,hc⟩:=h;exact hc
 |eT=>simp[V.cells,V.scalar]at hs
 |undef=>simp[V.cells,V.scalar]at hs
 |bool|int|str|nA|aL|pO|nW=>simp only[VR]at h;subst h;simp[V.cells,Value.cells,dY,VR]
 |mth=>
  have g:=h;simp only[VR]at h;obtain⟨cs,rfl,_⟩:=h;exact⟨_,[],rfl,g,rfl⟩
 |ptr=>
  have g:=h;simp only[VR]at h;obtain⟨o,_,_,rfl⟩:=h;exact⟨_,[],rfl,g,rfl⟩
 |mp=>
  have g:=h;simp only[VR]at h;obtain⟨o,_,_,rfl⟩:=h;exact⟨_,[],rfl,g,rfl⟩
 |eptr=>
  have g:=h;simp only[VR]at h;obtain⟨b,o,cs,_,rfl,_⟩:=h;exact⟨_,[],rfl,g,rfl⟩
 |sl=>
  have g:=h;simp only[VR]at h;obtain⟨_,a,cap,rfl,_⟩:=h;exact⟨_,[],rfl,g,rfl⟩
 |ref=>
  have g:=h;simp only[VR]at h;obtain⟨o,a,cap,_,_,rfl,_⟩:=h;exact⟨_,[],rfl,g,rfl⟩
 |fn=>
  have g:=h;simp only[VR]at h;obtain⟨cs,rfl,_⟩:=h;exact⟨_,[],rfl,g,rfl⟩
theorem VR.Ct{E:Env}{v:V}{x:Value}(hs:v.scalar=true)(h:VR v E x):x.oneCell'=true:=by
 cases v with
 |agg|eT|undef=>simp[V.scalar]at hs
 |bool|int|str|nA|aL|pO|nW=>simp only[VR]at h;subst h;rfl
 |mth=>simp only[VR]at h;obtain⟨cs,rfl,_⟩:=h;rfl
 |ptr|mp=>simp only[VR]at h;obtain⟨o,_,_,rfl⟩:=h;rfl
 |eptr=>simp only[VR]at h;obtain⟨b,o,cs,_,rfl,_⟩:=h;rfl
 |sl=>simp only[VR]at h;obtain⟨_,a,cap,rfl,_⟩:=h;rfl
 |ref=>simp only[VR]at h;obtain⟨o,a,cap,_,_,rfl,_⟩:=h;rfl
 |fn=>simp only[VR]at h;obtain⟨cs,rfl,_⟩:=h;rfl
theorem dY.Ct{E:Env}:∀{vs:List V}{l:List Value},vs.all V.scalar=true->dY vs E l->∀x∈l,x.oneCell'=true
 |[],l,_,h,x,hx=>by simp only[dY]at h;subst h;cases hx
 |v::vs,l,hs,h,x,hx=>by
  simp only[aZ,aH]at hs;simp only[dY]at h;obtain⟨y,g,rfl,c,hr⟩:=h;cases hx with
  |head=>exact VR.Ct hs.1 c
  |tail _ hx=>exact dY.Ct hs.2 hr x hx
theorem dF.at{E:Env}:∀{es:List (List V)}{sz:Nat}{l:List Value},dF es E sz l->∀{i:Nat}{e:List V},es[i]? =some e->
  e.length=sz∧dY e E ((l.drop (i*sz)).take sz)
 |[],sz,l,h,i,e,c=>by simp at c
 |u::es,sz,l,h,i,e,c=>by
  simp only[dF]at h;cases i with
  |zero=>simp only[dI,aA]at c;subst c;simpa using⟨h.1,h.2.1⟩
  |succ i=>
   simp only[di]at c;have:=dF.at h.2.2 c;rw[jm,show sz+i*sz=(i+1)*sz by rw[jF,nO]]at this;exact this
theorem dF.bound{E:Env}:∀{es:List (List V)}{sz:Nat}{l:List Value},dF es E sz l->es.length*sz<=l.length
 |[],sz,l,h=>by simp
 |e::es,sz,l,h=>by
  simp only[dF]at h;have g:=dY.length h.2.1;have c:=dF.bound h.2.2;simp only[bf,eY,aS,jF]at*;omega
theorem dF.take{E:Env}:∀{es:List (List V)}{sz:Nat}{l:List Value}(n:Nat),dF es E sz l->dF (es.take n) E sz l
 |[],sz,l,n,h=>by simp[dF]
 |e::es,sz,l,0,h=>by simp[dF]
 |e::es,sz,l,n+1,h=>by
  simp only[dF,lQ]at h⊢;exact⟨h.1,h.2.1,dF.take n h.2.2⟩
theorem dF.drop{E:Env}:∀{es:List (List V)}{sz:Nat}{l:List Value}(n:Nat),dF es E sz l->dF (es.drop n) E sz (l.drop (n*sz))
 |[],sz,l,n,h=>by simp[dF]
 |e::es,sz,l,0,h=>by simpa using h
 |e::es,sz,l,n+1,h=>by
  simp only[dF]at h;have:=dF.drop n h.2.2;rw[jm,show sz+n*sz=(n+1)*sz by rw[jF,nO]]at this;simpa using this
theorem dF.flat{E:Env}:∀{es:List (List V)}{sz:Nat}{l:List Value},dF es E sz l->dY es.flatten E (l.take (es.length*sz))
 |[],sz,l,h=>by simp[dY]
 |e::es,sz,l,h=>by
  simp only[dF]at h;have c:=dF.flat h.2.2;have:=h.2.1.append c;rw[<-List.take_add,nO,<-jF]at this;simpa using this
theorem dF.of_flat{E:Env}:∀{es:List (List V)}{sz:Nat}{l:List Value},(∀e∈es,e.length=sz)->dY es.flatten E (l.take (es.length*sz))->dF es E sz l
 |[],sz,l,_,h=>by simp[dF]
 |e::es,sz,l,hl,h=>by
  have j:=hl e (by simp);simp only[dF];have g:=h.take sz;have c:=h.drop sz;simp only[vM,aS]at g c;rw[gm (by omega),aO (by omega),nQ,eH (by rw[jF];omega)]at g;rw[sZ (by omega),NW (by omega),dm,A9,show(es.length+1)*sz-sz=es.length*sz by rw[jF];omega]at c;exact⟨j,g,dF.of_flat (fun u r=>hl u (by simp[r])) c⟩
def um:List (List V)->Env->List MapEntry->Prop
 |[],_,l=>l=[]
 |e::es,E,l=>∃m l',l=m::l'∧dY e E [m.key,m.val]∧um es E l'
theorem um.mono{E F:Env}(h:E.Le F):∀{es:List (List V)}{l:List MapEntry},um es E l->um es F l
 |[],_,r=>r
 |e::es,l,r=>by
  obtain⟨m,c,hl,g,hr⟩:=r;exact⟨m,c,hl,dY.mono h _ _ g,um.mono h hr⟩
theorem um.length{E:Env}:∀{es:List (List V)}{l:List MapEntry},um es E l->l.length=es.length
 |[],_,r=>by simp only[um]at r;subst r;rfl
 |e::es,l,r=>by
  obtain⟨m,c,rfl,g,hr⟩:=r;simp[um.length hr]
theorem um.snoc{E:Env}{e:List V}{m:MapEntry}(h:dY e E [m.key,m.val]):∀{es:List (List V)}{l:List MapEntry},um es E l->um (es++[e]) E (l++[m])
 |[],_,r=>by simp only[um]at r;subst r;exact⟨m,[],rfl,h,rfl⟩
 |e'::es,l,r=>by
  obtain⟨c,g,rfl,j,hr⟩:=r;exact⟨c,g++[m],rfl,j,um.snoc h hr⟩
theorem um.perm{E:Env}{es es':List (List V)}(h:es'.Perm es):∀{l:List MapEntry},um es E l->∃B,B.Perm l∧um es' E B:=by
 induction h with
 |nil=>exact fun{l}hl=>⟨l,.refl _,hl⟩
 |cons e _ C=>
  rintro l ⟨m,l1,rfl,r,hr⟩;obtain⟨l2,A,u⟩:=C hr;exact⟨m::l2,A.cons m,m,l2,rfl,r,u⟩
 |swap a b t=>
  rintro l ⟨m,l1,rfl,r,m2,l2,rfl,j,hr⟩;exact⟨m2::m::l2,.swap _ _ _,m2,_,rfl,j,m,l2,rfl,r,hr⟩
 |trans _ _ g c=>
  intro l hl;obtain⟨l1,A,u⟩:=c hl;obtain⟨l2,I,F⟩:=g u;exact⟨l2,I.trans A,F⟩
theorem um.at{E:Env}:∀{es:List (List V)}{l:List MapEntry}{i:Nat}{m:MapEntry},um es E l->l[i]? =some m->i<es.length
 |_,_,_,_,h,c=>by
  have:=(au.1 c).1;rw[h.length]at this;exact this
def rG(es:List (List V))(E:Env)(l:List MapEntry):Prop:=∃l',l'.Perm l∧um es E l'
theorem rG.qW{E F:Env}(h:∀n v o,E.own 0 (.g n) v=some o->F.own 0 (.g n) v=some o)(I:∀b c,E.iY b=some c->F.iY b=some c){es:List (List V)}{l:List MapEntry}(hp:es.all (fun e=>e.all V.qW)=true)(r:rG es E l):rG es F l:=by
 obtain⟨j,A,u⟩:=r;refine⟨j,A,?_⟩;clear A;induction es generalizing j with
 |nil=>exact u
 |cons e es B=>
  simp only[aZ,aH]at hp;obtain⟨m,l2,hl,C,hr⟩:=u;exact⟨m,l2,hl,dY.qW h I hp.1 C,B hp.2 l2 hr⟩
theorem rG.mono{E F:Env}(h:E.Le F){es:List (List V)}{l:List MapEntry}(r:rG es E l):rG es F l:=by
 obtain⟨c,j,g⟩:=r;exact⟨c,j,g.mono h⟩
theorem rG.nil{E:Env}:rG [] E []:=⟨[],.refl _,rfl⟩
theorem rG.snoc{E:Env}{e:List V}{m:MapEntry}(h:dY e E [m.key,m.val]){es:List (List V)}{l:List MapEntry}(r:rG es E l):rG (es++[e]) E (l++[m]):=by
 obtain⟨c,j,g⟩:=r;exact⟨c++[m],j.append_right _,g.snoc h⟩
theorem rG.perm{E:Env}{es es':List (List V)}(h:es'.Perm es){l:List MapEntry}(r:rG es E l):rG es' E l:=by
 obtain⟨A,u,j⟩:=r;obtain⟨l2,g,c⟩:=j.perm h;exact⟨l2,g.trans u,c⟩
theorem um.set{E:Env}{e:List V}{m:MapEntry}(h:dY e E [m.key,m.val]):∀{es:List (List V)}{l:List MapEntry}{i:Nat},um es E l->i<es.length->um (es.set i e) E (l.set i m)
 |[],_,_,_,c=>by simp at c
 |e'::es,l,0,r,c=>by
  obtain⟨j,g,rfl,u,hr⟩:=r;exact⟨m,g,rfl,h,hr⟩
 |e'::es,l,i+1,r,c=>by
  obtain⟨j,g,rfl,u,hr⟩:=r;exact⟨j,g.set i m,rfl,u,um.set h hr (by simpa using c)⟩
def Qb:Value->Option V
 | .bool b=>some (.bool b)
 | .int k n=>some (.int k n)
 | .string s=>some (.str s)
 | .pointer none=>some .nA
 | .slice none 0 0=>some .aL
 | .nilFunc=>some .pO
 | .map none=>some .nW
 |_=>none
def CV:List Value->Option (List V)
 |[]=>some []
 |x::l=>(Qb x).bind fun v=>(CV l).map (v::·)
def UZ:Value->Option V
 | .agg cs=>(CV cs.toList).map .agg
 | .func (.func f) first caps=>if first.size=0∧caps.size=0 then some (.fn f [])else none
 |v=>Qb v
def jk:Operand->Option Arg
 | .tmp t=>some (.t t)
 | .const v=>(UZ v).map .c
 | .func f=>some (.c (.fn f []))
 | .global _=>none
def Bu:List Operand->Option (List Arg)
 |[]=>some []
 |x::l=>(jk x).bind fun v=>(Bu l).map (v::·)
def Qr:Option Operand->Option (Option Arg)
 |none=>some none
 |some x=>(jk x).map some
def rH(P:Program)(t:TypeId):Option Bool:=
 match P.underlying t with
 |some (.struct _)|some (.array _ _)=>some true
 |some _=>some false
 |none=>none
def jL(P:Program)(t:TypeId):Option Nat:=(P.info? t).map (·.size)
def nG(P:Program)(t:TypeId):Option (List V):=((P.info? t).bind (·.zero)).bind fun z=>CV z.cells.toList
def Xc(P:Program)(t:TypeId):Option V:=((P.info? t).bind (·.zero)).bind UZ
def SN:TypeDesc->Option MK
 | .int _=>some .int
 | .string=>some .str
 | .bool=>some .bool
 |_=>none
mutual
def pR(P:Program):Nat->TypeId->Option (List LK)
 |0,_=>none
 |d+1,t=>
  match P.underlying t with
  |some .bool=>some [.bool]
  |some (.int _)=>some [.int]
  |some .string=>some [.str]
  |some (.struct fs)=>if P.stoodInHeld t=true then none else rJ P d 0 fs.toList
  |some (.array n e)=>(pR P d e).bind fun k=>if jL P e=some k.length∧0<k.length then some ((List.replicate n k).flatten)else none
  |_=>none
def rJ(P:Program):Nat->Nat->List Field->Option (List LK)
 |_,_,[]=>some []
 |0,_,_=>none
 |d+1,off,f::l=>
  if f.name≠ "_" ∧f.offset=off then
   (pR P d f.type).bind fun k=>if jL P f.type=some k.length∧0<k.length then(rJ P d (off+k.length) l).map (k++·)else none
  else none
end
def Oc(P:Program)(t:TypeId):Bool:=
 match P.underlying t with
 |some (.struct fs)=>fs.toList.all fun f=>f.name== "_" ||match P.underlying f.type with
  |some (.int _)|some .bool=>true
  |_=>false
 |_=>false
def LG(P:Program)(t:TypeId):Option MK:=
 match P.underlying t with
 |some (.struct _)=>if Oc P t then(pR P 20 t).bind fun lay=>if lay.all (·!= .str)then some (.agg lay)else none else none
 |some d=>SN d
 |none=>none
def DN(P:Program):List Field->Option (List (Nat×Nat))
 |[]=>some []
 |f::l=>(jL P f.type).bind fun n=>(DN P l).map ((f.offset,n)::·)
def oD(place:Nat->Option (Nat×Nat)):List (Nat×Operand)->Option (List (Nat×Nat×Arg))
 |[]=>some []
 |(i,x)::l=>(place i).bind fun p=>(jk x).bind fun v=>(oD place l).map ((p.1,p.2,v)::·)
structure Mode where
 pm:Bool:=true
 ca:Bool:=true
 ala:Bool:=false
 alb:Bool:=false
 sh:Bool:=false
 fo:Bool:=true
 gl:List Nat:=[]
 ow:List Nat:=[]
 fz:List Nat:=[]
 fu:List Nat:=[]
def Mode.SQ(m:Mode)(d:Option Nat):Bool:=d.any (m.gl.contains ·)
def Mode.aq4(m:Mode)(d:Option Nat):Bool:=m.alb||d.any (m.ow.contains ·)
def Mode.aq5(m:Mode)(d:Option Nat):Bool:=m.ala||d.any (m.fz.contains ·)
def uf(m:Mode)(dst:Option Nat)(site:Nat)(z:List V)(n len:Nat)(q:List (Nat×Nat×Arg)):gJ:=
 if m.SQ dst then .litr 0 n z len q else if dst.any (m.ow.contains ·)then .litr site n z len q
 else if z.any V.acG then .litf (!m.pm||m.sh) n z len q else .lit (dst.any (m.fu.contains ·)) n z len q
def qh(m:Mode)(dst:Option Nat)(site:Nat)(f:Arg)(aEp:List Arg):gJ:=
 if m.ca then .calla (m.aq5 dst) (m.SQ dst) (if m.aq4 dst then site else 0) f aEp else .call f aEp
def Ex(P:Program)(m:Mode)(site:Nat)(o:Oper):Option gJ:=
 match o.op with
 | .move x| .assign x=>(jk x).map .mv
 | .pick c a b=>(jk c).bind fun c=>(jk a).bind fun a=>(jk b).map fun b=> .pick c a b
 | .binOp op t x y _=>
  (jk x).bind fun x=>(jk y).bind fun y=>
   match P.underlying t with
   |some (.int _)|some .string=>some (.bin op x y)
   |some .bool=>if op= .eql∨op= .neq then some (.eqb (op== .neq) x y)else none
   |some (.struct _)|some (.array _ _)=>
    if(op= .eql∨op= .neq)∧P.eqGuardType P.depth t=false then(pR P 20 t).map fun lay=> .eqagg lay (op== .neq) x y else none
   |some (.slice _)=>
    match y with
    | .c .aL=>if op= .eql∨op= .neq then some (.YF (op== .neq) x)else none
    |_=>none
   |_=>none
 | .unOp .not _ x=>(jk x).map .not
 | .unOp .neg _ x=>(jk x).map .neg
 | .convert s d x=>
  match P.underlying s,P.underlying d with
  |some (.int _),some (.int k)=>(jk x).map (.conv k)
  |_,_=>none
 | .alloc t=>(nG P t).map fun z=>if m.SQ o.dst then .galloc z else .alloc site z
 | .box _ x=>(jk x).map fun x=>if m.SQ o.dst then .gbox x else .box site x
 | .build t parts=>
  (nG P t).bind fun z=>
   match P.underlying t with
   |some (.struct fs)=>(DN P fs.toList).bind fun ps=>(oD (ps[·]?) parts.toList).map fun q=> .build z q
   |some (.array _ e)=>(jL P e).bind fun n=>(oD (fun i=>some (i*n,n)) parts.toList).map fun q=> .build z q
   |_=>none
 | .buildSlice t len parts=>
  match P.underlying t with
  |some (.slice e)=>(jL P e).bind fun n=>(nG P e).bind fun z=>
   if z.length=n∧0<n∧len*n<=16777216 then(oD (fun i=>some (i*n,n)) parts.toList).map (uf m o.dst site z n len)else none
  |_=>none
 | .load t a=>(rH P t).bind fun g=>(jL P t).bind fun n=>(jk a).map (.load g n)
 | .store t a v=>(jL P t).bind fun n=>(jk a).bind fun a=>(jk v).map fun v=> .store n a v
 | .nilCheck x=>(jk x).map .nilck
 | .fieldAddr s x f=>
  match P.underlying s with
  |some (.struct fs)=>(fs[f]?).bind fun fd=>(jL P fd.type).bind fun n=>if n=0 then none else(jk x).map (.fieldAddr fd.offset)
  |_=>none
 | .indexAddr t x i=>
  match P.underlying t with
  |some (.slice e)=>(jL P e).bind fun n=>(jk x).bind fun x=>(jk i).map fun i=> .vw n x i
  |some (.array len e)=>(jL P e).bind fun n=>(jk x).bind fun x=>(jk i).map fun i=> .NZ len n x i
  |_=>none
 | .index t x i=>
  match P.underlying t with
  |some (.array len e)=>(jL P e).bind fun n=>(rH P e).bind fun g=>(jk x).bind fun x=>(jk i).map fun i=> .idx len n g x i
  |some .string=>(jk x).bind fun x=>(jk i).map fun i=> .SG x i
  |_=>none
 | .slice t x lo hi mx=>
  match P.underlying t with
  |some (.slice e)=>(jL P e).bind fun n=>(jk x).bind fun x=>(Qr lo).bind fun lo=>(Qr hi).bind fun hi=>(Qr mx).map fun mx=> .sub n x lo hi mx
  |some .string=>if mx.isSome then none else(jk x).bind fun x=>(Qr lo).bind fun lo=>(Qr hi).map fun hi=> .strSub x lo hi
  |_=>none
 | .makeFunc (.func f) first caps=>if first.size=0 then(Bu caps.toList).map fun cs=> .mkfn f cs else if caps.size=0 then(Bu first.toList).map fun cs=> .mkmth f cs else none
 | .makeSlice t len cap=>
  match P.underlying t with
  |some (.slice e)=>(P.info? e).bind fun i=>(nG P e).bind fun z=>(jk len).bind fun l=>(jk cap).bind fun c=>
   if z.length=i.size∧0<i.size then some (if m.SQ o.dst then .gmks i.size z i.bytes l c else .mks site i.size z i.bytes l c)else none
  |_=>none
 | .extract x i=>(jk x).map fun x=> .ext x i
 | .makeMap t r=>
  match P.underlying t,r with
  |some (.map k _),none=>(LG P k).map fun _=>if m.SQ o.dst then .gmkmap else .mkmap site
  |_,_=>none
 | .lookup t x i ok=>
  match P.underlying t with
  |some (.map k e)=>(LG P k).bind fun m=>(Xc P e).bind fun z=>(jk x).bind fun x=>(jk i).map fun i=> .SH m ok z x i
  |_=>none
 | .mapUpdate t x k v=>
  match P.underlying t with
  |some (.map kt _)=>(LG P kt).bind fun m=>(jk x).bind fun x=>(jk k).bind fun k=>(jk v).map fun v=> .mput m x k v
  |_=>none
 | .insert t x k v=>
  match P.underlying t with
  |some (.map kt _)=>(LG P kt).bind fun m=>(jk x).bind fun x=>(jk k).bind fun k=>(jk v).map fun v=> .mins m x k v
  |_=>none
 | .call c=>
  match c.callee with
  | .value f=>(jk f).bind fun f=>(Bu c.args.toList).map fun aEp=>qh m o.dst site f aEp
  | .builtin .len=>
   match c.argTypes.toList,c.args.toList with
   |[t],[x]=>
    match P.underlying t with
    |some .string=>(jk x).map .agA
    |some (.slice _)=>(jk x).map .len
    |some (.array n _)=>some (.mv (.c (.int .i64 n)))
    |_=>none
   |_,_=>none
  | .builtin .append=>
   match c.argTypes.toList,c.args.toList with
   |[t,u],[x,y]=>
    match P.underlying t,P.underlying u with
    |some (.slice e),some (.slice _)=>(P.info? e).bind fun i=>(nG P e).bind fun z=>(jk x).bind fun x=>(jk y).bind fun y=>
     if 0<i.size∧0<i.bytes∧z.length=i.size then some (.app (if m.SQ o.dst then 0 else site) i.size i.bytes x y)else none
    |_,_=>none
   |_,_=>none
  | .builtin .clear=>
   match c.argTypes.toList,c.args.toList with
   |[t],[x]=>
    match P.underlying t with
    |some (.slice e)=>(jL P e).bind fun n=>(nG P e).bind fun z=>(jk x).bind fun x=>if z.length=n∧0<n then some (.clr n z x)else none
    |_=>none
   |_,_=>none
  | .builtin .min=>(Bu c.args.toList).map (.mm false)
  | .builtin .max=>(Bu c.args.toList).map (.mm true)
  |_=>none
 |_=>none
def gJ.site:gJ->Ix
 | .alloc s _| .box s _| .app s _ _ _ _| .calla _ _ s _ _| .litr s _ _ _ _| .mks s _ _ _ _ _| .mkmap s=> .o s
 |_=>0
def gJ.dC:gJ->List Arg
 | .YF _ x| .mv x| .not x| .neg x| .conv _ x| .box _ x| .gbox x| .clr _ _ x| .load _ _ x| .YE _ _ x| .fieldAddr _ x| .len x| .agA x| .ext x _| .nilck x=>[x]
 | .pick a b c=>[a,b,c]
 | .bin _ x y| .eqb _ x y| .eqagg _ _ x y| .store _ x y| .vw _ x y| .NZ _ _ x y| .idx _ _ _ x y| .SG x y| .app _ _ _ x y| .mks _ _ _ _ x y| .gmks _ _ _ x y| .SH _ _ _ x y=>[x,y]
 | .mput _ x y z| .mins _ x y z=>[x,y,z]
 | .alloc _ _| .allocd _ _| .mkmap _| .galloc _| .gmkmap| .bad=>[]
 | .build _ ps| .lit _ _ _ _ ps| .litf _ _ _ _ ps| .litr _ _ _ _ ps=>ps.map (·.2.2)
 | .sub _ x lo hi mx=>x::(lo.toList++hi.toList++mx.toList)
 | .strSub x lo hi=>x::(lo.toList++hi.toList)
 | .call f aEp| .calla _ _ _ f aEp=>f::aEp
 | .mkfn _ cs| .mkmth _ cs=>cs
 | .mm _ xs=>xs
def fO:List Arg->List Nat
 |[]=>[]
 | .t i::l=>i::fO l
 | .c _::l=>fO l
def bL.reads(o:bL):List Nat:=fO o.op.dC++(match o.guard with|some (d,_)=>[d]|none=>[])
def gJ.mY:gJ->Bool
 | .store .. | .app .. | .litf .. | .calla .. | .mput .. | .mins .. | .galloc .. | .gbox .. | .gmks .. | .gmkmap| .litr .. | .clr .. =>true
 |_=>false
def EK(P:Program)(m:Mode)(site:Nat)(ops:Array Oper)(ntmps:Nat)(o:Oper):Option bL:=
 (some ((Ex P m site o).getD .bad)).bind fun op=>
  if o.dst.all (·<ntmps)then
   match o.guard with
   |none=>some ⟨o.dst,op,none⟩
   |some (j,w)=>((ops[j]?).bind (·.dst)).map fun d=>⟨o.dst,op,some (d,w)⟩
  else none
def vQ(P:Program)(m:Mode)(ops:Array Oper)(ntmps:Nat):Nat->List Oper->Option (List bL×Nat)
 |site,[]=>some ([],site)
 |site,o::l=>(EK P m site ops ntmps o).bind fun a=>
  (vQ P m ops ntmps (if a.op.site=0 then site else site+1) l).map fun r=>(a::r.1,r.2)
def Od(ms:List Nat)(o:Oper):Nat:=
 o.after.toList.foldl (fun m e=>if Region.binds .any e∧e.on<ms.length then m|||2^e.on|||(ms.reverse.getD e.on 0)else m) 0
def mQ:List Nat->List Oper->List Nat
 |ms,[]=>ms.reverse
 |ms,o::l=>mQ (Od ms o::ms) l
def vS(n:Nat)(p:Nat->Bool):Bool:=(List.range n).all p
def agC(ms:List Nat)(k n:Nat):Bool:=vS n fun j=>decide (j<k)||vS j fun i=>(ms.getD j 0).testBit i
def EL(ms:List Nat)(n:Nat):Nat->Nat
 |0=>0
 |k+1=>if vS k fun i=>(ms.getD k 0).testBit i then EL ms n k else k+1
def Jl(ms:List Nat)(i j:Nat)(x y:bL):Bool:=
 if i=j then true
 else
  (match y.dst with
   |none=>true
   |some d=>
    (!(x.reads.contains d)||(if j<i then(ms.getD i 0).testBit j else(ms.getD j 0).testBit i))&&
    (x.dst !=some d))&&
  (y.op.site==0||x.op.site !=y.op.site)
def gJ.DT:gJ->Bool
 | .alloc s _| .box s _| .mks s _ _ _ _ _| .mkmap s=>s !=0
 |_=>true
def agD(ms:List Nat)(k:Nat)(l:List bL):Bool:=
 vS k fun i=>match l[i]?with
  |none=>false
  |some x=> !x.op.mY&&x.op.DT&&vS k fun j=>match l[j]?with
   |none=>false
   |some y=>Jl ms i j x y
def Jm:Nat->List Oper->Bool
 |_,[]=>true
 |i,o::l=>o.after.toList.all (fun e=> !Region.binds .any e||decide (e.on<i))&&Jm (i+1) l
def Oe(ops:List Oper)(l:List bL):Bool:=
 let ms:=mQ [] ops;let k:=EL ms ops.length ops.length;decide (k<=ops.length)&&Jm 0 ops&&agC ms k ops.length&&agD ms k l
def gJ.changes:gJ->Bool
 | .alloc .. | .box .. | .app .. | .store .. | .call .. | .calla .. | .mks .. | .litf .. | .mkmap .. | .mput .. | .mins .. | .galloc .. | .gbox .. | .gmks .. | .gmkmap| .litr .. | .clr .. =>true
 |_=>false
def gJ.vT:gJ->Bool
 | .load .. | .SH .. =>true
 |_=>false
def gJ.YJ:gJ->gJ
 | .load g n x=> .YE g n x
 | .SH .. => .bad
 |o=>o
def qK(ms:List Nat)(i j:Nat):Bool:=if i<j then(ms.getD j 0).testBit i else(ms.getD i 0).testBit j
def sK(ms:List Nat)(l:List bL)(i:Nat):Bool:=
 vS l.length fun j=>i==j||(match l[j]?with
  |some y=> !y.op.changes||qK ms i j
  |none=>true)
def gJ.Jn:gJ->Bool
 | .calla false _ 0 _ _=>true
 |_=>false
def agE(ms:List Nat)(l:List bL)(i:Nat):Bool:=
 vS l.length fun j=>i==j||(match l[j]?with
  |some y=> !y.op.changes||y.op.Jn||(match y.op with| .alloc .. =>true|_=>false)||(decide (i<j)&&qK ms i j)
  |none=>true)
def U0(ms:List Nat)(l:List bL):Bool:=
 vS l.length fun i=>match l[i]?with
  |some ⟨d,.alloc _ z,g⟩=>d.isSome&&g.isNone&&z.all V.scalar&&agE ms l i
  |_=>true
def Jo(o:bL):bL:=
 match o.op with
 | .alloc s z=>{o with op:= .allocd s z}
 |_=>o
def Bw:List bL->List (Nat×List V)
 |[]=>[]
 |o::l=>match o.op with
  | .alloc s z=>(s,z)::Bw l
  |_=>Bw l
def xQ(ms:List Nat)(l:List bL):List bL×List (Nat×List V):=if U0 ms l then(l.map Jo,Bw l)else(l,[])
def zL:List (Nat×List V)->Bool
 |[]=>true
 |(s,z)::l=>z.all V.scalar&&l.all (fun q=>q.1 !=s)&&zL l
def xR(x y:bL):Bool:=
 match x.op,y.op,x.guard,y.guard,x.dst,y.dst with
 | .mins m (.t a) (.c k1) (.c _),.mins m' (.t b) (.c k2) (.c _),none,none,none,none=>m==m'&&a==b&&wC m k1 k2==some false&&wC m k2 k1==some false
 |_,_,_,_,_,_=>false
def Qs(ms:List Nat)(i j:Nat)(x y:bL):Bool:=
 if i=j then true
 else
  (match y.dst with
   |none=>true
   |some d=>(!(x.reads.contains d)||(if j<i then(ms.getD i 0).testBit j else(ms.getD j 0).testBit i))&&(x.dst !=some d))&&
  (!(x.op.changes&&y.op.changes)||qK ms i j||(j==i+1&&xR x y)||(i==j+1&&xR y x))
def Og(ops:List Oper)(l:List bL):Bool:=
 let ms:=mQ [] ops
 Jm 0 ops&&vS ops.length fun i=>match l[i]?with
  |none=>false
  |some x=>vS ops.length fun j=>match l[j]?with
   |none=>false
   |some y=>Qs ms i j x y
def yt(l:List bL)(i a:Nat):Bool:=(l.drop i).all fun o=>o.dst !=some a
def U1(ms:List Nat)(all:List bL)(i a j:Nat)(y:bL):Option (List (Nat×Nat)):=
 if i=j∨y.op.changes=false∨qK ms i j=true then some []
 else match y.op with
  | .store _ (.t b) _=>if a≠b∧yt all j b then some [(a,b)]else none
  | .calla false _ 0 _ _=>some [(a,a)]
  | .call _ _=>some []
  | .litf true _ _ _ _=>some []
  | .app .. =>y.dst.bind fun d=>if a≠d∧yt all (j+1) d then some [(a,d)]else none
  | .mput _ (.t b) _ _=>if a≠b∧yt all j b then some [(a,b)]else none
  |_=>none
def Oh(ms:List Nat)(all:List bL)(i a:Nat):Nat->List bL->Option (List (Nat×Nat))
 |_,[]=>some []
 |j,y::l=>(U1 ms all i a j y).bind fun c=>(Oh ms all i a (j+1) l).map (c++·)
def gJ.loadAt:gJ->Option Nat
 | .load _ _ (.t a)| .SH _ _ _ (.t a) _=>some a
 |_=>none
def Cu(ms:List Nat)(all:List bL)(i:Nat)(o:bL):Option (List (Nat×Nat)):=
 o.op.loadAt.bind fun a=>if yt all i a then Oh ms all i a 0 all else none
def iO(ms:List Nat)(all:List bL):Nat->List bL->List bL×List (Nat×Nat)
 |_,[]=>([],[])
 |i,o::l=>
  let r:=iO ms all (i+1) l
  if o.op.vT&& !sK ms all i then
   match Cu ms all i o with
   |some c=>(o::r.1,c++r.2)
   |none=>({o with op:=o.op.YJ}::r.1,r.2)
  else(o::r.1,r.2)
def qL:List bL->List Ix
 |[]=>[]
 |o::l=>if o.op.site=0 then qL l else o.op.site::qL l
def kY(P:Program)(m:Mode)(ntmps:Nat):Nat->Code->Option (eu×Nat)
 |s,.skip|s,.label _=>some (.skip,s)
 |s,.region _ ops draw=>
  (vQ P m ops ntmps s ops.toList).bind fun q=>
   if draw then
    (vQ P {m with ca:=false} ops ntmps s ops.toList).bind fun r=>
     if !m.fo&&Oe ops.toList r.1 then some (.region (qL (r.1.take (EL (mQ [] ops.toList) ops.size ops.size))) [] r.1 [],r.2)
     else
      let la:=xQ (mQ [] ops.toList) q.1
      if Og ops.toList la.1&&zL la.2 then
       let f:=iO (mQ [] ops.toList) la.1 0 la.1
       some (.region [] la.2 f.1 f.2,q.2)
      else none
   else some (.region [] [] q.1 [],q.2)
 |s,.seq a b=>(kY P m ntmps s a).bind fun x=>(kY P m ntmps x.2 b).map fun y=>(.seq x.1 y.1,y.2)
 |s,.cond c a b=>(jk c).bind fun c=>(kY P m ntmps s a).bind fun x=>(kY P m ntmps x.2 b).map fun y=>(.cond c x.1 y.1,y.2)
 |s,.block id c=>(kY P m ntmps s c).map fun x=>(.block id x.1,x.2)
 |s,.loop c=>(kY P m ntmps s c).map fun x=>(.loop x.1,x.2)
 |s,.exit id=>some (.exit id,s)
 |s,.scope c=>(kY P m ntmps s c).map fun x=>(.scope x.1,x.2)
 |s,.ret=>some (.ret,s)
 |_,_=>none
def SS(P:Program):List ResultVar->Option (List sU)
 |[]=>some []
 | .tmp t::l=>(SS P l).map (.tmp t::·)
 | .cell a t::l=>(rH P t).bind fun g=>(jL P t).bind fun n=>(SS P l).map (.cell a g n::·)
def U2(P:Program)(m:Mode)(fn:Func):Option uw:=
 if fn.name= "runtime.NumGoroutine" ∨fn.ntmps<fn.params.size+fn.nfree then none else
 fn.body.bind fun c=>(SS P fn.results.toList).bind fun rs=>(kY P m fn.ntmps 1 c).map fun r=>⟨m.pm,rs,r.1⟩
end Go.Ht
namespace Go.Ht
open Go Go.RowKit
structure eD(E:Env)(M:List Mem)(w:World):Prop where
 iY:∀b cs,E.iY b=some cs->∃t fr,w.heap[b]? =some (.cells cs t fr)
 blk:∀d s v o,E.own d s v=some o->o.blk<w.heap.size
 cur:∀d s o,E.own d s (iH M d s).ver=some o->o.mp=false->∃c t,w.heap[o.blk]? =some (.cells c t (0,0))∧c.size=o.cs∧
  o.sz=(iH M d s).sz∧dF (iH M d s).els (E.up d) o.sz c.toList
 Oi:∀d s o,E.own d s (iH M d s).ver=some o->o.mp=true->∃es yX,w.heap[o.blk]? =some (.map es yX)∧rG (iH M d s).els (E.up d) es.toList
 inj:∀d s v o d' s' v' o',E.own d s v=some o->E.own d' s' v'=some o'->o.blk=o'.blk->d=d'∧s=s'
 LH:∀d s o,E.own d s (iH M d s).ver=some o->(iH M d s).fz=false->E.iY o.blk=none
 LJ:∀d s o,E.own d s (iH M d s).ver=some o->(iH M d s).fz=true->o.mp=false∧∃c,E.iY o.blk=some c∧dF (iH M d s).els E.bare o.sz c.toList
 IG:∀d n v,E.own (d+1) (.g n) v=none
theorem rY{w:World}{b:Nat}{o:Obj}(h:w.heap[b]? =some o):b<w.heap.size:=by
 rcases jq b w.heap.size with h'|h'
 ·exact h'
 ·simp[Array.getElem?_eq_none h']at h
theorem eD.below{E:Env}{M:List Mem}{w w':World}(h:eD E M w)(j:Below w.heap.size w w'):eD E M w':=by
 refine⟨fun b cs r=> ?_,fun d s v o ho=> ?_,fun d s o ho hp=> ?_,fun d s o ho hp=> ?_,h.inj,h.LH,h.LJ,h.IG⟩
 ·obtain⟨t,fr,hc⟩:=h.iY b cs r
  exact⟨t,fr,(j.block b (rY hc)).trans hc⟩
 ·have:=h.blk d s v o ho
  exact uq this j.size
 ·obtain⟨c,t,hc,g⟩:=h.cur d s o ho hp
  exact⟨c,t,(j.block _ (rY hc)).trans hc,g⟩
 ·obtain⟨es,l,hc,g⟩:=h.Oi d s o ho hp
  exact⟨es,l,(j.block _ (rY hc)).trans hc,g⟩
theorem eD.change{E:Env}{M g:List Mem}{w:World}(h:eD E M w)
  (hm:∀d s o,E.own d s (iH g d s).ver=some o->iH g d s=iH M d s):eD E g w:=by
 refine⟨h.iY,h.blk,fun d s o ho hp=> ?_,fun d s o ho hp=> ?_,h.inj,fun d s o ho c=> ?_,fun d s o ho c=> ?_,h.IG⟩
 ·have:=hm d s o ho
  rw[this]at ho⊢;exact h.cur d s o ho hp
 ·have:=hm d s o ho
  rw[this]at ho⊢;exact h.Oi d s o ho hp
 ·have:=hm d s o ho
  rw[this]at ho c;exact h.LH d s o ho c
 ·have:=hm d s o ho
  rw[this]at ho c⊢;exact h.LJ d s o ho c
@[simp] theorem df(L:Mem)(H:List Mem)(s:Ix):iH (L::H) 0 s=ax L s:=rfl
@[simp] theorem Jp(L:Mem)(H:List Mem)(d:Nat)(s:Ix):iH (L::H) (d+1) s=iH H d s:=rfl
def Env.kg(E:Env)(b:Nat)(c:Array Value):Env:={E with iY:=fun x=>if x=b then some c else E.iY x}
def Env.fG(E:Env)(s:Ix)(ver:Nat)(o:Own):Env:={E with own:=fun d s' v=>if d=0∧s'=s∧v=ver then some o else E.own d s' v}
theorem Env.qM{E:Env}{b:Nat}{c:Array Value}(h:E.iY b=none):E.Le (E.kg b c):=by
 refine⟨fun _ _ _ _ x=>x,fun x c' hx=> ?_⟩;simp only[Env.kg];split
 ·rename_i e;subst e;rw[h]at hx;cases hx
 ·exact hx
theorem Env.uC{E:Env}{s:Ix}{ver:Nat}{o:Own}(h:E.own 0 s ver=none):E.Le (E.fG s ver o):=by
 refine⟨fun d s' v c x=> ?_,fun _ _ x=>x⟩;simp only[Env.fG];split
 ·rename_i e;obtain⟨rfl,rfl,rfl⟩:=e;rw[h]at x;cases x
 ·exact x
theorem eD.agF{E:Env}{M:List Mem}{w:World}(h:eD E M w){b:Nat}{cs:Array Value}(c:E.iY b=some cs):b<w.heap.size:=by
 obtain⟨t,fr,hc⟩:=h.iY b cs c;exact rY hc
theorem eD.Cw{E:Env}{M:List Mem}{w:World}(h:eD E M w){b:Nat}(g:w.heap.size<=b):E.iY b=none:=by
 cases c:E.iY b with
 |none=>rfl
 |some cs=>have:=h.agF c;omega
theorem eD.kg{E:Env}{M:List Mem}{w:World}(h:eD E M w){b:Nat}{c:Array Value}{t:TypeId}{fr:Nat×Nat}
  (l:E.iY b=none)(F:w.heap[b]? =some (.cells c t fr))(r:∀d s o,E.own d s (iH M d s).ver=some o->(iH M d s).fz=false->o.blk≠b):eD (E.kg b c) M w:=by
 refine⟨fun x cs hx=> ?_,fun d s v o ho=>h.blk d s v o ho,fun d s o ho hp=> ?_,fun d s o ho hp=> ?_,h.inj,fun d s o ho j=> ?_,fun d s o ho j=> ?_,h.IG⟩
 ·simp only[Env.kg]at hx
  split at hx
  ·rename_i e;subst e;cases hx;exact⟨t,fr,F⟩
  ·exact h.iY x cs hx
 ·obtain⟨c',C,hc,g,A,u⟩:=h.cur d s o ho hp
  exact⟨c',C,hc,g,A,dF.mono ((Env.qM l).up d) _ _ _ u⟩
 ·obtain⟨es,B,hc,g⟩:=h.Oi d s o ho hp
  exact⟨es,B,hc,g.mono ((Env.qM l).up d)⟩
 ·have:=h.LH d s o ho j
  simp only[Env.kg,aP (r d s o ho j),this]
 ·obtain⟨g,c',A,u⟩:=h.LJ d s o ho j
  exact⟨g,c',(Env.qM l).iY _ _ A,dF.mono (Env.qM l).bare _ _ _ u⟩
theorem eD.SV{E:Env}{M:List Mem}{w:World}(h:eD E M w){s:Ix}{ver:Nat}{q:Own}
  (hf:E.own 0 s ver=none)(Q:E.iY q.blk=none)(I:q.blk<w.heap.size)(A:∀d s v o,E.own d s v=some o->o.blk≠q.blk)
  (hr:(iH M 0 s).ver=ver->q.mp=false->∃c t,w.heap[q.blk]? =some (.cells c t (0,0))∧c.size=q.cs∧q.sz=(iH M 0 s).sz∧dF (iH M 0 s).els E q.sz c.toList)
  (Z:(iH M 0 s).ver=ver->q.mp=true->∃es l,w.heap[q.blk]? =some (.map es l)∧rG (iH M 0 s).els E es.toList)
  (Y:(iH M 0 s).ver=ver->(iH M 0 s).fz=false):
  eD (E.fG s ver q) M w:=by
 have g:=Env.uC (o:=q) hf;refine⟨h.iY,fun d s' v o ho=> ?_,fun d s' o ho hp=> ?_,fun d s' o ho hp=> ?_,fun d W X o d' U T o' ho F J=> ?_,fun d s' o ho r=> ?_,fun d s' o ho r=> ?_,fun d n v=> ?_⟩
 ·simp only[Env.fG]at ho⊢
  split at ho
  ·cases ho;exact I
  ·exact h.blk d s' v o ho
 ·simp only[Env.fG]at ho
  split at ho
  ·rename_i e;obtain⟨rfl,rfl,u⟩:=e
   cases ho;obtain⟨c,t,K,R,C,j⟩:=hr u hp;exact⟨c,t,K,R,C,by simpa using dF.mono g _ _ _ j⟩
  ·obtain⟨c',O,hc,C,j,B⟩:=h.cur d s' o ho hp
   exact⟨c',O,hc,C,j,dF.mono (g.up d) _ _ _ B⟩
 ·simp only[Env.fG]at ho
  split at ho
  ·rename_i e;obtain⟨rfl,rfl,u⟩:=e
   cases ho;obtain⟨es,l,K,j⟩:=Z u hp;exact⟨es,l,K,by simpa using j.mono g⟩
  ·obtain⟨es,l,hc,B⟩:=h.Oi d s' o ho hp
   exact⟨es,l,hc,B.mono (g.up d)⟩
 ·simp only[Env.fG]at ho F
  split at ho<;>split at F
  ·rename_i e N;exact⟨e.1.trans N.1.symm,e.2.1.trans N.2.1.symm⟩
  ·cases ho;exact absurd J.symm (A _ _ _ _ F)
  ·cases F;exact absurd J (A _ _ _ _ ho)
  ·exact h.inj _ _ _ _ _ _ _ _ ho F J
 ·simp only[Env.fG]at ho
  split at ho
  ·cases ho;exact Q
  ·exact h.LH d s' o ho r
 ·simp only[Env.fG]at ho
  split at ho
  ·rename_i e;obtain⟨rfl,rfl,u⟩:=e
   rw[Y u]at r;cases r
  ·obtain⟨C,c',j,B⟩:=h.LJ d s' o ho r
   exact⟨C,c',j,dF.mono g.bare _ _ _ B⟩
 ·simp only[Env.fG]
  rw[aP (by simp)];exact h.IG d n v
theorem eD.fG{E:Env}{M:List Mem}{w:World}(h:eD E M w){s:Ix}{ver b:Nat}{c:Array Value}{t:TypeId}{sz:Nat}
  (hf:E.own 0 s ver=none)(r:E.iY b=none)(l:w.heap[b]? =some (.cells c t (0,0)))(j:∀d s v o,E.own d s v=some o->o.blk≠b)
  (hr:∀(_:(iH M 0 s).ver=ver),sz=(iH M 0 s).sz∧(iH M 0 s).fz=false∧dF (iH M 0 s).els E sz c.toList):
  eD (E.fG s ver ⟨b,sz,c.size,false⟩) M w:=
 h.SV hf r (rY l) j (fun g _=>⟨c,t,l,rfl,(hr g).1,(hr g).2.2⟩) (fun _ e=>by cases e) (fun g=>(hr g).2.1)
theorem eD.agG{E:Env}{M:List Mem}{w:World}(h:eD E M w){s:Ix}{ver b:Nat}{es:Array MapEntry}{j:Nat}
  (hf:E.own 0 s ver=none)(r:E.iY b=none)(l:w.heap[b]? =some (.map es j))(g:∀d s v o,E.own d s v=some o->o.blk≠b)
  (hr:∀(_:(iH M 0 s).ver=ver),(iH M 0 s).fz=false∧rG (iH M 0 s).els E es.toList):
  eD (E.fG s ver ⟨b,0,0,true⟩) M w:=
 h.SV hf r (rY l) g (fun _ e=>by cases e) (fun c _=>⟨es,j,l,(hr c).2⟩) (fun c=>(hr c).1)
theorem rO(w:World)(o:Obj):(w.alloc o).heap[w.heap.size]? =some o:=by
 show(w.heap.push o)[w.heap.size]? =some o;simp
theorem nY(w:World)(o:Obj):Below w.heap.size w (w.alloc o):=(jh _ _).alloc (aJ _) _
theorem eD.zM{E:Env}{M:List Mem}{w:World}(h:eD E M w):∀d s v o,E.own d s v=some o->o.blk≠w.heap.size:=by
 intro d s v o ho c;have:=h.blk d s v o ho;omega
theorem CU{w:World}{b off:Nat}{c:Array Value}{t:TypeId}{fr:Nat×Nat}(h:w.heap[b]? =some (.cells c t fr)):
  w.cell? ⟨b,off,none⟩=c.toList[off]? :=by
 simp[World.cell?,h]
@[simp] theorem rZ(b o j:Nat):(⟨b,o,none⟩:Addr).add j=⟨b,o+j,none⟩:=by
 unfold Addr.add;split<;>simp_all
theorem GN{P:Program}{E:Env}{w:World}{t:TypeId}{g:Bool}{n b o off:Nat}{c:Array Value}{K:TypeId}{fr:Nat×Nat}{e:List V}{v:V}
  (C:rH P t=some g)(hn:jL P t=some n)(I:w.heap[b]? =some (.cells c K fr))
  (F:dY e E ((c.toList.drop o).take e.length))(hp:Bo g n e off=some v):
  ∃x,(loadVar t ⟨b,o+off,none⟩).run P w= .ok x w∧VR v E x:=by
 have O:∃d,P.underlying t=some d∧(isAgg t).run P w= .ok g w:=by
  unfold rH at C;cases hd:P.underlying t with
  |none=>simp[hd]at C
  |some d=>
   refine⟨d,rfl,?_⟩;simp only[hd]at C;unfold isAgg;simp only[bJ,run_underlying hd,aQ];cases d<;>simp_all
 obtain⟨d,hd,u⟩:=O;have hl:=F.length;simp only[bf,eY]at hl;unfold jL at hn;obtain⟨i,R,rfl⟩:=ae.1 hn;cases g with
 |false=>
  simp only[Bo,bq,bZ]at hp;obtain⟨x,hx,N⟩:=F.at hp;have A:off<e.length:=(au.1 hp).1;rw[fQ A,iU]at hx;refine⟨x,?_,N⟩;unfold loadVar;simp only[bJ,u,aQ,bq,bZ,run_load,CU I,hx]
 |true=>
  simp only[Bo,bK]at hp;split at hp
  ·rename_i Q
   cases hp;have J:=(F.drop off).take i.size;refine⟨.agg (((c.toList.drop (o+off)).take i.size).toArray),?_,?_⟩
   ·unfold loadVar
    simp only[bJ,u,aQ,bK,sizeOf,typeInfo,run_program,R,dz];have l:=run_loadCells_list (P:=P) w ⟨b,o+off,none⟩ ((c.toList.drop (o+off)).take i.size) (fun j v B=>by
     rw[rZ,CU I];have T:=(au.1 B).1;simp only[bf]at T;rw[fQ (by omega),iU]at B;exact B)
    have r:((c.toList.drop (o+off)).take i.size).length=i.size:=by
     simp only[bf,eY];omega
    rw[r]at l;rw[l];rfl
   ·simp only[VR]
    refine⟨_,rfl,?_⟩;rw[A9,nQ,eH (by omega),jm]at J;simpa using J
  ·cases hp
theorem Jq{x:Value}{v:V}(h:Qb x=some v)(E:Env):VR v E x:=by
 unfold Qb at h;split at h<;>first|(cases h;simp[VR];done)|cases h
theorem xS(E:Env):∀{l:List Value}{vs:List V},CV l=some vs->dY vs E l
 |[],vs,h=>by simp only[CV,aA]at h;subst h;rfl
 |x::l,vs,h=>by
  simp only[CV,aj,ae]at h;obtain⟨v,c,us,g,rfl⟩:=h;exact⟨x,l,rfl,Jq c E,xS E g⟩
theorem MJ{x:Value}{v:V}(h:UZ x=some v)(E:Env):VR v E x:=by
 unfold UZ at h;split at h
 ·simp only[ae]at h
  obtain⟨vs,c,rfl⟩:=h;exact⟨_,rfl,xS E c⟩
 ·split at h
  ·rename_i f first caps hc
   cases h;obtain⟨j,g⟩:=hc;have r:first= #[]:=by simpa using j
   have l:caps= #[]:=by simpa using g
   subst r;subst l;exact⟨#[],rfl,rfl⟩
  ·cases h
 ·exact Jq h E
def Bz(E:Env)(fr:List V)(a:Act)(ts:List Nat):Prop:=∀t∈ts,VR (ag fr t) E (a.tmps.getD t undef)
theorem Oj{E:Env}{fr:List V}{a:Act}{x:Operand}{y:Arg}(h:jk x=some y)(hs:Bz E fr a (fO [y])):VR (ev fr y) E (a.eval x):=by
 cases x with
 |tmp t=>simp only[jk,aA]at h;subst h;exact hs t (by simp[fO])
 |const v=>
  simp only[jk,ae]at h;obtain⟨u,c,rfl⟩:=h;exact MJ c E
 |func f=>simp only[jk,aA]at h;subst h;exact⟨#[],rfl,rfl⟩
 |global g=>simp[jk]at h
theorem lF(l m:List Arg):fO (l++m)=fO l++fO m:=by
 induction l with
 |nil=>rfl
 |cons x l c=>cases x<;>simp[fO,c]
theorem Qt{y:Arg}{l:List Arg}(h:y∈l):∀t∈fO [y],t∈fO l:=by
 intro t c;obtain⟨l1,l2,rfl⟩:=List.append_of_mem h;rw[show l1++y::l2=l1++([y]++l2) by simp,lF,lF];simp[c]
theorem Bz.arg{E:Env}{fr:List V}{a:Act}{l:List Arg}(hs:Bz E fr a (fO l)){y:Arg}(c:y∈l){x:Operand}(h:jk x=some y):VR (ev fr y) E (a.eval x):=
 Oj h fun t g=>hs t (Qt c t g)
theorem xn{E:Env}{fr:List V}{a:Act}:∀{xs:List Operand}{c:List Arg},Bu xs=some c->Bz E fr a (fO c)->dY (UY fr c) E (xs.map a.eval)
 |[],c,h,_=>by simp only[Bu,aA]at h;subst h;rfl
 |x::xs,c,h,hs=>by
  simp only[Bu,aj,ae]at h;obtain⟨y,j,zs,g,rfl⟩:=h;refine⟨a.eval x,xs.map a.eval,rfl,hs.arg (by simp) j,xn g fun t l=>hs t ?_⟩;rw[show y::zs=[y]++zs by rfl,lF];simp[l]
theorem SX{P:Program}{w:World}{op:BinOp}{k:IntKind}{x y:Int}{v:V}(hs:op≠.shl∧op≠.shr)(h:tC op k x y=some v)(t:TypeId):
  ∃u,(binOp op t (.int k x) (.int k y)).run P w= .ok u w∧∀E,VR v E u:=by
 cases op<;>simp only[tC]at h<;>first|cases h|skip
 all_goals first
  |(exact absurd rfl hs.1)
  |(exact absurd rfl hs.2)
  |(exact⟨_,by simp only[binOp,ne_eq,oq,bZ];rfl,fun E=>rfl⟩)
  |skip
 ·split at h
  ·cases h
  ·rename_i c;cases h
   exact⟨_,by simp only[binOp,ne_eq,oq,bZ,Op.intDiv,aP c];rfl,fun E=>rfl⟩
 ·split at h
  ·cases h
  ·rename_i c;cases h
   exact⟨_,by simp only[binOp,ne_eq,oq,bZ,Op.intDiv,aP c];rfl,fun E=>rfl⟩
 all_goals
  refine⟨_,by simp only[binOp,ne_eq,oq,bZ,Op.intCmp];rfl,fun E=> ?_⟩;simp only[VR]
theorem Ol{P:Program}{w:World}{op:BinOp}{k k':IntKind}{x y:Int}{v:V}(h:Jg op k x y=some v)(t:TypeId):
  ∃u,(binOp op t (.int k x) (.int k' y)).run P w= .ok u w∧∀E,VR v E u:=by
 unfold Jg at h;split at h
 ·cases h
 ·rename_i c
  cases op<;>simp only at h<;>first|cases h|skip
  all_goals exact⟨_,by simp only[binOp,Op.shift,aP c];rfl,fun E=>rfl⟩
theorem SY{P:Program}{w:World}{op:BinOp}{x y:ByteArray}{v:V}(h:SI op x y=some v)(t:TypeId):
  ∃u,(binOp op t (.string x) (.string y)).run P w= .ok u w∧∀E,VR v E u:=by
 cases op<;>simp only[SI]at h<;>first|cases h|skip
 ·split at h
  ·rename_i hl;cases h
   refine⟨.string (x++y),?_,fun E=>rfl⟩;have:¬((x.size+y.size:Nat):Int)>IntKind.i64.max:=by
    have:IntKind.i64.max=9223372036854775807:=by decide
    omega
   simp only[binOp,Op.stringOp,aP this];rfl
  ·cases h
 all_goals exact⟨_,rfl,fun E=>rfl⟩
theorem Xe{P:Program}{w:World}(op:BinOp)(t:TypeId)(g c:Operand)(k k':IntKind)(x y:Int):(eqGuard op t g c (.int k x) (.int k' y)).run P w= .ok () w:=by
 unfold eqGuard;split<;>rfl
theorem Xf{P:Program}{w:World}(op:BinOp)(t:TypeId)(g c:Operand)(x y:ByteArray):(eqGuard op t g c (.string x) (.string y)).run P w= .ok () w:=by
 unfold eqGuard;split<;>rfl
theorem S9{P:Program}{w:World}(op:BinOp)(t:TypeId)(g c:Operand)(x y:Bool):(eqGuard op t g c (.bool x) (.bool y)).run P w= .ok () w:=by
 unfold eqGuard;split<;>rfl
theorem Qu{P:Program}{w:World}{E:Env}{op:BinOp}{p q v:V}{x y:Value}{t:TypeId}(hx:VR p E x)(c:VR q E y)(h:oW op p q=some v)
  (l j:Operand):∃u,(do eqGuard op t l j x y;binOp op t x y:Sem Value).run P w= .ok u w∧∀E,VR v E u:=by
 unfold oW at h;split at h
 ·simp only[VR]at hx c;subst hx;subst c
  simp only[bJ,Xe,aQ];split at h
  ·exact Ol h t
  ·rename_i g
   split at h
   ·rename_i r;subst r;exact SX (by simpa[not_or]using g) h t
   ·cases h
 ·simp only[VR]at hx c;subst hx;subst c
  simp only[bJ,Xf,aQ];exact SY h t
 ·cases h
theorem acK{P:Program}{w:World}{op:BinOp}{a b:Bool}{t:TypeId}(c:op= .eql∨op= .neq)(g:P.underlying t=some .bool)(l j:Operand):
  (do eqGuard op t l j (.bool a) (.bool b);binOp op t (.bool a) (.bool b):Sem Value).run P w= .ok (.bool (if op== .neq then !(a==b)else(a==b))) w:=by
 simp only[bJ,S9,aQ];rcases c with rfl|rfl
 ·simp only[binOp,bJ,Op.equal,Op.maxDepth,run_equalIn_bool' w 9999 t a b g,aQ];rfl
 ·simp only[binOp,bJ,Op.equal,Op.maxDepth,run_equalIn_bool' w 9999 t a b g,aQ];rfl
def Lm(P:Program)(t:TypeId)(l:List Value):Value:=
 match rH P t with
 |some true=> .agg l.toArray
 |_=>l.headD undef
theorem mE:∀{t:List LK}{a b:List V}{r:Bool},dN t a b=some r->a.length=t.length∧b.length=t.length
 |[],[],[],_,_=>⟨rfl,rfl⟩
 | .int::t,.int k x::l,.int k' y::m,r,h=>by
  simp only[dN]at h;split at h
  ·obtain⟨g,c,_⟩:=ae.1 h
   simp[mE c]
  ·cases h
 | .bool::t,.bool x::l,.bool y::m,r,h=>by
  simp only[dN]at h;obtain⟨g,c,_⟩:=ae.1 h;simp[mE c]
 | .str::t,.str x::l,.str y::m,r,h=>by
  simp only[dN]at h;obtain⟨g,c,_⟩:=ae.1 h;simp[mE c]
theorem qi:∀{j c:List LK}{a b:List V}{r:Bool},dN (j++c) a b=some r->
  ∃C g,dN j (a.take j.length) (b.take j.length)=some C∧dN c (a.drop j.length) (b.drop j.length)=some g∧r=(C&&g)
 |[],c,a,b,r,h=>⟨true,r,by simp[dN],by simpa using h,by simp⟩
 |u::j,c,a,b,r,h=>by
  simp only[aW]at h;cases a with
  |nil=>cases u<;>simp[dN]at h
  |cons p a=>
   cases b with
   |nil=>cases u<;>cases p<;>simp[dN]at h
   |cons q b=>
    cases u<;>cases p<;>cases q<;>simp only[dN]at h<;>first|cases h|skip
    ·obtain⟨F,l,rfl⟩:=ae.1 h
     obtain⟨C,g,B,A,rfl⟩:=qi l;exact⟨_,g,by simp only[aS,lQ,dN,B];rfl,by simpa using A,by rw[Bool.and_assoc]⟩
    ·split at h
     ·rename_i I
      obtain⟨F,l,rfl⟩:=ae.1 h;obtain⟨C,g,B,A,rfl⟩:=qi l;exact⟨_,g,by simp only[aS,lQ,dN,I,B,bK];rfl,by simpa using A,by rw[Bool.and_assoc]⟩
     ·cases h
    ·obtain⟨F,l,rfl⟩:=ae.1 h
     obtain⟨C,g,B,A,rfl⟩:=qi l;exact⟨_,g,by simp only[aS,lQ,dN,B];rfl,by simpa using A,by rw[Bool.and_assoc]⟩
theorem EM{P:Program}{w:World}{t:TypeId}{n:Nat}{g:Bool}(c:rH P t=some g)(hn:jL P t=some n)(A:0<n)(l:List Value)(off:Nat)(ho:off+n<=l.length):
  (part t l.toArray off).run P w= .ok (Lm P t ((l.drop off).take n)) w:=by
 unfold jL at hn;obtain⟨i,j,rfl⟩:=ae.1 hn;unfold part isAgg Lm;simp only[c];unfold rH at c;cases hd:P.underlying t with
 |none=>simp[hd]at c
 |some d=>
  simp only[hd]at c;have hx:l[off]? =some (((l.drop off).take i.size).headD undef):=by
   rw[List.headD_eq_head?_getD,List.head?_take,List.head?_drop];have u:off<l.length:=by omega
   have r:i.size≠0:=by omega
   simp[ak u,r]
  cases d<;>cases c<;>simp only[run_underlying hd,sizeOf,typeInfo,j,bJ,aQ,dz,bK,bZ,bq,run_program,List.getElem?_toArray,hx];all_goals first
   |rfl
   |(simp[List.extract_eq_take_drop])
theorem vD{P:Program}{t:TypeId}(h:rH P t=some true)(l:List Value):Lm P t l= .agg l.toArray:=by simp[Lm,h]
theorem ML{P:Program}{E:Env}{e:TypeId}{k:List LK}{d:Nat}{g:Bool}
  (J:∀(w:World)(a b:List V)(xs l:List Value)(r:Bool),dY a E xs->dY b E l->dN k a b=some r->(Op.equalIn d e (Lm P e xs) (Lm P e l)).run P w= .ok r w)
  (C:rH P e=some g)(j:jL P e=some k.length)(B:0<k.length){a b:List V}{xs l:List Value}(I:dY a E xs)(F:dY b E l):
  ∀(m s:Nat)(r:Bool)(w:World),dN (List.replicate m k).flatten (a.drop (s*k.length)) (b.drop (s*k.length))=some r->
   (forIn (List.range' s m) ((none,()):Option Bool×Unit) fun i _=>do
    let p<-part e xs.toArray (i*k.length);let q<-part e l.toArray (i*k.length);let c<-Op.equalIn d e p q
    if(!c)=true then pure (ForInStep.done (some false,()))else pure (ForInStep.yield (none,())):Sem (Option Bool×Unit)).run P w=
    .ok (if r then(none,())else(some false,())) w
 |0,s,r,w,A=>by
  have:r=true:=by
   revert A;cases a.drop (s*k.length)<;>cases b.drop (s*k.length)<;>simp[dN]
  subst this;simp
 |m+1,s,r,w,A=>by
  simp only[ED,vM]at A;obtain⟨O,W,N,K,rfl⟩:=qi A;have u:=mE N;have X:=I.length;have Y:=F.length;simp only[bf,eY]at u;have R:=EM (P:=P) (w:=w) C j B xs (s*k.length) (by omega);have Q:=EM (P:=P) (w:=w) C j B l (s*k.length) (by omega);have U:=J w _ _ _ _ O ((I.drop (s*k.length)).take k.length) ((F.drop (s*k.length)).take k.length) N;rw[List.range'_succ,List.forIn_cons];simp only[bJ,R,Q,aQ,U];cases O
  ·simp
  ·rw[jm,jm,show s*k.length+k.length=(s+1)*k.length by rw[jF]]at K
   have T:=ML J C j B I F m (s+1) W w K;simpa using T
mutual
theorem xU{P:Program}{E:Env}:∀(D:Nat)(t:TypeId)(lay:List LK),pR P D t=some lay->∀(w:World)(d:Nat),D<=d->∀(a b:List V)(xs ys:List Value)(r:Bool),
  dY a E xs->dY b E ys->dN lay a b=some r->(Op.equalIn d t (Lm P t xs) (Lm P t ys)).run P w= .ok r w
 |0,_,_,h,_,_,_,_,_,_,_,_,_,_,_=>by simp[pR]at h
 |D+1,t,lay,h,w,0,hd,_,_,_,_,_,_,_,_=>by omega
 |D+1,t,lay,h,w,d+1,hd,a,b,xs,ys,r,ha,hb,he=>by
  have hd':D<=d:=by omega
  simp only[pR]at h;split at h
  ·rename_i ht;cases h
   have hg:rH P t=some false:=by simp[rH,ht]
   have hle:=mE he
   match a,b,he with
   |[.bool p],[.bool q],he=>
    simp only[dY,VR]at ha hb;obtain⟨x,_,rfl,rfl,rfl⟩:=ha;obtain⟨y,_,rfl,rfl,rfl⟩:=hb;simp only[dN,aU,aA,jK]at he;subst he;simp only[Lm,hg,List.headD_cons];exact run_equalIn_bool' w d t _ _ ht
  ·rename_i k ht;cases h
   have hg:rH P t=some false:=by simp[rH,ht]
   have hle:=mE he
   match a,b,he with
   |[.int k p],[.int k' q],he=>
    simp only[dY,VR]at ha hb;obtain⟨x,_,rfl,rfl,rfl⟩:=ha;obtain⟨y,_,rfl,rfl,rfl⟩:=hb;simp only[dN]at he;split at he
    ·rename_i hkk;subst hkk
     simp only[aU,aA,jK]at he;subst he;simp only[Lm,hg,List.headD_cons];rw[run_equalIn_int w d t _ _ _ _ ht];rfl
    ·cases he
  ·rename_i ht;cases h
   have hg:rH P t=some false:=by simp[rH,ht]
   have hle:=mE he
   match a,b,he with
   |[.str p],[.str q],he=>
    simp only[dY,VR]at ha hb;obtain⟨x,_,rfl,rfl,rfl⟩:=ha;obtain⟨y,_,rfl,rfl,rfl⟩:=hb;simp only[dN,aU,aA,jK]at he;subst he;simp only[Lm,hg,List.headD_cons];exact run_equalIn_string w d t _ _ ht
  ·rename_i fs ht
   split at h
   ·cases h
   ·rename_i hp
    have hg:rH P t=some true:=by simp[rH,ht]
    rw[vD hg,vD hg];have hff:P.fieldsOf t=fs:=by simp[Program.fieldsOf,ht]
    rw[run_equalIn_struct w d t _ _ (by rw[ht,hff]) (by simpa using hp),hff];exact EN D 0 fs.toList lay h w d hd' a b xs ys r ha hb (by simpa using he)
  ·rename_i n e ht
   simp only[aj]at h;obtain⟨k,hk,h⟩:=h;split at h
   ·rename_i hsz;cases h
    have hg:rH P t=some true:=by simp[rH,ht]
    rw[vD hg,vD hg];simp only[Op.equalIn,bJ,run_underlying ht,aQ,sizeOf,typeInfo,run_program];obtain⟨i,hi,hik⟩:=ae.1 hsz.1;simp only[hi,dz,aQ,hik];have hg':∃g,rH P e=some g:=by
     cases D with
     |zero=>simp[pR]at hk
     |succ D=>
      simp only[pR]at hk;unfold rH;split at hk<;>simp_all
    obtain⟨g',hg'⟩:=hg';obtain⟨hsz,Yo⟩:=hsz;rw[Std.Legacy.Range.forIn_eq_forIn_range'];simp only[Std.Legacy.Range.size,Nat.sub_zero,Nat.add_sub_cancel,Nat.div_one];have hrow:=ML (P:=P) (E:=E) (e:=e) (k:=k) (d:=d) (fun w' a' b' Su ys' r' h1 h2 h3=>xU D e k hk w' d hd' a' b' Su ys' r' h1 h2 h3) hg' hsz Yo ha hb n 0 r w (by simpa using he);rw[hrow];cases r<;>rfl
   ·cases h
  ·cases h
theorem EN{P:Program}{E:Env}:∀(D off:Nat)(fs:List Field)(lay:List LK),rJ P D off fs=some lay->∀(w:World)(d:Nat),D<=d->∀(a b:List V)(xs ys:List Value)(r:Bool),
  dY a E xs->dY b E ys->dN lay (a.drop off) (b.drop off)=some r->(Op.eqFields d xs.toArray ys.toArray fs).run P w= .ok r w
 |D,off,[],lay,h,w,d,_,a,b,xs,ys,r,_,_,he=>by
  have:lay=[]:=by cases D<;>simpa[rJ]using h.symm
  subst this;have:r=true:=by
   revert he;cases a.drop off<;>cases b.drop off<;>simp[dN]
  subst this;simp[Op.eqFields]
 |0,off,f::fs,lay,h,_,_,_,_,_,_,_,_,_,_,_=>by simp[rJ]at h
 |D+1,off,f::fs,lay,h,w,d,hd,a,b,xs,ys,r,ha,hb,he=>by
  simp only[rJ]at h;split at h
  ·rename_i hf
   simp only[aj]at h;obtain⟨k,hk,h⟩:=h;split at h
   ·rename_i hsz
    obtain⟨ald,FX,rfl⟩:=ae.1 h;obtain⟨Jr,Ic,Js,Jt,rfl⟩:=qi he;have hlen:=mE Js;have Yn:=ha.length;have Tc:=hb.length;simp only[bf,eY]at hlen;have hg:∃g,rH P f.type=some g:=by
     cases D with
     |zero=>simp[pR]at hk
     |succ D=>
      simp only[pR]at hk;unfold rH;split at hk<;>simp_all
    obtain⟨g,hg⟩:=hg;have p1:=EM (P:=P) (w:=w) hg hsz.1 hsz.2 xs off (by omega);have p2:=EM (P:=P) (w:=w) hg hsz.1 hsz.2 ys off (by omega);have h3:=xU (P:=P) (E:=E) D f.type k hk w d (by omega) _ _ _ _ Jr ((ha.drop off).take k.length) ((hb.drop off).take k.length) Js;simp only[Op.eqFields,aX hf.1,bJ,hf.2,p1,p2,aQ,h3];cases Jr
    ·simp
    ·rw[jm,jm]at Jt
     have h4:=EN D (off+k.length) fs ald FX w d (by omega) a b xs ys Ic ha hb Jt;simpa using h4
   ·cases h
  ·cases h
end
structure Keys(E E':Env)(w:World)(s:Ix)(ver:Nat):Prop where
 own:∀d s' v' o',E'.own d s' v'=some o'->E.own d s' v'=some o'∨(d=0∧s'=s∧v'=ver∧s≠0∧w.heap.size<=o'.blk)
 iY:∀b cs,E'.iY b=some cs->E.iY b=some cs∨w.heap.size<=b
theorem Keys.refl(E:Env)(w:World)(s:Ix)(ver:Nat):Keys E E w s ver:=⟨fun _ _ _ _ h=> .inl h,fun _ _ h=> .inl h⟩
def Dk(P:Program)(E:Env)(M:List Mem)(w:World)(o:Oper)(a:Act)(v:V)(s:Ix)(ver:Nat):Prop:=
 ∃x w' E',(execOp a.eval o).run P w= .ok (.value x) w'∧E.Le E'∧eD E' M w'∧Below w.heap.size w w'∧VR v E' x∧Keys E E' w s ver
theorem Dk.same{P:Program}{E:Env}{M:List Mem}{w:World}{o:Oper}{a:Act}{v:V}{s:Ix}{ver:Nat}{x:Value}(g:eD E M w)
  (h:(execOp a.eval o).run P w= .ok (.value x) w)(c:VR v E x):Dk P E M w o a v s ver:=
 ⟨x,w,E,h,.refl _,g,jh _ _,c,.refl _ _ _ _⟩
theorem zN(off:Nat):∀(l:List Value)(j:Nat)(cs:Array Value),off+j+l.length<=cs.size->
  ((l.zipIdx j).foldl (fun(cs:Array Value)(x:Value×Nat)=>cs.setIfInBounds (off+x.2) x.1) cs).toList=cs.toList.take (off+j)++l++cs.toList.drop (off+j+l.length)
 |[],j,cs,_=>by simp
 |x::l,j,cs,h=>by
  simp only[aS]at h;rw[List.zipIdx_cons,jG,zN off l (j+1) _ (by simp;omega)];have c:off+j<cs.toList.length:=by simp;omega
  simp only[Array.toList_setIfInBounds,aS];rw[show off+(j+1)=(off+j)+1 by omega,List.take_succ_eq_append_getElem (by simpa using c),List.getElem_set_self,List.take_set,List.set_eq_of_length_le (by simp;omega),List.drop_set_of_lt (by omega)];simp[show off+j+1+l.length=off+j+(l.length+1) by omega]
theorem EO{E:Env}{fr:List V}{a:Act}(l:Nat->Option (Nat×Nat)):∀(g:List (Nat×Operand))(q:List (Nat×Nat×Arg))(cs:List V)(c:Array Value)(r:List V),
  oD l g=some q->Bz E fr a (fO (q.map (·.2.2)))->dY cs E c.toList->wz fr cs q=some r->
  ∃d:Array Value,Instr.fill l c (g.map fun p=>(p.1,a.eval p.2))=some d∧dY r E d.toList
 |[],q,cs,c,r,A,_,hc,hr=>by
  simp only[oD,aA]at A;subst A;simp only[wz,aA]at hr;subst hr;exact⟨c,rfl,hc⟩
 |(i,x)::g,q,cs,c,r,A,hs,hc,hr=>by
  simp only[oD,aj,ae]at A;obtain⟨⟨off,n⟩,hp,y,N,C,R,rfl⟩:=A;simp only[wz]at hr;split at hr
  ·rename_i K
   obtain⟨hn,Q,U⟩:=K;have T:VR (ev fr y) E (a.eval x):=hs.arg (by simp) N;have u:=VR.cells U T;have B:=u.length;have J:=hc.length;simp only[bQ]at B J;have F:=hc.qc off u;obtain⟨d,hd,I⟩:=EO l g C _ ((a.eval x).cells.zipIdx.foldl (fun cs(c,j)=>cs.setIfInBounds (off+j) c) c) r R
    (fun t O=>hs t (by
     simp only[bO];rw[show y::List.map (fun x=>x.2.2) C=[y]++List.map (fun x=>x.2.2) C by rfl,lF];simp[O]))
    (by
     rw[<-Array.foldl_toList,Array.toList_zipIdx];rw[zN off _ 0 c (by simp;omega)];simpa using F) hr
   refine⟨d,?_,I⟩;simp only[bO,Instr.fill,hp];rw[aP (by simp;omega)];exact hd
  ·cases hr
theorem vF{P:Program}{w:World}{t:TypeId}{z:List V}(h:nG P t=some z):∃x,(zeroValue t).run P w= .ok x w∧∀E,dY z E x.cells.toList:=by
 unfold nG at h;simp only[aj]at h;obtain⟨x,⟨i,g,c⟩,hc⟩:=h;refine⟨x,?_,fun E=>xS E hc⟩;simp[zeroValue,typeInfo,g,c]
theorem FY{P:Program}{E:Env}{M:List Mem}{w w1:World}{o:Oper}{a:Act}{s:Ix}{row:Row}{c:Array Value}{t:TypeId}{v:V}{x:Value}(N:eD E M w)
  (g:eD E M w1)(r:w1.heap.size=w.heap.size)(C:Below w.heap.size w w1)
  (j:(execOp a.eval o).run P w= .ok (.value x) (w1.alloc (.cells c t)))(hs:s≠0)(l:iH M 0 s=row)(F:row.fz=false)(hf:E.own 0 s row.ver=none)
  (hc:dF row.els E row.sz c.toList)(I:∀B:Env,B.own 0 s row.ver=some ⟨w.heap.size,row.sz,c.size,false⟩->VR v B x):Dk P E M w o a v s row.ver:=by
 have A:Below w1.heap.size w1 (w1.alloc (.cells c t)):=nY _ _;have J:=g.below A;have u:=g.zM;refine⟨x,_,E.fG s row.ver ⟨w1.heap.size,row.sz,c.size,false⟩,j,Env.uC hf,?_,C.trans (A.mono (by omega)),I _ (by simp[Env.fG,r]),?_⟩
 ·exact J.fG hf (g.Cw (aJ _)) (rO _ _) u (fun _=>by rw[l];exact⟨rfl,F,hc⟩)
 ·refine⟨fun d s' v' K ho=> ?_,fun _ _ h=> .inl h⟩
  simp only[Env.fG]at ho;split at ho
  ·rename_i e;cases ho;exact .inr ⟨e.1,e.2.1,e.2.2,hs,by simp[r]⟩
  ·exact .inl ho
theorem Xg{P:Program}{E:Env}{M:List Mem}{w:World}{o:Oper}{a:Act}{s:Ix}{ver:Nat}(j:eD E M w)
  (c:(execOp a.eval o).run P w= .ok (.value (.map (some w.heap.size))) (w.alloc (.map #[] 0)))(hs:s≠0)(g:iH M 0 s=⟨ver,0,[],false⟩)(hf:E.own 0 s ver=none):Dk P E M w o a (.mp 0 s ver) s ver:=by
 have l:Below w.heap.size w (w.alloc (.map #[] 0)):=nY _ _;have r:=j.below l;refine⟨_,_,E.fG s ver ⟨w.heap.size,0,0,true⟩,c,Env.uC hf,?_,l,?_,?_⟩
 ·exact r.agG hf (j.Cw (aJ _)) (rO _ _) j.zM (fun _=>by rw[g];exact⟨rfl,rG.nil⟩)
 ·simp only[VR]
  exact⟨⟨w.heap.size,0,0,true⟩,by simp[Env.fG],rfl,rfl⟩
 ·refine⟨fun d s' v' u ho=> ?_,fun _ _ h=> .inl h⟩
  simp only[Env.fG]at ho;split at ho
  ·rename_i e;cases ho;exact .inr ⟨e.1,e.2.1,e.2.2,hs,by simp⟩
  ·exact .inl ho
section
variable{P:Program}{E:Env}{M:List Mem}{w:World}{o:Oper}{a:Act}{fr:List V}{s:Ix}{ver:Nat}
theorem kR{o:Oper}{a:Act}{i:Sem Value}{x:Value}{w':World}(h:execOp a.eval o=(do pure (.value (<-i)):Sem Next))(hr:i.run P w= .ok x w'):
  (execOp a.eval o).run P w= .ok (.value x) w':=by rw[h];simp[hr]
theorem Ju{v:V}{b:Bool}(h:asB v=some b):v= .bool b:=by
 unfold asB at h;split at h<;>simp_all
theorem Td{c x y:Operand}{c' j g:Arg}(ho:o.op= .pick c x y)(r:eD E M w)(hc:VR (ev fr c') E (a.eval c))(hx:VR (ev fr j) E (a.eval x))(u:VR (ev fr g) E (a.eval y)){t:Bool}(l:asB (ev fr c')=some t):
  Dk P E M w o a (if t then ev fr j else ev fr g) s ver:=by
 rw[Ju l]at hc;simp only[VR]at hc;refine .same (x:=if t then a.eval x else a.eval y) r ?_ (by cases t<;>assumption);simp[execOp,ho,hc,asBool]
theorem Jv{t:TypeId}{f n:Nat}{fs:Array Field}{g:Field}{v v':V}{x:Value}(l:P.underlying t=some (.struct fs))(hf:fs[f]? =some g)(hn:jL P g.type=some n)(C:n≠0)
  (j:VR v E x)(h:Jh g.offset v=some v'):∃y,(Instr.fieldAt t x f).run P w= .ok y w∧VR v' E y:=by
 obtain⟨i,A,r⟩:=ae.1 hn;have c:∀b off:Nat,(fieldPlace ⟨b,off,none⟩ g).run P w= .ok ⟨b,off+g.offset,none⟩ w:=by
  intro b off;simp only[fieldPlace,bJ,sizeOf,typeInfo,run_program,aQ,A,dz,r,aP C,rZ]
 unfold Jh at h;split at h<;>cases h
 ·simp only[VR]at j⊢
  obtain⟨o,ho,u,rfl⟩:=j;refine⟨_,?_,o,ho,u,rfl⟩;simp only[Instr.fieldAt,bJ,run_underlying l,aQ,hf,Instr.sureAddr,dz,c,jd]
 ·simp only[VR]at j⊢
  obtain⟨b,off,cs,B,rfl,hc⟩:=j;refine⟨_,?_,b,off,cs,B,rfl,hc⟩;simp only[Instr.fieldAt,bJ,run_underlying l,aQ,hf,Instr.sureAddr,dz,c,jd]
theorem jP{t:TypeId}{n:Nat}(hn:jL P t=some n):(sizeOf t).run P w= .ok n w:=by
 obtain⟨i,c,rfl⟩:=ae.1 hn;simp[sizeOf,typeInfo,c]
theorem Qw{t e:TypeId}{sz:Nat}{v i v':V}{x y:Value}(J:P.underlying t=some (.slice e))(hn:jL P e=some sz)(A:VR v E x)(B:VR i E y)(h:yr sz v i=some v'):
  ∃u,(Instr.indexAt t x y).run P w= .ok u w∧VR v' E u:=by
 unfold yr at h;split at h
 ·rename_i k r els kk n
  split at h
  ·rename_i hc
   obtain⟨_,rfl,I⟩:=hc;obtain⟨R,N,rfl⟩:=ae.1 h;simp only[VR]at A B;subst B;obtain⟨Q,⟨b,off,sp⟩,cap,rfl,hl,hf,c⟩:=A;have g:=(au.1 N).1;rcases c with rfl|⟨cs,j,K,c⟩
   ·simp at g
   ·simp only at j K c;subst j
    have l:=c.at N;refine⟨.pointer (some ⟨b,off+n.toNat*r,none⟩),?_,b,off+n.toNat*r,cs,K,by simp,?_⟩
    ·have:n<(els.length:Int):=by omega
     simp only[Instr.indexAt,bJ,asIntOf,dz,aQ,run_underlying J,aX (And.intro I this),jP hn,rZ]
    ·rw[<-jm,l.1];exact l.2
  ·cases h
 ·rename_i d s ver r off len kk n
  split at h
  ·rename_i hc
   obtain⟨rfl,I,g⟩:=hc;cases h;simp only[VR]at A B;subst B;obtain⟨C,a',cap,ho,O,rfl,F,hl,c⟩:=A;rcases c with rfl|⟨rfl,c⟩
   ·omega
   ·refine⟨.pointer (some ⟨C.blk,off*C.sz+n.toNat*r,none⟩),?_,C,ho,O,?_⟩
    ·simp only[Instr.indexAt,bJ,asIntOf,dz,aQ,run_underlying J,aX (And.intro I g),jP hn,rZ]
    ·rw[<-F,<-uZ];simp
  ·cases h
 ·cases h
theorem Te{t e:TypeId}{len sz:Nat}{v i v':V}{x y:Value}(A:P.underlying t=some (.array len e))(hn:jL P e=some sz)(c:VR v E x)(g:VR i E y)(h:acH len sz v i=some v'):
  ∃u,(Instr.indexAt t x y).run P w= .ok u w∧VR v' E u:=by
 unfold acH at h;split at h
 ·rename_i d s ver j off kk n
  split at h
  ·rename_i hc
   cases h;simp only[VR]at c g⊢;subst g;obtain⟨l,ho,B,rfl⟩:=c;refine⟨_,?_,l,ho,B,rfl⟩;simp only[Instr.indexAt,bJ,asIntOf,dz,aQ,run_underlying A,Instr.sureAddr,aX hc,jP hn,rZ,jd]
  ·cases h
 ·rename_i F off kk n
  split at h
  ·rename_i hc
   cases h;simp only[VR]at c g⊢;subst g;obtain⟨b,l,cs,C,rfl,r⟩:=c;refine⟨_,?_,b,l,cs,C,rfl,r⟩;simp only[Instr.indexAt,bJ,asIntOf,dz,aQ,run_underlying A,Instr.sureAddr,aX hc,jP hn,rZ,jd]
  ·cases h
 ·cases h
theorem Qx{t:TypeId}{g:Bool}{n off:Nat}{cs:List V}{c:Array Value}{v:V}(j:rH P t=some g)(hn:jL P t=some n)(hc:dY cs E c.toList)(hp:Bo g n cs off=some v):
  ∃x,(part t c off).run P w= .ok x w∧VR v E x:=by
 have l:(isAgg t).run P w= .ok g w:=by
  unfold rH at j;cases hd:P.underlying t with
  |none=>simp[hd]at j
  |some d=>
   simp only[hd]at j;unfold isAgg;simp only[bJ,run_underlying hd,aQ];cases d<;>simp_all
 have hl:=hc.length;cases g with
 |false=>
  simp only[Bo,bq,bZ]at hp;obtain⟨x,hx,r⟩:=hc.at hp;refine⟨x,?_,r⟩;have u:c[off]? =some x:=by simpa using hx
  unfold part;simp only[bJ,l,aQ,bq,bZ,u];rfl
 |true=>
  simp only[Bo,bK]at hp;split at hp
  ·cases hp
   refine⟨.agg (c.extract off (off+n)),?_,?_⟩
   ·unfold part
    simp only[bJ,l,aQ,bK,jP hn,dz]
   ·simp only[VR]
    refine⟨_,rfl,?_⟩;have:=(hc.drop off).take n;simpa[List.extract_eq_take_drop]using this
  ·cases hp
theorem Tf{t e:TypeId}{len sz:Nat}{g:Bool}{v i v':V}{x y:Value}(B:P.underlying t=some (.array len e))(C:rH P e=some g)(hn:jL P e=some sz)(l:VR v E x)(r:VR i E y)(h:acI len sz g v i=some v'):
  ∃u,(Instr.index t x y).run P w= .ok u w∧VR v' E u:=by
 unfold acI at h;split at h
 ·rename_i cs kk n
  split at h
  ·rename_i hc
   simp only[VR]at l r;subst r;obtain⟨c,rfl,j⟩:=l;obtain⟨u,A,hr⟩:=Qx (P:=P) (w:=w) C hn j h;refine⟨u,?_,hr⟩;simp only[Instr.index,bJ,asIntOf,dz,aQ,run_underlying B,aX hc,jP hn,A]
  ·cases h
 ·cases h
theorem LM{t:TypeId}{v i v':V}{x y:Value}(j:P.underlying t=some .string)(c:VR v E x)(g:VR i E y)(h:Oa v i=some v'):
  ∃u,(Instr.index t x y).run P w= .ok u w∧VR v' E u:=by
 unfold Oa at h;split at h
 ·split at h
  ·rename_i s kk n r
   obtain⟨b,l,rfl⟩:=ae.1 h;simp only[VR]at c g;subst g;subst c;refine⟨.int .u8 b.toNat,?_,rfl⟩;simp only[Instr.index,bJ,asIntOf,dz,aQ,run_underlying j,aX r,l]
  ·cases h
 ·cases h
def DU(x:Option V)(agB top:Nat):Option Nat:=
 match x with
 |none=>some agB
 |some (.int _ n)=>if 0<=n∧n<=top then some n.toNat else none
 |some _=>none
theorem qN{v:V}{x:Value}{d y c n:Nat}{code:BoundsCode}(l:VR v E x)(h:DU (some v) d y=some n)(r:y<=c):
  (Instr.sliceBound x c code).run P w= .ok n w∧n<=y:=by
 unfold DU at h;split at h
 ·rename_i j;cases j
 ·rename_i kk m j
  cases j;split at h
  ·rename_i hc
   cases h;simp only[VR]at l;subst l;refine⟨?_,by omega⟩;have g:0<=m∧m<=(c:Int):=by omega
   simp only[Instr.sliceBound,bJ,asIntOf,dz,aQ,aX g]
  ·cases h
 ·cases h
def VRo(E:Env):Option V->Option Value->Prop
 |none,none=>True
 |some v,some x=>VR v E x
 |_,_=>False
theorem uQ{isSlice:Bool}{len cap:Nat}{lo C mx:Option V}{j B xm:Option Value}{r:Nat×Nat×Nat}(hl:VRo E lo j)(I:VRo E C B)(hm:VRo E mx xm)(O:len<=cap)(h:pK len lo C mx=some r):
  (Instr.sliceBounds isSlice len cap j B xm).run P w= .ok (r.1,r.2.1,if mx.isSome then r.2.2 else cap) w∧r.1<=r.2.1∧r.2.1<=r.2.2∧r.2.2<=len∧(mx.isNone->r.2.2=len):=by
 unfold pK at h;split at h
 ·cases h
 ·rename_i R
  simp only[aj,ae]at h;obtain⟨m,K,F,c,l,A,rfl⟩:=h;have K:DU mx len len=some m:=K;have c:DU C len m=some F:=c;have A:DU lo 0 F=some l:=A;simp only;have nn:∀{d N n:Nat},DU none d N=some n->n=d:=fun h=>by simpa[DU]using h.symm
  cases mx with
  |none=>
   cases xm with
   |some _=>exact hm.elim
   |none=>
    obtain rfl:=nn K;cases C with
    |none=>
     cases B with
     |some _=>exact I.elim
     |none=>
      obtain rfl:=nn c;cases lo with
      |none=>
       cases j with
       |some _=>exact hl.elim
       |none=>obtain rfl:=nn A;simp[Instr.sliceBounds]
      |some v=>
       cases j with
       |none=>exact hl.elim
       |some x=>
        have u:∀code,_:=fun code=>qN (P:=P) (w:=w) (code:=code) hl A (aJ _);simp[Instr.sliceBounds,(u _).1,(u .sliceB).2]
    |some v'=>
     cases B with
     |none=>exact I.elim
     |some Q=>
      have g:∀code,_:=fun code=>qN (P:=P) (w:=w) (code:=code) I c O;cases lo with
      |none=>
       cases j with
       |some _=>exact hl.elim
       |none=>obtain rfl:=nn A;simp[Instr.sliceBounds,(g _).1,(g .sliceB).2]
      |some v=>
       cases j with
       |none=>exact hl.elim
       |some x=>
        have u:∀code,_:=fun code=>qN (P:=P) (w:=w) (code:=code) hl A (aJ _);simp[Instr.sliceBounds,(g _).1,(g .sliceB).2,(u _).1,(u .sliceB).2]
  |some v=>
   cases xm with
   |none=>exact hm.elim
   |some x=>
    have J:∀code,_:=fun code=>qN (P:=P) (w:=w) (code:=code) hm K O;cases C with
    |none=>simp at R
    |some v'=>
     cases B with
     |none=>exact I.elim
     |some Q=>
      have g:∀code,_:=fun code=>qN (P:=P) (w:=w) (code:=code) I c (aJ _);cases lo with
      |none=>
       cases j with
       |some _=>exact hl.elim
       |none=>obtain rfl:=nn A;simp[Instr.sliceBounds,(J _).1,(J .sliceB).2,(g _).1,(g .sliceB).2]
      |some v=>
       cases j with
       |none=>exact hl.elim
       |some x=>
        have u:∀code,_:=fun code=>qN (P:=P) (w:=w) (code:=code) hl A (aJ _);simp[Instr.sliceBounds,(J _).1,(J .sliceB).2,(g _).1,(g .sliceB).2,(u _).1,(u .sliceB).2]
theorem dF.sub{F:Env}{es:List (List V)}{sz:Nat}{l:List Value}(i j:Nat)(h:dF es F sz l):dF ((es.take j).drop i) F sz (l.drop (i*sz)):=(h.take j).drop i
theorem Tg{t e:TypeId}{sz:Nat}{v v':V}{x:Value}{lo hi mx:Option V}{N O xm:Option Value}(R:P.underlying t=some (.slice e))(hn:jL P e=some sz)
  (C:VR v E x)(hl:VRo E lo N)(U:VRo E hi O)(hm:VRo E mx xm)(h:Qp sz v lo hi mx=some v'):
  ∃u,(Instr.sliceAt t x N O xm).run P w= .ok u w∧VR v' E u:=by
 have xq:(Instr.sliceAt t x N O xm).run P w=(Instr.slice t x N O xm).run P w:=by
  simp only[Instr.sliceAt,bJ,run_underlying R,aQ]
 rw[xq];unfold Qp at h;split at h
 ·simp only[aj]at h
  obtain⟨r,hr,h⟩:=h;split at h
  ·rename_i YL
   cases h;simp only[VR]at C;subst C;obtain⟨J,h2,h3,h4,h5⟩:=uQ (P:=P) (w:=w) (isSlice:=true) hl U hm (aJ 0) hr;refine⟨.slice none 0 0,?_,rfl⟩;simp only[Instr.slice,bJ,run_underlying R,aQ,J,jP hn,dz];have:mx.isSome=false:=by cases mx<;>simp_all
   simp only[this,bq,bZ];have e1:r.1=0:=by omega
   have e2:r.2.1=0:=by omega
   simp[e1,e2]
  ·cases h
 ·rename_i k T els
  split at h
  ·rename_i hc
   obtain⟨hk,rfl⟩:=hc;obtain⟨r,hr,rfl⟩:=ae.1 h;simp only[VR]at C;obtain⟨_,⟨b,off,sp⟩,cap,rfl,l,hf,c⟩:=C;obtain⟨J,h2,h3,h4,h5⟩:=uQ (P:=P) (w:=w) (isSlice:=true) hl U hm l hr;refine⟨_,by simp only[Instr.slice,bJ,run_underlying R,aQ,J,jP hn,dz];rfl,?_⟩;generalize F:(if mx.isSome then r.2.2 else cap)=m;have Z:r.2.1<=m:=by subst F;split<;>omega
   have g:((els.take r.2.1).drop r.1).length=r.2.1-r.1:=by simp;omega
   have Y:∃a':Addr,(if m=r.1 then some (⟨b,off,sp⟩:Addr)else Option.map (fun x:Addr=>x.add (r.1*T)) (some (⟨b,off,sp⟩:Addr)))=some a'∧(m≠r.1->a'=(⟨b,off,sp⟩:Addr).add (r.1*T)):=by
    by_cases e:m=r.1
    ·exact⟨_,by rw[aX e],fun h=>absurd e h⟩
    ·exact⟨_,by rw[aP e];rfl,fun _=>rfl⟩
   obtain⟨a',W,B⟩:=Y;rw[W];simp only[VR];refine⟨by split<;>simp,a',m-r.1,by rw[g],by rw[g];omega,?_,?_⟩
   ·intro K
    rw[g];split at K
    ·rename_i A
     rcases A with⟨hs,he⟩|⟨hs,Qy,he⟩
     ·subst F;rw[aX hs];omega
     ·subst F
      have:mx.isSome=false:=by cases mx<;>simp_all
      simp only[this,bq,bZ];have:=hf Qy;omega
    ·cases K
   ·by_cases e:m=r.1
    ·refine .inl ?_
     apply mV;rw[g];omega
    ·rcases c with rfl|⟨cs,I,Xh,c⟩
     ·exact .inl (by simp)
     ·simp only at I Xh c;subst I
      refine .inr ⟨cs,?_,?_,?_⟩
      ·rw[B e];simp
      ·rw[B e];simpa using Xh
      ·rw[B e];simp only[rZ];rw[<-jm];exact c.sub _ _
  ·cases h
 ·rename_i d s ver T off len
  split at h
  ·rename_i X;subst X
   obtain⟨r,hr,rfl⟩:=ae.1 h;simp only[VR]at C;obtain⟨Q,a,cap,ho,pF,rfl,j,l,c⟩:=C;obtain⟨J,h2,h3,h4,h5⟩:=uQ (P:=P) (w:=w) (isSlice:=true) hl U hm l hr;refine⟨_,by simp only[Instr.slice,bJ,run_underlying R,aQ,J,jP hn,dz];rfl,?_⟩;generalize F:(if mx.isSome then r.2.2 else cap)=m;have Z:r.2.1<=m:=by subst F;split<;>omega
   have ayP:m<=cap:=by subst F;split<;>omega
   simp only[VR];by_cases e:m=r.1
   ·rw[aX e]
    exact⟨Q,a,m-r.1,ho,pF,rfl,j,by omega,.inl (by omega)⟩
   ·rw[aP e]
    rcases c with rfl|⟨rfl,c⟩
    ·omega
    ·refine⟨Q,_,m-r.1,ho,pF,rfl,j,by omega,.inr ⟨?_,?_⟩⟩
     ·show Addr.add ⟨Q.blk,off*Q.sz,none⟩ _=_
      rw[rZ,j,uZ]
     ·refine eO (ny _ ?_) c
      omega
  ·cases h
 ·cases h
theorem LP{t:TypeId}{v v':V}{x:Value}{lo A:Option V}{c g:Option Value}(l:P.underlying t=some .string)
  (j:VR v E x)(hl:VRo E lo c)(C:VRo E A g)(h:Ob v lo A=some v'):
  ∃u,(Instr.sliceAt t x c g none).run P w= .ok u w∧VR v' E u:=by
 have B:(Instr.sliceAt t x c g none).run P w=(Instr.slice t x c g none).run P w:=by
  simp only[Instr.sliceAt,bJ,run_underlying l,aQ]
 rw[B];unfold Ob at h;split at h
 ·obtain⟨r,hr,rfl⟩:=ae.1 h
  simp only[VR]at j;subst j;obtain⟨F,N,K,J,I⟩:=uQ (P:=P) (w:=w) (E:=E) (isSlice:=false) (mx:=none) (xm:=none) hl C trivial (aJ _) hr;refine⟨_,?_,rfl⟩;simp only[Instr.slice,bJ,run_underlying l,aQ,Option.isSome_none,bq,bZ,dz,F]
 ·cases h
theorem Ti{t e:TypeId}{ty:TypeId}{v v':V}{x:Value}(j:P.underlying t=some (.slice e))(g:VR v E x)(h:AQ v=some v'):
  ∃u,(Builtin.len_ #[t] ty #[x]).run P w= .ok u w∧VR v' E u:=by
 have hx:∀a n c,(Builtin.len_ #[t] ty #[.slice a n c]).run P w= .ok (goInt n) w:=by
  intro a n c;simp[Builtin.len_,run_underlying j]
 unfold AQ at h;split at h
 ·cases h;simp only[VR]at g;subst g;exact⟨_,hx _ _ _,rfl⟩
 ·split at h
  ·cases h
  ·cases h
   simp only[VR]at g;obtain⟨_,a,cap,rfl,_⟩:=g;exact⟨_,hx _ _ _,rfl⟩
 ·cases h
  simp only[VR]at g;obtain⟨l,a,cap,_,_,rfl,_⟩:=g;exact⟨_,hx _ _ _,rfl⟩
 ·cases h
theorem Qz{t:TypeId}{ty:TypeId}{v v':V}{x:Value}(g:P.underlying t=some .string)(c:VR v E x)(h:IE v=some v'):
  ∃u,(Builtin.len_ #[t] ty #[x]).run P w= .ok u w∧VR v' E u:=by
 unfold IE at h;split at h
 ·cases h;simp only[VR]at c;subst c
  refine⟨_,?_,rfl⟩;simp[Builtin.len_,run_underlying g,goInt]
 ·cases h
theorem FZ{mx:Bool}:∀{l:List V}{v v':V}{x:Value}{xs:List Value},VR v E x->dY l E xs->mmV mx v l=some v'->
  ∃u,(xs.foldlM (if mx then Builtin.max2 else Builtin.min2) x).run P w= .ok u w∧VR v' E u
 |[],v,v',x,xs,g,hl,h=>by
  simp only[dY]at hl;subst hl;unfold mmV at h;split at h
  ·cases h;exact⟨x,rfl,g⟩
  ·rename_i c;cases c
  ·cases h
 |q::l,v,v',x,xs,g,hl,h=>by
  unfold mmV at h;split at h
  ·rename_i c;cases c
  ·rename_i k a k' b F c
   cases c;split at h
   ·rename_i A;subst A
    simp only[dY]at hl;obtain⟨y,C,rfl,j,hr⟩:=hl;simp only[VR]at g j;subst g;subst j;obtain⟨u,r,B⟩:=FZ (v:= .int k (if mx then(if b>a then b else a)else(if b<a then b else a))) rfl hr h;refine⟨u,?_,B⟩;rw[List.foldlM_cons];cases mx<;>simpa[Builtin.min2,Builtin.max2]using r
   ·cases h
  ·cases h
theorem Om{t:TypeId}{c:Array (Nat×Operand)}{z:List V}{q:List (Nat×Nat×Arg)}{r:List V}{fr:List V}{a:Act}(O:nG P t=some z)(hs:Bz E fr a (fO (q.map (·.2.2))))(hr:wz fr z q=some r)
  (hp:(∃fs ps,P.underlying t=some (.struct fs)∧DN P fs.toList=some ps∧oD (ps[·]?) c.toList=some q)∨
   (∃len e n,P.underlying t=some (.array len e)∧jL P e=some n∧oD (fun i=>some (i*n,n)) c.toList=some q)):
  ∃u,(Instr.build t (c.map fun(i,x)=>(i,a.eval x))).run P w= .ok u w∧VR (.agg r) E u:=by
 obtain⟨x,hx,K⟩:=vF (P:=P) (w:=w) O;rcases hp with⟨fs,ps,j,B,A⟩|⟨len,e,n,j,hn,A⟩
 ·have C:∀(l:List Field)(ps:List (Nat×Nat)),DN P l=some ps->(l.mapM (fun f=>do pure (f.offset,<-sizeOf f.type):Field->Sem (Nat×Nat))).run P w= .ok ps w:=by
   intro l;induction l with
   |nil=>intro ps h;simp only[DN,aA]at h;subst h;rfl
   |cons f l N=>
    intro ps h;simp only[DN,aj,ae]at h;obtain⟨n,hn,g,I,rfl⟩:=h;have:=N g I;simp only[List.mapM_cons,bJ,jP hn,aQ,dz,this]
  have F:(fs.mapM (fun f=>do pure (f.offset,<-sizeOf f.type):Field->Sem (Nat×Nat))).run P w= .ok ps.toArray w:=by
   rw[<-jr (xs:=fs),List.mapM_toArray];simp only[Sem.run_map,C fs.toList ps B,aQ]
  obtain⟨d,hd,J⟩:=EO (E:=E) (fr:=fr) (a:=a) (ps[·]?) c.toList q z x.cells r A hs (K E) hr;refine⟨.agg d,?_,d,rfl,J⟩;simp only[Instr.build,bJ,hx,aQ,run_underlying j,F];have:(c.map fun(i,x)=>(i,a.eval x)).toList=c.toList.map fun p=>(p.1,a.eval p.2):=by simp
  rw[this];simp only[List.getElem?_toArray,hd];rfl
 ·obtain⟨d,hd,J⟩:=EO (E:=E) (fr:=fr) (a:=a) (fun i=>some (i*n,n)) c.toList q z x.cells r A hs (K E) hr
  refine⟨.agg d,?_,d,rfl,J⟩;simp only[Instr.build,bJ,hx,aQ,run_underlying j,jP hn];have:(c.map fun(i,x)=>(i,a.eval x)).toList=c.toList.map fun p=>(p.1,a.eval p.2):=by simp
  rw[this];simp only[hd];rfl
theorem xV(sz:Nat):∀(n:Nat)(cs:List V),(Bn sz n cs).length=n
 |0,_=>rfl
 |n+1,cs=>by simp[Bn,xV sz n]
theorem F3{sz:Nat}:∀{n:Nat}{cs:List V},cs.length=n*sz->∀e∈Bn sz n cs,e.length=sz
 |0,_,_,e,he=>by simp[Bn]at he
 |n+1,cs,h,e,he=>by
  rw[jF]at h;simp only[Bn,ed]at he;rcases he with rfl|he
  ·simp;omega
  ·exact F3 (by simp;omega) e he
theorem F4{sz:Nat}:∀{n:Nat}{cs:List V},cs.length=n*sz->(Bn sz n cs).flatten=cs
 |0,cs,h=>by simp at h;simp[Bn,h]
 |n+1,cs,h=>by
  rw[jF]at h;have c:=F4 (sz:=sz) (n:=n) (cs:=cs.drop sz) (by rw[eY];omega);simp only[Bn,vM,c,mq]
theorem EP{fr:List V}:∀{q:List (Nat×Nat×Arg)}{cs r:List V},wz fr cs q=some r->r.length=cs.length
 |[],cs,r,h=>by simp only[wz,aA]at h;rw[h]
 |(off,n,x)::q,cs,r,h=>by
  simp only[wz]at h;split at h
  ·rename_i hc
   rw[EP h];simp[qc];omega
  ·cases h
theorem yY{F:Env}{z:List V}{x:Array Value}(hx:dY z F x.toList)(u:0<z.length):∀n:Nat,
  dY ((List.replicate n z).flatten) F ((Array.range (n*z.length)).map (fun i=>x[i%x.size]!)).toList
 |0=>by simp[dY]
 |n+1=>by
  have r:=yY hx u n;have c:x.size=z.length:=by simpa using hx.length
  have g:((Array.range ((n+1)*z.length)).map (fun i=>x[i%x.size]!)).toList=((Array.range (n*z.length)).map (fun i=>x[i%x.size]!)).toList++x.toList:=by
   simp only[Array.toList_map,Array.toList_range];rw[jF,List.range_add,aR,jy];congr 1;apply List.ext_getElem
   ·simp[c]
   ·intro j l A
    simp only[aG,Jd]at l;simp only[List.getElem_map,List.getElem_range,Function.comp_apply,c];rw[nO,Nat.add_mul_mod_self_right,Nat.mod_eq_of_lt l];simp[getElem!_pos,c,l]
  rw[g,List.replicate_succ',lS];simpa using r.append hx
theorem Jz{t e:TypeId}{len n:Nat}{c:Array (Nat×Operand)}{z:List V}{q:List (Nat×Nat×Arg)}{r:List V}{fr:List V}{a:Act}(A:P.underlying t=some (.slice e))(hn:jL P e=some n)(u:nG P e=some z)
  (I:z.length=n)(K:0<n)(N:len*n<=16777216)(B:oD (fun i=>some (i*n,n)) c.toList=some q)(hs:Bz E fr a (fO (q.map (·.2.2))))(hr:wz fr ((List.replicate len z).flatten) q=some r):
  ∃d:Array Value,(Instr.buildSlice t len (c.map fun(i,x)=>(i,a.eval x))).run P w= .ok (.slice (some ⟨w.heap.size,0,none⟩) len len) (w.alloc (.cells d e))∧dY r E d.toList∧r.length=len*n:=by
 obtain⟨x,hx,C⟩:=vF (P:=P) (w:=w) u;have j:=EP hr;rw[sP,yO,uk]at j;have l:=yY (C E) (by omega) len;rw[I]at l j;obtain⟨d,hd,F⟩:=EO (E:=E) (fr:=fr) (a:=a) (fun i=>some (i*n,n)) c.toList q _ ((Array.range (len*n)).map (fun i=>x.cells[i%x.cells.size]!)) r B hs l hr;refine⟨d,?_,F,j⟩;have hp:(c.map fun(i,x)=>(i,a.eval x)).toList=c.toList.map fun p=>(p.1,a.eval p.2):=by simp
 have hm:¬len*n>2^24:=by
  have:(2:Nat)^24=16777216:=rfl;omega
 simp only[Instr.buildSlice,bJ,run_underlying A,aQ,jP hn,aP hm,dz];by_cases hl:len*n=0
 ·have J:len=0:=by
   rcases Nat.mul_eq_zero.1 hl with h|h
   ·exact h
   ·omega
  subst J;have g:∀f:Nat->Value,(Array.range 0).map f= #[]:=fun f=>jQ (by simp);simp only[Bi,g]at hd;simp only[Bi,bK,dz,aQ,g,hp,hd];simp[newRow]
 ·simp only[aP hl,bJ,hx,aQ,dz,hp,hd]
  simp[newRow]
theorem MQ{kd:SK}{M:List Mem}{o:Oper}{a:Act}{s:Ix}{ver:Nat}{d:Array Value}{e:TypeId}{len n:Nat}{r:List V}(l:eD E M w)(g:(execOp a.eval o).run P w= .ok (.value (.slice (some ⟨w.heap.size,0,none⟩) len len)) (w.alloc (.cells d e)))
  (hd:dY r E d.toList)(hl:r.length=len*n)(hp:r.all V.gL=true)(u:kd≠.own):Dk P E M w o a (.sl kd n (Bn n len r)) s ver:=by
 have j:=l.Cw (aJ w.heap.size);refine⟨_,_,E.kg w.heap.size d,g,Env.qM j,(l.below (nY _ _)).kg j (rO _ _) (fun d s o ho _=>l.zM d s _ o ho),nY _ _,?_,⟨fun _ _ _ _ h=> .inl h,fun x c hx=> ?_⟩⟩;case refine_2=>
  simp only[Env.kg]at hx;split at hx
  ·rename_i e;exact .inr (by omega)
  ·exact .inl hx
 simp only[VR,xV];refine⟨u,_,len,rfl,aJ _,fun _=>rfl,.inr ⟨d,rfl,by simp[Env.kg],?_⟩⟩;refine dF.of_flat (F3 hl) ?_;rw[F4 hl,xV,dH];have:=dY.pure hp (dY.mono (Env.qM (b:=w.heap.size) (c:=d) j) _ _ hd);rw[aO (by have:=hd.length;simp only[bQ]at this⊢;omega)];exact this
theorem Dl{L:Mem}{H:List Mem}{t:TypeId}{g:Bool}{n:Nat}{v v':V}{x:Value}(N:eD E (L::H) w)(K:rH P t=some g)(hn:jL P t=some n)(r:VR v E x)(h:xi (L::H) g n v=some v'):
  ∃u,(Instr.loadAt t x).run P w= .ok u w∧VR v' E u:=by
 unfold xi at h;split at h
 ·rename_i d s ver i off
  dsimp only at h;split at h
  ·rename_i hc
   simp only[aj,ae]at h;obtain⟨e,T,U,hp,rfl⟩:=h;simp only[VR]at r;obtain⟨o,ho,Q,rfl⟩:=r;rw[<-hc.1]at ho;obtain⟨c,O,F,l,R,j⟩:=N.cur d s o ho Q;obtain⟨I,A⟩:=j.at T;rw[<-I]at A;rw[I]at A;obtain⟨u,B,J⟩:=GN (P:=P) (E:=E.up d) (w:=w) (o:=i*o.sz) (off:=off) K hn F (by rw[I];exact A) hp;exact⟨u,by simp only[Instr.loadAt,bJ,Instr.sureAddr,dz,aQ,B],(VR.shift d _ _).2 J⟩
  ·cases h
 ·simp only[VR]at r
  obtain⟨b,o,cs,F,rfl,l⟩:=r;obtain⟨O,fr',C⟩:=N.iY b cs F;obtain⟨u,B,J⟩:=GN (P:=P) (E:=E.bare) (w:=w) K hn C l h;exact⟨u,by simp only[Instr.loadAt,bJ,Instr.sureAddr,dz,aQ,B],VR.mono E.xP _ _ J⟩
 ·cases h
theorem yZ(a:ByteArray):(a==a)=true:=by
 cases a with
 |mk d=>exact beq_self_eq_true d
theorem acP{a b:ByteArray}(h:(a==b)=true):a=b:=by
 cases a with
 |mk x=>
  cases b with
  |mk y=>exact eU ByteArray.mk (eq_of_beq (show(x==y)=true from h))
theorem xW{E F:Env}:∀{I:List LK}{a b:List V}{r:Bool}{xs:List Value},dN I a b=some r->dY a E xs->dY a F xs
 |[],[],[],_,_,_,h=>h
 | .bool::t,.bool x::l,.bool y::m,r,xs,h,c=>by
  simp only[dN]at h;obtain⟨J,C,_⟩:=ae.1 h;simp only[dY,VR]at c⊢;obtain⟨g,j,B,A,u⟩:=c;exact⟨g,j,B,A,xW C u⟩
 | .int::t,.int k x::l,.int k' y::m,r,xs,h,c=>by
  simp only[dN]at h;split at h
  ·obtain⟨J,C,_⟩:=ae.1 h
   simp only[dY,VR]at c⊢;obtain⟨g,j,B,A,u⟩:=c;exact⟨g,j,B,A,xW C u⟩
  ·cases h
 | .str::t,.str x::l,.str y::m,r,xs,h,c=>by
  simp only[dN]at h;obtain⟨J,C,_⟩:=ae.1 h;simp only[dY,VR]at c⊢;obtain⟨g,j,B,A,u⟩:=c;exact⟨g,j,B,A,xW C u⟩
theorem wK:∀{c:List LK}{a b:List V}{r:Bool},dN c a b=some r->∃u,dN c b b=some u
 |[],[],[],_,_=>⟨true,rfl⟩
 | .bool::t,.bool x::l,.bool y::m,r,h=>by
  simp only[dN]at h;obtain⟨u,j,_⟩:=ae.1 h;obtain⟨q,g⟩:=wK j;exact⟨_,by simp only[dN,g,aU];rfl⟩
 | .int::t,.int k x::l,.int k' y::m,r,h=>by
  simp only[dN]at h;split at h
  ·obtain⟨u,j,_⟩:=ae.1 h
   obtain⟨q,g⟩:=wK j;exact⟨_,by simp only[dN,g,bK,aU];rfl⟩
  ·cases h
 | .str::t,.str x::l,.str y::m,r,h=>by
  simp only[dN]at h;obtain⟨u,j,_⟩:=ae.1 h;obtain⟨q,g⟩:=wK j;exact⟨_,by simp only[dN,g,aU];rfl⟩
theorem zO{E:Env}{n:Nat}:∀{u:List LK}{a b:List V}{xs r:List Value},u.all (·!= .str)=true->dN u a b=some true->dY a E xs->dY b E r->
  xs.length=r.length∧(r.zip xs).all (fun(x,y)=>Instr.sameBits n x y)=true
 |[],[],[],_,_,_,_,g,c=>by
  simp only[dY]at g c;subst g;subst c;exact⟨rfl,rfl⟩
 | .bool::t,.bool x::l,.bool y::m,xs,r,hl,h,g,c=>by
  simp only[dN]at h;obtain⟨J,I,j⟩:=ae.1 h;simp only[aH]at j;simp only[aZ,aH]at hl;simp only[dY,VR]at g c;obtain⟨_,N,rfl,rfl,F⟩:=g;obtain⟨_,K,rfl,rfl,C⟩:=c;obtain⟨B,A⟩:=zO (n:=n) hl.2 (by rw[I,j.2]) F C;refine⟨by simp[B],?_⟩;have:x=y:=eq_of_beq j.1;subst this;simp[A,Instr.sameBits]
 | .int::t,.int k x::l,.int k' y::m,xs,r,hl,h,g,c=>by
  simp only[dN]at h;split at h
  ·rename_i O
   obtain⟨J,I,j⟩:=ae.1 h;simp only[aH,bN]at j;simp only[aZ,aH]at hl;simp only[dY,VR]at g c;obtain⟨_,N,rfl,rfl,F⟩:=g;obtain⟨_,K,rfl,rfl,C⟩:=c;obtain⟨B,A⟩:=zO (n:=n) hl.2 (by rw[I,j.2]) F C;refine⟨by simp[B],?_⟩;subst O;obtain⟨rfl,_⟩:=j;simp[A,Instr.sameBits]
  ·cases h
 | .str::t,_,_,xs,r,hl,_,_,_=>by simp at hl
def Ih(P:Program)(kt:TypeId)(kd:TypeDesc):MK->Prop
 | .agg lay=>(∃fs,kd= .struct fs∧P.underlying kt=some kd)∧Oc P kt=true∧pR P 20 kt=some lay∧lay.all (·!= .str)=true
 |m=>SN kd=some m
theorem Tj{P:Program}{g:TypeId}{m:MK}(h:LG P g=some m):∃kd,P.underlying g=some kd∧Ih P g kd m:=by
 unfold LG at h;split at h
 ·rename_i fs hd
  split at h
  ·rename_i hf
   obtain⟨c,hl,h⟩:=aj.1 h;split at h
   ·rename_i hs
    cases h;exact⟨_,hd,⟨⟨_,rfl,hd⟩,hf,hl,hs⟩⟩
   ·cases h
  ·cases h
 ·rename_i kd _ hd
  refine⟨kd,hd,?_⟩;cases m with
  |agg c=>exfalso;revert h;unfold SN;split<;>simp
  |_=>exact h
 ·cases h
def JA(P:Program)(kt:TypeId)(kd:TypeDesc)(m:MK)(x y:Value)(b:Bool):Prop:=
 match m with
 | .agg _=>∀w,(Op.equal kt x y).run P w= .ok b w
 |_=>Instr.sameNow kd x y=some b
theorem U3{j:TypeId}{kd:TypeDesc}{m:MK}{k k':V}{x r:Value}{E F:Env}{b:Bool}(hm:Ih P j kd m)(c:VR k E x)(g:VR k' F r)(h:wC m k k'=some b):
  JA P j kd m x r b∧(b=true->Instr.sameBits 10000 r x=true):=by
 unfold wC at h;split at h
 ·simp only[VR]at c g
  subst c;subst g;simp only[Ih]at hm;cases kd<;>simp only[SN,aA,reduceCtorEq]at hm;split at h
  ·rename_i e;subst e
   cases h;refine⟨by simp[JA,Instr.sameNow],fun e=> ?_⟩;have e:=eq_of_beq e;subst e;simp[Instr.sameBits]
  ·cases h
 ·simp only[VR]at c g
  subst c;subst g;simp only[Ih]at hm;cases kd<;>simp only[SN,aA,reduceCtorEq]at hm;cases h;refine⟨by simp[JA,Instr.sameNow],fun e=> ?_⟩;have e:=acP e;subst e;exact yZ _
 ·simp only[VR]at c g
  subst c;subst g;simp only[Ih]at hm;cases kd<;>simp only[SN,aA,reduceCtorEq]at hm;cases h;refine⟨by simp[JA,Instr.sameNow],fun e=> ?_⟩;have e:=eq_of_beq e;subst e;simp[Instr.sameBits]
 ·rename_i u p q
  simp only[Ih]at hm;obtain⟨⟨fs,rfl,hd⟩,_,A,B⟩:=hm;simp only[VR]at c g;obtain⟨Q,rfl,J⟩:=c;obtain⟨K,rfl,l⟩:=g;obtain⟨T,R⟩:=wK h;have l:dY q E K.toList:=xW R l;have N:rH P j=some true:=by unfold rH;simp only[hd]
  refine⟨fun w=> ?_,fun e=> ?_⟩
  ·have C:=xU (P:=P) (E:=E) 20 j u A w 10000 (by omega) p q Q.toList K.toList b J l h
   rw[vD N,vD N]at C;simpa[Op.equal,Op.maxDepth]using C
  ·subst e
   obtain⟨I,O⟩:=zO (n:=9999) B h J l;show Instr.sameBits (9999+1) _ _=true;simp only[Instr.sameBits,aH,AP];simp only[bQ]at I;exact⟨I.symm,O⟩
 ·cases h
theorem JB{u:TypeId}{kd:TypeDesc}{m:MK}{k:V}{x:Value}{E F:Env}(hm:Ih P u kd m)(A:VR k F x):∀{es:List (List V)}{l:List MapEntry}{i:Nat}{r:Option (Nat×V)},um es E l->oZ m k es i=some r->
  (r=none->∀e∈l,JA P u kd m x e.key false)∧
  (∀j v,r=some (j,v)->∃n e,j=i+n∧l[n]? =some e∧VR v E e.val∧JA P u kd m x e.key true∧Instr.sameBits 10000 e.key x=true∧∀c∈l.eraseIdx n,JA P u kd m x c.key false)
 |[],l,i,r,hr,h=>by
  simp only[um]at hr;subst hr;simp only[oZ,aA]at h;subst h;exact⟨fun _ e U=>by(cases U),fun _ _ h=>by(cases h)⟩
 |e::es,l,i,r,hr,h=>by
  obtain⟨me,l',rfl,Q,hr⟩:=hr;unfold oZ at h;split at h
  ·rename_i N;cases N
  ·rename_i N
   cases N;simp only[dY]at Q;obtain⟨y1,_,e1,R,y2,_,O,F5,e3⟩:=Q;cases e1;cases O;split at h
   ·rename_i I BA
    cases h;obtain⟨B,h2⟩:=U3 hm A R I;obtain⟨K,_⟩:=JB hm A hr BA;refine⟨fun h=>by(cases h),fun j v J=> ?_⟩;cases J;exact⟨0,me,rfl,rfl,F5,B,h2 rfl,fun c g=>K rfl c (by simpa using g)⟩
   ·rename_i I
    obtain⟨B,_⟩:=U3 hm A R I;obtain⟨K,Z⟩:=JB hm A hr h;refine⟨fun hn c g=> ?_,fun j v J=> ?_⟩
    ·cases g with
     |head=>exact B
     |tail _ g=>exact K hn c g
    ·obtain⟨n,c,h5,Y,X,W,h9,T⟩:=Z j v J
     refine⟨n+1,c,by omega,by simpa using Y,X,W,h9,fun O C=> ?_⟩;simp only[LD]at C;cases C with
     |head=>exact B
     |tail _ C=>exact T O C
   ·cases h
  ·cases h
theorem ER{kd:TypeDesc}{x:Value}:∀{l:List MapEntry}{i:Nat},(∀e∈l,Instr.sameNow kd x e.key=some false)->Instr.findNow kd x l i=some none
 |[],_,_=>rfl
 |e::l,i,h=>by
  simp only[Instr.findNow,h e (.head _)];exact ER (fun c g=>h c (.tail _ g))
theorem ES{kd:TypeDesc}{x:Value}:∀{l:List MapEntry}{i j:Nat}{e:MapEntry},l[j]? =some e->Instr.sameNow kd x e.key=some true->(∀n c,n<j->l[n]? =some c->Instr.sameNow kd x c.key=some false)->
  Instr.findNow kd x l i=some (some (i+j,e.val))
 |[],_,_,_,h,_,_=>by simp at h
 |a::l,i,0,e,h,g,_=>by
  simp only[dI,aA]at h;subst h;simp only[Instr.findNow,g,nR]
 |a::l,i,j+1,e,h,g,hr=>by
  simp only[di]at h;simp only[Instr.findNow,hr 0 a (by omega) rfl];rw[ES h g (fun n c hn hx=>hr (n+1) c (by omega) (by simpa using hx))];simp only[jd,nO 1 j]
theorem ET{c:TypeId}{x:Value}:∀{l:List MapEntry}{i:Nat}(w:World),(∀e∈l,∀w,(Op.equal c x e.key).run P w= .ok false w)->(Instr.findAsking c x l i).run P w= .ok none w
 |[],_,_,_=>rfl
 |e::l,i,w,h=>by
  simp only[Instr.findAsking,bJ,h e (.head _) w,aQ,bq,bZ];exact ET w (fun g j=>h g (.tail _ j))
theorem EU{g:TypeId}{x:Value}:∀{l:List MapEntry}{i j:Nat}{e:MapEntry}(w:World),l[j]? =some e->(∀w,(Op.equal g x e.key).run P w= .ok true w)->(∀n c,n<j->l[n]? =some c->∀w,(Op.equal g x c.key).run P w= .ok false w)->
  (Instr.findAsking g x l i).run P w= .ok (some (i+j,e.val)) w
 |[],_,_,_,_,h,_,_=>by simp at h
 |a::l,i,0,e,w,h,r,_=>by
  simp only[dI,aA]at h;subst h;simp only[Instr.findAsking,bJ,r w,aQ,bK,nR,dz]
 |a::l,i,j+1,e,w,h,r,hr=>by
  simp only[di]at h;simp only[Instr.findAsking,bJ,hr 0 a (by omega) rfl w,aQ,bq,bZ];rw[EU w h r (fun n c hn hx=>hr (n+1) c (by omega) (by simpa using hx))];simp only[jd,nO 1 j]
theorem uR{α:Type}{a:α}:∀{l:List α}{n:Nat},l[n]? =some a->l.Perm (a::l.eraseIdx n)
 |[],n,h=>by simp at h
 |b::l,0,h=>by
  simp only[dI,aA]at h;subst h;simp
 |b::l,n+1,h=>by
  simp only[di]at h;rw[LD];exact((uR h).cons b).trans (.swap _ _ _)
theorem JC{α:Type}{b:α}:∀{l:List α}{n:Nat},n<l.length->(l.set n b).Perm (b::l.eraseIdx n)
 |[],n,h=>by simp at h
 |a::l,0,h=>by simp
 |a::l,n+1,h=>by
  rw[uu,LD];exact((JC (by simpa using h)).cons a).trans (.swap _ _ _)
def Tk(E:Env)(x:Value)(es:List (List V))(l:List MapEntry):Option (Nat×V)->Option (Nat×Value)->Prop
 |none,none=>True
 |some (j,v),some (j',y)=>VR v E y∧∃e l',l[j']? =some e∧e.val=y∧Instr.sameBits 10000 e.key x=true∧l'.Perm l∧um es E l'∧l'[j]? =some e
 |_,_=>False
theorem JD{kd:TypeDesc}{fs:Array Field}{x:Value}{l:List MapEntry}(hd:kd= .struct fs):Instr.findNow kd x l 0=some none∧l=[]∨Instr.findNow kd x l 0=none:=by
 subst hd;cases l with
 |nil=>exact .inl ⟨rfl,rfl⟩
 |cons a l=>exact .inr (by simp[Instr.findNow,Instr.sameNow])
theorem JE{g:TypeId}{kd:TypeDesc}{m:MK}{k:V}{x:Value}{E F:Env}(hd:P.underlying g=some kd)(hm:Ih P g kd m)(hk:VR k F x){es:List (List V)}{l:List MapEntry}{r:Option (Nat×V)}(h:rG es E l)(hf:oZ m k es 0=some r):
  ∃A,(Instr.findKey g x l).run P w= .ok A w∧Tk E x es l r A:=by
 obtain⟨Z,X,h2⟩:=h;obtain⟨h3,h4⟩:=JB hm hk h2 hf;have B:∀{A:Option (Nat×Value)},(∀c,m= .agg c->(Instr.findAsking g x l 0).run P w= .ok A w∧(l=[]->A=none))->((∀c,m≠.agg c)->Instr.findNow kd x l 0=some A)->(Instr.findKey g x l).run P w= .ok A w:=by
  intro A N hn;unfold Instr.findKey;simp only[bJ,run_underlying hd,aQ];by_cases YM:∃c,m= .agg c
  ·obtain⟨c,rfl⟩:=YM
   obtain⟨h5,Q⟩:=N c rfl;simp only[Ih]at hm;obtain⟨⟨fs,W,_⟩,_⟩:=hm;rcases JD (x:=x) (l:=l) W with⟨h7,T⟩|h7
   ·rw[h7,Q T];rfl
   ·rw[h7];exact h5
  ·rw[hn (fun c e=>YM ⟨c,e⟩)];rfl
 cases r with
 |none=>
  have gB:∀e∈l,JA P g kd m x e.key false:=fun e I=>h3 rfl e (X.symm.subset I);refine⟨none,B (fun c e=> ?_) (fun u=> ?_),trivial⟩
  ·subst e
   exact⟨ET w gB,fun _=>rfl⟩
  ·refine ER fun e I=> ?_
   have:=gB e I;cases m<;>first|exact this|exact absurd rfl (u _)
 |some jv=>
  obtain⟨j,v⟩:=jv;obtain⟨n,e,h5,Q,h7,T,h9,iQ⟩:=h4 j v rfl;obtain rfl:j=n:=by omega
  have hlt:=(au.1 Q).1;have hp:l.Perm (e::Z.eraseIdx j):=X.symm.trans (uR Q);have U:∀a∈l,a=e∨JA P g kd m x a.key false:=by
   intro a N;rcases ed.1 (hp.subset N)with h|h
   ·exact .inl h
   ·exact .inr (iQ a h)
  have Y:∀(q:List MapEntry),(∀a∈q,a=e∨JA P g kd m x a.key false)->e∈q->∃K:Nat,q[K]? =some e∧∀(n:Nat)(C:MapEntry),n<K->q[n]? =some C->JA P g kd m x C.key false:=by
   intro q;induction q with
   |nil=>intro _ h;cases h
   |cons a q ih=>
    intro N I;rcases N a (.head _)with rfl|hb
    ·exact⟨0,rfl,fun n C h=>by omega⟩
    ·by_cases O:a=e
     ·subst O
      exact⟨0,rfl,fun n C h=>by omega⟩
     ·have I:e∈q:=by
       rcases ed.1 I with h|h
       ·exact absurd h.symm O
       ·exact h
      obtain⟨K,J,R⟩:=ih (fun b hb=>N b (.tail _ hb)) I;refine⟨K+1,by simpa using J,fun n C hn hx=> ?_⟩;cases n with
      |zero=>simp only[dI,aA]at hx;subst hx;exact hb
      |succ n=>exact R n C (by omega) (by simpa using hx)
  obtain⟨K,J,R⟩:=Y l U (hp.symm.subset (.head _));refine⟨some (0+K,e.val),B (fun c em=> ?_) (fun u=> ?_),h7,e,Z,by rw[dV];exact J,rfl,h9,X,h2,Q⟩
  ·subst em
   exact⟨EU w J T R,fun e=>by subst e;simp at J⟩
  ·refine ES J ?_ fun n C hn hx=> ?_
   ·cases m<;>first|exact T|exact absurd rfl (u _)
   ·have:=R n C hn hx
    cases m<;>first|exact this|exact absurd rfl (u _)
theorem Dm{b:Bool}{n:Nat}{c:Array Value}:∀{fs:List Field}{d off:Nat}{j:List LK},rJ P d off fs=some j->(fs.all fun f=>f.name== "_" ||match P.underlying f.type with|some (.int _)|some .bool=>true|_=>false)=true->off+j.length<=c.size->∀w:World,
  (forIn fs PUnit.unit (fun f(_:PUnit)=>(do
   if f.name≠ "_" then Instr.checkKey b (n+1) f.type (<-part f.type c f.offset)
   pure (ForInStep.yield PUnit.unit):Sem (ForInStep PUnit)))).run P w= .ok PUnit.unit w
 |[],_,_,_,_,_,_,_=>rfl
 |f::fs,0,off,j,h,_,_,_=>by simp[rJ]at h
 |f::fs,d+1,off,j,h,hf,hl,w=>by
  simp only[rJ]at h;split at h
  ·rename_i l
   simp only[aj]at h;obtain⟨k,K,h⟩:=h;split at h
   ·rename_i C
    obtain⟨I,J,rfl⟩:=ae.1 h;simp only[aF]at hl;simp only[aZ,aH]at hf;have B:=Dm (b:=b) (n:=n) (c:=c) J hf.2 (by omega) w;have g:=hf.1;have F:(f.name== "_")=false:=by simpa using l.1
    rw[F,iK]at g;rw[List.forIn_cons];obtain⟨v,A⟩:∃v,c[f.offset]? =some v:=⟨_,eB (by omega)⟩
    have u:(part f.type c f.offset).run P w= .ok v w:=by
     unfold part isAgg;split at g
     ·rename_i hd;simp[run_underlying hd,A]
     ·rename_i hd;simp[run_underlying hd,A]
     ·cases g
    have r:(Instr.checkKey b (n+1) f.type v).run P w= .ok () w:=by
     unfold Instr.checkKey;split at g
     ·rename_i hd;simp only[bJ,run_underlying hd,Result.andThen];cases v<;>rfl
     ·rename_i hd;simp only[bJ,run_underlying hd,Result.andThen];cases v<;>rfl
     ·cases g
    simp only[ne_eq,l.1,Je,bK,bJ,u,r,aQ,dz];exact B
   ·cases h
  ·cases h
theorem vU{j:TypeId}{kd:TypeDesc}{m:MK}{k:V}{x:Value}{F:Env}(hd:P.underlying j=some kd)(hm:Ih P j kd m)(C:VR k F x)(l:Bp m k=true)(b:Bool):(Instr.checkKey b 10000 j x).run P w= .ok () w:=by
 show(Instr.checkKey b (9999+1) j x).run P w= .ok () w;unfold Instr.checkKey;simp only[bJ,run_underlying hd,Result.andThen];cases m with
 |agg g=>
  simp only[Ih]at hm;obtain⟨⟨fs,rfl,_⟩,u,A,_⟩:=hm;cases k<;>simp only[Bp,bq]at l;rename_i a;obtain⟨r,hr⟩:=Option.isSome_iff_exists.1 l;simp only[VR]at C;obtain⟨c,rfl,hc⟩:=C;have J:=(mE hr).1;have I:=hc.length;simp only[bQ]at I;unfold Oc at u;rw[hd]at u;simp only at u;have B:rJ P 19 0 fs.toList=some g:=by
   have:pR P (19+1) j=some g:=A;simp only[pR,hd]at this;split at this
   ·cases this
   ·exact this
  have:=Dm (P:=P) (b:=b) (n:=9998) (c:=c) B u (by omega) w;simp only;rw[<-Array.forIn_toList];simpa using this
 |_=>
  simp only[Ih]at hm;cases kd<;>simp_all [SN]
theorem zP{r:Nat}{es:Array MapEntry}{c:Nat}(g:w.heap[r]? =some (.map es c)):(getObj r).run P w= .ok (.map es c) w:=by
 simp[getObj,Sem.run,g]
theorem JF{r:Nat}{es:Array MapEntry}{c:Nat}(o:Obj)(g:w.heap[r]? =some (.map es c)):(setObj r o).run P w= .ok () {w with heap:=w.heap.setIfInBounds r o}:=by
 simp[setObj,Sem.run,g]
theorem MR{t:TypeId}{z:V}(h:Xc P t=some z):∃x,(zeroValue t).run P w= .ok x w∧VR z E x:=by
 unfold Xc at h;simp only[aj]at h;obtain⟨x,⟨i,g,c⟩,hc⟩:=h;exact⟨x,by simp[zeroValue,typeInfo,g,c],MJ hc E⟩
theorem QA{L:Mem}{H:List Mem}{t J W:TypeId}{m:MK}{z x i v:V}{ok:Bool}{Q iv:Value}(K:P.underlying t=some (.map J W))(T:LG P J=some m)(R:Xc P W=some z)
  (Y:eD E (L::H) w)(hx:VR x E Q)(O:VR i E iv)(h:Ar (L::H) m ok z x i=some v):∃u,(Instr.lookup t Q iv ok).run P w= .ok u w∧VR v E u:=by
 unfold Ar at h;split at h
 ·rename_i d s ver
  dsimp only at h;split at h
  ·rename_i hc
   obtain⟨r,hf,h⟩:=ae.1 h;simp only[VR]at hx;obtain⟨o,ho,X,rfl⟩:=hx;rw[<-hc.1]at ho;obtain⟨es,yX,U,B⟩:=Y.Oi d s o ho X;obtain⟨kd,hd,hm⟩:=Tj T;obtain⟨r',c,I⟩:=JE (w:=w) hd hm O B hf;have g:=vU (w:=w) hd hm O hc.2.2 es.isEmpty;obtain⟨A,l,C⟩:=MR (P:=P) (E:=E) (w:=w) R;unfold Tk at I;split at I
   ·simp only at h
    refine⟨if ok then .tuple #[A,.bool false]else A,?_,?_⟩
    ·simp only[Instr.lookup,bJ,run_underlying K,aQ,zP U,dz,g,c,l]
    ·subst h
     cases ok
     ·exact C
     ·simp only[bK,VR,dY]
      exact⟨_,rfl,_,_,rfl,C,_,_,rfl,rfl,rfl⟩
   ·rename_i j u j' y
    obtain⟨F,_⟩:=I;have F:=(VR.shift d _ _).2 F;simp only at h;refine⟨if ok then .tuple #[y,.bool true]else y,?_,?_⟩
    ·simp only[Instr.lookup,bJ,run_underlying K,aQ,zP U,dz,g,c]
    ·subst h
     cases ok
     ·exact F
     ·simp only[bK,VR,dY]
      exact⟨_,rfl,_,_,rfl,F,_,_,rfl,rfl,rfl⟩
   ·exact I.elim
  ·cases h
 ·split at h
  ·rename_i N
   simp only[VR]at hx;subst hx;obtain⟨kd,hd,hm⟩:=Tj T;have g:=vU (w:=w) hd hm O N true;obtain⟨A,l,C⟩:=MR (P:=P) (E:=E) (w:=w) R;have c:(Instr.findKey J iv []).run P w= .ok none w:=by
    simp only[Instr.findKey,bJ,run_underlying hd,aQ,Instr.findNow,dz]
   refine⟨if ok then .tuple #[A,.bool false]else A,?_,?_⟩
   ·simp only[Instr.lookup,bJ,run_underlying K,aQ,dz]
    have Z:(#[]:Array MapEntry).isEmpty=true:=rfl;rw[Z,g];simp only[aQ,c,l,bJ,dz]
   ·cases h
    cases ok
    ·exact C
    ·simp only[bK,VR,dY]
     exact⟨_,rfl,_,_,rfl,C,_,_,rfl,rfl,rfl⟩
  ·cases h
 ·cases h
theorem Lr{n:Int}(g:0<=n)(c:n<=4294967296):IntKind.i64.wrap n=n:=IntWalk.i64_in _ (by omega)
theorem JG{t e:TypeId}{i:TypeInfo}{z:List V}{l c:Int}(F:P.underlying t=some (.slice e))(r:P.info? e=some i)(C:nG P e=some z)(Q:z.length=i.size)(U:0<i.size)
  (R:0<=l)(I:l<=c)(hc:c<=4294967296)(T:i.bytes<=16384):
  ∃d:Array Value,(Instr.makeSlice t (.int .i64 l) (.int .i64 c)).run P w= .ok (.slice (some ⟨w.heap.size,0,none⟩) l.toNat c.toNat) (w.alloc (.cells d e))∧dY (List.replicate c.toNat z).flatten E d.toList:=by
 obtain⟨x,hx,O⟩:=vF (P:=P) (w:=w) C;have u:=yY (O E) (by omega) c.toNat;rw[Q]at u;refine⟨(Array.range (c.toNat*i.size)).map (fun j=>x.cells[j%x.cells.size]!),?_,u⟩;have K:(i.bytes:Int)*c<=70368744177664:=by
  have N:(i.bytes:Int)*c<=(16384:Int)*c:=Int.mul_le_mul_of_nonneg_right (by omega) (by omega);omega
 have J:(i.bytes:Int)*l<=70368744177664:=by
  have N:(i.bytes:Int)*l<=(16384:Int)*l:=Int.mul_le_mul_of_nonneg_right (by omega) (by omega);omega
 have w1:=Lr R (by omega);have A:=Lr (n:=c) (by omega) hc;have B:(decide (c<0)||decide ((i.bytes:Int)*c>2^48)||decide (l<0)||decide (l>c))=false:=by
  have W:(2:Int)^48=281474976710656:=rfl;simp only[Di,je];omega
 simp only[Instr.makeSlice,bJ,run_underlying F,aQ,asInt,asIntOf,dz,typeInfo,run_program,r,w1,A];simp only[B,bq,bZ,bJ,run_askRoom,aQ,sizeOf,typeInfo,run_program,r,dz];by_cases hn:c.toNat*i.size=0
 ·have g:∀f:Nat->Value,(Array.range 0).map f= #[]:=fun f=>jQ (by simp)
  simp only[hn,bK,dz,aQ,g];simp[newRow]
 ·simp only[aP hn,bJ,hx,aQ,dz]
  simp[newRow]
end
end Go.Ht

/- Part of the proof of ThereAndBack: what the program's functions compute on the abstract machine, and that it answers as the law says. No condition. -/
import Derived.Test.YtnahpjebkgbedaaGreatC
set_option linter.all false
set_option maxRecDepth 100000
set_option maxHeartbeats 16000000
namespace Go.Ht
open Go Go.RowKit
inductive KI where
 |ops (os:List bL)
 |code (c:eu)
 |blk (id:Nat)
 |Sr (c:List (Nat×Nat))
section
variable(bn:yw)(H:List Mem)
noncomputable def rR(pm:Bool)(rs:List sU):List KI->St->Option (V×Option (List Row))
 |[],st=>Ao pm rs st
 | .Sr c::k,st=>if l5 st.1 c then rR pm rs k st else none
 | .ops os::k,st=>(iA (call bn) H os st).bind fun jS=>rR pm rs k jS
 | .blk id::k,st=>rR pm rs k st
 | .code c::k,st=>(jV (call bn) (loop bn) H c st).bind fun r=>
   match r.1 with
   | .normal=>rR pm rs k r.2
   | .ret=>Ao pm rs r.2
   | .exit i=>kEx pm rs k i r.2
where
 kEx (pm:Bool) (rs:List sU):List KI->Nat->St->Option (V×Option (List Row))
 |[],_,_=>none
 | .blk id::k,i,st=>if i=id then rR pm rs k st else kEx pm rs k i st
 | .ops _::k,i,st=>kEx pm rs k i st
 | .code _::k,i,st=>kEx pm rs k i st
 | .Sr _::k,i,st=>kEx pm rs k i st
noncomputable def G(pm:Bool)(rs:List sU)(k:List KI)(fr:List V)(L:Mem):Option (V×Option (List Row)):=rR bn H pm rs k (fr,L)
noncomputable def Gv(pm:Bool)(rs:List sU)(d:Option Nat)(os:List bL)(k:List KI)(fr:List V)(r:Option (V×Mem)):Option (V×Option (List Row)):=
 r.bind fun r=>G bn H pm rs (.ops os::k) (gW fr d r.1) r.2
noncomputable def Gx(pm:Bool)(rs:List sU)(i:Nat)(k:List KI)(fr:List V)(L:Mem):Option (V×Option (List Row)):=rR.kEx bn H pm rs k i (fr,L)
end
noncomputable def Gc(bn:yw)(H:List Mem)(pm:Bool)(rs:List sU)(a b:eu)(k:List KI)(fr:List V)(L:Mem)(v:V):Option (V×Option (List Row)):=
 match v with
 | .bool true=>G bn H pm rs (.code a::k) fr L
 | .bool false=>G bn H pm rs (.code b::k) fr L
 |_=>none
variable{bn:yw}{H:List Mem}{pm:Bool}{rs:List sU}{k:List KI}{fr:List V}{L:Mem}
@[congr] theorem alX{d:Option Nat}{os:List bL}{r c:Option (V×Mem)}(h:r=c):Gv bn H pm rs d os k fr r=Gv bn H pm rs d os k fr c:=by rw[h]
@[congr] theorem alY{a b:eu}{v v':V}(h:v=v'):Gc bn H pm rs a b k fr L v=Gc bn H pm rs a b k fr L v':=by rw[h]
theorem alZ:G bn H pm rs [] fr L=Ao pm rs (fr,L):=by simp[G,rR]
theorem ag':G bn H pm rs (.code .skip::k) fr L=G bn H pm rs k fr L:=by simp[G,rR,jV]
theorem al0:G bn H pm rs (.code .ret::k) fr L=Ao pm rs (fr,L):=by simp[G,rR,jV]
theorem al1{id:Nat}:G bn H pm rs (.blk id::k) fr L=G bn H pm rs k fr L:=by simp[G,rR]
theorem aha{id:Nat}:G bn H pm rs (.code (.exit id)::k) fr L=Gx bn H pm rs id k fr L:=by simp[G,Gx,rR,jV]
theorem ac6{c:eu}:G bn H pm rs (.code (.scope c)::k) fr L=G bn H pm rs (.code c::k) fr L:=by simp[G,rR,jV]
theorem J8{c:List Ix}{p:List (Nat×List V)}{os:List bL}{q:List (Nat×Nat)}:G bn H pm rs (.code (.region c p os q)::k) fr L=G bn H pm rs (.ops os:: .Sr q::k) fr (jZ p (iZ c L)):=by
 simp only[G,rR,jV];cases iA (call bn) H os (fr,jZ p (iZ c L))with
 |none=>rfl
 |some st=>
  simp only[bG];split<;>rfl
theorem ahb:G bn H pm rs (.Sr []::k) fr L=G bn H pm rs k fr L:=by simp[G,rR,l5]
theorem al2{a b:Nat}{l:List (Nat×Nat)}(h:(if a=b then V.stat (ag fr a)else Br (ag fr a) (ag fr b))=true):G bn H pm rs (.Sr ((a,b)::l)::k) fr L=G bn H pm rs (.Sr l::k) fr L:=by
 simp only[G,rR,l5,h,l9]
theorem afJ{a b:eu}:G bn H pm rs (.code (.seq a b)::k) fr L=G bn H pm rs (.code a:: .code b::k) fr L:=by
 simp only[G,rR,jV];cases jV (call bn) (loop bn) H a (fr,L)with
 |none=>rfl
 |some r=>
  obtain⟨e,st⟩:=r;cases e<;>rfl
theorem ac7{id:Nat}{c:eu}:G bn H pm rs (.code (.block id c)::k) fr L=G bn H pm rs (.code c:: .blk id::k) fr L:=by
 simp only[G,rR,jV];cases jV (call bn) (loop bn) H c (fr,L)with
 |none=>rfl
 |some r=>
  obtain⟨e,st⟩:=r;cases e with
  |normal=>rfl
  |ret=>rfl
  |exit i=>
   by_cases h:i=id
   ·subst h;simp[rR.kEx]
   ·simp[rR.kEx,h]
theorem Zn{c:Arg}{a b:eu}:G bn H pm rs (.code (.cond c a b)::k) fr L=Gc bn H pm rs a b k fr L (ev fr c):=by
 simp only[G,rR,jV];cases ev fr c with
 |bool t=>cases t<;>rfl
 |_=>rfl
theorem ik{c:eu}:G bn H pm rs (.code (.loop c)::k) fr L=G bn H pm rs (.code c:: .code (.loop c)::k) fr L:=by
 simp only[G,rR,jV];conv=>lhs;rw[Vz]
 simp only[Au];cases jV (call bn) (loop bn) H c (fr,L)with
 |none=>rfl
 |some r=>
  obtain⟨e,st⟩:=r;cases e<;>rfl
theorem ahc{id i:Nat}:Gx bn H pm rs i (.blk id::k) fr L=if i=id then G bn H pm rs k fr L else Gx bn H pm rs i k fr L:=by simp[G,Gx,rR.kEx]
theorem ac8{i:Nat}{c:eu}:Gx bn H pm rs i (.code c::k) fr L=Gx bn H pm rs i k fr L:=by simp[Gx,rR.kEx]
theorem ahd{i:Nat}{c:List (Nat×Nat)}:Gx bn H pm rs i (.Sr c::k) fr L=Gx bn H pm rs i k fr L:=by simp[Gx,rR.kEx]
theorem ahe{i:Nat}{c:List bL}:Gx bn H pm rs i (.ops c::k) fr L=Gx bn H pm rs i k fr L:=by simp[Gx,rR.kEx]
theorem Xw:G bn H pm rs (.ops []::k) fr L=G bn H pm rs k fr L:=by simp[G,rR,iA]
theorem Ea{d:Option Nat}{o:gJ}{os:List bL}:G bn H pm rs (.ops (⟨d,o,none⟩::os)::k) fr L=Gv bn H pm rs d os k fr (cZ (call bn) H fr L o):=by
 simp only[G,Gv,rR,iA,cO,wanted];cases cZ (call bn) H fr L o<;>rfl
theorem VA{d:Option Nat}{os:List bL}{v:V}{L':Mem}:Gv bn H pm rs d os k fr (some (v,L'))=G bn H pm rs (.ops os::k) (gW fr d v) L':=by simp[Gv]
noncomputable def Gw(bn:yw)(H:List Mem)(pm:Bool)(rs:List sU)(w:Bool)(d:Option Nat)(o:gJ)(os:List bL)(k:List KI)(fr:List V)(L:Mem)(g:V):Option (V×Option (List Row)):=
 match g with
 | .bool b=>if b==w then Gv bn H pm rs d os k fr (cZ (call bn) H fr L o)else G bn H pm rs (.ops os::k) (gW fr d (.eT [])) L
 | .eT []=>G bn H pm rs (.ops os::k) (gW fr d (.eT [])) L
 |_=>none
@[congr] theorem al3{w:Bool}{d:Option Nat}{o:gJ}{os:List bL}{g g':V}(h:g=g'):Gw bn H pm rs w d o os k fr L g=Gw bn H pm rs w d o os k fr L g':=by rw[h]
theorem al4{d:Option Nat}{o:gJ}{g:Nat}{w:Bool}{os:List bL}:G bn H pm rs (.ops (⟨d,o,some (g,w)⟩::os)::k) fr L=Gw bn H pm rs w d o os k fr L (ag fr g):=by
 simp only[G,Gw,Gv,rR,iA,cO,wanted];generalize ag fr g=x;cases x with
 |bool b=>
  cases c:(b==w)
  ·simp[c]
  ·simp only[c,aX,bG]
   cases cZ (call bn) H fr L o<;>simp
 |eT vs=>cases vs<;>simp
 |_=>simp
section
variable{d:Option Nat}{o:gJ}{os:List bL}{a b:eu}
theorem al5:Gw bn H pm rs true d o os k fr L (.bool true)=Gv bn H pm rs d os k fr (cZ (call bn) H fr L o):=rfl
theorem al6:Gw bn H pm rs false d o os k fr L (.bool false)=Gv bn H pm rs d os k fr (cZ (call bn) H fr L o):=rfl
theorem al7:Gw bn H pm rs true d o os k fr L (.bool false)=G bn H pm rs (.ops os::k) (gW fr d (.eT [])) L:=rfl
theorem al8:Gw bn H pm rs false d o os k fr L (.bool true)=G bn H pm rs (.ops os::k) (gW fr d (.eT [])) L:=rfl
theorem ahf{w:Bool}:Gw bn H pm rs w d o os k fr L (.eT [])=G bn H pm rs (.ops os::k) (gW fr d (.eT [])) L:=rfl
theorem ac9:Gc bn H pm rs a b k fr L (.bool true)=G bn H pm rs (.code a::k) fr L:=rfl
theorem Zo:Gc bn H pm rs a b k fr L (.bool false)=G bn H pm rs (.code b::k) fr L:=rfl
end
theorem Rh{i j:Nat}{v:V}:ag (gW fr (some i) v) j=if i=j then v else ag fr j:=qJ _ _ _ _
theorem Ri{j:Nat}{v:V}:ag (gW fr none v) j=ag fr j:=rfl
theorem av{f:FuncId}{c:uw}{args:List V}(h:bn f=some c):call bn f args H=G bn H c.pm c.results [.code c.code] args (start c.pm H):=by
 rw[OP];simp only[xk,h,G,rR];cases jV (call bn) (loop bn) H c.code (args,start c.pm H)with
 |none=>rfl
 |some r=>
  obtain⟨e,st⟩:=r;cases e<;>rfl
theorem FU{x:Int}(h: -9223372036854775808<=x∧x<=9223372036854775807):IntKind.i64.wrap x=x:=IntWalk.i64_in x h
theorem Qd{x:Int}(h:0<=x∧x<=255):IntKind.u8.wrap x=x:=IntWalk.u8_in x h
section
variable{kd:IntKind}{x y:Int}
theorem al9:oW .add (.int kd x) (.int kd y)=some (.int kd (kd.wrap (x+y))):=by simp[oW,tC]
theorem ama:oW .sub (.int kd x) (.int kd y)=some (.int kd (kd.wrap (x-y))):=by simp[oW,tC]
theorem amb:oW .mul (.int kd x) (.int kd y)=some (.int kd (kd.wrap (x*y))):=by simp[oW,tC]
theorem amc:oW .eql (.int kd x) (.int kd y)=some (.bool (decide (x=y))):=by simp[oW,tC]
theorem amd:oW .neq (.int kd x) (.int kd y)=some (.bool (!decide (x=y))):=by simp[oW,tC]
theorem ame:oW .lss (.int kd x) (.int kd y)=some (.bool (decide (x<y))):=by simp[oW,tC]
theorem amf:oW .leq (.int kd x) (.int kd y)=some (.bool (decide (x<=y))):=by simp[oW,tC]
theorem amg:oW .gtr (.int kd x) (.int kd y)=some (.bool (decide (y<x))):=by simp[oW,tC]
theorem amh:oW .geq (.int kd x) (.int kd y)=some (.bool (decide (y<=x))):=by simp[oW,tC]
theorem ami(h:y<0∨0<y):oW .rem (.int kd x) (.int kd y)=some (.int kd (x.tmod y)):=by simp[oW,tC];omega
theorem amj(h:y<0∨0<y):oW .quo (.int kd x) (.int kd y)=some (.int kd (kd.wrap (x.tdiv y))):=by simp[oW,tC];omega
theorem dP(h:0<=x):x.tmod y=x%y:=Int.tmod_eq_emod_of_nonneg h
theorem jM(h:0<=x):x.tdiv y=x/y:=Int.tdiv_eq_ediv_of_nonneg h
theorem amk{p:Prop}[Decidable p](h:p):decide p=true:=dW h
theorem aml{p:Prop}[Decidable p](h:¬p):decide p=false:=fB h
end
theorem ac'{cf:fU}{c a b:Arg}:cZ cf H fr L (.pick c a b)=(asB (ev fr c)).map fun t=>(if t then ev fr a else ev fr b,L):=rfl
def oM(d s:Nat):bL:=⟨some d,.mv (.t s),none⟩
def oI(d:Nat)(n:Int):bL:=⟨some d,.mv (.c (.int .i64 n)),none⟩
def oO(d:Nat)(op:gJ):bL:=⟨some d,op,none⟩
def oN(op:gJ):bL:=⟨none,op,none⟩
def oF(d off x:Nat):bL:=⟨some d,.fieldAddr off (.t x),none⟩
def oL(d x:Nat):bL:=⟨some d,.load false 1 (.t x),none⟩
def oA(d n x:Nat):bL:=⟨some d,.load true n (.t x),none⟩
def oE(d sz x i:Nat):bL:=⟨some d,.vw sz (.t x) (.t i),none⟩
def oS(n x v:Nat):bL:=⟨none,.store n (.t x) (.t v),none⟩
def oC(d f:Nat)(aEp:List Arg):bL:=⟨some d,.calla false false 0 (.c (.fn f [])) aEp,none⟩
def oB(d:Nat)(op:BinOp)(x y:Nat):bL:=⟨some d,.bin op (.t x) (.t y),none⟩
def oK(d:Nat)(op:BinOp)(x:Nat)(n:Int):bL:=⟨some d,.bin op (.t x) (.c (.int .i64 n)),none⟩
def oX(d x i:Nat):bL:=⟨some d,.ext (.t x) i,none⟩
def oQ(d x:Nat):bL:=⟨some d,.len (.t x),none⟩
def cR(os:List bL):eu:= .region [] [] os []
def cD(os:List bL)(c:List (Nat×Nat)):eu:= .region [] [] os c
def cS(a b:eu):eu:= .seq a b
def cC(t:Nat)(a b:eu):eu:= .cond (.t t) a b
def aI(n:Int):Arg:= .c (.int .i64 n)
section
variable{bn:yw}{H:List Mem}{pm:Bool}{rs:List sU}{k:List KI}{fr:List V}{L:Mem}{os:List bL}{d s x y i n sz off f:Nat}{op:gJ}{bop:BinOp}{m:Int}{aEp:List Arg}{a b:eu}
theorem arW:G bn H pm rs (.ops (oM d s::os)::k) fr L=G bn H pm rs (.ops os::k) (gW fr (some d) (ag fr s)) L:=by rw[oM,Ea];rfl
theorem arX:G bn H pm rs (.ops (oI d m::os)::k) fr L=G bn H pm rs (.ops os::k) (gW fr (some d) (.int .i64 m)) L:=by rw[oI,Ea];rfl
theorem arY:G bn H pm rs (.ops (oO d op::os)::k) fr L=Gv bn H pm rs (some d) os k fr (cZ (call bn) H fr L op):=by rw[oO,Ea]
theorem arZ:G bn H pm rs (.ops (oN op::os)::k) fr L=Gv bn H pm rs none os k fr (cZ (call bn) H fr L op):=by rw[oN,Ea]
theorem ar0:G bn H pm rs (.ops (oF d off x::os)::k) fr L=Gv bn H pm rs (some d) os k fr (one L (Jh off (ag fr x))):=by rw[oF,Ea];rfl
theorem ar1:G bn H pm rs (.ops (oL d x::os)::k) fr L=Gv bn H pm rs (some d) os k fr (one L (xi (L::H) false 1 (ag fr x))):=by rw[oL,Ea];rfl
theorem ar2:G bn H pm rs (.ops (oA d n x::os)::k) fr L=Gv bn H pm rs (some d) os k fr (one L (xi (L::H) true n (ag fr x))):=by rw[oA,Ea];rfl
theorem ar3:G bn H pm rs (.ops (oE d sz x i::os)::k) fr L=Gv bn H pm rs (some d) os k fr (one L (yr sz (ag fr x) (ag fr i))):=by rw[oE,Ea];rfl
theorem ar4:G bn H pm rs (.ops (oS n x y::os)::k) fr L=Gv bn H pm rs none os k fr ((DI L n (ag fr x) (ag fr y)).map fun L'=>(.eT [],L')):=by rw[oS,Ea];rfl
theorem ar5:G bn H pm rs (.ops (oC d f aEp::os)::k) fr L=Gv bn H pm rs (some d) os k fr (wD (call bn) H L false 0 (.fn f []) (UY fr aEp)):=by rw[oC,Ea];rfl
theorem ar6:G bn H pm rs (.ops (oB d bop x y::os)::k) fr L=Gv bn H pm rs (some d) os k fr (one L (oW bop (ag fr x) (ag fr y))):=by rw[oB,Ea];rfl
theorem ar7:G bn H pm rs (.ops (oK d bop x m::os)::k) fr L=Gv bn H pm rs (some d) os k fr (one L (oW bop (ag fr x) (.int .i64 m))):=by rw[oK,Ea];rfl
theorem ar8:G bn H pm rs (.ops (oX d x i::os)::k) fr L=Gv bn H pm rs (some d) os k fr (cZ (call bn) H fr L (.ext (.t x) i)):=by rw[oX,Ea]
theorem ar9:G bn H pm rs (.ops (oQ d x::os)::k) fr L=Gv bn H pm rs (some d) os k fr (one L (AQ (ag fr x))):=by rw[oQ,Ea];rfl
theorem ar':G bn H pm rs (.code (cR os)::k) fr L=G bn H pm rs (.ops os::k) fr L:=by
 rw[cR,J8];simp only[iZ,jZ];unfold G;simp only[rR,l5,bK]
theorem asa{c:List (Nat×Nat)}:G bn H pm rs (.code (cD os c)::k) fr L=G bn H pm rs (.ops os:: .Sr c::k) fr L:=by
 rw[cD,J8];simp only[iZ,jZ]
theorem asb:G bn H pm rs (.code (cS a b)::k) fr L=G bn H pm rs (.code a:: .code b::k) fr L:=afJ
theorem asc:G bn H pm rs (.code (cC x a b)::k) fr L=Gc bn H pm rs a b k fr L (ag fr x):=Zn
theorem ahg{v:V}{d:Option Nat}:Gv bn H pm rs d os k fr (one L (some v))=G bn H pm rs (.ops os::k) (gW fr d v) L:=VA
theorem amm:ev fr (aI m)= .int .i64 m:=rfl
end
def cu(sz:Nat)(els:List (List V)):V:=if els=[]then .aL else .sl .any sz els
section
variable{sz n d:Nat}{els:List (List V)}{kd:IntKind}{m:Int}{M:List Mem}{L:Mem}{to:Option Ix}{vs:List V}
theorem dS:AQ (cu sz els)=some (.i (els.length:Nat)):=by
 unfold cu;split
 ·rename_i h;subst h;rfl
 ·rfl
theorem Zp:yr sz (cu sz els) (.int kd m)=if 0<=m then(els[m.toNat]?).map fun e=> .eptr e 0 else none:=by
 unfold cu;split
 ·rename_i h;subst h;simp[yr]
 ·simp[yr]
theorem ahh:wB M (cu sz els)=some els:=by
 unfold cu;split
 ·rename_i h;subst h;rfl
 ·rfl
theorem nZ:V.shift d (cu sz els)=cu sz els:=by unfold cu;split<;>rfl
theorem amn:gZ (cu sz els)=cu sz els:=by unfold cu;split<;>rfl
theorem amo:iG to L (cu sz els)=(cu sz els,L):=by unfold cu;split<;>rfl
theorem Xx:iG to L (.eT (cu sz els::vs))=(.eT (cu sz els::vs.map gZ),L):=by unfold cu;split<;>rfl
theorem gq:V.scalar (cu sz els)=true:=by unfold cu;split<;>rfl
theorem uU:V.gL (cu sz els)=true:=by unfold cu;split<;>rfl
theorem J9:V.qW (cu sz els)=true:=by unfold cu;split<;>rfl
theorem Zq:V.cells (cu sz els)=[cu sz els]:=by unfold cu;split<;>rfl
theorem se:V.pure (cu sz els)=els.all (fun e=>e.all V.pure):=by
 unfold cu;split
 ·rename_i h;subst h;rfl
 ·rw[V.N7];rfl
theorem ahi:Ia (cu sz els)=some els.isEmpty:=by
 unfold cu;split
 ·rename_i h;subst h;rfl
 ·rename_i h
  cases els with
  |nil=>exact absurd rfl h
  |cons a l=>rfl
theorem Zr:pG true L (cu sz els)=some (cu sz els):=by unfold cu;split<;>rfl
theorem Zt:pG false L (cu sz els)=if els.all (fun e=>e.all V.pure)then some (cu sz els)else none:=by
 rw[<-se (sz:=sz)];unfold cu;split
 ·rfl
 ·simp only[pG,bq,bZ]
theorem ahj:jJ n L (cu sz els)=if els.all (fun e=>e.all V.pure)then some (cu sz els,L)else jJ n L (cu sz els):=by
 split
 ·rename_i h
  unfold cu;split
  ·cases n<;>rfl
  ·cases n<;>simp only[jJ,h,bK]
 ·rfl
theorem wO:uy L (cu sz els)=some (cu sz els,L):=by unfold cu;split<;>rfl
def nI:V->Bool
 | .sl .own _ _=>false
 |_=>true
theorem Zu:lD []=true:=rfl
theorem Xy{v:V}{l:List V}:lD (v::l)=l.all nI:=rfl
theorem ahk:nI (cu sz els)=true:=by unfold cu;split<;>rfl
theorem gF:cu sz []= .aL:=rfl
theorem qP{e:List V}:cu sz (e::els)= .sl .any sz (e::els):=rfl
end
section
variable{L:Mem}{M:List Mem}{S:Ix}{to:Option Ix}{b am:Bool}{kd:IntKind}{n:Int}{t:ByteArray}{vs cs:List V}{v:V}{f:FuncId}{s':Ix}{sz d ver i off len q:Nat}{els:List (List V)}
theorem afq:AQ .aL=some (.i 0):=rfl
theorem uV:AQ (.sl .any sz els)=some (.i (els.length:Nat)):=rfl
theorem ada:AQ (.ref d s' ver sz off len)=some (.i (len:Nat)):=rfl
theorem Zv{c:Nat}:yr sz (.sl .any c els) (.int kd n)=if c=sz∧0<=n then(els[n.toNat]?).map fun e=> .eptr e 0 else none:=by simp[yr]
theorem ahl{c:Nat}:yr sz (.ref d s' ver c off len) (.int kd n)=if c=sz∧0<=n∧n<len then some (.ptr d s' ver (off+n.toNat) 0)else none:=rfl
theorem adb:wB M .aL=some []:=rfl
theorem IM:wB M (.sl .any sz els)=some els:=rfl
theorem Rj:wB M (.sl .full sz els)=some els:=rfl
theorem Zw:iG none L (.sl .own sz els)=(.sl .any sz els,L):=rfl
theorem Zx:iG (some S) L (.sl .own sz els)=(.ref 0 S ((ax L S).ver+1) sz 0 els.length,bu L S ⟨(ax L S).ver+1,sz,els,false⟩):=rfl
theorem ahm:iG to L (.sl .any sz els)=(.sl .any sz els,L):=rfl
theorem ade:iG to L (.bool b)=(.bool b,L):=rfl
theorem ahn:iG to L (.int kd n)=(.int kd n,L):=rfl
theorem aho:iG to L (.str t)=(.str t,L):=rfl
theorem Zy:iG to L .aL=(.aL,L):=rfl
theorem amq:iG to L (.fn f cs)=(.fn f cs,L):=rfl
theorem ahp:iG to L (.agg cs)=(.agg cs,L):=rfl
theorem ahq:iG to L (.ref d s' ver sz off len)=(.ref d s' ver sz off len,L):=rfl
theorem ahr:iG to L (.ptr d s' ver i off)=(.ptr d s' ver i off,L):=rfl
theorem adf:iG to L (.eT [])=(.eT [],L):=rfl
theorem OQ:iG none L (.eT (.sl .own sz els::vs))=(.eT (.sl .any sz els::vs.map gZ),L):=rfl
theorem OT:iG (some S) L (.eT (.sl .own sz els::vs))=(.eT (.ref 0 S ((ax L S).ver+1) sz 0 els.length::vs.map gZ),bu L S ⟨(ax L S).ver+1,sz,els,false⟩):=rfl
theorem TP:iG to L (.eT (.sl .any sz els::vs))=(.eT ((.sl .any sz els::vs).map gZ),L):=rfl
theorem Rk:iG to L (.eT (.bool b::vs))=(.eT ((.bool b::vs).map gZ),L):=rfl
theorem TQ:iG to L (.eT (.int kd n::vs))=(.eT ((.int kd n::vs).map gZ),L):=rfl
theorem OU:iG to L (.eT (.aL::vs))=(.eT ((.aL::vs).map gZ),L):=rfl
theorem TR:iG to L (.eT (.agg cs::vs))=(.eT ((.agg cs::vs).map gZ),L):=rfl
theorem ahs:gZ (.sl .own sz els)= .sl .any sz els:=rfl
theorem aht:gZ (.sl .any sz els)= .sl .any sz els:=rfl
theorem adg:gZ (.bool b)= .bool b:=rfl
theorem ahu:gZ (.int kd n)= .int kd n:=rfl
theorem ahv:gZ (.str t)= .str t:=rfl
theorem Zz:gZ .aL= .aL:=rfl
theorem amr:gZ (.fn f cs)= .fn f cs:=rfl
theorem ahw:gZ (.agg cs)= .agg cs:=rfl
theorem ahx:gZ (.ref d s' ver sz off len)= .ref d s' ver sz off len:=rfl
theorem adh:pG am L (.bool b)=some (.bool b):=by cases am<;>rfl
theorem ahy:pG am L (.int kd n)=some (.int kd n):=by cases am<;>rfl
theorem ahz:pG am L (.str t)=some (.str t):=by cases am<;>rfl
theorem ZA:pG am L .aL=some .aL:=by cases am<;>rfl
theorem ZB:pG false L (.agg cs)=if cs.all V.pure then some (.agg cs)else none:=rfl
theorem ZC:pG true L (.agg cs)=if cs.all V.gL then some (.agg cs)else none:=rfl
theorem ZE:pG false L (.sl .any sz els)=if V.pure (.sl .any sz els)then some (.sl .any sz els)else none:=rfl
theorem ZF:pG true L (.sl .any sz els)=some (.sl .any sz els):=rfl
theorem VB:pG false L (.fn f cs)=if cs.all V.calm then some (.fn f cs)else none:=rfl
theorem adi:pG true L (.fn f cs)=if cs.all V.gL then some (.fn f cs)else none:=rfl
theorem ZG:pG false L (.ref 0 s' ver sz off len)=if(ax L s').ver=ver∧0<ver∧off=0∧len=(ax L s').els.length∧0<(ax L s').sz∧(ax L s').els.all (fun e=>e.all V.pure)∧L.ok s' then some (.sl .own (ax L s').sz (ax L s').els)else none:=by cases s'<;>rfl
theorem ZH:pG true L (.ref 0 (.o q) ver sz off len)=if(ax L (.o q)).ver=ver∧0<ver∧off=0∧len=(ax L (.o q)).els.length∧0<(ax L (.o q)).sz∧(ax L (.o q)).els.all (fun e=>e.all V.gL)∧L.ok (.o q)then some (.sl .own (ax L (.o q)).sz (ax L (.o q)).els)else none:=rfl
theorem ZI:pG true L (.ref 0 (.g q) ver sz off len)=some (.ref 0 (.g q) ver sz off len):=rfl
theorem adj:pG am L (.ref (d+1) (.o q) ver sz off len)=some (.ref d (.o q) ver sz off len):=by cases am<;>rfl
theorem adk:pG am L (.ptr (d+1) (.o q) ver i off)=some (.ptr d (.o q) ver i off):=by cases am<;>rfl
theorem ase{rs:List sU}{st:St}:Ao false rs st=(EI st.2 st.1 rs).bind fun vs=>(YI st.2 vs (wE true st.2 vs)).map fun v=>(v,some st.2.D):=rfl
theorem asf{rs:List sU}{st:St}:Ao true rs st=(EI st.2 st.1 rs).bind fun vs=>(YH st.2 vs (wE false st.2 vs)).map fun v=>(v,none):=rfl
theorem ZJ{us:List V}:YH L vs (some us)=if lD us then some (yV us)else yu L vs:=rfl
theorem lI:YH L vs none=yu L vs:=rfl
theorem ZK{us:List V}:YI L vs (some us)=if lD us then some (yV us)else AR L vs:=rfl
theorem o9:YI L vs none=AR L vs:=rfl
theorem jB{pm:Bool}{H:List Mem}{n:Nat}:ax (start pm H) (.o n)=⟨0,0,[],false⟩:=by cases H<;>cases n<;>rfl
theorem adl{pm:Bool}{H:List Mem}{L:Mem}{n:Nat}:ax (start pm (L::H)) (.g n)=ax L (.g n):=rfl
theorem ZL{pm:Bool}{H:List Mem}{L:Mem}:(start pm (L::H)).D=L.D:=rfl
theorem adm{H:List Mem}{L:Mem}:(start false (L::H)).b=L.b:=rfl
theorem ZM{H:List Mem}{L:Mem}:(start true (L::H)).b=L.D.length:=rfl
theorem nn(n:Nat):(0<=(n:Int))=True:=by simp
theorem ahA{α:Type}{c:Prop}[Decidable c]{x:α}(h:c):(if c then some x else none)=some x:=aX h
theorem ams:L.ok (.o q)= !(ax L (.o q)).fz:=by simp[Mem.ok]
theorem BN{bn:yw}{H:List Mem}{pm:Bool}{rs:List sU}{a b:eu}{k:List KI}{fr:List V}{c:Bool}:Gc bn H pm rs a b k fr L (.bool c)=if c=true then G bn H pm rs (.code a::k) fr L else G bn H pm rs (.code b::k) fr L:=by cases c<;>rfl
theorem ahB{bn:yw}{H:List Mem}{pm:Bool}{rs:List sU}{k:List KI}{fr:List V}{a b:Nat}{l:List (Nat×Nat)}:G bn H pm rs (.Sr ((a,b)::l)::k) fr L=if(if a=b then V.stat (ag fr a)else Br (ag fr a) (ag fr b))=true then G bn H pm rs (.Sr l::k) fr L else none:=by
 by_cases h:(if a=b then V.stat (ag fr a)else Br (ag fr a) (ag fr b))=true
 ·rw[aX h];exact al2 h
 ·rw[aP h]
  unfold G;simp only[rR,l5,xI]at h⊢;rw[h];rfl
theorem BO{bn:yw}{H:List Mem}{pm:Bool}{rs:List sU}{d:Option Nat}{o:gJ}{os:List bL}{k:List KI}{fr:List V}{c:Bool}:Gw bn H pm rs true d o os k fr L (.bool c)=if c=true then Gv bn H pm rs d os k fr (cZ (call bn) H fr L o)else G bn H pm rs (.ops os::k) (gW fr d (.eT [])) L:=by cases c<;>rfl
theorem BP{bn:yw}{H:List Mem}{pm:Bool}{rs:List sU}{d:Option Nat}{o:gJ}{os:List bL}{k:List KI}{fr:List V}{c:Bool}:Gw bn H pm rs false d o os k fr L (.bool c)=if c=true then G bn H pm rs (.ops os::k) (gW fr d (.eT [])) L else Gv bn H pm rs d os k fr (cZ (call bn) H fr L o):=by cases c<;>rfl
theorem Rl:AQ (.sl .full sz els)=some (.i (els.length:Nat)):=rfl
theorem VC{c:Nat}:yr sz (.sl .full c els) (.int kd n)=if c=sz∧0<=n then(els[n.toNat]?).map fun e=> .eptr e 0 else none:=by simp[yr]
theorem bI{bn:yw}{H:List Mem}{pm:Bool}{rs:List sU}{k:List KI}{fr:List V}{L:Mem}{c:eu}{R:Option (V×Option (List Row))}(P:Nat->List V->Mem->Prop)(n:Nat)(l:P 0 fr L)
  (step:∀i fr L,i<n->P i fr L->(∀fr' L',P (i+1) fr' L'->G bn H pm rs (.code (.loop c)::k) fr' L'=R)->G bn H pm rs (.code c:: .code (.loop c)::k) fr L=R)
  (done:∀fr L,P n fr L->G bn H pm rs (.code c:: .code (.loop c)::k) fr L=R):G bn H pm rs (.code (.loop c)::k) fr L=R:=by
 have h:∀m i fr L,i+m=n->P i fr L->G bn H pm rs (.code (.loop c)::k) fr L=R:=by
  intro m;induction m with
  |zero=>
   intro i fr L e hp;rw[ik];have:i=n:=by omega
   subst this;exact done fr L hp
  |succ m j=>intro i fr L e hp;rw[ik];exact step i fr L (by omega) hp fun fr' L' g=>j (i+1) fr' L' (by omega) g
 exact h n 0 fr L (by omega) l
theorem qQ{bn:yw}{H:List Mem}{pm:Bool}{rs:List sU}{k:List KI}{fr:List V}{L:Mem}{c:eu}{R:Option (V×Option (List Row))}(P:Nat->List V->Mem->Prop)(n:Nat)(u:P n fr L)
  (step:∀i fr L,P i fr L->(∀j fr' L',j<i->P j fr' L'->G bn H pm rs (.code (.loop c)::k) fr' L'=R)->G bn H pm rs (.code c:: .code (.loop c)::k) fr L=R):G bn H pm rs (.code (.loop c)::k) fr L=R:=by
 have h:∀i fr L,P i fr L->G bn H pm rs (.code (.loop c)::k) fr L=R:=by
  intro i;induction i using Nat.strongRecOn with
  |_ i l=>intro fr L hp;rw[ik];exact step i fr L hp fun j fr' L' r g=>l j r fr' L' g
 exact h n fr L u
theorem mO:(∀(b:Bool),V.scalar (.bool b)=true)∧(∀(k:IntKind)(n:Int),V.scalar (.int k n)=true)∧(∀(t:ByteArray),V.scalar (.str t)=true)∧(V.scalar (.nA)=true)∧(∀(d:Nat)(r:Ix)(v i o:Nat),V.scalar (.ptr d r v i o)=true)∧(∀(e:List V)(o:Nat),V.scalar (.eptr e o)=true)∧(V.scalar (.aL)=true)∧(∀(z:Nat)(l:List (List V)),V.scalar (.sl .any z l)=true)∧(∀(z:Nat)(l:List (List V)),V.scalar (.sl .full z l)=true)∧(∀(z:Nat)(l:List (List V)),V.scalar (.sl .own z l)=true)∧(∀(d:Nat)(r:Ix)(v z o l:Nat),V.scalar (.ref d r v z o l)=true)∧(∀(f:Nat)(c:List V),V.scalar (.fn f c)=true)∧(V.scalar (.pO)=true)∧(∀(d:Nat)(r:Ix)(v:Nat),V.scalar (.mp d r v)=true)∧(V.scalar (.nW)=true)∧(∀(f:Nat)(c:List V),V.scalar (.mth f c)=true)∧(∀(c:List V),V.scalar (.agg c)=false)∧(∀(c:List V),V.scalar (.eT c)=false):=by
 refine⟨?_,?_,?_,?_,?_,?_,?_,?_,?_,?_,?_,?_,?_,?_,?_,?_,?_,?_⟩<;>intros<;>rfl
theorem ahC:(∀(b:Bool),V.cells (.bool b)=[.bool b])∧(∀(k:IntKind)(n:Int),V.cells (.int k n)=[.int k n])∧(∀(t:ByteArray),V.cells (.str t)=[.str t])∧(V.cells (.nA)=[.nA])∧(∀(d:Nat)(r:Ix)(v i o:Nat),V.cells (.ptr d r v i o)=[.ptr d r v i o])∧(∀(e:List V)(o:Nat),V.cells (.eptr e o)=[.eptr e o])∧(V.cells (.aL)=[.aL])∧(∀(z:Nat)(l:List (List V)),V.cells (.sl .any z l)=[.sl .any z l])∧(∀(z:Nat)(l:List (List V)),V.cells (.sl .full z l)=[.sl .full z l])∧(∀(z:Nat)(l:List (List V)),V.cells (.sl .own z l)=[.sl .own z l])∧(∀(d:Nat)(r:Ix)(v z o l:Nat),V.cells (.ref d r v z o l)=[.ref d r v z o l])∧(∀(f:Nat)(c:List V),V.cells (.fn f c)=[.fn f c])∧(V.cells (.pO)=[.pO])∧(∀(d:Nat)(r:Ix)(v:Nat),V.cells (.mp d r v)=[.mp d r v])∧(V.cells (.nW)=[.nW])∧(∀(f:Nat)(c:List V),V.cells (.mth f c)=[.mth f c])∧(∀(c:List V),V.cells (.agg c)=c)∧(∀(c:List V),V.cells (.eT c)=[.eT c]):=by
 refine⟨?_,?_,?_,?_,?_,?_,?_,?_,?_,?_,?_,?_,?_,?_,?_,?_,?_,?_⟩<;>intros<;>rfl
theorem ahD:(∀(b:Bool),nI (.bool b)=true)∧(∀(k:IntKind)(n:Int),nI (.int k n)=true)∧(∀(t:ByteArray),nI (.str t)=true)∧(nI (.nA)=true)∧(∀(d:Nat)(r:Ix)(v i o:Nat),nI (.ptr d r v i o)=true)∧(∀(e:List V)(o:Nat),nI (.eptr e o)=true)∧(nI (.aL)=true)∧(∀(z:Nat)(l:List (List V)),nI (.sl .any z l)=true)∧(∀(z:Nat)(l:List (List V)),nI (.sl .full z l)=true)∧(∀(z:Nat)(l:List (List V)),nI (.sl .own z l)=false)∧(∀(d:Nat)(r:Ix)(v z o l:Nat),nI (.ref d r v z o l)=true)∧(∀(f:Nat)(c:List V),nI (.fn f c)=true)∧(nI (.pO)=true)∧(∀(d:Nat)(r:Ix)(v:Nat),nI (.mp d r v)=true)∧(nI (.nW)=true)∧(∀(f:Nat)(c:List V),nI (.mth f c)=true)∧(∀(c:List V),nI (.agg c)=true)∧(∀(c:List V),nI (.eT c)=true):=by
 refine⟨?_,?_,?_,?_,?_,?_,?_,?_,?_,?_,?_,?_,?_,?_,?_,?_,?_,?_⟩<;>intros<;>rfl
theorem BQ:(∀(b:Bool),V.gL (.bool b)=true)∧(∀(k:IntKind)(n:Int),V.gL (.int k n)=true)∧(∀(t:ByteArray),V.gL (.str t)=true)∧(V.gL (.nA)=true)∧(∀(e:List V)(o:Nat),V.gL (.eptr e o)=true)∧(V.gL (.aL)=true)∧(∀(z:Nat)(l:List (List V)),V.gL (.sl .any z l)=true)∧(∀(z:Nat)(l:List (List V)),V.gL (.sl .full z l)=true)∧(V.gL (.pO)=true)∧(V.gL (.nW)=true):=by
 refine⟨?_,?_,?_,?_,?_,?_,?_,?_,?_,?_⟩<;>intros<;>rfl
theorem OV:(∀(b:Bool),V.qW (.bool b)=true)∧(∀(k:IntKind)(n:Int),V.qW (.int k n)=true)∧(∀(t:ByteArray),V.qW (.str t)=true)∧(V.qW (.nA)=true)∧(∀(e:List V)(o:Nat),V.qW (.eptr e o)=true)∧(V.qW (.aL)=true)∧(∀(z:Nat)(l:List (List V)),V.qW (.sl .any z l)=true)∧(∀(z:Nat)(l:List (List V)),V.qW (.sl .full z l)=true)∧(∀(f:Nat)(c:List V),V.qW (.fn f c)=c.all V.gL)∧(V.qW (.pO)=true)∧(V.qW (.nW)=true)∧(∀(f:Nat)(c:List V),V.qW (.mth f c)=c.all V.gL)∧(∀(c:List V),V.qW (.agg c)=c.all V.gL):=by
 refine⟨?_,?_,?_,?_,?_,?_,?_,?_,?_,?_,?_,?_,?_⟩<;>intros<;>rfl
theorem ZN{q v z o l:Nat}:V.gL (.ref 0 (.g q) v z o l)=true:=rfl
theorem ahE{q v z o:Nat}:V.gL (.ptr 0 (.g q) v z o)=true:=rfl
theorem ahF{q v z o l:Nat}:V.qW (.ref 0 (.g q) v z o l)=true:=rfl
theorem ahG{q v z o:Nat}:V.qW (.ptr 0 (.g q) v z o)=true:=rfl
theorem fF{L:Mem}{n:Nat}{r:Row}:(bu L (.g n) r).D=dE L.D n r:=rfl
theorem cz{L:Mem}{n:Nat}{r:Row}:(bu L (.o n) r).D=L.D:=rfl
theorem fw:∀{l:List Row}{n:Nat}{r:Row},(dE l n r).length=max l.length (n+1)
 |[],0,_=>rfl
 |[],n+1,r=>by simp[dE,fw (l:=[]) (n:=n)]
 |a::l,0,_=>by simp[dE]
 |a::l,n+1,r=>by simp[dE,fw (l:=l) (n:=n)]
theorem gp{D O:List Row}{b n:Nat}:ax ⟨D,O,b⟩ (.g n)=eP D n:=rfl
theorem dM{L:Mem}{D:List Row}{b n:Nat}:ax ⟨D,L.O,b⟩ (.o n)=ax L (.o n):=rfl
theorem jH{L:Mem}:ax L (.g L.D.length)=⟨0,0,[],false⟩:=rA _ (aJ _)
theorem Xz{L:Mem}{n:Nat}:L.ok (.g n)=(!(ax L (.g n)).fz&&decide (L.b<=n)):=rfl
theorem amt{m:Nat}:pK m none none none=some (0,m,m):=by simp[pK]
theorem amu{m:Nat}:pK m (some (.int kd n)) none none=if 0<=n∧n<=m then some (n.toNat,m,m)else none:=by
 by_cases h:0<=n∧n<=m<;>simp[pK,h]
theorem ZO{m:Nat}:pK m none (some (.int kd n)) none=if 0<=n∧n<=m then some (0,n.toNat,m)else none:=by
 by_cases h:0<=n∧n<=m<;>simp[pK,h]
theorem ahH{m:Nat}{c:Int}:pK m (some (.int kd n)) (some (.int kd c)) none=if 0<=c∧c<=m∧0<=n∧n<=c then some (n.toNat,c.toNat,m)else none:=by
 by_cases h:0<=c∧c<=m
 ·have e:(c.toNat:Int)=c:=Int.toNat_of_nonneg h.1
  simp only[pK];by_cases g:0<=n∧n<=c
  ·simp[h,g,e]
  ·simp[h,g,e]
 ·rw[aP (by omega)]
  simp[pK,h]
theorem adn{c:Nat}{lo g:Option V}:Qp sz (.sl .any c els) lo g none=if c=sz then(pK els.length lo g none).map fun r=> .sl .any sz ((els.take r.2.1).drop r.1)else none:=by simp[Qp]
theorem ado{c d:Nat}{lo g:Option V}:Qp sz (.ref d s' ver c off len) lo g none=if c=sz then(pK len lo g none).map fun r=> .ref d s' ver sz (off+r.1) (r.2.1-r.1)else none:=rfl
theorem adp{lo c:Option V}:Qp sz .aL lo c none=(pK 0 lo c none).bind fun _=>some .aL:=rfl
theorem IP{H:List Mem}{site bytes:Nat}{y:V}:DJ (L::H) site sz bytes .aL y=(wB (L::H) y).bind fun new=>
   if new.isEmpty then some (.aL,L)
   else if ug bytes new.length∧new.all (fun e=>e.length=sz∧uP (fq L site) e)then
    some (.ref 0 (fq L site) ((ax L (fq L site)).ver+1) sz 0 new.length,bu L (fq L site) ⟨(ax L (fq L site)).ver+1,sz,new,false⟩)
   else none:=rfl
theorem Rm{H:List Mem}{site bytes c:Nat}{y:V}:DJ (L::H) site sz bytes (.sl .full c els) y=(wB (L::H) y).bind fun new=>
   if new.isEmpty then some (.sl .full c els,L)
   else if ug bytes (els.length+new.length)∧(els++new).all (fun e=>e.length=sz∧uP (fq L site) e)then
    some (.ref 0 (fq L site) ((ax L (fq L site)).ver+1) sz 0 (els.length+new.length),bu L (fq L site) ⟨(ax L (fq L site)).ver+1,sz,els++new,false⟩)
   else none:=rfl
theorem IQ{H:List Mem}{site bytes c:Nat}{y:V}:DJ (L::H) site sz bytes (.ref 0 s' ver c 0 len) y=(wB (L::H) y).bind fun new=>
   if(ax L s').ver=ver∧0<ver∧len<=(ax L s').els.length∧(ax L s').sz=sz∧c=sz∧ug bytes (len+new.length)∧new.all (fun e=>e.length=sz∧uP s' e)∧L.ok s' then
    some (.ref 0 s' (ver+1) sz 0 (len+new.length),bu L s' ⟨ver+1,sz,(ax L s').els.take len++new,false⟩)
   else none:=rfl
theorem Rn{bytes c:Nat}:ug bytes c=(decide (c<=4294967296)&&decide (bytes<=16384)):=rfl
theorem adq{α:Type}:([]:List α).isEmpty=true:=rfl
theorem ZP{α:Type}{x:α}{l:List α}:(x::l).isEmpty=false:=rfl
end
end Go.Ht
namespace Go.Ht
open Go
def mR(n:Nat):V->Option (List (List V))
 | .aL=>some []
 | .sl .any sz els=>if sz=n∧els.length<=1000000 then some els else none
 |_=>none
def Ka(m c v:Nat):Nat->List (List V)->Option (List (List V×List V))
 |_,[]=>some []
 |n,(.int .i64 s:: .int .i64 i::_)::l=>(Ka m c v (n+1) l).map fun r=>([.i 4,.i 0,.i (c:Nat),.i (m:Nat),.i (v:Nat),.i (n:Nat),.i 0],[.i s,.i i])::r
 |_,_=>none
def Kb(m c:Nat):Nat->List (List V)->Option (List (List V×List V))
 |_,[]=>some []
 |n,[es,_]::l=>(mR 13 es).bind fun es=>(Ka m c n 0 es).bind fun a=>(Kb m c (n+1) l).map fun r=>a++r
 |_,_=>none
def Kc(m:Nat):Nat->List (List V)->Option (List (List V×List V))
 |_,[]=>some []
 |n,[_,vs]::l=>(mR 2 vs).bind fun vs=>(Kb m n 0 vs).bind fun a=>(Kc m (n+1) l).map fun r=>a++r
 |_,_=>none
def L8:Nat->List (List V)->Option (List (List V×List V))
 |_,[]=>some []
 |n,(.int .i64 s:: .int .i64 i::e)::l=>(e[19]?).bind fun cs=>(mR 2 cs).bind fun cs=>(Kc n 0 cs).bind fun a=>(L8 (n+1) l).map fun r=>([.i 3,.i 0,.i 0,.i (n:Nat),.i 0,.i 0,.i 0],[.i s,.i i])::a++r
 |_,_=>none
def Ke:Nat->List (List V)->Option (List (List V×List V))
 |_,[]=>some []
 |n,(.int .i64 s:: .int .i64 i::_)::l=>(Ke (n+1) l).map fun r=>([.i 2,.i 0,.i (n:Nat),.i 0,.i 0,.i 0,.i 0],[.i s,.i i])::r
 |_,_=>none
def Kg:Nat->Nat->List (List V)->Option (List (List V×List V))
 |_,_,[]=>some []
 |n,st,[.int .i64 s,.int .i64 i,_,_,_,ss]::l=>(mR 3 ss).bind fun ss=>(Ke st ss).bind fun a=>(Kg (n+1) (st+ss.length) l).map fun r=>([.i 1,.i (n:Nat),.i 0,.i 0,.i 0,.i 0,.i 0],[.i s,.i i])::a++r
 |_,_,_=>none
def Ma:Nat->List (List V)->Option (List (List V×List V))
 |_,[]=>some []
 |n,(.int .i64 s:: .int .i64 i::_)::l=>(Ma (n+1) l).map fun r=>([.i 5,.i 0,.i 0,.i 0,.i 0,.i 0,.i (n:Nat)],[.i s,.i i])::r
 |_,_=>none
def OW:List V->Option (List (List V×List V))
 |[_,_,ps,ms,sp,_]=>(mR 6 ps).bind fun ps=>(mR 22 ms).bind fun ms=>(mR 7 sp).bind fun sp=>(Kg 0 0 ps).bind fun a=>(L8 0 ms).bind fun b=>(Ma 0 sp).map fun c=>a++b++c
 |_=>none
def Gh:List V->Int->Int->Option Bool
 |[.int .i64 s,.int .i64 i],a,b=>some (decide (s=a)&&decide (i=b))
 |_,_,_=>none
def uW(a b:Int):List (List V×List V)->Option V
 |[]=>none
 |(p,i)::l=>(Gh i a b).bind fun t=>if t then some (.eT [.agg p,.bool true])else uW a b l
def kK(sz:Nat)(els:List (List V)):V:=if els=[]then .aL else .sl .own sz els
theorem ahI{sz:Nat}{els:List (List V)}{L:Mem}:iG none L (kK sz els)=(cu sz els,L):=by unfold kK cu;split<;>rfl
theorem TS{sz:Nat}{els:List (List V)}{L:Mem}{vs:List V}:iG none L (.eT (kK sz els::vs))=(.eT (cu sz els::vs.map gZ),L):=by unfold kK cu;split<;>rfl
def OX:List (List V):=[(-1,3),(-1,2),(-1,1),(-1,0),(0,3),(0,2),(0,1),(0,0),(1,3),(1,2),(1,1),(1,0),(2,3),(2,2),(2,1),(2,0),(3,3),(3,2),(3,1),(3,0),(4,3),(4,2),(4,1),(4,0),(5,3),(5,2),(5,1),(5,0),(6,3),(6,2),(6,1),(6,0),(7,3),(7,2),(7,1),(7,0),(8,3),(8,2),(8,1),(8,0)].map fun p:Int×Int=>[V.i p.1,V.i p.2]
def OY:List (List V):=[(-1,0),(-1,1),(-1,2),(-1,3),(0,0),(0,1),(0,2),(0,3),(1,0),(1,1),(1,2),(1,3),(2,0),(2,1),(2,2),(2,3),(3,0),(3,1),(3,2),(3,3),(4,0),(4,1),(4,2),(4,3),(5,0),(5,1),(5,2),(5,3),(6,0),(6,1),(6,2),(6,3),(7,0),(7,1),(7,2),(7,3),(8,0),(8,1),(8,2),(8,3)].map fun p:Int×Int=>[V.i p.1,V.i p.2]
def Eb(s:ByteArray):Bool:=decide (s.size<=256)&&s.toList.all fun b=>decide (32<=b)&&b !=127
def isI:V->Bool
 | .int .i64 _=>true
 |_=>false
def prF:FuncId->List V->Option V
 |112,[.str s]=>if Eb s then some (.bool true)else none
 |108,[]=>some (.sl .any 2 OX)
 |262,[.aL,.fn 229 []]=>some (kK 2 OY)
 |156,[.aL,.fn 90 [.eptr [c] 0]]=>(mR 9 c).bind fun els=>if els.all (fun e=>e.all isI)then some (kK 9 els)else none
 |114,[.agg s]=>(OW s).bind fun l=>if l.length<=1000000 then some (kK 2 (l.map Prod.snd))else none
 |247,[.agg s,.agg [.int .i64 a,.int .i64 b]]=>if a=0 then none else(OW s).bind (uW a b)
 |_,_=>none
theorem asg(d s:Nat):(⟨some d,.mv (.t s),none⟩:bL)=oM d s:=rfl
theorem ash(d:Nat)(n:Int):(⟨some d,.mv (.c (.int .i64 n)),none⟩:bL)=oI d n:=rfl
theorem asi(d o x:Nat):(⟨some d,.fieldAddr o (.t x),none⟩:bL)=oF d o x:=rfl
theorem asj(d x:Nat):(⟨some d,.load false 1 (.t x),none⟩:bL)=oL d x:=rfl
theorem asl(d n x:Nat):(⟨some d,.load true n (.t x),none⟩:bL)=oA d n x:=rfl
theorem asm(d sz x i:Nat):(⟨some d,.vw sz (.t x) (.t i),none⟩:bL)=oE d sz x i:=rfl
theorem asn(n x v:Nat):(⟨none,.store n (.t x) (.t v),none⟩:bL)=oS n x v:=rfl
theorem aso(d f:Nat)(aEp:List Arg):(⟨some d,.calla false false 0 (.c (.fn f [])) aEp,none⟩:bL)=oC d f aEp:=rfl
theorem asq(d:Nat)(op:BinOp)(x y:Nat):(⟨some d,.bin op (.t x) (.t y),none⟩:bL)=oB d op x y:=rfl
theorem asr(d:Nat)(op:BinOp)(x:Nat)(n:Int):(⟨some d,.bin op (.t x) (.c (.int .i64 n)),none⟩:bL)=oK d op x n:=rfl
theorem ass(d x i:Nat):(⟨some d,.ext (.t x) i,none⟩:bL)=oX d x i:=rfl
theorem ast(d x:Nat):(⟨some d,.len (.t x),none⟩:bL)=oQ d x:=rfl
theorem asu(os:List bL):eu.region [] [] os []=cR os:=rfl
theorem asv(d:Nat)(op:gJ):(⟨some d,op,none⟩:bL)=oO d op:=rfl
theorem asw(op:gJ):(⟨none,op,none⟩:bL)=oN op:=rfl
theorem asx(os:List bL)(c:List (Nat×Nat)):eu.region [] [] os c=cD os c:=rfl
theorem asy(a b:eu):eu.seq a b=cS a b:=rfl
theorem asA(t:Nat)(a b:eu):eu.cond (.t t) a b=cC t a b:=rfl
theorem asC(n:Int):Arg.c (.int .i64 n)=aI n:=rfl
theorem asD(n:Nat):UInt8.ofBitVec (BitVec.ofNat 8 n)=UInt8.ofNat n:=rfl
theorem asE(l:List UInt8):ByteArray.mk (Array.mk l)=⟨l.toArray⟩:=rfl
def zo:=And.intro @asg<|And.intro @ash<|And.intro @asi<|And.intro @asj<|And.intro @asl<|And.intro @asm<|And.intro @asn<|And.intro @aso<|And.intro @asq<|And.intro @asr<|And.intro @ass<|And.intro @ast<| @asu
def zp:=And.intro @asD<|And.intro @asE<|And.intro @asv<|And.intro @asw<|And.intro @asx<|And.intro @asy<|And.intro @asA<|And.intro @asC<|And.intro @Int.ofNat_eq_natCast<| @Int.cast_ofNat_Int
def zd:=And.intro @asb<|And.intro @ar'<|And.intro @asa<|And.intro @asc<|And.intro @arW<|And.intro @arX<|And.intro @arY<|And.intro @arZ<|And.intro @ar0<|And.intro @ar1<|And.intro @ar2<|And.intro @ar3<|And.intro @ar4<|And.intro @ar5<|And.intro @ar6<|And.intro @ar7<|And.intro @ar8<|And.intro @ar9<|And.intro @afJ<|And.intro @ag'<|And.intro @al0<|And.intro @alZ<|And.intro @al1<|And.intro @aha<|And.intro @ac6<|And.intro @J8<|And.intro @ac7<|And.intro @Zn<|And.intro @ahb<|And.intro @ahc<|And.intro @ac8<|And.intro @ahe<|And.intro @ahd<|And.intro @Xw<|And.intro @Ea<|And.intro @al4<|And.intro @Rh<|And.intro @Ri<| @amm
def zu:=And.intro @ahB<|And.intro @VA<|And.intro @ahg<|And.intro @al5<|And.intro @al6<|And.intro @al7<|And.intro @al8<|And.intro @ahf<|And.intro @ac9<|And.intro @Zo<|And.intro @amk<|And.intro @aml<|And.intro @ac'<|And.intro @al9<|And.intro @ama<|And.intro @amb<|And.intro @amc<|And.intro @amd<|And.intro @ame<|And.intro @amf<|And.intro @amg<|And.intro @amh<|And.intro @ami<|And.intro @amj<|And.intro @FU<|And.intro @Qd<|And.intro @dS<|And.intro @Zp<|And.intro @ahh<|And.intro @nZ<|And.intro @amn<|And.intro @amo<|And.intro @Xx<|And.intro @gq<|And.intro @uU<|And.intro @J9<|And.intro @Zq<|And.intro @se<|And.intro @ahi<|And.intro @Zr<|And.intro @Zt<|And.intro @wO<|And.intro @ahk<|And.intro @Zu<|And.intro @Xy<|And.intro @afq<|And.intro @uV<|And.intro @Rl<|And.intro @ada<|And.intro @Zv<|And.intro @VC<|And.intro @ahl<|And.intro @adb<|And.intro @IM<|And.intro @Rj<|And.intro @Zw<|And.intro @Zx<|And.intro @ahm<|And.intro @ade<|And.intro @ahn<|And.intro @aho<|And.intro @Zy<|And.intro @amq<|And.intro @ahp<|And.intro @ahq<|And.intro @ahr<|And.intro @adf<|And.intro @OQ<|And.intro @OT<|And.intro @TP<|And.intro @Rk<|And.intro @TQ<|And.intro @OU<|And.intro @TR<|And.intro @ahs<|And.intro @aht<|And.intro @adg<|And.intro @ahu<|And.intro @ahv<|And.intro @Zz<|And.intro @amr<|And.intro @ahw<|And.intro @ahx<|And.intro @adh<|And.intro @ahy<|And.intro @ahz<|And.intro @ZA<|And.intro @ZB<|And.intro @ZC<|And.intro @ZE<|And.intro @ZF<|And.intro @VB<|And.intro @adi<|And.intro @ZG<|And.intro @ZH<|And.intro @ZI<|And.intro @adj<|And.intro @adk<|And.intro @ase<|And.intro @asf<|And.intro @ZJ<|And.intro @ZK<|And.intro @ams<|And.intro @ahI<|And.intro @TS<|And.intro @nn<|And.intro @mO<|And.intro @ahC<|And.intro @ahD<|And.intro @BQ<|And.intro @OV<|And.intro @ZN<|And.intro @ahE<|And.intro @ahF<|And.intro @ahG<|And.intro @amt<|And.intro @amu<|And.intro @ZO<|And.intro @ahH<|And.intro @adn<|And.intro @ado<|And.intro @adp<|And.intro @IP<|And.intro @Rm<|And.intro @IQ<|And.intro @Rn<|And.intro @adq<|And.intro @ZP<|And.intro @fF<|And.intro @cz<|And.intro @fw<|And.intro @cK<|And.intro @gp<|And.intro @dM<|And.intro @jH<|And.intro @Xz<|And.intro @ahA<|And.intro @ay<|And.intro @eG<|And.intro @jB<|And.intro @adl<|And.intro @ZL<|And.intro @adm<|And.intro @ZM<|And.intro @Option.map_some.{0,0}<|And.intro @Option.bind_some.{0,0}<|And.intro @Option.map_none.{0,0}<|And.intro @Option.bind_none.{0,0}<|And.intro @List.append_nil.{0}<|And.intro @List.nil_append.{0}<|And.intro @List.cons_append.{0}<|And.intro @List.map_cons.{0,0}<|And.intro @List.map_nil.{0,0}<|And.intro @List.all_cons.{0}<|And.intro @List.all_nil.{0}<|And.intro @Bool.and_true<|And.intro @Bool.true_and<|And.intro @Bool.and_self<|And.intro @Bool.false_and<|And.intro @Bool.and_false<|And.intro @List.getElem?_cons_zero.{0}<|And.intro @List.getElem?_cons_succ.{0}<|And.intro @eq_self.{1}<|And.intro @or_true<|And.intro @true_or<|And.intro @or_false<|And.intro @false_or<|And.intro @decide_true<|And.intro @decide_false<|And.intro @Bool.not_true<|And.intro @Bool.not_false<|And.intro @bne_self_eq_false.{0}<|And.intro @Bool.false_eq_true<|And.intro @Nat.one_ne_zero<|And.intro @Nat.zero_ne_one<|And.intro @ne_eq.{1}<|And.intro @not_false_eq_true<|And.intro @not_true_eq_false<|And.intro @and_true<|And.intro @true_and<|And.intro @and_self<|And.intro @and_false<|And.intro @false_and<|And.intro @List.length_cons.{0}<|And.intro @List.length_nil.{0}<|And.intro @List.take_succ_cons.{0}<|And.intro @List.take_zero.{0}<|And.intro @List.drop_succ_cons.{0}<|And.intro @List.drop_zero.{0}<|And.intro @Nat.zero_le<|And.intro @Nat.le_refl<|And.intro @Nat.lt_irrefl<|And.intro @Bool.not_eq_true<|And.intro @Bool.or_true<|And.intro @Bool.or_false<|And.intro @Bool.true_or<|And.intro @Bool.false_or<|And.intro @List.set_cons_zero.{0}<|And.intro @List.set_cons_succ.{0}<|And.intro @List.getD_cons_zero.{0}<|And.intro @List.getD_cons_succ.{0}<|And.intro @List.flatten_cons.{0}<|And.intro @List.flatten_nil.{0}<|And.intro @Int.cast_ofNat_Int<|And.intro @Nat.zero_add<|And.intro @Nat.add_zero<|And.intro @Nat.zero_mul<|And.intro @Nat.mul_one<|And.intro @Nat.one_mul<|And.intro @Nat.mul_zero<|And.intro @Nat.succ_ne_self<|And.intro @beq_self_eq_true.{0}<|And.intro @Int.toNat_natCast<|And.intro @Bool.true_beq<|And.intro @Bool.false_beq<|And.intro @bne_iff_ne.{0}<|And.intro @if_true.{1}<|And.intro @if_false.{1}<|And.intro @List.getElem?_map.{0,0}<|And.intro @List.length_map.{0,0}<|And.intro @Ix.o.injEq<|And.intro @Ix.g.injEq<| @Nat.zero_lt_succ
attribute [push_cast,go_sem] zu cZ ev UY one iZ jZ asB EI acJ wE yV wD yU Jj V.shift V.bW acI Bo wz qc Bn Jh xi DI iH V.pure V.qZ V.EH IE Ji mmV uP fq Mem.Jk ag V.stat V.row Br List.replicate
def zg:=And.intro @Rh<|And.intro @Ri<|And.intro @eq_self.{1}<|And.intro @Nat.succ_ne_self<|And.intro @Nat.one_ne_zero<| @Nat.zero_ne_one
def zr:=And.intro @ay<|And.intro @dM<|And.intro @Ix.o.injEq<|And.intro @Nat.succ_ne_self<|And.intro @Nat.one_ne_zero<| @Nat.zero_ne_one
end Go.Ht
namespace Go.Proofs.YtnahpjebkgbedaaGreat
open Go Go.Ht
def mo(f:FuncId):Ht.Mode:=
 match f with
 |4=>{sh:=true,gl:=[20,170],fz:=[206,123]}
 |5=>{gl:=[4,50],fz:=[72]}
 |7=>{gl:=[36]}
 |9|16=>{fz:=[62]}
 |11=>{fu:=[7]}
 |12|14|15|23|38|39|49|52|66|76|79|80|81|84|89|95|96|101|117|123|126|157|160|165|215|216|217|228|256|263|268|270|271|272|274|275|276|277|282|283|284|290=>{pm:=false}
 |20=>{fu:=[8]}
 |25=>{gl:=[34]}
 |26=>{pm:=false,gl:=[12,29]}
 |27=>{pm:=false,gl:=[7]}
 |28=>{pm:=false,gl:=[2,3]}
 |41=>{gl:=[9],ow:=[44]}
 |43=>{pm:=false,gl:=[16,80]}
 |44|170=>{gl:=[7]}
 |54=>{gl:=[17]}
 |59=>{gl:=[8]}
 |67=>{fu:=[42]}
 |88|227=>{ow:=[4]}
 |107=>{pm:=false,gl:=[27]}
 |111=>{pm:=false,gl:=[19]}
 |199=>{pm:=false,gl:=[5,8]}
 |273=>{pm:=false,gl:=[11]}
 |279=>{gl:=[5]}
 |285=>{pm:=false,gl:=[47],ca:=false}
 |_=>{}
def r3:eu:=cS (cR [oA 62 6 5,oA 63 2 3,oC 64 9 [(.t 62),(.t 63)],oM 61 64,oX 65 61 0,oX 66 61 1,oX 67 61 2,oO 12 (.alloc 6 [(.str ⟨#[]⟩),(.bool false),.aL,.aL,.aL,.aL]),oO 13 (.alloc 7 [(.int .i64 0),(.int .i64 0)]),oS 6 12 65,oS 2 13 66,oM 7 67]) ((cS ((cS (cR [oM 68 7,oK 69 .neq 68 0]) ((cC 69 ((cS (cR [oM 70 7,oK 71 .eql 70 18,oM 72 71,⟨some 73,.mv (.t 7),some (72,false)⟩,⟨some 74,.bin .eql (.t 73) (aI 2),some (72,false)⟩,⟨some 75,.mv (.t 74),some (72,false)⟩,⟨some 76,.load true 2 (.t 3),some (75,true)⟩,⟨some 77,.calla false false 0 (.c (.fn 10 [])) [(.t 76)],some (75,true)⟩,⟨some 78,.bin .neq (.t 77) (aI 0),some (75,true)⟩,⟨some 79,.pick (.t 75) (.t 78) (.c (.bool false)),some (72,false)⟩,oO 80 (.pick (.t 72) (.c (.bool true)) (.t 79)),oM 4 80]) .ret)) .skip)))) ((cS (cR [oA 82 6 12,oC 83 5 [(.t 82)],oM 81 83,oX 84 81 0,oX 85 81 1,oM 14 84,oM 15 85]) ((cS ((cS (cR [oM 86 15,oK 87 .neq 86 0,oM 88 87,⟨some 89,.mv (.t 14),some (88,false)⟩,⟨some 90,.len (.t 89),some (88,false)⟩,⟨some 91,.mv (.t 6),some (88,false)⟩,⟨some 92,.len (.t 91),some (88,false)⟩,⟨some 93,.bin .neq (.t 90) (.t 92),some (88,false)⟩,oO 94 (.pick (.t 88) (.c (.bool true)) (.t 93)),oM 95 94,⟨some 96,.fieldAddr 1 (.t 13),some (95,false)⟩,⟨some 97,.load false 1 (.t 96),some (95,false)⟩,⟨some 98,.fieldAddr 1 (.t 3),some (95,false)⟩,⟨some 99,.load false 1 (.t 98),some (95,false)⟩,⟨some 100,.bin .neq (.t 97) (.t 99),some (95,false)⟩,oO 101 (.pick (.t 95) (.c (.bool true)) (.t 100))]) ((cC 101 ((cS (cR [oO 4 (.mv (.c (.bool false)))]) .ret)) .skip)))) ((cS ((cS (cR [oI 16 0]) ((.block 0 ((.loop ((cS ((cS (cR [oM 102 16,oM 103 6,oQ 104 103,oB 105 .lss 102 104]) ((cC 105 .skip (.exit 0))))) ((cS ((.block 1 ((cS (cR [oM 108 6,oM 109 16,oE 110 9 108 109,oA 111 9 110,oO 17 (.alloc 8 [(.int .i64 0),(.int .i64 0),(.int .i64 0),(.int .i64 0),(.int .i64 0),(.int .i64 0),(.int .i64 0),(.int .i64 0),(.int .i64 0)]),oS 9 17 111]) ((cS (cR [oF 112 2 17,oL 113 112,oF 114 1 3,oL 115 114,oB 116 .add 113 115,oF 117 2 17,oS 1 117 116]) ((cS (cR [oM 118 14,oM 119 16,oE 120 9 118 119,oA 121 9 120,oA 122 9 17,oO 123 (.eqagg [.int,.int,.int,.int,.int,.int,.int,.int,.int] true (.t 121) (.t 122))]) ((cC 123 ((cS (cR [oO 4 (.mv (.c (.bool false)))]) .ret)) .skip)))))))))) (cR [oM 106 16,oK 107 .add 106 1,oM 16 107]))))))))))) ((cS (cR [oA 125 2 13,oC 126 11 [(.t 125)],oM 124 126,oX 127 124 0,oX 128 124 1,oO 18 (.alloc 9 [(.int .i64 0),(.int .i64 0)]),oS 2 18 127,oM 19 128]) ((cS (cR [oA 130 6 12,oA 131 2 18,oC 132 9 [(.t 130),(.t 131)],oM 129 132,oX 133 129 0,oX 134 129 1,oX 135 129 2,oO 20 (.alloc 10 [(.str ⟨#[]⟩),(.bool false),.aL,.aL,.aL,.aL]),oO 21 (.alloc 11 [(.int .i64 0),(.int .i64 0)]),oS 6 20 133,oS 2 21 134,oM 22 135]) ((cS ((cS (cR [oM 136 19,oK 137 .neq 136 0,oM 138 137,⟨some 139,.mv (.t 22),some (138,false)⟩,⟨some 140,.bin .neq (.t 139) (aI 0),some (138,false)⟩,oO 141 (.pick (.t 138) (.c (.bool true)) (.t 140)),oM 142 141,⟨some 143,.load true 6 (.t 20),some (142,false)⟩,⟨some 144,.load true 6 (.t 5),some (142,false)⟩,⟨some 145,.calla false false 0 (.c (.fn 8 [])) [(.t 143),(.t 144)],some (142,false)⟩,⟨some 146,.not (.t 145),some (142,false)⟩,oO 147 (.pick (.t 142) (.c (.bool true)) (.t 146)),oM 148 147,⟨some 149,.fieldAddr 3 (.t 20),some (148,false)⟩,⟨some 150,.load false 1 (.t 149),some (148,false)⟩,⟨some 151,.len (.t 150),some (148,false)⟩,⟨some 152,.fieldAddr 3 (.t 5),some (148,false)⟩,⟨some 153,.load false 1 (.t 152),some (148,false)⟩,⟨some 154,.len (.t 153),some (148,false)⟩,⟨some 155,.bin .neq (.t 151) (.t 154),some (148,false)⟩,oO 156 (.pick (.t 148) (.c (.bool true)) (.t 155))]) ((cC 156 ((cS (cR [oO 4 (.mv (.c (.bool false)))]) .ret)) .skip)))) ((cS ((cS (cR [oI 23 0]) ((.block 2 ((.loop ((cS ((cS (cR [oM 157 23,oF 158 3 5,oL 159 158,oQ 160 159,oB 161 .lss 157 160]) ((cC 161 .skip (.exit 2))))) ((cS ((.block 3 ((cS (cR [oF 164 3 20,oL 165 164,oM 166 23,oE 167 22 165 166,oF 168 11 167,oL 169 168,oF 170 3 5,oL 171 170,oM 172 23,oE 173 22 171 172,oF 174 11 173,oL 175 174,oB 176 .neq 169 175]) ((cC 176 ((cS (cR [oO 4 (.mv (.c (.bool false)))]) .ret)) .skip)))))) (cR [oM 162 23,oK 163 .add 162 1,oM 23 163]))))))))))) ((cS (cR [oO 4 (.mv (.c (.bool true)))]) .ret))))))))))))))))))
def a3:uw:=⟨true,[.tmp 4],(cS (cR [oO 2 (.box 1 (.t 0)),oO 3 (.box 2 (.t 1)),oO 4 (.mv (.c (.bool false)))]) ((cS (cR [oA 24 4 2,oC 25 4 [(.t 24)],oO 5 (.alloc 3 [(.str ⟨#[]⟩),(.bool false),.aL,.aL,.aL,.aL]),oS 6 5 25]) ((cS (cR [oA 27 6 5,oC 28 5 [(.t 27)],oM 26 28,oX 29 26 0,oX 30 26 1,oM 6 29,oM 7 30]) ((cS ((cS (cR [oM 31 7,oK 32 .neq 31 0]) ((cC 32 ((cS (cR [oO 4 (.mv (.c (.bool false)))]) .ret)) .skip)))) ((cS ((cS (cR [oA 34 6 5,oC 35 6 [(.t 34)],oM 33 35,oX 36 33 0,oX 37 33 1,oO 8 (.alloc 4 [(.str ⟨#[]⟩),(.bool false),.aL,.aL,.aL,.aL]),oS 6 8 36,oM 9 37]) ((cS (cR [oM 38 9,oK 39 .eql 38 0]) ((cC 39 ((cS (cR [oA 41 6 8,oC 42 7 [(.t 41)],oM 40 42,oX 43 40 0,oX 44 40 1,oO 10 (.alloc 5 [(.str ⟨#[]⟩),(.bool false),.aL,.aL,.aL,.aL]),oS 6 10 43,oM 11 44]) ((cS (cR [oM 45 11,oK 46 .neq 45 0,oM 47 46,⟨some 48,.load true 6 (.t 5),some (47,false)⟩,⟨some 49,.load true 6 (.t 8),some (47,false)⟩,⟨some 50,.calla false false 0 (.c (.fn 8 [])) [(.t 48),(.t 49)],some (47,false)⟩,⟨some 51,.not (.t 50),some (47,false)⟩,oO 52 (.pick (.t 47) (.c (.bool true)) (.t 51)),oM 53 52,⟨some 54,.load true 6 (.t 5),some (53,false)⟩,⟨some 55,.load true 6 (.t 10),some (53,false)⟩,⟨some 56,.calla false false 0 (.c (.fn 8 [])) [(.t 54),(.t 55)],some (53,false)⟩,⟨some 57,.not (.t 56),some (53,false)⟩,oO 58 (.pick (.t 53) (.c (.bool true)) (.t 57))]) ((cC 58 ((cS (cR [oO 4 (.mv (.c (.bool false)))]) .ret)) .skip)))))) ((cS (cR [oM 59 9,oK 60 .neq 59 18]) ((cC 60 ((cS (cR [oO 4 (.mv (.c (.bool false)))]) .ret)) .skip)))))))))) ((r3)))))))))))⟩
def a29:uw:=⟨true,[.tmp 4],(cS (cR [oO 4 (.mv (.c (.bool false)))]) ((cS ((cS (cR [oM 6 0,oQ 7 6,oM 8 1,oQ 9 8,oB 10 .neq 7 9]) ((cC 10 ((cS (cR [oO 4 (.mv (.c (.bool false)))]) .ret)) .skip)))) ((cS ((cS (cR [oI 5 0]) ((.block 0 ((.loop ((cS ((cS (cR [oM 11 5,oM 12 0,oQ 13 12,oB 14 .lss 11 13]) ((cC 14 .skip (.exit 0))))) ((cS ((.block 1 ((cS (cR [oM 17 0,oM 18 5,oE 19 9 17 18,oA 20 9 19,oM 21 1,oM 22 5,oE 23 9 21 22,oA 24 9 23,oO 25 (.eqagg [.int,.int,.int,.int,.int,.int,.int,.int,.int] true (.t 20) (.t 24))]) ((cC 25 ((cS (cR [oO 4 (.mv (.c (.bool false)))]) .ret)) .skip)))))) (cR [oM 15 5,oK 16 .add 15 1,oM 5 16]))))))))))) ((cS (cR [oO 4 (.mv (.c (.bool true)))]) .ret)))))))⟩
def a40:uw:=⟨true,[.tmp 4],(cS (cR [oO 2 (.box 1 (.t 0)),oO 3 (.box 2 (.t 1)),oO 4 (.mv (.c (.bool false)))]) ((cS ((cS (cR [oI 5 0]) ((.block 0 ((.loop ((cS ((cS (cR [oM 6 5,oF 7 5 2,oL 8 7,oQ 9 8,oB 10 .lss 6 9]) ((cC 10 .skip (.exit 0))))) ((cS ((.block 1 ((cS (cR [oF 13 2 2,oL 14 13,oK 15 .eql 14 1,oM 16 15,⟨some 17,.fieldAddr 5 (.t 2),some (16,true)⟩,⟨some 18,.load false 1 (.t 17),some (16,true)⟩,⟨some 19,.mv (.t 5),some (16,true)⟩,⟨some 20,.vw 5 (.t 18) (.t 19),some (16,true)⟩,⟨some 21,.fieldAddr 0 (.t 20),some (16,true)⟩,⟨some 22,.load true 3 (.t 21),some (16,true)⟩,⟨some 23,.load true 3 (.t 3),some (16,true)⟩,⟨some 24,.eqagg [.int,.int,.int] false (.t 22) (.t 23),some (16,true)⟩,oO 25 (.pick (.t 16) (.t 24) (.c (.bool false)))]) ((cC 25 ((cS (cR [oO 4 (.mv (.c (.bool true)))]) .ret)) .skip)))))) (cR [oM 11 5,oK 12 .add 11 1,oM 5 12]))))))))))) ((cS (cR [oO 4 (.mv (.c (.bool false)))]) .ret)))))⟩
def a69:uw:=⟨true,[],(cS (cR [oO 8 (.mkmap 1),oM 2 8]) ((cS ((cS (cR [oM 9 0,oO 10 (.nilck (.t 9)),oF 11 0 10,oA 12 6 11,oC 13 114 [(.t 12)],oQ 14 13,oI 15 0]) ((.block 0 ((.loop ((cS (cR [oB 16 .lss 15 14]) ((cS ((cC 16 .skip (.exit 0))) ((cS ((.block 1 ((cS (cR [oE 17 2 13 15,oA 18 2 17,oO 4 (.alloc 2 [(.int .i64 0),(.int .i64 0)]),oS 2 4 18]) ((cS (cD [oM 19 0,oA 20 2 4,oC 21 115 [(.t 20)],oO 22 (.not (.t 21)),oM 23 22,⟨some 24,.mv (.t 2),some (23,false)⟩,⟨some 25,.load true 2 (.t 4),some (23,false)⟩,⟨some 26,.SH (.agg [.int,.int]) false (.bool false) (.t 24) (.t 25),some (23,false)⟩,oO 27 (.pick (.t 23) (.c (.bool true)) (.t 26)),oM 28 27,⟨some 29,.fieldAddr 1 (.t 4),some (28,false)⟩,⟨some 30,.load false 1 (.t 29),some (28,false)⟩,⟨some 31,.mv (.t 0),some (28,false)⟩,⟨some 32,.nilck (.t 31),some (28,false)⟩,⟨some 33,.fieldAddr 0 (.t 32),some (28,false)⟩,⟨some 34,.load true 6 (.t 33),some (28,false)⟩,⟨some 35,.fieldAddr 0 (.t 4),some (28,false)⟩,⟨some 36,.load false 1 (.t 35),some (28,false)⟩,⟨some 37,.calla false false 0 (.c (.fn 116 [])) [(.t 34),(.t 36)],some (28,false)⟩,⟨some 38,.bin .gtr (.t 30) (.t 37),some (28,false)⟩,oO 39 (.pick (.t 28) (.c (.bool true)) (.t 38)),oA 40 2 4,oC 41 111 [(.t 19),(.t 39),(.t 40)]] [(29,29),(4,4),(4,4)]) (cR [oM 42 2,oA 43 2 4,oN (.mput (.agg [.int,.int]) (.t 42) (.t 43) (.c (.bool true)))]))))))) (cR [oK 44 .add 15 1,oM 15 44]))))))))))))) ((cS (cR [oO 5 (.mv (.c (.bool false)))]) ((cS ((cS (cR [oM 45 0,oO 46 (.nilck (.t 45)),oF 47 0 46,oF 48 5 47,oL 49 48,oQ 50 49,oI 51 0]) ((.block 2 ((.loop ((cS (cR [oB 52 .lss 51 50]) ((cS ((cC 52 .skip (.exit 2))) ((cS ((.block 3 ((cS (cR [oM 53 51,oE 54 2 49 51,oA 55 2 54,oO 7 (.alloc 3 [(.int .i64 0),(.int .i64 0)]),oM 6 53,oS 2 7 55]) (cR [oM 56 5,oM 57 56,⟨some 58,.load true 2 (.t 7),some (57,false)⟩,⟨some 59,.calla false false 0 (.c (.fn 115 [])) [(.t 58)],some (57,false)⟩,⟨some 60,.not (.t 59),some (57,false)⟩,oO 61 (.pick (.t 57) (.c (.bool true)) (.t 60)),oM 62 61,⟨some 63,.mv (.t 6),some (62,false)⟩,⟨some 64,.bin .gtr (.t 63) (aI 0),some (62,false)⟩,⟨some 65,.mv (.t 64),some (62,false)⟩,⟨some 66,.fieldAddr 0 (.t 7),some (65,true)⟩,⟨some 67,.load false 1 (.t 66),some (65,true)⟩,⟨some 68,.mv (.t 0),some (65,true)⟩,⟨some 69,.nilck (.t 68),some (65,true)⟩,⟨some 70,.fieldAddr 0 (.t 69),some (65,true)⟩,⟨some 71,.fieldAddr 5 (.t 70),some (65,true)⟩,⟨some 72,.load false 1 (.t 71),some (65,true)⟩,⟨some 73,.mv (.t 6),some (65,true)⟩,⟨some 74,.bin .sub (.t 73) (aI 1),some (65,true)⟩,⟨some 75,.vw 2 (.t 72) (.t 74),some (65,true)⟩,⟨some 76,.fieldAddr 0 (.t 75),some (65,true)⟩,⟨some 77,.load false 1 (.t 76),some (65,true)⟩,⟨some 78,.bin .leq (.t 67) (.t 77),some (65,true)⟩,⟨some 79,.pick (.t 65) (.t 78) (.c (.bool false)),some (62,false)⟩,oO 80 (.pick (.t 62) (.c (.bool true)) (.t 79)),oM 5 80]))))) (cR [oK 81 .add 51 1,oM 51 81]))))))))))))) (cR [oM 82 0,oM 83 5,oO 84 (.build [(.int .i64 0),(.int .i64 0)] []),oC 85 111 [(.t 82),(.t 83),(.t 84)]]))))))))⟩
def amv:uw:=⟨true,[.tmp 4],(cS (cR [oO 2 (.box 1 (.t 0)),oO 3 (.box 2 (.t 1)),oO 4 (.mv (.c (.bool false)))]) ((cS (cR [oF 5 2 2,oL 6 5,oF 7 2 3,oL 8 7,oB 9 .eql 6 8,oM 10 9,⟨some 11,.fieldAddr 3 (.t 2),some (10,true)⟩,⟨some 12,.load true 2 (.t 11),some (10,true)⟩,⟨some 13,.fieldAddr 3 (.t 3),some (10,true)⟩,⟨some 14,.load true 2 (.t 13),some (10,true)⟩,⟨some 15,.eqagg [.int,.int] false (.t 12) (.t 14),some (10,true)⟩,oO 16 (.pick (.t 10) (.t 15) (.c (.bool false))),oM 17 16,⟨some 18,.fieldAddr 7 (.t 2),some (17,true)⟩,⟨some 19,.load false 1 (.t 18),some (17,true)⟩,⟨some 20,.fieldAddr 7 (.t 3),some (17,true)⟩,⟨some 21,.load false 1 (.t 20),some (17,true)⟩,⟨some 22,.bin .eql (.t 19) (.t 21),some (17,true)⟩,oO 23 (.pick (.t 17) (.t 22) (.c (.bool false))),oM 24 23,⟨some 25,.fieldAddr 8 (.t 2),some (24,true)⟩,⟨some 26,.load false 1 (.t 25),some (24,true)⟩,⟨some 27,.fieldAddr 8 (.t 3),some (24,true)⟩,⟨some 28,.load false 1 (.t 27),some (24,true)⟩,⟨some 29,.bin .eql (.t 26) (.t 28),some (24,true)⟩,oO 30 (.pick (.t 24) (.t 29) (.c (.bool false))),oM 31 30,⟨some 32,.fieldAddr 9 (.t 2),some (31,true)⟩,⟨some 33,.load false 1 (.t 32),some (31,true)⟩,⟨some 34,.fieldAddr 9 (.t 3),some (31,true)⟩,⟨some 35,.load false 1 (.t 34),some (31,true)⟩,⟨some 36,.bin .eql (.t 33) (.t 35),some (31,true)⟩,oO 37 (.pick (.t 31) (.t 36) (.c (.bool false))),oM 38 37,⟨some 39,.fieldAddr 11 (.t 2),some (38,true)⟩,⟨some 40,.load false 1 (.t 39),some (38,true)⟩,⟨some 41,.fieldAddr 11 (.t 3),some (38,true)⟩,⟨some 42,.load false 1 (.t 41),some (38,true)⟩,⟨some 43,.bin .eql (.t 40) (.t 42),some (38,true)⟩,oO 44 (.pick (.t 38) (.t 43) (.c (.bool false))),oM 45 44,⟨some 46,.fieldAddr 12 (.t 2),some (45,true)⟩,⟨some 47,.load false 1 (.t 46),some (45,true)⟩,⟨some 48,.fieldAddr 12 (.t 3),some (45,true)⟩,⟨some 49,.load false 1 (.t 48),some (45,true)⟩,⟨some 50,.bin .eql (.t 47) (.t 49),some (45,true)⟩,oO 51 (.pick (.t 45) (.t 50) (.c (.bool false))),oM 52 51,⟨some 53,.fieldAddr 5 (.t 2),some (52,true)⟩,⟨some 54,.load false 1 (.t 53),some (52,true)⟩,⟨some 55,.fieldAddr 5 (.t 3),some (52,true)⟩,⟨some 56,.load false 1 (.t 55),some (52,true)⟩,⟨some 57,.calla false false 0 (.c (.fn 236 [])) [(.t 54),(.t 56)],some (52,true)⟩,oO 58 (.pick (.t 52) (.t 57) (.c (.bool false))),oM 59 58,⟨some 60,.fieldAddr 6 (.t 2),some (59,true)⟩,⟨some 61,.load false 1 (.t 60),some (59,true)⟩,⟨some 62,.fieldAddr 6 (.t 3),some (59,true)⟩,⟨some 63,.load false 1 (.t 62),some (59,true)⟩,⟨some 64,.calla false false 0 (.c (.fn 237 [])) [(.t 61),(.t 63)],some (59,true)⟩,oO 65 (.pick (.t 59) (.t 64) (.c (.bool false))),oM 66 65,⟨some 67,.fieldAddr 10 (.t 2),some (66,true)⟩,⟨some 68,.load false 1 (.t 67),some (66,true)⟩,⟨some 69,.fieldAddr 10 (.t 3),some (66,true)⟩,⟨some 70,.load false 1 (.t 69),some (66,true)⟩,⟨some 71,.calla false false 0 (.c (.fn 238 [])) [(.t 68),(.t 70)],some (66,true)⟩,oO 72 (.pick (.t 66) (.t 71) (.c (.bool false))),oM 4 72]) .ret)))⟩
def amw:uw:=⟨true,[.tmp 3],(cS (cR [oO 2 (.box 1 (.t 0)),oO 3 (.mv (.c (.bool false)))]) ((cS (cR [oF 4 0 2,oA 5 3 4,oF 6 0 1,oA 7 3 6,oO 8 (.eqagg [.int,.int,.int] false (.t 5) (.t 7)),oM 3 8]) .ret)))⟩
def adr:uw:=⟨true,[.tmp 4],(cS (cR [oO 2 (.box 1 (.t 0)),oO 4 (.mv (.c (.bool false)))]) ((cS (cR [oM 5 1,oF 6 10 2,oL 7 6,oQ 8 7,oB 9 .geq 5 8,oM 10 9,⟨some 11,.fieldAddr 10 (.t 2),some (10,false)⟩,⟨some 12,.load false 1 (.t 11),some (10,false)⟩,⟨some 13,.mv (.t 1),some (10,false)⟩,⟨some 14,.vw 2 (.t 12) (.t 13),some (10,false)⟩,⟨some 15,.load true 2 (.t 14),some (10,false)⟩,⟨some 16,.build [(.str ⟨#[]⟩),(.int .i64 0)] [],some (10,false)⟩,⟨some 17,.eqagg [.str,.int] false (.t 15) (.t 16),some (10,false)⟩,oO 18 (.pick (.t 10) (.c (.bool true)) (.t 17)),oM 4 18]) .ret)))⟩
def XA:uw:=⟨true,[.tmp 4],(cS (cR [oO 4 (.mv (.c (.bool false)))]) ((cS ((cS (cR [oM 6 0,oQ 7 6,oM 8 1,oQ 9 8,oB 10 .neq 7 9]) ((cC 10 ((cS (cR [oO 4 (.mv (.c (.bool false)))]) .ret)) .skip)))) ((cS ((cS (cR [oM 11 0,oQ 12 11,oI 13 0]) ((.block 0 ((.loop ((cS (cR [oB 14 .lss 13 12]) ((cS ((cC 14 .skip (.exit 0))) ((cS ((.block 1 ((cS (cR [oM 15 13,oM 5 15]) ((cS (cR [oM 16 0,oM 17 5,oE 18 5 16 17,oA 19 5 18,oM 20 1,oM 21 5,oE 22 5 20 21,oA 23 5 22,oO 24 (.eqagg [.int,.int,.int,.bool,.int] true (.t 19) (.t 23))]) ((cC 24 ((cS (cR [oO 4 (.mv (.c (.bool false)))]) .ret)) .skip)))))))) (cR [oK 25 .add 13 1,oM 13 25]))))))))))))) ((cS (cR [oO 4 (.mv (.c (.bool true)))]) .ret)))))))⟩
def ads:uw:=⟨true,[.tmp 4],(cS (cR [oO 4 (.mv (.c (.bool false)))]) ((cS ((cS (cR [oM 6 0,oQ 7 6,oM 8 1,oQ 9 8,oB 10 .neq 7 9]) ((cC 10 ((cS (cR [oO 4 (.mv (.c (.bool false)))]) .ret)) .skip)))) ((cS ((cS (cR [oM 11 0,oQ 12 11,oI 13 0]) ((.block 0 ((.loop ((cS (cR [oB 14 .lss 13 12]) ((cS ((cC 14 .skip (.exit 0))) ((cS ((.block 1 ((cS (cR [oM 15 13,oM 5 15]) ((cS (cR [oM 16 0,oM 17 5,oE 18 5 16 17,oA 19 5 18,oM 20 1,oM 21 5,oE 22 5 20 21,oA 23 5 22,oO 24 (.eqagg [.int,.int,.int,.int,.bool] true (.t 19) (.t 23))]) ((cC 24 ((cS (cR [oO 4 (.mv (.c (.bool false)))]) .ret)) .skip)))))))) (cR [oK 25 .add 13 1,oM 13 25]))))))))))))) ((cS (cR [oO 4 (.mv (.c (.bool true)))]) .ret)))))))⟩
def adt:uw:=⟨true,[.tmp 4],(cS (cR [oO 4 (.mv (.c (.bool false)))]) ((cS ((cS (cR [oM 6 0,oQ 7 6,oM 8 1,oQ 9 8,oB 10 .neq 7 9]) ((cC 10 ((cS (cR [oO 4 (.mv (.c (.bool false)))]) .ret)) .skip)))) ((cS ((cS (cR [oM 11 0,oQ 12 11,oI 13 0]) ((.block 0 ((.loop ((cS (cR [oB 14 .lss 13 12]) ((cS ((cC 14 .skip (.exit 0))) ((cS ((.block 1 ((cS (cR [oM 15 13,oM 5 15]) ((cS (cR [oM 16 0,oM 17 5,oE 18 2 16 17,oA 19 2 18,oM 20 1,oM 21 5,oE 22 2 20 21,oA 23 2 22,oO 24 (.eqagg [.str,.int] true (.t 19) (.t 23))]) ((cC 24 ((cS (cR [oO 4 (.mv (.c (.bool false)))]) .ret)) .skip)))))))) (cR [oK 25 .add 13 1,oM 13 25]))))))))))))) ((cS (cR [oO 4 (.mv (.c (.bool true)))]) .ret)))))))⟩
noncomputable def TT(f:FuncId):Option uw:=
 match f with
 |112|114|156|247|262=>none
 |f=>(Tryz.prog.funcs[f]?).bind (U2 Tryz.prog (mo f))
def TU:eu->List eu
 | .seq a b=> .seq a b::(TU a++TU b)
 | .cond t a b=> .cond t a b::(TU a++TU b)
 | .block n a=> .block n a::TU a
 | .loop a=> .loop a::TU a
 |c=>[c]
noncomputable def sb(f i:Nat):eu:=((TT f).elim [] fun a=>TU a.code).getD i .skip
noncomputable def bn:yw:=⟨fun f=>if f=108 then none else TT f,prF⟩
noncomputable def tY:yw:=⟨TT,fun f a=>if f=108 then none else prF f a⟩
theorem VD{f:FuncId}{c:uw}(h:TT f=some c):∃fn p,Tryz.prog.funcs[f]? =some fn∧U2 Tryz.prog p fn=some c:=by
 unfold TT at h;split at h<;>first|(cases h;done)|skip
 obtain⟨fn,j,g⟩:=aj.1 h;exact⟨fn,_,j,g⟩
theorem amx:Q9 Tryz.prog tY:=fun f c h=>VD h
theorem ahK:Q9 Tryz.prog bn:=fun f c h=>by
 by_cases hf:f=108
 ·rw[show bn.fn f=none from aX hf]at h
  cases h
 ·rw[show bn.fn f=TT f from aP hf]at h
  exact VD h
theorem mixed:Tryz.prog.follows .mixedOrders=true:=by kernel_rfl
end Go.Proofs.YtnahpjebkgbedaaGreat
namespace Go.Ht
open Go Go.RowKit Go.ChangeShapes Go.WideShapes
theorem Mc{H:Type}{enc:TypeId×Value->H}{P:Program}{f:Func}{s:ChangeSpec}{apart fresh handsOn l:Bool}{W W':World}{args:Array Value}{v:Value}{u gs:List (DataW H)}{before pa pv:List MemPlace}
  (B:DataW.Whole enc P f.params.toList s.vars apart W args.toList u gs before)
  (A:∀(b:Nat)(sp:Nat->Bool)(hd:Bool),DataW.TrodAll enc P W' b sp hd f.resultTypes.toList (v.resultList f.resultTypes.size) (s.fn H (u++gs)).results [])
  (N:∀sp:Nat->Bool,(∀p∈before,sp p.block=true)->DataW.TrodAll enc P W' 0 sp true f.params.toList args.toList (s.fn H (u++gs)).args pa)
  (K:∀sp:Nat->Bool,(∀p∈before,sp p.block=true)->DataW.TrodVars enc P W' sp s.vars (s.fn H (u++gs)).vars pv)
  (c:before=pa++pv)(J:Below W.heap.size W W')
  (C:∀(j:Nat)(t:TypeId)(r:Value),f.resultTypes[j]? =some t->(v.resultList f.resultTypes.size)[j]? =some r->Value.okWide P W' .any 0 t r):
  s.post enc P f apart fresh handsOn l W args v W':=by
 have F:∀p∈before,p.block<W.heap.size:=fun p hp=>B.lt p hp;have g:∀p∈before,(fun b=>decide (b<W.heap.size)) p.block=true:=fun p hp=>by simpa using B.lt p hp
 refine⟨u,gs,before,[],pa,pv,B,A _ _ _,N _ g,K _ g,World.keptBut_mono (fun p hp=>⟨hp,?_⟩) (J.frame (·∈before)),fun _=> ?_⟩
 ·rw[c,dx]at hp
  exact Or.inr hp
 ·obtain⟨_,_,_,_,_,O,hn⟩:=B
  refine⟨C,_,_,([]++pa)++pv,⟨[]++pa,pv,trodAll_append (N _ (fun _ _=>rfl)) (A _ _ _),K _ (fun _ _=>rfl),rfl,?_,?_⟩,?_⟩
  ·intro b off hp
   have I:MemPlace.cell b off∈before:=by rw[c];simpa using hp
   rw[J.frozen (p:=⟨b,off,none⟩) (F _ I)];exact O b off I
  ·intro Q
   have:=hn Q;rw[c]at this;simpa using this
  ·intro p hp _
   rw[c];simpa using hp
inductive CS where
 |int (k:IntKind)
 |bool
 |str
 |sl (l:List CS)
mutual
def C9:CS->V->Prop
 | .int k,v=>∃n,v= .int k n∧(Lit.int k n).wf=true
 | .bool,v=>∃b,v= .bool b
 | .str,v=>∃s:ByteArray,v= .str s∧s.size<=maxLen
 | .sl l,v=>v= .aL∨∃els,v= .sl .any l.length els∧els.length<=maxLen∧∀e∈els,jE l e
def jE:List CS->List V->Prop
 |[],l=>l=[]
 |c::cs,l=>∃v vs,l=v::vs∧C9 c v∧jE cs vs
end
theorem jE.append:∀{a b:List CS}{x y:List V},jE a x->jE b y->jE (a++b) (x++y)
 |[],b,x,y,h,k=>by simp only[jE]at h;subst h;simpa using k
 |c::a,b,x,y,h,k=>by
  simp only[jE]at h;obtain⟨v,vs,rfl,j,g⟩:=h;simp only[aW,jE];exact⟨v,vs++y,rfl,j,jE.append g k⟩
theorem jE.length:∀{a:List CS}{x:List V},jE a x->x.length=a.length
 |[],x,h=>by simp only[jE]at h;simp[h]
 |c::a,x,h=>by
  simp only[jE]at h;obtain⟨v,vs,rfl,j,g⟩:=h;simp[jE.length g]
def Kh(r:TypeId->Option (List CS))(P:Program):Nat->List Field->Option (List CS)
 |_,[]=>some []
 |off,f::fs=>(r f.type).bind fun l=>if f.offset=off∧P.cellsOf f.type=l.length then(Kh r P (off+l.length) fs).map (l++·)else none
def Qc(P:Program):Nat->TypeId->Option (List CS)
 |0,_=>none
 |n+1,t=>
  match P.underlying t with
  |some .bool=>some [.bool]
  |some (.int k)=>some [.int k]
  |some .string=>some [.str]
  |some (.struct fs)=>(Kh (Qc P n) P 0 fs.toList).bind fun l=>if l.length=P.cellsOf t then some l else none
  |some (.array m e)=>(Qc P n e).bind fun l=>if l.length=P.cellsOf e∧m*l.length=P.cellsOf t then some (List.replicate m l).flatten else none
  |some (.slice e)=>(Qc P n e).bind fun l=>if l.length=P.cellsOf e∧0<l.length then some [.sl l]else none
  |_=>none
def Env.of(w:World):Env:=⟨fun _ _ _=>Option.none,fun b=>match w.heap[b]?with|some (.cells c _ _)=>some c|_=>Option.none⟩
theorem adu(w:World):(Env.of w).bare=Env.of w:=by
 simp only[Env.bare,Env.of,Env.mk.injEq,and_true];funext d s v;cases s<;>cases d<;>rfl
theorem adv{w:World}:eD (Env.of w) (start false []::[]) w:=by
 refine⟨fun b cs h=> ?_,fun d s v o h=> ?_,fun d s o h hp=> ?_,fun d s o h hp=> ?_,fun d s v o j s' v' g h=> ?_,fun d s o h=> ?_,fun d s o h=> ?_,fun _ _ _=>rfl⟩
 ·simp only[Env.of]at h
  split at h
  ·rename_i c
   cases h;exact⟨_,_,c⟩
  ·cases h
 all_goals cases h
theorem adw{w:World}:Gb (Env.of w) (start false []):=by
 refine⟨fun n=> ?_,fun n v o h=> ?_,fun n=>rfl⟩
 ·simp[start,eP]
 ·cases h
theorem ab5{a:Addr}(h:a.spot=none)(k:Nat):a.add k=⟨a.block,a.off+k,none⟩:=by
 unfold Addr.add;split
 ·rename_i c
  subst c;cases a
  simp_all
 ·rfl
theorem Rp{w:World}{base:Nat}{a:Addr}{n:Nat}{cs:List Value}(h:w.cells? base a n=some cs)(hn:0<n):
  ∃C t fr,w.heap[a.block]? =some (.cells C t fr)∧a.spot=none∧cs=(C.toList.drop a.off).take n:=by
 unfold World.cells? at h;split at h
 ·have hl:cs.length=n:=by simpa using mapM_some_length h
  have g:=mapM_some_get h 0 0 (by simp[hn]);rw[ak (by omega)]at g;have u:a.add 0=a:=by simp[Addr.add]
  rw[u]at g;cases j:w.heap[a.block]?with
  |none=>simp[World.cell?,j]at g
  |some o=>
   cases o with
   |cells C t fr=>
    have c:a.spot=none:=by
     cases hs:a.spot with
     |none=>rfl
     |some s=>simp[World.cell?,j,hs]at g
    refine⟨C,t,fr,rfl,c,?_⟩;apply vN;intro i;by_cases r:i<n
    ·have l:=mapM_some_get h i i (by simp[r])
     rw[ab5 c]at l;simp only[World.cell?,j,Option.isSome_none,bq,bZ]at l;rw[<-l,fQ r,iU];simp
    ·rw[dL (by omega),dL]
     simp only[bf];omega
   |_=>simp[World.cell?,j]at g
 ·cases h
theorem VE{E:Env}:∀{es:List (List V)}{sz:Nat}{l:List Value},(∀(i:Nat)e,es[i]? =some e->e.length=sz∧dY e E ((l.drop (i*sz)).take sz))->dF es E sz l
 |[],_,_,_=>by simp[dF]
 |e::es,sz,l,h=>by
  have c:=h 0 e rfl;simp only[Bi,dH]at c;simp only[dF];refine⟨c.1,c.2,VE fun i r j=> ?_⟩;have g:=h (i+1) r (by simpa using j);rw[uZ,Nat.one_mul,nO,<-jm]at g;exact g
theorem VF{p:Nat->List V->Prop}:∀(n:Nat),(∀i,i<n->∃e,p i e)->∃es:List (List V),es.length=n∧∀i e,es[i]? =some e->p i e
 |0,_=>⟨[],rfl,fun i e h=>by simp at h⟩
 |n+1,h=>by
  obtain⟨es,hl,j⟩:=VF n (fun i g=>h i (by omega));obtain⟨e,hp⟩:=h n (by omega);refine⟨es++[e],by simp[hl],fun i l c=> ?_⟩;by_cases g:i<es.length
  ·rw[jW g]at c
   exact j i l c
  ·rw[jb (by omega)]at c
   have hz:i-es.length=0:=by
    rcases Nat.eq_zero_or_pos (i-es.length)with hz|hz
    ·exact hz
    ·rw[dL (by simp;omega)]at c
     cases c
   rw[hz]at c;simp at c;subst c;have:i=n:=by omega
   subst this;exact hp
section
variable{H:Type}{enc:TypeId×Value->H}{P:Program}{w w':World}{base:Nat}{spare:Nat->Bool}{held:Bool}{sp:Nat->Bool}
def zf(w:World)(l:List CS)(cs:List Value):Prop:=∃vs,jE l vs∧dY vs (Env.of w) cs
theorem zf.append{a b:List CS}{x y:List Value}:zf w a x->zf w b y->zf w (a++b) (x++y):=fun⟨v,h,k⟩⟨u,c,k'⟩=>⟨v++u,h.append c,k.append k'⟩
theorem zf.one{c:CS}{v:V}{x:Value}(h:C9 c v)(k:VR v (Env.of w) x):zf w [c] [x]:=
 ⟨[v],by simp only[jE];exact⟨v,[],rfl,h,rfl⟩,by simp only[dY];exact⟨x,[],rfl,k,rfl⟩⟩
theorem UX{n:Nat}{t e:TypeId}{m:Nat}{cs:List Value}{x:DataW H×List MemPlace}(j:P.underlying t=some (.array m e))(h:DataW.trod enc P w base spare held n t cs=some x):
  cs.length=P.cellsOf t∧∃g,∀i,i<m->∃y,DataW.trod enc P w base spare held g e ((cs.drop (i*P.cellsOf e)).take (P.cellsOf e))=some y:=by
 cases n with
 |zero=>simp[DataW.trod]at h
 |succ n=>
  unfold DataW.trod at h;rw[j]at h;split at h<;>simp_all;obtain⟨hl,xs,hp,hd⟩:=h;refine⟨n,fun i l=> ?_⟩;have c:=mapM_some_get hp i i (by simp[l]);have u:i<xs.length:=by
   have r:=mapM_some_length hp;simp at r;omega
  rw[ak u]at c;exact⟨_,_,c⟩
theorem Fh{n:Nat}{r:TypeId->Option (List CS)}{cs:List Value}
  (hr:∀t l cs x,r t=some l->DataW.trod enc P w 0 spare held n t cs=some x->zf w l cs):
  ∀(fs:List Field)(off:Nat)(l:List CS),Kh r P off fs=some l->off+l.length<=cs.length->
   (∀f∈fs,∃y,DataW.trod enc P w 0 spare held n f.type ((cs.drop f.offset).take (P.cellsOf f.type))=some y)->zf w l ((cs.drop off).take l.length)
 |[],off,l,h,hc,_=>by
  simp only[Kh]at h;cases h;exact⟨[],by simp[jE],by simp[dY]⟩
 |f::fs,off,l,h,hc,A=>by
  simp only[Kh,aj]at h;obtain⟨l1,N,j⟩:=h;split at j
  ·rename_i u
   obtain⟨l2,K,rfl⟩:=ae.1 j;obtain⟨y,c⟩:=A f (by simp);have B:=hr _ _ _ _ N c;rw[u.1,u.2]at B;simp only[aF]at hc;have J:=Fh hr fs (off+l1.length) l2 K (by omega) (fun g F=>A g (by simp[F]));have C:=B.append J;have I:(cs.drop off).take (l1++l2).length=(cs.drop off).take l1.length++(cs.drop (off+l1.length)).take l2.length:=by
    rw[aF,List.take_add,jm]
   rw[I];exact C
  ·cases j
theorem Ki{l:List CS}{cs:List Value}:∀(m:Nat),(∀i,i<m->zf w l ((cs.drop (i*l.length)).take l.length))->zf w (List.replicate m l).flatten (cs.take (m*l.length))
 |0,_=>⟨[],by simp[jE],by simp[dY]⟩
 |m+1,h=>by
  have g:=Ki m (fun i j=>h i (by omega));have c:=g.append (h m (by omega));rw[List.replicate_succ',lS,uZ,Nat.one_mul,List.take_add];simpa using c
theorem adx{t e:TypeId}{l:List CS}(X:P.underlying t=some (.slice e))(hl:l.length=P.cellsOf e∧0<l.length){n:Nat}{cs:List Value}{y:DataW H×List MemPlace}
  (hr:∀r cs x,DataW.trod enc P w 0 spare held r e cs=some x->zf w l cs)
  (hn:DataW.trod enc P w 0 spare held n t cs=some y):zf w [.sl l] cs:=by
 rcases DataW.trod_slice X hn with⟨hc,_⟩|⟨a,len,cap,I,O,r,_,hc,_,_,Y,Jw,MM,U,_,_⟩
 ·subst hc
  exact .one (v:= .aL) (by simp only[C9];exact .inl trivial) (by simp only[VR])
 ·subst hc
  have B:∀i,i<len->∃vs,jE l vs∧∃C t fr,w.heap[a.block]? =some (.cells C t fr)∧(i=0->a.spot=none)∧(a.spot=none->dY vs (Env.of w) (((C.toList.drop a.off).drop (i*l.length)).take l.length)):=by
   intro i A;have T:=U i A;rw[ak (by omega)]at T;obtain⟨cs',h4,h5⟩:=aj.1 T;obtain⟨vs,Z,R⟩:=hr r _ _ h5;obtain⟨C,N,fr,Q,h9,W⟩:=Rp h4 (by omega);have j:(a.add (i*P.cellsOf e)).block=a.block:=by unfold Addr.add;split<;>rfl
   rw[j]at Q;refine⟨vs,Z,C,N,fr,Q,fun g=> ?_,fun u=> ?_⟩
   ·subst g
    simpa[Addr.add]using h9
   ·rw[W,ab5 u,<-hl.1]at R
    rw[jm];exact R
  obtain⟨els,c,J⟩:=VF (p:=fun i vs=>jE l vs∧∃C t fr,w.heap[a.block]? =some (.cells C t fr)∧(i=0->a.spot=none)∧(a.spot=none->dY vs (Env.of w) (((C.toList.drop a.off).drop (i*l.length)).take l.length))) len B;refine .one (v:= .sl .any l.length els) ?_ ?_
  ·simp only[C9]
   refine .inr ⟨els,rfl,by omega,fun e F=> ?_⟩;obtain⟨i,A,rfl⟩:=gP.1 F;exact(J i _ (ak A)).1
  ·simp only[VR]
   refine⟨by simp,a,cap,by rw[c],by omega,by simp,?_⟩;cases els with
   |nil=>exact .inl rfl
   |cons e0 es=>
    right;obtain⟨_,C,t0,fr,j,g,_⟩:=J 0 e0 rfl;refine⟨C,g rfl,by simp[Env.of,j],?_⟩;rw[adu];refine VE fun i e' F=> ?_;obtain⟨hf,C',N,fr',K,_,F5⟩:=J i e' F;rw[j]at K;cases K;exact⟨hf.length,F5 (g rfl)⟩
theorem zV:∀(m:Nat)(t:TypeId)(l:List CS)(n:Nat)(cs:List Value)(x:DataW H×List MemPlace),Qc P m t=some l->DataW.trod enc P w 0 spare held n t cs=some x->zf w l cs
 |0,t,l,n,cs,x,h,_=>by simp[Qc]at h
 |m+1,t,l,n,cs,x,h,hd=>by
  simp only[Qc]at h;split at h
  ·rename_i g
   cases h;obtain⟨b,rfl,_⟩:=DataW.trod_bool g hd;exact .one (v:= .bool b) (by simp only[C9];exact⟨b,rfl⟩) (by simp only[VR])
  ·rename_i k g
   cases h;obtain⟨b,rfl,_,I⟩:=DataW.trod_int g hd;exact .one (v:= .int k b) (by simp only[C9];exact⟨b,rfl,I⟩) (by simp only[VR])
  ·rename_i g
   cases h;obtain⟨b,rfl,_,I⟩:=DataW.trod_string g hd;exact .one (v:= .str b) (by simp only[C9];exact⟨b,rfl,I⟩) (by simp only[VR])
  ·rename_i fs g
   obtain⟨A,B,j⟩:=aj.1 h;split at j
   ·rename_i c
    cases j;obtain⟨xs,u,rfl,_,r,Q,hf⟩:=DataW.trod_struct g hd;have C:=Fh (enc:=enc) (w:=w) (spare:=spare) (held:=held) (n:=u) (cs:=cs) (fun t l cs x a b=>zV m t l u cs x a b) fs.toList 0 l B (by omega) (fun f N=> ?_)
    ·have e:(cs.drop 0).take l.length=cs:=by rw[dH,c,<-r,aT]
     rw[e]at C;exact C
    ·obtain⟨i,K,rfl⟩:=gP.1 N
     have J:i<fs.size:=by simpa using K
     have O:=hf i fs[i] (by simp[J]);rw[ak (by omega)]at O;exact⟨_,by simpa using O⟩
   ·cases j
  ·rename_i k e g
   obtain⟨A,B,j⟩:=aj.1 h;split at j
   ·rename_i c
    cases j;obtain⟨r,u,F⟩:=UX g hd;have C:=Ki (w:=w) (l:=A) (cs:=cs) k (fun i K=> ?_)
    ·have e:cs.take (k*A.length)=cs:=by rw[c.2,<-r,aT]
     rw[e]at C;exact C
    ·obtain⟨y,F⟩:=F i K
     rw[c.1];exact zV m e A u _ y B F
   ·cases j
  ·rename_i e g
   obtain⟨A,B,j⟩:=aj.1 h;split at j
   ·rename_i hl
    cases j;exact adx g hl (fun u cs x=>zV m e A u cs x B) hd
   ·cases j
  ·cases h
theorem Rq{r:Reach}{b0:Nat}{t:TypeId}{l:List CS}{fs:Array Field}{x:Value}{d:DataW H}{ps:List MemPlace}(g:P.underlying t=some (.struct fs))(h:Qc P 9 t=some l)(c:Value.okWide P w r b0 t x)
  (hd:DataW.Trod enc P w 0 spare held t x d ps):∃vs,jE l vs∧VR (.agg vs) (Env.of w) x:=by
 obtain⟨n,hn⟩:=hd;obtain⟨cs,rfl,_⟩:=okWide_struct g c;obtain⟨vs,u,j⟩:=zV 9 t l n _ _ h hn;exact⟨vs,u,by simp only[VR];exact⟨cs,rfl,j⟩⟩
def afr(P:Program)(Q:TypeId->Prop)(t:TypeId):Prop:=
 match P.underlying t with
 |some (.slice e)=>0<P.cellsOf e∧Q e
 |some (.struct fs)=>∀f∈fs.toList,Q f.type
 |some (.array _ e)=>Q e
 |some .bool|some (.int _)|some .string=>True
 |_=>False
def yC(P:Program):Nat->TypeId->Bool
 |0,_=>false
 |n+1,t=>
  match P.underlying t with
  |some (.slice e)=>decide (0<P.cellsOf e)&&yC P n e
  |some (.struct fs)=>fs.toList.all fun f=>yC P n f.type
  |some (.array _ e)=>yC P n e
  |some .bool|some (.int _)|some .string=>true
  |_=>false
theorem Rs{m:Nat}{t:TypeId}(h:yC P (m+1) t=true):afr P (fun e=>yC P m e=true) t:=by
 unfold yC at h;unfold afr;split at h<;>simp_all;intro f hf;obtain⟨i,c,rfl⟩:=Array.mem_iff_getElem.1 hf;exact h i c
theorem Kj{Q:TypeId->Prop}{r C:TypeId->List Value->Option (DataW H×List MemPlace)}
  (hr:∀t,Q t->∀cs x,r t cs=some x->(∀p∈x.2,sp p.block=true)->C t cs=some x){t:TypeId}{cs:List Value}{x:DataW H×List MemPlace}(l:afr P Q t)
  (h:DataW.trodStep enc P w base (fun _=>true) held r t cs=some x)(hs:∀p∈x.2,sp p.block=true):DataW.trodStep enc P w base sp held C t cs=some x:=by
 unfold DataW.trodStep at h⊢;unfold afr at l;split at h;case h_1=>exact h
 case h_2=>exact h
 case h_4=>exact h
 case h_7=>exact h
 case h_8 e a len cap A=>
  rw[A]at l;simp only at h⊢;split at h
  ·rename_i hc
   rw[aX hc];simp only[bK,ae,aj]at h⊢;obtain⟨c,O,g,R,rfl⟩:=h;have N:c.length=len:=by simpa using mapM_some_length O
   have X:g.length=cap-len:=by simpa using mapM_some_length R
   have one:∀(i:Nat)(y:DataW H×List MemPlace),y∈c++g->
     (w.cells? base (a.add (i*P.cellsOf e)) (P.cellsOf e)).bind (r e)=some y->(w.cells? base (a.add (i*P.cellsOf e)) (P.cellsOf e)).bind (C e)=some y:=by
    intro i y u B;simp only[aj]at B⊢;obtain⟨K,J,T⟩:=B;refine⟨K,J,hr _ l.2 _ _ T (fun p hp=>hs p ?_)⟩;simp only[dx,mW];right;exact⟨y,by simpa using u,hp⟩
   refine⟨c,mapM_carry O (fun i y W u=>one i y (by simp[u])),g,?_,rfl⟩;split
   ·exact mapM_carry R (fun j y U u=>one (len+j) y (by simp[u]))
   ·rename_i F
    have I:=l.1;rcases Nat.eq_zero_or_pos (cap-len)with h0|h0
    ·have:g=[]:=by
      apply mV;omega
     rw[this]
    ·exfalso
     apply F;have hm:MemPlace.cell a.block (a.off+0)∈MemPlace.row a ((c.length+g.length)*P.cellsOf e):=by
      refine MemPlace.mem_row.2 ⟨0,?_,rfl⟩;exact Nat.mul_pos (by omega) I
     exact hs (.cell a.block (a.off+0)) (by simp only[dx];left;exact hm)
  ·cases h
 case h_9 fs A=>
  rw[A]at l;split at h
  ·rename_i hc
   rw[aX hc];simp only[ae]at h⊢;obtain⟨xs,hx,rfl⟩:=h;exact⟨xs,mapM_carry hx (fun f y hf u B=>hr _ (l f hf) _ _ B (fun p hp=>hs p (mW.2 ⟨y,u,hp⟩))),rfl⟩
  ·cases h
 case h_10 m e A=>
  rw[A]at l;split at h
  ·rename_i hc
   rw[aX hc];simp only[ae]at h⊢;obtain⟨xs,hx,rfl⟩:=h;exact⟨xs,mapM_carry hx (fun f y _ u B=>hr _ l _ _ B (fun p hp=>hs p (mW.2 ⟨y,u,hp⟩))),rfl⟩
  ·cases h
 case h_21=>cases h
 all_goals
  rename_i A;first
   |(rw[A]at l;exact l.elim)
   |(rename_i A;rw[A]at l;exact l.elim)
   |simp_all
theorem Kk:∀(n m:Nat)(t:TypeId)(cs:List Value)(x:DataW H×List MemPlace),yC P m t=true->
  DataW.trod enc P w base (fun _=>true) held n t cs=some x->(∀p∈x.2,sp p.block=true)->DataW.trod enc P w base sp held n t cs=some x
 |0,_,t,cs,x,_,h,_=>by simp[DataW.trod]at h
 |n+1,0,t,cs,x,hm,h,hs=>by simp[yC]at hm
 |n+1,m+1,t,cs,x,hm,h,hs=>by
  rw[DataW.trod_step]at h⊢;exact Kj (fun t c cs x a b=>Kk n m t cs x c a b) (Rs hm) h hs
theorem Dt(j:∀p:MemPlace,p.block<w.heap.size->w.sameAt w' p):
  ∀{ts:List TypeId}{vs:List Value}{g:List (DataW H)}{ps:List MemPlace},ts.all (yC P 9)=true->DataW.TrodAll enc P w base (fun _=>true) held ts vs g ps->(∀p∈ps,sp p.block=true)->DataW.TrodAll enc P w' base sp held ts vs g ps
 |[],[],[],_,_,h,_=>h
 |_::_,_::_,_::_,_,hp,⟨p,q,⟨n,c⟩,l,e⟩,hs=>by
  subst e;simp only[aZ,aH]at hp;refine⟨p,q,⟨n,?_⟩,Dt j hp.2 l (fun x hx=>hs x (by simp[hx])),rfl⟩;refine Kk n 9 _ _ _ hp.1 (DataW.trod_carry n _ _ _ c fun x hx=>j x (DataW.trod_lt n _ _ _ c x hx)) (fun x hx=>hs x ?_);simp only[dx];left;exact hx
 |[],_::_,_,_,_,h,_|[],[],_::_,_,_,h,_|_::_,[],_,_,_,h,_|_::_,_::_,[],_,_,h,_=>by
  first
   |exact h.elim
   |(simp[DataW.TrodAll]at h)
theorem OZ{bn:yw}(asF:iy P (call bn)){f:FuncId}{fn:Func}{s:ChangeSpec}{apart fresh handsOn u:Bool}{t1 t2 tb:TypeId}{f1 f2:Array Field}{l1 l2:List CS}
  (hp:fn.params= #[t1,t2])(h1:P.underlying t1=some (.struct f1))(h2:P.underlying t2=some (.struct f2))(zI:Qc P 9 t1=some l1)(Qj:Qc P 9 t2=some l2)
  (hz:fn.params.toList.all (yC P 9)=true)(Ro:s.vars=[])
  (amz:∀(c:List (DataW H)),c.length=fn.params.size->s.fn H c={results:=[.lit (.bool true)],args:=c})
  (F:fn.resultTypes= #[tb])(B:P.underlying tb=some .bool)
  (asG:∀a b,jE l1 a->jE l2 b->call bn f [.agg a,.agg b] []=some (.bool true,none))
  {W:World}{b0:Nat}{args:Array Value}{c gs:List (DataW H)}{before:List MemPlace}
  (r:∀(j:Nat)t v,fn.params[j]? =some t->args[j]? =some v->Value.okWide P W .any b0 t v)
  (hW:DataW.Whole enc P fn.params.toList s.vars apart W args.toList c gs before):
  Calls P f args W fun e W'=>∃v,e= .returned v∧s.post enc P fn apart fresh handsOn u W args v W':=by
 have Y:=hW;obtain⟨p,q,Z,hV,I,Cx,hnd⟩:=hW;rw[Ro]at hV;obtain⟨hg,hq⟩:=trodVars_none hV;subst hg hq;have l:=Z;rw[hp]at l;obtain⟨x1,g,d1,K,p1,p2,GY,R,Q⟩:∃x1 g d1 K p1 p2,args.toList=[x1,g]∧DataW.Trod enc P W 0 (fun _=>true) true t1 x1 d1 p1∧DataW.Trod enc P W 0 (fun _=>true) true t2 g K p2:=by
  generalize args.toList=vs at l;rcases vs with _|⟨x1,_|⟨g,_|⟨x3,vs⟩⟩⟩<;>rcases c with _|⟨d1,_|⟨K,_|⟨d3,c⟩⟩⟩<;>first
   |(obtain⟨p,q,a1,⟨p',q',a2,a3,_⟩,_⟩:=l;exact⟨x1,g,d1,K,_,_,rfl,a1,a2⟩)
   |(exfalso;simp[DataW.TrodAll]at l;done)
 have ea:args= #[x1,g]:=by
  apply Array.ext';simpa using GY
 subst ea;obtain⟨aEp,X,O⟩:=Rq h1 zI (r 0 t1 x1 (by rw[hp];rfl) rfl) R;obtain⟨bs,U,N⟩:=Rq h2 Qj (r 1 t2 g (by rw[hp];rfl) rfl) Q;have hc:=(asF f _ [] _ (asG aEp bs X U)).2 (Env.of W) W [x1,g] (by simp only[dY];exact⟨x1,_,rfl,O,g,_,rfl,N,rfl⟩) adv adw (fun _ _=>rfl);refine hc.mono fun e W'⟨x,uE,he,hb,_,_,hr⟩=> ?_;have hv:x= .bool true:=by simpa[zR,VR]using hr
 subst hv he;have J:c.length=fn.params.size:=by
  have:=(trodAll_length Z).2;simpa using this
 have T:=amz c J;have E8:s.fn H (c++[])={results:=[.lit (.bool true)],args:=c}:=by rw[bz];exact T
 refine⟨_,rfl,Mc (pa:=p) (pv:=[]) Y ?_ ?_ ?_ I hb ?_⟩
 ·intro b A hd'
  rw[E8,F];exact trodAll_cons_mk (shut_bool B _) trodAll_mk0
 ·intro A C
  rw[E8];exact Dt (fun p hp=>hb.same hp) hz Z (fun p hp=>C p (by rw[I];simp[hp]))
 ·intro A C
  rw[E8,Ro];exact rfl
 ·exact ok_one F rfl (okWide_bool_mk B _)
end
end Go.Ht
namespace Go.Proofs.YtnahpjebkgbedaaGreat
open Go Go.Ht
variable{H:List Mem}
def wP(s n:Int):Int:=if s< -77 then 2 else if 77<s then 2 else if n< -140 then 2 else if 140<n then 2 else 0
theorem jN{s n:Int}:wP s n=0↔-77<=s∧s<=77∧-140<=n∧n<=140:=by unfold wP;(repeat' split)<;>omega
theorem c10(s n:Int):call bn 10 [.agg [.i s,.i n]] H=some (.i (wP s n),none):=by
 refine(av (by conv=>lhs;reduce)).trans ?_;simp only[↓zo,zp,seval];unfold wP;(try simp(disch:=omega) only[↓zd,seval,push_cast,BN,BO,BP,bN,je,aH,fI,ou]);all_goals (repeat' (split<;>(try simp(disch:=omega) only[↓zd,seval,push_cast,BN,BO,BP,bN,je,aH,fI,ou])));all_goals first|done|rfl|(exfalso;omega)
theorem amA(n lo c:Int):call bn 113 [.i n,.i lo,.i c] H=some (.bool (decide (lo<=n)&&decide (n<=c)),none):=by
 refine(av (by conv=>lhs;reduce)).trans ?_;simp only[↓zo,zp,seval];by_cases g:lo<=n
 ·simp(disch:=omega) only[↓zd,seval,push_cast]
 ·simp(disch:=omega) only[↓zd,seval,push_cast]
def kyE(f:Int):Int:=if f< -7 then 2 else if 7<f then 2 else 0
theorem TV{f:Int}:kyE f=0↔-7<=f∧f<=7:=by unfold kyE;(repeat' split)<;>omega
theorem c57(f:Int):call bn 57 [.i f] H=some (.i (kyE f),none):=by
 refine(av (by conv=>lhs;reduce)).trans ?_;simp only[↓zo,zp,seval];unfold kyE;(try simp(disch:=omega) only[↓zd,seval,push_cast,BN,BO,BP,bN,je,aH,fI,ou]);all_goals (repeat' (split<;>(try simp(disch:=omega) only[↓zd,seval,push_cast,BN,BO,BP,bN,je,aH,fI,ou])));all_goals first|done|rfl|(exfalso;omega)
theorem c35{s n:Int}(g: -1000<=s∧s<=1000)(c: -1000<=n∧n<=1000):call bn 35 [.agg [.i s,.i n]] H=some (.agg [.i (0-s),.i (0-n)],none):=by
 refine(av (by conv=>lhs;reduce)).trans ?_;simp only[↓zo,zp,seval];simp(disch:=omega) only[↓zd,seval,push_cast]
theorem c33{f s n:Int}(j: -1000<=f∧f<=1000)(g: -1000<=s∧s<=1000)(c: -1000<=n∧n<=1000):call bn 33 [.i f,.agg [.i s,.i n]] H=some (.i (f+7*n-12*s),none):=by
 refine(av (by conv=>lhs;reduce)).trans ?_;simp only[↓zo,zp,seval];simp(disch:=omega) only[↓zd,seval,push_cast]
theorem c61{st al oc:Int}(g: -1000<=st∧st<=1000)(c: -1000<=oc∧oc<=1000):call bn 61 [.agg [.i st,.i al,.i oc]] H=some (.i (7*oc+st),none):=by
 refine(av (by conv=>lhs;reduce)).trans ?_;simp only[↓zo,zp,seval];simp(disch:=omega) only[↓zd,seval,push_cast]
def smt(st:Int):Int:=if st=0 then 0 else if st=1 then 2 else if st=2 then 4 else if st=3 then 5 else if st=4 then 7 else if st=5 then 9 else 11
theorem ahM(st:Int):0<=smt st∧smt st<=11:=by unfold smt;(repeat' split)<;>omega
theorem amB:call bn 164 [] H=some (.agg [.i 0,.i 2,.i 4,.i 5,.i 7,.i 9,.i 11],none):=by
 refine(av (by conv=>lhs;reduce)).trans ?_;simp only[↓zo,zp,seval];simp(disch:=omega) only[↓zd,seval,push_cast]
def vV(st al oc:Int):Int:=12*(oc+1)+smt st+al
theorem amC{st al oc:Int}(g:0<=st∧st<=6)(l: -2<=al∧al<=2)(j: -1<=oc∧oc<=9):call bn 155 [.agg [.i st,.i al,.i oc]] H=some (.i (vV st al oc),none):=by
 have c:st=0∨st=1∨st=2∨st=3∨st=4∨st=5∨st=6:=by omega
 refine(av (by conv=>lhs;reduce)).trans ?_;simp only[↓zo,zp,seval];unfold vV smt;rcases c with rfl|rfl|rfl|rfl|rfl|rfl|rfl
 all_goals clear g
 all_goals simp(disch:=omega) only[↓zd,seval,push_cast,amB]
def Mf(st al oc:Int):Int:=if st<0 then 18 else if 6<st then 18 else if al< -2 then 18 else if 2<al then 18 else if oc< -1 then 18 else if 9<oc then 18 else if vV st al oc<0 then 18 else if 127<vV st al oc then 18 else 0
theorem uI{st al oc:Int}:Mf st al oc=0↔(0<=st∧st<=6)∧(-2<=al∧al<=2)∧(-1<=oc∧oc<=9)∧0<=vV st al oc∧vV st al oc<=127:=by unfold Mf;(repeat' split)<;>omega
theorem ZQ(st al oc:Int):call bn 154 [.agg [.i st,.i al,.i oc]] H=some (.i (Mf st al oc),none):=by
 refine(av (by conv=>lhs;reduce)).trans ?_;simp only[↓zo,zp,seval];unfold Mf;by_cases h:(0<=st∧st<=6)∧(-2<=al∧al<=2)∧(-1<=oc∧oc<=9)
 ·obtain⟨l,j,g⟩:=h
  have c:=fun H=>amC (H:=H) l j g;generalize vV st al oc=p at*;rw[aP (by omega),aP (by omega),aP (by omega),aP (by omega),aP (by omega),aP (by omega)];(try simp(disch:=omega) only[↓zd,seval,push_cast,BN,BO,BP,bN,je,aH,fI,ou,c]);all_goals (repeat' (split<;>(try simp(disch:=omega) only[↓zd,seval,push_cast,BN,BO,BP,bN,je,aH,fI,ou,c])));all_goals first|done|rfl|(exfalso;omega)
 ·(try simp(disch:=omega) only[↓zd,seval,push_cast,BN,BO,BP,bN,je,aH,fI,ou]);all_goals (repeat' (split<;>(try simp(disch:=omega) only[↓zd,seval,push_cast,BN,BO,BP,bN,je,aH,fI,ou])));all_goals first|done|rfl|(exfalso;omega)
theorem c87(st al oc:Int):call bn 87 [.agg [.i st,.i al,.i oc]] H=some (.eT (if Mf st al oc=0 then[.i (vV st al oc),.i 0]else[.i 0,.i (Mf st al oc)]),none):=by
 refine(av (by conv=>lhs;reduce)).trans ?_;simp only[↓zo,zp,seval];by_cases h:Mf st al oc=0
 ·have g:=uI.1 h
  have c:=fun H=>amC (H:=H) g.1 g.2.1 g.2.2.1;clear g;simp(disch:=omega) only[↓zd,seval,push_cast,ZQ,c,h]
 ·simp(disch:=omega) only[↓zd,seval,push_cast,ZQ,h]
theorem amE(st al oc:Int):call bn 162 [.agg [.i st,.i al,.i oc]] H=some (.eT (if Mf st al oc=0 then[.i (7*oc+st),.i 0]else[.i 0,.i (Mf st al oc)]),none):=by
 refine(av (by conv=>lhs;reduce)).trans ?_;simp only[↓zo,zp,seval];by_cases h:Mf st al oc=0
 ·have c:=uI.1 h
  have j:=c.1;have g:=c.2.2.1;clear c;simp(disch:=omega) only[↓zd,seval,push_cast,ZQ,h]
 ·simp(disch:=omega) only[↓zd,seval,push_cast,ZQ,h]
theorem c99(st al oc:Int):call bn 99 [.agg [.i st,.i al,.i oc]] H=some (.eT (if Mf st al oc=0 then[.i (7*oc+st),.i (vV st al oc),.i 0]else[.i 0,.i 0,.i 18]),none):=by
 refine(av (by conv=>lhs;reduce)).trans ?_;simp only[↓zo,zp,seval];by_cases h:Mf st al oc=0
 ·simp(disch:=omega) only[↓zd,seval,push_cast,amE,c87,h]
 ·simp(disch:=omega) only[↓zd,seval,push_cast,amE,c87,h]
theorem c58{st al oc s n:Int}(hp:Mf st al oc=0)(c:wP s n=0):call bn 58 [.agg [.i st,.i al,.i oc],.agg [.i s,.i n]] H=some (.eT [.i (7*oc+st+s),.i (vV st al oc+n),.i 0],none):=by
 have j:=uI.1 hp;have g:=jN.1 c;refine(av (by conv=>lhs;reduce)).trans ?_;simp only[↓zo,zp,seval];simp(disch:=omega) only[↓zd,seval,push_cast,c99,c10,hp,c]
theorem c34{s n s' c:Int}(j:wP s n=0)(g:wP s' c=0):call bn 34 [.agg [.i s',.i c],.sl .full 2 [[.i s,.i n]]] H=some (.eT [.agg [.i s',.i c],.i 0],none):=by
 refine(av (by conv=>lhs;reduce)).trans ?_;simp only[↓zo,zp,seval];simp(disch:=omega) only[↓zd,seval,push_cast,↓ik,c10,j,g,Rj,V.i]
theorem c11{s n:Int}(c:wP s n=0):call bn 11 [.agg [.i s,.i n]] H=some (.eT [.agg [.i (0-s),.i (0-n)],.i 0],none):=by
 have j:=jN.1 c;have g:wP (0-s) (0-n)=0:=jN.2 (by omega);refine(av (by conv=>lhs;reduce)).trans ?_;simp only[↓zo,zp,seval];simp(disch:=omega) only[↓zd,seval,push_cast,c35,c34,c,g,Bool.or_self,Bool.or_true]
def mA:Int->Int
 |0=>4|1=>3|2=>6|3=>2|_=>5
def mB:Int->Int
 |0=>4|1=>4|2=>8|3=>2|_=>8
def mC:Int->Int
 |0=>0|1=>0|2=>0|3=>0|_=>3
def mD:Int->Int
 |0=>0|1=>0|2=>0|3=>0|_=>2
def XB(k:Int):List V:=[.i (mA k),.i (mB k),.i (mC k),.i (mD k),.i 0,.i 0,.i 0,.i 0]
def kL:Int->Int
 |0=>1935360|1=>1451520|2=>1451520|3=>1935360|_=>1209600
theorem adA{k:Int}(h:0<=k∧k<=4):k=0∨k=1∨k=2∨k=3∨k=4:=by omega
theorem c36{n:Int}(h:0<=n∧n<=255):call bn 36 [.int .u8 n] H=some (.agg (XB (n%5)),none):=by
 have c:n.tmod 5=n%5:=dP h.1;have g:=adA (k:=n%5) (by omega);refine(av (by conv=>lhs;reduce)).trans ?_;simp only[↓zo,zp,seval];rcases g with e|e|e|e|e
 all_goals rw[e]at c⊢
 all_goals simp(disch:=omega) only[↓zd,seval,push_cast,c,XB,mA,mB,mC,mD,V.i]
theorem c64{k:Int}(h:0<=k∧k<=4):call bn 64 [.agg (XB k)] H=some (.eT [.i (kL k),.i 0],none):=by
 rcases adA h with rfl|rfl|rfl|rfl|rfl<;>(rcases H with _|⟨⟨D,O,b⟩,H⟩<;>exact mH 60 (by kernel_rfl))
def Fj(k:Int):Prop:=0<=k∧k<=4
theorem zW{k:Int}(h:Fj k):1209600<=kL k∧kL k<=1935360∧kL k%7560=0:=by rcases adA h with rfl|rfl|rfl|rfl|rfl<;>decide
def tkT:List Int:=[3870720,5806080,6773760,7257600,1935360,2903040,3386880,3628800,967680,1451520,1693440,1814400,483840,725760,846720,907200,241920,362880,423360,453600,120960,181440,211680,226800,60480,90720,105840,113400,30240,45360,52920,56700,15120,22680,26460,28350,7560,11340,13230,14175]
def tk(lg dt:Int):Int:=tkT.getD (4*(lg+1)+dt).toNat 0
theorem ahN{lg dt:Int}(h: -1<=lg∧lg<=8)(c:0<=dt∧dt<=3):(lg= -1∨lg=0∨lg=1∨lg=2∨lg=3∨lg=4∨lg=5∨lg=6∨lg=7∨lg=8)∧(dt=0∨dt=1∨dt=2∨dt=3):=by omega
theorem ahO{lg dt:Int}(h: -1<=lg∧lg<=8)(c:0<=dt∧dt<=3):call bn 105 [.agg [.i lg,.i dt]] H=some (.i 0,none):=by
 refine(av (by conv=>lhs;reduce)).trans ?_;simp only[↓zo,zp,seval];simp(disch:=omega) only[↓zd,seval,push_cast]
theorem amF{lg dt:Int}(h: -1<=lg∧lg<=8)(j:0<=dt∧dt<=3):call bn 106 [.agg [.i lg,.i dt]] H=some (.i (tk lg dt),none):=by
 obtain⟨g,c⟩:=ahN h j;rcases g with rfl|rfl|rfl|rfl|rfl|rfl|rfl|rfl|rfl|rfl<;>rcases c with rfl|rfl|rfl|rfl<;>(rcases H with _|⟨⟨D,O,b⟩,H⟩<;>exact mH 20 (by kernel_rfl))
theorem c65{lg dt:Int}(h: -1<=lg∧lg<=8)(g:0<=dt∧dt<=3):call bn 65 [.agg [.i lg,.i dt]] H=some (.eT [.i (tk lg dt),.i 0],none):=by
 have c:=fun H=>ahO (H:=H) h g;have d:=fun H=>amF (H:=H) h g;clear h g;refine(av (by conv=>lhs;reduce)).trans ?_;simp only[↓zo,zp,seval];simp(disch:=omega) only[↓zd,seval,push_cast,c,d]
theorem VG{lg dt:Int}(h: -1<=lg∧lg<=8)(j:0<=dt∧dt<=3):7560<=tk lg dt∧tk lg dt<=7257600∧tk lg dt%945=0:=by
 obtain⟨g,c⟩:=ahN h j;rcases g with rfl|rfl|rfl|rfl|rfl|rfl|rfl|rfl|rfl|rfl<;>rcases c with rfl|rfl|rfl|rfl<;>decide
theorem asJ{n:Int}(h:1<=n∧n<=4):call bn 119 [.i n] H=some (.i 0,none):=by
 have c:n=1∨n=2∨n=3∨n=4:=by omega
 rcases c with rfl|rfl|rfl|rfl<;>(rcases H with _|⟨⟨D,O,b⟩,H⟩<;>exact mH 20 (by kernel_rfl))
def Yu:Int->Int
 |2=>1|3=>5|4=>4|5=> -7|_=>0
def VH:Int->Int
 |2=>2|3=>9|4=>7|5=> -12|_=>0
theorem six{k:Int}(h:0<=k∧k<=5):k=0∨k=1∨k=2∨k=3∨k=4∨k=5:=by omega
theorem c13{n:Int}(h:0<=n∧n<=255):call bn 13 [.int .u8 n] H=some (.agg [.i (Yu (n%6)),.i (VH (n%6))],none):=by
 have c:n.tmod 6=n%6:=dP h.1;have g:=six (k:=n%6) (by omega);refine(av (by conv=>lhs;reduce)).trans ?_;simp only[↓zo,zp,seval];rcases g with e|e|e|e|e|e
 all_goals rw[e]at c⊢
 all_goals simp(disch:=omega) only[↓zd,seval,push_cast,c,Yu,VH]
def Gi(m:Int):Int:=if 7<m then(m+4)%12-4 else if m< -7 then(m+7)%12-7 else m
theorem XC{m:Int}(h:7<m):Gi (m-12)=Gi m:=by unfold Gi;(repeat' split)<;>omega
theorem adB{m:Int}(h:m< -7):Gi (m+12)=Gi m:=by unfold Gi;(repeat' split)<;>omega
theorem ZR{m:Int}(h: -7<=m∧m<=7):Gi m=m:=by unfold Gi;(repeat' split)<;>omega
theorem asK{f s n:Int}(hf: -7<=f∧f<=7)(F:wP s n=0):call bn 122 [.i f,.agg [.i s,.i n]] H=some (.eT [.i (Gi (f+(7*n-12*s))),.i 0],none):=by
 have u:=jN.1 F;have C:kyE f=0:=TV.2 hf;refine(av (by conv=>lhs;reduce)).trans ?_;simp only[↓zo,zp,seval];simp(disch:=omega) only[↓zd,seval,push_cast,c57,C];obtain⟨m,hm⟩:∃m,m=f+(7*n-12*s):=⟨_,rfl⟩
 have A: -3000<=m∧m<=3000:=by omega
 rw[<-hm];clear hf F u C hm;refine qQ (fun i fr L=>∃q,ag fr 0= .i q∧Gi q=Gi m∧-3000<=q∧q<=3000∧i=(q+3000).toNat) _ ⟨m,?_,rfl,A.1,A.2,rfl⟩ ?_
 ·simp only[↓zg,seval]
 rintro i fr L ⟨q,g,j,B,I,rfl⟩ next
 by_cases r:7<q
 ·have l:=XC r
  have c:=fun fr' L'=>next (q-12+3000).toNat fr' L' (by omega)
  clear next
  rw[j]at l;simp(disch:=omega) only[↓zd,seval,push_cast,g];refine c _ _ ⟨q-12,?_,l,by omega,by omega,rfl⟩;simp only[↓zg,seval]
 clear next
 simp(disch:=omega) only[↓zd,seval,push_cast,g];clear A;refine qQ (fun i fr L=>∃q,ag fr 0= .i q∧Gi q=Gi m∧-3000<=q∧q<=7∧i=(7-q).toNat) _ ⟨q,?_,j,B,by omega,rfl⟩ ?_
 ·simp only[↓zg,seval,g]
 clear g j B I r;rintro i fr L ⟨q,g,j,B,I,rfl⟩ next
 by_cases r:q< -7
 ·have l:=adB r
  have c:=fun fr' L'=>next (7-(q+12)).toNat fr' L' (by omega)
  clear next
  rw[j]at l;simp(disch:=omega) only[↓zd,seval,push_cast,g];refine c _ _ ⟨q+12,?_,l,by omega,by omega,rfl⟩;simp only[↓zg,seval]
 ·clear next
  rw[<-j,ZR (by omega)];simp(disch:=omega) only[↓zd,seval,push_cast,g]
def idx{α:Type}(p:α->Bool)(l:List α):Int:=if l.any p then(l.findIdx p:Nat)else-1
theorem ahP{α:Type}{p:α->Bool}{l:List α}{i:Nat}{x:α}(h:∀y∈l.take i,p y=false)(hx:l[i]? =some x)(hp:p x=true):idx p l=i:=by
 obtain⟨c,rfl⟩:=au.1 hx;have:l.any p=true:=fe.2 ⟨_,qb c,hp⟩;unfold idx;rw[aX this];congr 1;refine(List.findIdx_eq c).2 ⟨hp,fun j g=> ?_⟩;exact h _ (gP.2 ⟨j,by simp;omega,by simp⟩)
theorem ahQ{α:Type}{p:α->Bool}{l:List α}(h:∀y∈l,p y=false):idx p l= -1:=by
 unfold idx;rw[aP];intro e;obtain⟨x,hx,hp⟩:=fe.1 e;rw[h x hx]at hp;cases hp
theorem VJ{α:Type}{p:α->Bool}{l:List α}:decide (0<=idx p l)=l.any p:=by
 unfold idx;split
 ·rename_i h;rw[h];simp
 ·rename_i h;rw[xI]at h;rw[h];rfl
theorem XD{α:Type}{p:α->Bool}{l:List α}{i:Nat}{x:α}(h:∀y∈l.take i,p y=false)(hx:l[i]? =some x)(hp:p x=false):∀y∈l.take (i+1),p y=false:=by
 intro y c;rw[aY,hx]at c;simp only[eQ,dx,dA]at c;rcases c with c|rfl
 ·exact h y c
 ·exact hp
def XE(sz:Nat):uw:=⟨true,[.tmp 4],(cS (cR [oI 4 0]) ((cS ((cS (cR [oM 6 0,oQ 7 6,oI 8 0]) ((.block 0 ((.loop ((cS (cR [oB 9 .lss 8 7]) ((cS ((cC 9 .skip (.exit 0))) ((cS ((.block 1 ((cS (cR [oM 10 8,oM 5 10]) ((cS (cR [oM 11 1,oM 12 0,oM 13 5,oE 14 sz 12 13,oA 15 sz 14,oO 16 (.calla false false 0 (.t 11) [(.t 15)])]) ((cC 16 ((cS (cR [oM 17 5,oM 4 17]) .ret)) .skip)))))))) (cR [oK 18 .add 8 1,oM 8 18]))))))))))))) ((cS (cR [oI 4 (-1)]) .ret)))))⟩
theorem afN{α:Type}{n sz f:Nat}{caps:List V}{enc:α->List V}{p:α->Bool}{l:List α}(hn:bn n=some (XE sz))(hl:l.length<4294967296)(B:∀x,(enc x).length=sz∧∀d,V.bW d (enc x)=enc x)
  (hf:∀x∈l,∀M,call bn f (.agg (enc x)::V.bW 1 caps) (M::H)=some (.bool (p x),none)):call bn n [cu sz (l.map enc),.fn f caps] H=some (.i (idx p l),none):=by
 refine(av hn).trans ?_;unfold XE;simp(disch:=omega) only[↓zd,seval,push_cast,dS];refine bI (fun i fr L=>ag fr 0=cu sz (l.map enc)∧ag fr 1= .fn f caps∧ag fr 7= .i l.length∧ag fr 8= .i i∧∀y∈l.take i,p y=false) l.length ?_ ?_ ?_
 ·simp only[↓zg,seval,aG,fZ]
  refine⟨?_,?_,?_,?_,fun y J=>by cases J⟩<;>first|rfl|trivial
 ·rintro i fr L K ⟨u,r,g,j,h9⟩ next
  obtain⟨x,hx⟩:∃x,l[i]? =some x:=⟨_,ak K⟩
  have c:=fun M=>hf x (ah hx) M;have I:=(B x).1;have F:=(B x).2;have C:(enc x).take sz=enc x:=aO (by omega);by_cases hp:p x=true
  ·rw[ahP h9 hx hp]at*
   rw[hp]at c;clear next h9 hf hp
   simp(disch:=omega) only[↓zd,seval,push_cast,u,r,g,j,hx,c,I,F,C]
  ·rw[xI]at hp
   have A:=XD h9 hx hp;rw[hp]at c;clear hf h9;simp(disch:=omega) only[↓zd,seval,push_cast,u,r,g,j,hx,c,I,F,C];refine next _ _ ⟨?_,?_,?_,?_,A⟩
   all_goals simp only[↓zg,seval,u,r,g]
   rfl
 ·rintro fr L ⟨u,r,g,j,h9⟩
  rw[aT]at h9;rw[ahQ h9];clear h9 hf;simp(disch:=omega) only[↓zd,seval,push_cast,g,j]
def adC(g:Nat):uw:=⟨true,[.tmp 4],(cS (cR [oO 4 (.mv (.c (.bool false)))]) ((cS (cR [oM 5 0,oM 6 1,oC 7 g [(.t 5),(.t 6)],oK 8 .geq 7 0,oM 4 8]) .ret)))⟩
theorem Hl{α:Type}{m n sz f:Nat}{caps:List V}{enc:α->List V}{p:α->Bool}{l:List α}(hm:bn m=some (adC n))(hn:bn n=some (XE sz))(hl:l.length<4294967296)(g:∀x,(enc x).length=sz∧∀d,V.bW d (enc x)=enc x)(hc:V.bW 1 (V.bW 1 caps)=V.bW 2 caps)
  (hf:∀x∈l,∀M N,call bn f (.agg (enc x)::V.bW 2 caps) (M::N::H)=some (.bool (p x),none)):call bn m [cu sz (l.map enc),.fn f caps] H=some (.bool (l.any p),none):=by
 refine(av hm).trans ?_;unfold adC;have c:=fun N=>afN (H:=N::H) (caps:=V.bW 1 caps) hn hl g (p:=p) (fun x hx M=>by rw[hc];exact hf x hx M N);clear hf;simp(disch:=omega) only[↓zd,seval,push_cast,c,nZ,VJ]
structure Hd where
 st:Int
 al:Int
 oc:Int
 ti:Bool
 sh:Int
structure Gr where
 st:Int
 al:Int
 oc:Int
 lg:Int
 sl:Bool
structure Ev where
 id:Int
 kd:Int
 lg:Int
 dt:Int
 hs:List Hd
 gs:List Gr
 ar:Int
 orn:Int
 dy:Int
 ly:List ByteArray
def Hd.v(h:Hd):List V:=[.i h.st,.i h.al,.i h.oc,.bool h.ti,.i h.sh]
def Gr.v(g:Gr):List V:=[.i g.st,.i g.al,.i g.oc,.i g.lg,.bool g.sl]
def Lv(t:ByteArray):List V:=[.str t,.i 0]
def Ev.v(e:Ev):List V:=[.i 1,.i e.id,.i e.kd,.i e.lg,.i e.dt,cu 5 (e.hs.map Hd.v),cu 5 (e.gs.map Gr.v),.i e.ar,.i e.orn,.i e.dy,cu 2 (e.ly.map Lv),.i 0,.i 0]
theorem Hd.sz(h:Hd):h.v.length=5∧∀d,V.bW d h.v=h.v:=⟨rfl,fun _=>rfl⟩
theorem Gr.sz(h:Gr):h.v.length=5∧∀d,V.bW d h.v=h.v:=⟨rfl,fun _=>rfl⟩
theorem Lv.sz(t:ByteArray):(Lv t).length=2∧∀d,V.bW d (Lv t)=Lv t:=⟨rfl,fun _=>rfl⟩
theorem Ev.sz(e:Ev):e.v.length=13∧∀d,V.bW d e.v=e.v:=⟨rfl,fun d=>by simp only[Ev.v,V.bW,V.shift,nZ]⟩
theorem Hd.pu(h:Hd):h.v.all V.pure=true:=rfl
theorem Gr.pu(h:Gr):h.v.all V.pure=true:=rfl
theorem Lv.pu(t:ByteArray):(Lv t).all V.pure=true:=rfl
theorem dh{α:Type}{enc:α->List V}(h:∀x,(enc x).all V.pure=true)(l:List α):(l.map enc).all (fun e=>e.all V.pure)=true:=by
 rw[vk];exact aV.2 fun x _=>h x
theorem Ev.pu(e:Ev):e.v.all V.pure=true:=by
 simp only[Ev.v,aZ,cB,se,dh Hd.pu,dh Gr.pu,dh Lv.pu,V.pure,bR]
def Hd.n(h:Hd):Int:=vV h.st h.al h.oc
def Gr.n(h:Gr):Int:=vV h.st h.al h.oc
def laT(t:ByteArray):Prop:=t=⟨#[108,97]⟩∨t=⟨#[115,111,108]⟩∨t=⟨#[97]⟩
structure Gj(h:Hd):Prop where
 pt:Mf h.st h.al h.oc=0
 sh:0<=h.sh∧h.sh<=2
structure XF(g:Gr):Prop where
 pt:Mf g.st g.al g.oc=0
 lg:1<=g.lg∧g.lg<=6
structure mX(e:Ev):Prop where
 id:1<=e.id∧e.id<=1000000
 kd:1<=e.kd∧e.kd<=4
 val:e.kd≠3->(-1<=e.lg∧e.lg<=8)∧0<=e.dt∧e.dt<=3
 mr:e.kd=3->e.lg=0∧e.dt=0
 bare:e.kd≠1->e.hs=[]∧e.gs=[]∧e.ly=[]∧e.ar=0∧e.orn=0∧e.dy=0
 hs:∀h∈e.hs,Gj h
 hn:e.kd=1->e.hs≠[]∧e.hs.length<=2
 inc:(e.hs.map Hd.n).Pairwise (·<·)
 gs:∀g∈e.gs,XF g
 gn:e.gs.length<=1
 ly:∀t∈e.ly,laT t
 ln:e.ly.length<=1
 ar:0<=e.ar∧e.ar<=31
 orn:0<=e.orn∧e.orn<=4
 dy:0<=e.dy∧e.dy<=9
theorem adF{n m:Int}(h:0<=n∧n<=m):call bn 186 [.i n,.i m] H=some (.i 0,none):=by
 refine(av (by conv=>lhs;reduce)).trans ?_;simp only[↓zo,zp,seval];simp(disch:=omega) only[↓zd,seval,push_cast]
theorem XG(n:Int):call bn 187 [.i n] H=some (.bool (decide (1<=n)&&decide (n<=4)),none):=by
 refine(av (by conv=>lhs;reduce)).trans ?_;simp only[↓zo,zp,seval];by_cases h:1<=n
 ·simp(disch:=omega) only[↓zd,seval,push_cast]
 ·simp(disch:=omega) only[↓zd,seval,push_cast]
theorem ahS{els:List (List V)}(h:∀e∈els,e=[.i 0])(hl:els.length<10):call bn 185 [.sl .any 1 els] H=some (.i 0,none):=by
 refine(av (by conv=>lhs;reduce)).trans ?_;simp only[↓zo,zp,seval];simp(disch:=omega) only[↓zd,seval,push_cast];refine bI (fun i fr L=>ag fr 5= .sl .any 1 els∧ag fr 6= .i els.length∧ag fr 7= .i i) els.length ?_ ?_ ?_
 ·simp only[↓zg,seval]
  refine⟨?_,?_,?_⟩<;>first|rfl|trivial
 ·rintro i fr L l ⟨j,c,g⟩ next
  obtain⟨x,hx⟩:∃x,els[i]? =some x:=⟨_,ak l⟩
  obtain rfl:=h x (ah hx);clear h;simp(disch:=omega) only[↓zd,seval,push_cast,j,c,g,hx];refine next _ _ ⟨?_,?_,?_⟩
  all_goals simp only[↓zg,seval,j,c]
  rfl
 ·rintro fr L ⟨j,c,g⟩
  simp(disch:=omega) only[↓zd,seval,push_cast,c,g]
theorem O0:call bn 185 [.sl .any 1 [[.i 0],[.i 0]]] H=some (.i 0,none):=ahS (by simp) (by simp)
theorem TW:call bn 185 [.sl .any 1 [[.i 0],[.i 0],[.i 0]]] H=some (.i 0,none):=ahS (by simp) (by simp)
theorem TY:call bn 185 [.sl .any 1 [[.i 0],[.i 0],[.i 0],[.i 0],[.i 0]]] H=some (.i 0,none):=ahS (by simp) (by simp)
theorem ZT{st al oc:Int}(h:Mf st al oc=0):call bn 241 [.agg [.i st,.i al,.i oc]] H=some (.eT [.i (vV st al oc),.i 0],none):=by
 have g:=uI.1 h;have c:=fun H=>c87 (H:=H) st al oc;rw[aX h]at c;generalize vV st al oc=p at*;refine(av (by conv=>lhs;reduce)).trans ?_;simp only[↓zo,zp,seval];simp(disch:=omega) only[↓zd,seval,push_cast,c]
theorem ahT{h:Hd}(ok:Gj h):call bn 240 [.agg h.v] H=some (.i 0,none):=by
 have c:=fun H=>ZT (H:=H) ok.pt;have d:=ok.sh;unfold Hd.v;refine(av (by conv=>lhs;reduce)).trans ?_;simp only[↓zo,zp,seval];simp(disch:=omega) only[↓zd,seval,push_cast,c,adF,O0]
theorem Hd.in(h:Hd)(ok:Gj h):0<=h.n∧h.n<=127:=(uI.1 ok.pt).2.2.2
theorem asL{l:List Hd}(j:l≠[])(g:l.length<=2)(ok:∀h∈l,Gj h)(inc:(l.map Hd.n).Pairwise (·<·)):call bn 190 [cu 5 (l.map Hd.v)] H=some (.i 0,none):=by
 match l,j,g with
 |[a],_,_=>
  have c:=fun H=>ahT (H:=H) (ok a (by simp));have d:=fun H=>ZT (H:=H) (ok a (by simp)).pt;have e:=a.in (ok a (by simp));unfold Hd.n at e;clear ok inc;generalize vV a.st a.al a.oc=p at*;unfold Hd.v at*;refine(av (by conv=>lhs;reduce)).trans ?_;simp only[↓zo,zp,seval];simp(disch:=omega) only[↓zd,seval,push_cast,↓ik,qP,c,d]
 |[a,b],_,_=>
  have c:=fun H=>ahT (H:=H) (ok a (by simp));have d:=fun H=>ZT (H:=H) (ok a (by simp)).pt;have e:=a.in (ok a (by simp));have c':=fun H=>ahT (H:=H) (ok b (by simp));have r:=fun H=>ZT (H:=H) (ok b (by simp)).pt;have f:a.n<b.n:=by simpa using inc
  unfold Hd.n at e f;clear ok inc;generalize vV a.st a.al a.oc=p at*;generalize vV b.st b.al b.oc=q at*;unfold Hd.v at*;refine(av (by conv=>lhs;reduce)).trans ?_;simp only[↓zo,zp,seval];simp(disch:=omega) only[↓zd,seval,push_cast,↓ik,qP,c,d,c',r]
theorem asM{l:List Gr}(c:l.length<=1)(ok:∀h∈l,XF h):call bn 191 [cu 5 (l.map Gr.v)] H=some (.i 0,none):=by
 match l,c with
 |[],_=>
  refine(av (by conv=>lhs;reduce)).trans ?_;simp only[↓zo,zp,seval];simp(disch:=omega) only[↓zd,seval,push_cast,↓ik,gF]
 |[a],_=>
  have d:=fun H=>ZT (H:=H) (ok a (by simp)).pt;have e:=(ok a (by simp)).lg;clear ok;unfold Gr.v at*;refine(av (by conv=>lhs;reduce)).trans ?_;simp only[↓zo,zp,seval];simp(disch:=omega) only[↓zd,seval,push_cast,↓ik,qP,d]
theorem asN{t:ByteArray}(h:laT t):call bn 242 [.agg (Lv t)] H=some (.i 0,none):=by
 rcases h with rfl|rfl|rfl<;>(rcases H with _|⟨⟨D,O,b⟩,H⟩<;>exact mH 60 (by kernel_rfl))
theorem asO{t:ByteArray}(h:laT t):call bn 243 [.agg (Lv t)] H=some (.bool false,none):=by
 rcases h with rfl|rfl|rfl<;>(rcases H with _|⟨⟨D,O,b⟩,H⟩<;>exact mH 60 (by kernel_rfl))
theorem asP{l:List ByteArray}(c:l.length<=1)(ok:∀h∈l,laT h):call bn 192 [cu 2 (l.map Lv)] H=some (.i 0,none):=by
 match l,c with
 |[],_=>
  refine(av (by conv=>lhs;reduce)).trans ?_;simp only[↓zo,zp,seval];simp(disch:=omega) only[↓zd,seval,push_cast,↓ik,gF]
 |[a],_=>
  have d:=fun H=>asN (H:=H) (ok a (by simp));have e:=fun H=>asO (H:=H) (ok a (by simp));clear ok;unfold Lv at*;refine(av (by conv=>lhs;reduce)).trans ?_;simp only[↓zo,zp,seval];simp(disch:=omega) only[↓zd,seval,push_cast,↓ik,qP,d,e]
theorem asQ{l:List Hd}(c:l.length<=2):call bn 236 [cu 5 (l.map Hd.v),cu 5 (l.map Hd.v)] H=some (.bool true,none):=by
 match l,c with
 |[],_=>
  refine(av (show bn 236=some XA from by kernel_rfl)).trans ?_;unfold XA;simp(disch:=omega) only[↓zd,seval,push_cast,↓ik,gF]
 |[a],_=>
  unfold Hd.v;refine(av (show bn 236=some XA from by kernel_rfl)).trans ?_;unfold XA;simp(disch:=omega) only[↓zd,seval,push_cast,↓ik,qP,dN,eqGuard,yZ]
 |[a,b],_=>
  unfold Hd.v;refine(av (show bn 236=some XA from by kernel_rfl)).trans ?_;unfold XA;simp(disch:=omega) only[↓zd,seval,push_cast,↓ik,qP,dN,eqGuard,yZ]
theorem asR{l:List Gr}(c:l.length<=1):call bn 237 [cu 5 (l.map Gr.v),cu 5 (l.map Gr.v)] H=some (.bool true,none):=by
 match l,c with
 |[],_=>
  refine(av (show bn 237=some ads from by kernel_rfl)).trans ?_;unfold ads;simp(disch:=omega) only[↓zd,seval,push_cast,↓ik,gF]
 |[a],_=>
  unfold Gr.v;refine(av (show bn 237=some ads from by kernel_rfl)).trans ?_;unfold ads;simp(disch:=omega) only[↓zd,seval,push_cast,↓ik,qP,dN,eqGuard,yZ]
theorem asS{l:List ByteArray}(c:l.length<=1):call bn 238 [cu 2 (l.map Lv),cu 2 (l.map Lv)] H=some (.bool true,none):=by
 match l,c with
 |[],_=>
  refine(av (show bn 238=some adt from by kernel_rfl)).trans ?_;unfold adt;simp(disch:=omega) only[↓zd,seval,push_cast,↓ik,gF]
 |[a],_=>
  unfold Lv;refine(av (show bn 238=some adt from by kernel_rfl)).trans ?_;unfold adt;simp(disch:=omega) only[↓zd,seval,push_cast,↓ik,qP,dN,eqGuard,yZ]
theorem ZU:call bn 239 [.i 0] H=some (.i 0,none):=by rcases H with _|⟨⟨D,O,b⟩,H⟩<;>exact mH 60 (by kernel_rfl)
theorem asT{e:Ev}(ok:mX e):call bn 189 [.agg e.v] H=some (.agg e.v,none):=by
 have g:=ok.kd;have pa:=dh Hd.pu e.hs;have r:=dh Gr.pu e.gs;have l:=dh Lv.pu e.ly;obtain⟨id,kd,lg,dt,hs,gs,ar,orn,dy,ly⟩:=e;by_cases c:kd=1
 ·clear ok
  subst c;dsimp only[Ev.v]at*;clear g;generalize hs.map Hd.v=A at*;generalize gs.map Gr.v=B at*;generalize ly.map Lv=C at*;refine(av (by conv=>lhs;reduce)).trans ?_;simp only[↓zo,zp,seval];simp(disch:=omega) only[↓zd,seval,push_cast,pa,r,l]
 ·obtain⟨N,K,J,e4,I,F⟩:=ok.bare c
  have hm:=ok.mr;clear pa r l ok;dsimp only at*;subst N K J e4 I F;simp only[Ev.v,dX,gF];refine(av (by conv=>lhs;reduce)).trans ?_;simp only[↓zo,zp,seval];by_cases j:kd=3
  ·obtain⟨rfl,rfl⟩:=hm j
   subst j;clear hm c g;simp(disch:=omega) only[↓zd,seval,push_cast,XG,ZU]
  ·clear hm
   have u:kd=2∨kd=4:=by omega
   clear c j g;rcases u with rfl|rfl
   ·simp(disch:=omega) only[↓zd,seval,push_cast,XG,ZU]
   ·simp(disch:=omega) only[↓zd,seval,push_cast,XG,ZU]
theorem asU{e:Ev}(ok:mX e):call bn 188 [.agg e.v,.agg e.v] H=some (.bool true,none):=by
 have c:e.kd≠1->e.hs=[]:=fun h=>(ok.bare h).1;have j:=fun H=>asQ (H:=H) (l:=e.hs) (by
  by_cases h:e.kd=1
  ·exact(ok.hn h).2
  ·rw[c h];simp)
 have g:=fun H=>asR (H:=H) (l:=e.gs) (by have:=ok.gn;omega);have c3:=fun H=>asS (H:=H) (l:=e.ly) (by have:=ok.ln;omega);clear c ok;simp only[Ev.v];generalize e.hs.map Hd.v=A at*;generalize e.gs.map Gr.v=B at*;generalize e.ly.map Lv=C at*;refine(av (show bn 188=some amv from by kernel_rfl)).trans ?_;unfold amv;simp(disch:=omega) only[↓zd,seval,push_cast,j,g,c3,dN,eqGuard]
theorem XH{e:Ev}(ok:mX e):call bn 128 [.agg e.v] H=some (.i 0,none):=by
 have j:=fun H=>asU (H:=H) ok;have g:=fun H=>asT (H:=H) ok;have kd:=ok.kd;have id:=ok.id;have ar:=ok.ar;have orn:=ok.orn;have dy:=ok.dy;by_cases c:e.kd=1
 ·have d1:=fun H=>asL (H:=H) (ok.hn c).1 (ok.hn c).2 ok.hs ok.inc
  have F:=fun H=>asM (H:=H) ok.gn ok.gs;have u:=fun H=>asP (H:=H) ok.ln ok.ly;have val:=ok.val (by omega);have r:=fun H=>ahO (H:=H) val.1 val.2;clear ok val kd;simp only[Ev.v,c]at j g⊢;clear c;generalize e.hs.map Hd.v=A at*;generalize e.gs.map Gr.v=B at*;generalize e.ly.map Lv=C at*;refine(av (by conv=>lhs;reduce)).trans ?_;simp only[↓zo,zp,seval];simp(disch:=omega) only[↓zd,seval,push_cast,j,g,adF,XG,O0,TW,TY,d1,F,u,r]
 ·by_cases l:e.kd=3
  ·clear ok c kd
   simp only[Ev.v,l]at j g⊢;clear l;generalize e.hs.map Hd.v=A at*;generalize e.gs.map Gr.v=B at*;generalize e.ly.map Lv=C at*;refine(av (by conv=>lhs;reduce)).trans ?_;simp only[↓zo,zp,seval];simp(disch:=omega) only[↓zd,seval,push_cast,j,g,adF,XG,O0,TW,TY]
  ·have val:=ok.val l
   have r:=fun H=>ahO (H:=H) val.1 val.2;clear ok val;simp only[Ev.v]at*;generalize e.hs.map Hd.v=A at*;generalize e.gs.map Gr.v=B at*;generalize e.ly.map Lv=C at*;refine(av (by conv=>lhs;reduce)).trans ?_;simp only[↓zo,zp,seval];simp(disch:=omega) only[↓zd,seval,push_cast,j,g,adF,XG,O0,TW,TY,r]
theorem asV{e:Ev}(ok:mX e):call bn 278 [.agg e.v] H=some (.eT [.i (if e.kd=3 then 0 else tk e.lg e.dt),.i 0],none):=by
 have g:=fun H=>XH (H:=H) ok;by_cases c:e.kd=3
 ·rw[aX c]
  clear ok;simp only[Ev.v,c]at g⊢;clear c;generalize e.hs.map Hd.v=A at*;generalize e.gs.map Gr.v=B at*;generalize e.ly.map Lv=C at*;refine(av (by conv=>lhs;reduce)).trans ?_;simp only[↓zo,zp,seval];simp(disch:=omega) only[↓zd,seval,push_cast,g]
 ·have val:=ok.val c
  have j:=fun H=>c65 (H:=H) val.1 val.2;rw[aP c];clear ok val;simp only[Ev.v]at*;generalize e.hs.map Hd.v=A at*;generalize e.gs.map Gr.v=B at*;generalize e.ly.map Lv=C at*;refine(av (by conv=>lhs;reduce)).trans ?_;simp only[↓zo,zp,seval];simp(disch:=omega) only[↓zd,seval,push_cast,g,j]
def Tv(f:Int):List V:=[.i f,.i 3,.i 3,.i 2]
theorem Tv.sz(f:Int):(Tv f).length=4∧∀d,V.bW d (Tv f)=Tv f:=⟨rfl,fun _=>rfl⟩
theorem Tv.pu(f:Int):(Tv f).all V.pure=true:=rfl
structure TZ(l:List Int)(n:Nat):Prop where
 len:l.length<=16
 Aw:n<=128
 rg:∀f∈l,0<=f∧f+3<=n
 ap:l.Pairwise fun a b=>a+3<=b
def Eu(l:List Int)(n:Int):Bool:=l.any fun f=>decide (f<=n)&&decide (n-f<3)
theorem amH{f:Int}(h:0<=f∧f<=1000):call bn 286 [.agg (Tv f)] H=some (.i (f+3),none):=by
 unfold Tv;refine(av (by conv=>lhs;reduce)).trans ?_;simp only[↓zo,zp,seval];simp(disch:=omega) only[↓zd,seval,push_cast]
theorem ZV:call bn 287 [.i 2] H=some (.bool true,none):=by
 refine(av (by conv=>lhs;reduce)).trans ?_;simp only[↓zo,zp,seval];simp(disch:=omega) only[↓zd,seval,push_cast]
theorem ZW:call bn 287 [.i 3] H=some (.bool true,none):=by
 refine(av (by conv=>lhs;reduce)).trans ?_;simp only[↓zo,zp,seval];simp(disch:=omega) only[↓zd,seval,push_cast]
theorem asW{f g:Int}(h:f+3<=g):call bn 288 [.agg (Tv f),.agg (Tv g)] H=some (.i (-1),none):=by
 unfold Tv;refine(av (by conv=>lhs;reduce)).trans ?_;simp only[↓zo,zp,seval];simp(disch:=omega) only[↓zd,seval,push_cast]
theorem asX{f n:Int}(h:0<=f∧f<=1000)(hn:0<=n∧n<=1000):call bn 291 [.agg (Tv f),.i n] H=some (.bool (decide (f<=n)&&decide (n-f<3)),none):=by
 unfold Tv;refine(av (by conv=>lhs;reduce)).trans ?_;simp only[↓zo,zp,seval];by_cases c:f<=n
 ·simp(disch:=omega) only[↓zd,seval,push_cast]
 ·simp(disch:=omega) only[↓zd,seval,push_cast]
theorem asY:call bn 292 [.i 2,.i 3] H=some (.i 1,none):=by
 rcases H with _|⟨⟨D,O,b⟩,H⟩<;>exact mH 60 (by kernel_rfl)
theorem ZX{l:List Int}{i:Nat}{f n:Int}(ap:l.Pairwise fun a b=>a+3<=b)(hf:l[i]? =some f)(hn:f<=n∧n-f<3):Eu (l.take i) n=false:=by
 obtain⟨u,rfl⟩:=au.1 hf;unfold Eu;rw[Jf];intro h;obtain⟨g,A,c⟩:=fe.1 h;obtain⟨j,r,rfl⟩:=gP.1 A;simp only[bf]at r;rw[List.getElem_take]at c;have:=qI.1 ap j i (by omega) u (by omega);simp only[aH,bN]at c;omega
theorem ZY{l:List Int}{i:Nat}{f n:Int}(hf:l[i]? =some f):Eu (l.take (i+1)) n=(Eu (l.take i) n||(decide (f<=n)&&decide (n-f<3))):=by
 unfold Eu;rw[aY,hf];simp
theorem asZ{S:V}{l:List Int}{n:Int}(hS:S=cu 4 (l.map Tv)∨S= .sl .any 4 (l.map Tv))(hl:l.length<=16)(rg:∀f∈l,0<=f∧f<=1000)(ap:l.Pairwise fun a b=>a+3<=b)(hn:0<=n∧n<=1000):call bn 289 [S,.i n] H=some (.eT (if Eu l n then[.i 2,.i 3]else[.i 1,.i 1]),none):=by
 have g:AQ S=some (.i l.length):=by
  rcases hS with rfl|rfl
  ·rw[dS];simp
  ·rw[uV];simp
 have F:∀(i:Nat)(f:Int),l[i]? =some f->yr 4 S (.i i)=some (.eptr (Tv f) 0):=by
  intro i f h;rcases hS with rfl|rfl
  ·rw[Zp];simp[h]
  ·rw[Zv];simp[h]
 clear hS;refine(av (by conv=>lhs;reduce)).trans ?_;simp only[↓zo,zp,seval];simp(disch:=omega) only[↓zd,seval,push_cast,g];refine bI (fun i fr L=>ag fr 1= .i n∧ag fr 9=S∧ag fr 10= .i l.length∧ag fr 11= .i i∧ag fr 4= .i (if Eu (l.take i) n then 2 else 1)∧ag fr 5= .i (if Eu (l.take i) n then 3 else 1)) l.length ?_ ?_ ?_
 ·simp only[↓zg,Nat.reduceEqDiff,reduceCtorEq,↓reduceIte]
  refine⟨?_,?_,?_,?_,?_,?_⟩<;>first|rfl|trivial
 ·rintro i fr L J ⟨B,h9,u,A,r,j⟩ next
  obtain⟨f,hf⟩:∃x,l[i]? =some x:=⟨_,ak J⟩
  have I:=F i f hf;have O:=rg f (ah hf);have c:=fun H=>asX (H:=H) O hn;have nx:=ZY (n:=n) hf;have tk:=fun h=>ZX (n:=n) ap hf h;clear F rg ap g;unfold Tv at*;by_cases hc:f<=n∧n-f<3
  ·rw[tk hc]at r j
   have N:=hc.1;have K:=hc.2;rw[tk hc,dW hc.1,dW hc.2]at nx;clear tk hc;simp(disch:=omega) only[↓zd,seval,push_cast,B,h9,u,A,r,j,I,c,asY];refine next _ _ ⟨?_,?_,?_,?_,?_,?_⟩
   all_goals simp only[↓zg,Nat.reduceEqDiff,reduceCtorEq,↓reduceIte,B,h9,u,nx]
   all_goals first|rfl|trivial
  ·have hd:(decide (f<=n)&&decide (n-f<3))=false:=by simpa using hc
   rw[hd,yR]at nx;clear tk hc;rw[<-nx]at r j;simp(disch:=omega) only[↓zd,seval,push_cast,B,h9,u,A,r,j,I,c,hd];refine next _ _ ⟨?_,?_,?_,?_,?_,?_⟩
   all_goals simp only[↓zg,Nat.reduceEqDiff,reduceCtorEq,↓reduceIte,B,h9,u,r,j]
   all_goals first|rfl|trivial
 ·rintro fr L ⟨B,h9,u,A,r,j⟩
  rw[aT]at r j;clear F rg ap g;by_cases C:Eu l n=true
  ·rw[C]at r j⊢
   simp(disch:=omega) only[↓zd,seval,push_cast,u,A,r,j]
  ·rw[xI]at C
   rw[C]at r j⊢;simp(disch:=omega) only[↓zd,seval,push_cast,u,A,r,j]
def VK(l:List Int)(n w:Int):Int:=if Eu l n then w*2/3 else w
theorem amI{S:V}{l:List Int}{n w:Int}(hS:S=cu 4 (l.map Tv)∨S= .sl .any 4 (l.map Tv))(hl:l.length<=16)(rg:∀f∈l,0<=f∧f<=1000)(ap:l.Pairwise fun a b=>a+3<=b)(hn:0<=n∧n<=1000)(r:0<=w∧w<=7741440)(hd:Eu l n=true->w*2%3=0):call bn 280 [S,.i n,.i w] H=some (.eT [.i (VK l n w),.i 0],none):=by
 have c:=fun H=>asZ (H:=H) hS hl rg ap hn;unfold VK;have j:V.shift 1 S=S:=by rcases hS with rfl|rfl<;>first|exact nZ|rfl
 clear hS rg ap;by_cases g:Eu l n=true
 ·have t1:(w*2).tmod 3=0:=by rw[dP (by omega)];exact hd g
  have t2:(w*2).tdiv 3=w*2/3:=jM (by omega);rw[g]at c⊢;clear hd g;refine(av (by conv=>lhs;reduce)).trans ?_;simp only[↓zo,zp,seval];simp(disch:=omega) only[↓zd,seval,push_cast,c,t1,t2,j]
 ·rw[xI]at g
  rw[g]at c⊢;clear hd g;refine(av (by conv=>lhs;reduce)).trans ?_;simp only[↓zo,zp,seval];simp(disch:=omega) only[↓zd,seval,push_cast,c,j,Int.mul_one,Int.tmod_one,Int.tdiv_one]
theorem ahU{L:Mem}{n:Nat}{f:Int}(hn:n<L.D.length)(l:L.b<=n)(c:ax L (.g n)=⟨1,1,[[.aL]],false⟩):
  call bn 285 [.agg (Tv f),.ptr 0 (.g n) 1 0 0] (L::H)=some (.bool true,some (dE (dE L.D L.D.length ⟨1,4,[Tv f],false⟩) n ⟨1,1,[[.ref 0 (.g L.D.length) 1 4 0 1]],false⟩)):=by
 unfold Tv;refine(av (by conv=>lhs;reduce)).trans ?_;simp only[↓zo,zp,seval];have j:(L.D.length=n)=False:=by simp;omega
 have hx:ax L (.g L.D.length)=⟨0,0,[],false⟩:=jH;simp(disch:=omega) only[↓zd,seval,push_cast,c,↓ik,j,hx,Ix.g.injEq]
theorem ahV{L:Mem}{n m ver:Nat}{e f:Int}(C:0<=e∧e+3<=f∧f<=1000)(r:(n=m)=False)(u:(m=n)=False)(B:0<ver)(F:L.b<=n)(A:L.b<=m)(l:ax L (.g n)=⟨1,1,[[.ref 0 (.g m) ver 4 0 1]],false⟩)(j:ax L (.g m)=⟨ver,4,[Tv e],false⟩):
  call bn 285 [.agg (Tv f),.ptr 0 (.g n) 1 0 0] (L::H)=some (.bool true,some (dE (dE (dE L.D n ⟨1,1,[[.ref 0 (.g m) ver 4 0 0]],false⟩) m ⟨ver+1,4,[Tv f],false⟩) n ⟨1,1,[[.ref 0 (.g m) (ver+1) 4 0 1]],false⟩)):=by
 have c:=fun H=>amH (H:=H) (f:=e) (by omega);unfold Tv at*;refine(av (by conv=>lhs;reduce)).trans ?_;simp only[↓zo,zp,seval];simp(disch:=omega) only[↓zd,seval,push_cast,l,j,c,↓ik,r,u,Ix.g.injEq]
def as0(L:Mem)(q:Nat):Option Int->Prop
 |none=>q<L.D.length∧L.b<=q∧ax L (.g q)=⟨1,1,[[.aL]],false⟩
 |some e=>∃m ver,(q=m)=False∧(m=q)=False∧0<ver∧L.b<=q∧L.b<=m∧ax L (.g q)=⟨1,1,[[.ref 0 (.g m) ver 4 0 1]],false⟩∧ax L (.g m)=⟨ver,4,[Tv e],false⟩
theorem as1{l:List Int}{n:Nat}(ok:TZ l n):call bn 279 [cu 4 (l.map Tv),.i n] H=some (.i 0,none):=by
 have B:=ok.len;have h2:=ok.Aw;refine(av (by conv=>lhs;reduce)).trans ?_;simp only[↓zo,zp,seval];have hx:∀(L:Mem),ax L (.g L.D.length)=⟨0,0,[],false⟩:=fun _=>jH;simp(disch:=omega) only[↓zd,seval,push_cast,dS,hx];refine bI (fun i fr L=>ag fr 1= .i n∧ag fr 0=cu 4 (l.map Tv)∧ag fr 19=cu 4 (l.map Tv)∧ag fr 20= .i l.length∧ag fr 21= .i i∧∃q,ag fr 6= .fn 285 [.ptr 0 (.g q) 1 0 0]∧as0 L q (if i=0 then none else l[i-1]?)) l.length ?_ ?_ ?_
 ·have Z:(Ht.start true H).b=(Ht.start true H).D.length:=by cases H<;>rfl
  refine⟨?_,?_,?_,?_,?_,(Ht.start true H).D.length,?_,?_⟩;all_goals simp only[↓zg,Nat.reduceEqDiff,reduceCtorEq,↓reduceIte]
  ·rfl
  ·rfl
  ·rfl
  ·refine⟨?_,?_,?_⟩
   ·simp only[fF,fw];omega
   ·rw[eG,Z];exact aJ _
   ·rw[ay,aX rfl]
 ·rintro i fr L Y ⟨B,J,C,r,K,q,I,j⟩ next
  obtain⟨f,hf⟩:∃x,l[i]? =some x:=⟨_,ak Y⟩
  have e2:=ok.rg f (ah hf);by_cases F:i=0
  ·subst F
   simp only[bK]at j;obtain⟨A,u,N⟩:=j;have c:=fun R Q=>ahU (H:=H) (L:=bu (bu L (.o 1) R) (.o 1) Q) (n:=q) (f:=f) (by simpa only[cz]using A) (by simpa only[eG]using u) (by simpa only[ay,reduceCtorEq,bZ]using N);clear ok;unfold Tv at*;simp(disch:=omega) only[↓zd,seval,push_cast,B,J,C,r,K,I,N,ZV,ZW,hf,c];refine next _ _ ⟨?_,?_,?_,?_,?_,q,?_,?_⟩
   all_goals simp only[↓zg,Nat.reduceEqDiff,reduceCtorEq,↓reduceIte,B,J,C,r,I]
   ·rfl
   ·rw[Nat.add_sub_cancel,hf]
    refine⟨L.D.length,1,by simp;omega,by simp;omega,by omega,u,eO u (xN A),?_,?_⟩
    ·simp only[gp,cK,bK]
    ·simp only[gp,cK]
     rw[aP (by omega),aX trivial];rfl
  ·obtain⟨e,O⟩:∃x,l[i-1]? =some x:=⟨_,ak (by omega)⟩
   rw[aP F,O]at j;obtain⟨m,ver,A,u,N,U,T,X,W⟩:=j;have ap:e+3<=f:=by
    obtain⟨_,rfl⟩:=au.1 O;obtain⟨_,rfl⟩:=au.1 hf;exact qI.1 ok.ap _ _ _ _ (by omega)
   have e3:=ok.rg e (ah O);have c:=fun R Q=>ahV (H:=H) (L:=bu (bu L (.o 1) R) (.o 1) Q) (n:=q) (m:=m) (e:=e) (f:=f) ⟨e3.1,ap,by omega⟩ A u N (by simpa only[eG]using U) (by simpa only[eG]using T) (by simpa only[ay,reduceCtorEq,bZ]using X) (by simpa only[ay,reduceCtorEq,bZ]using W);have c':=fun H=>asW (H:=H) ap;have t1:((i:Int)-1).toNat=i-1:=by omega
   clear ok;unfold Tv at*;simp(disch:=omega) only[↓zd,seval,push_cast,B,J,C,r,K,I,ZV,ZW,hf,O,c,c',t1];refine next _ _ ⟨?_,?_,?_,?_,?_,q,?_,?_⟩
   all_goals simp only[↓zg,Nat.reduceEqDiff,reduceCtorEq,↓reduceIte,B,J,C,r,I]
   ·rfl
   ·rw[Nat.add_sub_cancel,hf]
    refine⟨m,ver+1,A,u,by omega,U,T,?_,?_⟩
    ·simp only[gp,cK,bK]
    ·simp only[gp,cK,A,bZ,bK];rfl
 ·rintro fr L ⟨B,J,C,r,K,q,I,j⟩
  clear j ok;simp(disch:=omega) only[↓zd,seval,push_cast,r,K]
def kT(l:List Int)(ws:List Int):List Int:=ws.mapIdx fun i w=>VK l i w
theorem BR{sz:Nat}{els:List (List V)}(h:els≠[]):kK sz els= .sl .own sz els:=aP h
theorem kZ{α β:Type}{f:Nat->α->β}{l:List α}{i:Nat}{x:α}(h:l[i]? =some x):(l.mapIdx f).take (i+1)=(l.mapIdx f).take i++[f i x]:=by
 rw[aY,gu,h];rfl
theorem amJ{l ws:List Int}(ok:TZ l ws.length)(O:ws≠[])(J:∀w∈ws,0<=w∧w<=7741440)(hd:∀(i:Nat)(w:Int),ws[i]? =some w->Eu l i=true->w*2%3=0):
  call bn 266 [cu 4 (l.map Tv),cu 1 (ws.map fun w=>[V.i w])] H=some (.eT [kK 1 ((kT l ws).map fun w=>[V.i w]),.i 0],none):=by
 rw[BR (by intro h;apply O;have:=eU List.length h;simp[kT]at this;exact this)];have I:=fun H=>as1 (H:=H) ok;have R:=ok.Aw;have hc:∀(i:Nat)(w:Int),ws[i]? =some w->∀H,call bn 280 [cu 4 (l.map Tv),.i i,.i w] H=some (.eT [.i (VK l i w),.i 0],none):=by
  intro i w h H;have N:=(au.1 h).1;exact amI (.inl rfl) ok.len (fun f hf=>by have:=ok.rg f hf;omega) ok.ap (by omega) (J w (ah h)) (hd i w h)
 clear ok hd J O;refine(av (by conv=>lhs;reduce)).trans ?_;simp only[↓zo,zp,seval];simp(disch:=omega) only[↓zd,seval,push_cast,dS,I];refine bI (fun i fr L=>ag fr 0=cu 4 (l.map Tv)∧ag fr 22=cu 1 (ws.map fun w=>[V.i w])∧ag fr 23= .i ws.length∧ag fr 24= .i i∧∃ver,0<ver∧ag fr 7= .ref 0 (.o 1) ver 1 0 i∧ax L (.o 1)=⟨ver,1,((kT l ws).take i).map fun w=>[V.i w],false⟩) ws.length ?_ ?_ ?_
 ·simp only[↓zg,Nat.reduceEqDiff,reduceCtorEq,↓reduceIte]
  refine⟨rfl,?_,?_,?_,1,by omega,?_,?_⟩;all_goals first|rfl|trivial|skip
  rw[ay,aX rfl];rfl
 ·rintro i fr L N ⟨F,r,j,A,ver,Q,C,u⟩ next
  obtain⟨w,hf⟩:∃x,ws[i]? =some x:=⟨_,ak N⟩
  have c:=hc i w hf;have K:=kZ (f:=fun i w=>VK l i w) hf;have g:((kT l ws).take i).length=i:=by simp[kT];omega
  clear hc I;change (kT l ws).take (i+1)=(kT l ws).take i++_ at K;generalize (kT l ws).take i=P at*;have B:(P.map fun w=>[V.i w]).take i=P.map fun w=>[V.i w]:=aO (by simp;omega);simp(disch:=omega) only[↓zd,seval,push_cast,F,r,j,A,C,u,hf,c,g,B];refine next _ _ ⟨?_,?_,?_,?_,ver+1,by omega,?_,?_⟩
  all_goals simp only[↓zg,Nat.reduceEqDiff,reduceCtorEq,↓reduceIte,F,r,j,K]
  all_goals first|rfl|trivial|skip
  rw[ay,aX rfl,aR];rfl
 ·rintro fr L ⟨F,r,j,A,ver,Q,C,u⟩
  have g:(kT l ws).length=ws.length:=by simp[kT]
  rw[aO (by omega)]at u;have hp:=dh (enc:=fun w=>[V.i w]) (fun _=>rfl) (kT l ws);clear hc I;simp(disch:=omega) only[↓zd,seval,push_cast,r,j,A,C,u,g,hp]
theorem jO{sz:Nat}{els:List (List V)}(h:els≠[]):cu sz els= .sl .any sz els:=aP h
theorem ZZ{l:List Int}{k:Nat}{f n:Int}(ap:l.Pairwise fun a b=>a+3<=b)(hf:l[k]? =some f)(hn:n<f+3):Eu (l.drop (k+1)) n=false:=by
 obtain⟨u,rfl⟩:=au.1 hf;unfold Eu;rw[Jf];intro h;obtain⟨g,A,c⟩:=fe.1 h;obtain⟨j,r,rfl⟩:=gP.1 A;simp only[eY]at r;rw[List.getElem_drop]at c;have:=qI.1 ap k (k+1+j) u (by omega) (by omega);simp only[aH,bN]at c;omega
theorem adH:oW .shr (.int .i64 3870720) (.int .i64 0)=some (.int .i64 3870720)∧oW .shr (.int .i64 3870720) (.int .i64 1)=some (.int .i64 1935360)∧oW .shr (.int .i64 3870720) (.int .i64 2)=some (.int .i64 967680)∧oW .shr (.int .i64 3870720) (.int .i64 3)=some (.int .i64 483840)∧oW .shr (.int .i64 3870720) (.int .i64 4)=some (.int .i64 241920)∧oW .shr (.int .i64 3870720) (.int .i64 5)=some (.int .i64 120960):=⟨rfl,rfl,rfl,rfl,rfl,rfl⟩
theorem as2{l ws:List Int}{k f:Nat}{lg:Int}(ok:TZ l ws.length)(c:l[k]? =some (f:Int))(F:1<=lg∧lg<=4)(O:ws[f]? =some (tk lg 0))(N:ws[f+1]? =some (tk lg 0))(K:ws[f+2]? =some (tk lg 0)):
  call bn 281 [cu 4 (l.map Tv),.i k,cu 1 (ws.map fun w=>[V.i w])] H=some (.eT [.i lg,.bool true],none):=by
 have r:=(au.1 c).1;have hr:=ok.rg _ (ah c);have hn:=ok.Aw;have hl:=ok.len;have R:∀(n:Int)(H:List Mem),0<=n->n<f+3->call bn 280 [.sl .any 4 ((l.drop (k+1)).map Tv),.i n,.i (tk lg 0)] H=some (.eT [.i (tk lg 0),.i 0],none):=by
  intro n H T J;have A:=ZZ ok.ap c J;have C:=VG (lg:=lg) (dt:=0) (by omega) (by omega);have:=amI (H:=H) (S:= .sl .any 4 ((l.drop (k+1)).map Tv)) (l:=l.drop (k+1)) (n:=n) (w:=tk lg 0) (.inr rfl) (by simp;omega) (fun g I=>by have:=ok.rg g (List.mem_of_mem_drop I);omega) (ok.ap.drop) (by omega) (by omega) (fun h=>by rw[A]at h;cases h);rw[this,VK,A];rfl
 have Q:=fun H=>amH (H:=H) (f:=f) (by omega);have j:List.drop (k+1) (List.take l.length (l.map Tv))=(l.drop (k+1)).map Tv:=by
  rw[aO (by simp),List.map_drop]
 have t1:((k:Int)+1).toNat=k+1:=by omega
 have t2:((f:Int)+1).toNat=f+1:=by omega
 have B:((f:Int)+1+1).toNat=f+2:=by omega
 rw[jO (els:=l.map Tv) (by intro h;have:=eU List.length h;simp at this;subst this;simp at r)];clear ok;have u:lg=1∨lg=2∨lg=3∨lg=4:=by omega
 unfold Tv at*;refine(av (by conv=>lhs;reduce)).trans ?_;simp only[↓zo,zp,seval];rcases u with rfl|rfl|rfl|rfl
 all_goals simp only[show tk 1 0=967680 from rfl,show tk 2 0=483840 from rfl,show tk 3 0=241920 from rfl,show tk 4 0=120960 from rfl]at*
 all_goals simp(disch:=omega) only[↓zd,seval,push_cast,↓ik,c,O,N,K,R,Q,j,t1,t2,B,adH]
def H6(l ws:List Int):Prop:=∀f∈l,∃lg,(1<=lg∧lg<=4)∧ws[f.toNat]? =some (tk lg 0)∧ws[f.toNat+1]? =some (tk lg 0)∧ws[f.toNat+2]? =some (tk lg 0)
def VL(w:Int):Int:=if w=967680 then 1 else if w=483840 then 2 else if w=241920 then 3 else 4
theorem Z0{lg:Int}(h:1<=lg∧lg<=4):VL (tk lg 0)=lg:=by
 have c:lg=1∨lg=2∨lg=3∨lg=4:=by omega
 rcases c with rfl|rfl|rfl|rfl<;>decide
def uJ(l ws:List Int):List Int:=l.map fun f=>VL ((ws[f.toNat]?).getD 0)
theorem as4{l ws:List Int}(ok:TZ l ws.length)(al:H6 l ws)(N:ws≠[])(K:∀w∈ws,0<=w∧w<=7741440)(hd:∀(i:Nat)(w:Int),ws[i]? =some w->Eu l i=true->w*2%3=0):
  call bn 267 [cu 4 (l.map Tv),cu 1 (ws.map fun w=>[V.i w])] H=some (.eT [.sl .own 1 ((uJ l ws).map fun w=>[V.i w]),.i 0],none):=by
 have J:=fun H=>amJ (H:=H) ok N K hd;have hc:∀(k:Nat)(f:Int),l[k]? =some f->∀H,call bn 281 [cu 4 (l.map Tv),.i k,cu 1 (ws.map fun w=>[V.i w])] H=some (.eT [.i (VL ((ws[f.toNat]?).getD 0)),.bool true],none):=by
  intro k f F H;obtain⟨lg,r,j,U,T⟩:=al f (ah F);have hf:=(ok.rg f (ah F)).1;have e:f=((f.toNat:Nat):Int):=by omega
  rw[j,dU,Z0 r];exact as2 ok (by rw[F];exact eU some e) r j U T
 have hl:=ok.len;clear ok al N K hd;refine(av (by conv=>lhs;reduce)).trans ?_;simp only[↓zo,zp,seval];simp(disch:=omega) only[↓zd,seval,push_cast,dS,J];refine bI (fun i fr L=>ag fr 0=cu 4 (l.map Tv)∧ag fr 1=cu 1 (ws.map fun w=>[V.i w])∧ag fr 25= .i l.length∧ag fr 26= .i i∧∃ver,0<ver∧ag fr 8= .ref 0 (.o 1) ver 1 0 i∧ax L (.o 1)=⟨ver,1,((uJ l ws).take i).map fun w=>[V.i w],false⟩) l.length ?_ ?_ ?_
 ·simp only[↓zg,seval]
  refine⟨?_,?_,?_,?_,1,by omega,?_,?_⟩;all_goals first|rfl|trivial|skip
  rw[ay,aX rfl];rfl
 ·rintro i fr L R ⟨r,j,u,B,ver,O,I,A⟩ next
  obtain⟨w,hf⟩:∃x,l[i]? =some x:=⟨_,ak R⟩
  have c:=hc i w hf;have Q:(uJ l ws).take (i+1)=(uJ l ws).take i++[VL ((ws[w.toNat]?).getD 0)]:=by
   rw[aY,uJ,aK,hf];rfl
  have g:((uJ l ws).take i).length=i:=by simp[uJ];omega
  clear hc J;generalize (uJ l ws).take i=P at*;have C:(P.map fun w=>[V.i w]).take i=P.map fun w=>[V.i w]:=aO (by simp;omega);simp(disch:=omega) only[↓zd,seval,push_cast,r,j,u,B,I,A,c,g,C];refine next _ _ ⟨?_,?_,?_,?_,ver+1,by omega,?_,?_⟩
  all_goals simp only[↓zg,seval,r,j,u,Q]
  all_goals first|rfl|trivial|skip
  rw[ay,aX rfl,aR];rfl
 ·rintro fr L ⟨r,j,u,B,ver,O,I,A⟩
  have g:(uJ l ws).length=l.length:=by simp[uJ]
  rw[aO (by omega)]at A;have hp:=dh (enc:=fun w=>[V.i w]) (fun _=>rfl) (uJ l ws);clear hc J;simp(disch:=omega) only[↓zd,seval,push_cast,u,B,I,A,g,hp]
structure Vo where
 es:List Ev
 tu:List Int
def Vo.v(v:Vo):List V:=[cu 13 (v.es.map Ev.v),cu 4 (v.tu.map Tv)]
theorem Vo.sz(v:Vo):v.v.length=2∧∀d,V.bW d v.v=v.v:=⟨rfl,fun d=>by simp only[Vo.v,V.bW,V.shift,nZ]⟩
theorem Vo.pu(v:Vo):v.v.all V.pure=true:=by
 simp only[Vo.v,aZ,cB,se,dh Ev.pu,dh Tv.pu,V.pure,bR]
def Iv(n:Int):List V:=[.i n]
theorem Iv.pu(n:Int):(Iv n).all V.pure=true:=rfl
def Ev.w(e:Ev):Int:=if e.kd=3 then 0 else tk e.lg e.dt
def Vo.ws(v:Vo):List Int:=v.es.map Ev.w
structure yD(v:Vo)(len:Int):Prop where
 ev:∀e∈v.es,mX e
 ne:v.es≠[]
 ln:1<=len∧len<=15482880
 Aw:v.es.length<=128
 mr:(∃e,v.es=[e]∧e.kd=3∧v.tu=[])∨((∀e∈v.es,e.kd≠3)∧TZ v.tu v.es.length∧H6 v.tu v.ws∧(kT v.tu v.ws).sum=len)
def Vo.lens(v:Vo)(len:Int):List Int:=
 match v.es with
 |[e]=>if e.kd=3 then[len]else kT v.tu v.ws
 |_=>kT v.tu v.ws
theorem zh{A B:List (List V)}{i:Nat}{z:List V}(h:A.length=i):(A++z::B)[i]? =some z:=by
 subst h;simp
theorem zi{A B:List (List V)}{i:Nat}{z x:List V}(h:A.length=i):(A++z::B).set i x=(A++[x])++B:=by
 subst h;simp
theorem Z4{L:Mem}{sz:Nat}{zero:List V}{bytes n m:Nat}{s:Ix}(h:n<=m)(hm:m<=4294967296)(g:bytes<=16384)(c:zero.length=sz)(hf:uP s zero=true):Ji L s sz zero bytes (.int .i64 n) (.int .i64 m)=some (.ref 0 s ((ax L s).ver+1) sz 0 n,bu L s ⟨(ax L s).ver+1,sz,List.replicate n zero,false⟩):=by
 have e:(0:Int)<=n∧(n:Int)<=m∧(m:Int)<=4294967296∧bytes<=16384∧zero.length=sz∧uP s zero=true:=⟨by omega,by omega,by omega,g,c,hf⟩
 simp only[Ji,aX e,vO]
theorem as5{l:List Ev}(hl:l.length<=1000)(Q:l≠[])(ok:∀e∈l,mX e):call bn 265 [cu 13 (l.map Ev.v)] H=some (kK 1 ((l.map Ev.w).map Iv),none):=by
 rw[BR (by simpa using Q)];have hm:∀(L:Mem),Ji L (.o 1) 1 [.int .i64 0] 8 (.int .i64 l.length) (.int .i64 l.length)=_:=fun L=>Z4 (L:=L) (s:= .o 1) (sz:=1) (zero:=[.int .i64 0]) (bytes:=8) (aJ l.length) (by omega) (by omega) rfl rfl;refine(av (by conv=>lhs;reduce)).trans ?_;simp only[↓zo,zp,seval];simp(disch:=omega) only[↓zd,seval,push_cast,dS,hm];refine bI (fun i fr L=>ag fr 9=cu 13 (l.map Ev.v)∧ag fr 10= .i l.length∧ag fr 11= .i i∧ag fr 3= .ref 0 (.o 1) 1 1 0 l.length∧ax L (.o 1)=⟨1,1,((l.map Ev.w).take i).map Iv++List.replicate (l.length-i) [.i 0],false⟩) l.length ?_ ?_ ?_
 ·simp only[↓zg,seval]
  refine⟨?_,?_,?_,?_,?_⟩;all_goals (first|rfl|trivial|skip)
  rw[ay,aX rfl];rfl
 ·rintro i fr L K ⟨h9,r,A,u,j⟩ next
  obtain⟨e,hf⟩:∃x,l[i]? =some x:=⟨_,ak K⟩
  have c:∀H,call bn 278 [.agg e.v] H=some (.eT [.i e.w,.i 0],none):=fun H=>asV (H:=H) (ok e (ah hf));have J:(l.map Ev.w).take (i+1)=(l.map Ev.w).take i++[e.w]:=by
   rw[aY,aK,hf];rfl
  have g:(((l.map Ev.w).take i).map Iv).length=i:=by simp;omega
  obtain⟨m,F⟩:∃m,l.length-i=m+1:=⟨l.length-i-1,by omega⟩
  have N:=zh (B:=List.replicate m [V.int .i64 0]) (z:=[V.int .i64 0]) g;have hs:=fun x=>zi (B:=List.replicate m [V.int .i64 0]) (z:=[V.int .i64 0]) (x:=x) g;have O:=e.sz.1;have T:=e.sz.2;have C:e.v.take 13=e.v:=aO (by omega);have R:e.v.all V.scalar=true:=by simp only[Ev.v,aZ,cB,gq,mO,bR]
  have I:l.length-(i+1)=m:=by omega
  rw[F,ED]at j;change ax L (.o 1)=⟨1,1,_++[V.int .i64 0]::List.replicate m [V.int .i64 0],false⟩at j;clear ok hm;generalize ((l.map Ev.w).take i)=P at*;generalize e.w=w at*;simp(disch:=omega) only[↓zd,seval,push_cast,h9,r,A,u,j,hf,c,g,N,hs,O,T,C,R];refine next _ _ ⟨?_,?_,?_,?_,?_⟩
  all_goals try simp only[↓zg,seval,h9,r,u,J]
  all_goals (first|rfl|trivial|skip)
  rw[ay,aX rfl,I,aR];rfl
 ·rintro fr L ⟨h9,r,A,u,j⟩
  have g:(l.map Ev.w).length=l.length:=by simp
  rw[aO (by omega),Bj,List.replicate_zero,bz]at j;have hp:=dh Iv.pu (l.map Ev.w);clear ok hm;simp(disch:=omega) only[↓zd,seval,push_cast,r,A,u,j,g,hp]
theorem as7{l:List Int}(hl:l.length<=1000)(c:∀n∈l,0<=n∧n<=100000000):call bn 214 [cu 1 (l.map Iv)] H=some (.i l.sum,none):=by
 have hbs:∀i,0<=(l.take i).sum∧(l.take i).sum<=100000000*i:=by
  intro i;induction i with
  |zero=>simp
  |succ i F=>
   cases h:l[i]?with
   |none=>rw[aY,h];simp;omega
   |some x=>
    have:=c x (ah h);rw[aY,h,kQ];simp;omega
 refine(av (by conv=>lhs;reduce)).trans ?_;simp only[↓zo,zp,seval];simp(disch:=omega) only[↓zd,seval,push_cast,dS];refine bI (fun i fr L=>ag fr 6=cu 1 (l.map Iv)∧ag fr 7= .i l.length∧ag fr 8= .i i∧ag fr 3= .i (l.take i).sum) l.length ?_ ?_ ?_
 ·simp only[↓zg,seval]
  refine⟨?_,?_,?_,?_⟩;all_goals (first|rfl|trivial|skip)
 ·rintro i fr L B ⟨u,g,r,j⟩ next
  obtain⟨x,hf⟩:∃x,l[i]? =some x:=⟨_,ak B⟩
  have hx:=c x (ah hf);have hs:=hbs i;have A:(l.take (i+1)).sum=(l.take i).sum+x:=by rw[aY,hf,kQ];simp
  have C:Iv x=[.i x]:=rfl;clear c hbs;generalize (l.take i).sum=S at*;simp(disch:=omega) only[↓zd,seval,push_cast,u,g,r,j,hf,C];refine next _ _ ⟨?_,?_,?_,?_⟩
  all_goals try simp only[↓zg,seval,u,g,A]
  all_goals (first|rfl|trivial|skip)
 ·rintro fr L ⟨u,g,r,j⟩
  rw[aT]at j;clear c hbs;simp(disch:=omega) only[↓zd,seval,push_cast,g,r,j]
theorem amK{v:Vo}{e:Ev}{t:List Ev}(h:v.es=e::t):call bn 254 [.agg v.v] H=some (.bool (decide (e.kd=3)),none):=by
 have hp:=v.pu;unfold Vo.v at*;rw[h,bO,qP]at*;have j:e.v= .i 1:: .i e.id:: .i e.kd::e.v.drop 3:=rfl;have g:e.v[2]? =some (.i e.kd):=rfl;have c:e.v.length=13:=rfl;clear hp;refine(av (by conv=>lhs;reduce)).trans ?_;simp only[↓zo,zp,seval];simp(disch:=omega) only[↓zd,seval,push_cast,g,c]
theorem Ev.amL{e:Ev}(ok:mX e):0<=e.w∧e.w<=7257600:=by
 unfold Ev.w;by_cases h:e.kd=3
 ·rw[aX h];omega
 ·rw[aP h]
  have:=ok.val h;have:=VG this.1 this.2;omega
theorem ahW{l ws:List Int}{n:Nat}(ok:TZ l n)(al:H6 l ws){i:Nat}{w:Int}(h:ws[i]? =some w)(c:Eu l i=true):∃lg,(1<=lg∧lg<=4)∧w=tk lg 0:=by
 obtain⟨f,hf,hc⟩:=fe.1 c;simp only[aH,bN]at hc;obtain⟨lg,u,r,j,g⟩:=al f hf;have hr:=(ok.rg f hf).1;have e:i=f.toNat∨i=f.toNat+1∨i=f.toNat+2:=by omega
 refine⟨lg,u,?_⟩;rcases e with e|e|e<;>rw[e]at h
 ·exact iL (h.symm.trans r)
 ·exact iL (h.symm.trans j)
 ·exact iL (h.symm.trans g)
theorem ahX{lg:Int}(h:1<=lg∧lg<=4):tk lg 0*2%3=0:=by
 have c:lg=1∨lg=2∨lg=3∨lg=4:=by omega
 rcases c with rfl|rfl|rfl|rfl<;>decide
theorem as8{v:Vo}(ok:∀e∈v.es,mX e)(K:∀e∈v.es,e.kd≠3)(ne:v.es≠[])(Aw:v.es.length<=128)(tok:TZ v.tu v.es.length)(al:H6 v.tu v.ws):call bn 255 [.agg v.v] H=some (.eT [cu 1 ((kT v.tu v.ws).map Iv),.i 0],none):=by
 have N:v.ws.length=v.es.length:=by simp[Vo.ws]
 have B:v.ws≠[]:=by simpa[Vo.ws]using ne
 have TK:kT v.tu v.ws≠[]:=by intro h;apply B;have:=eU List.length h;simp[kT]at this;exact this
 have F:∀w∈v.ws,0<=w∧w<=7741440:=by
  intro w h;obtain⟨e,l,rfl⟩:=dQ.1 h;have:=Ev.amL (ok e l);omega
 have hd:∀(i:Nat)(w:Int),v.ws[i]? =some w->Eu v.tu i=true->w*2%3=0:=by
  intro i w h W;obtain⟨lg,X,rfl⟩:=ahW tok al h W;exact ahX X
 have Q:=fun H=>as5 (H:=H) (by omega) ne ok;have O:∀H,call bn 266 [cu 4 (v.tu.map Tv),cu 1 (v.ws.map Iv)] H=some (.eT [kK 1 ((kT v.tu v.ws).map Iv),.i 0],none):=fun H=>amJ (H:=H) (by rw[N];exact tok) B F hd;have c3:∀H,call bn 267 [cu 4 (v.tu.map Tv),cu 1 (v.ws.map Iv)] H=some (.eT [.sl .own 1 ((uJ v.tu v.ws).map Iv),.i 0],none):=fun H=>as4 (H:=H) (by rw[N];exact tok) al B F hd;have hc:∀e∈v.es,∀H,call bn 128 [.agg e.v] H=some (.i 0,none):=fun e l H=>XH (ok e l);have R:=dh Iv.pu (kT v.tu v.ws);have j:=v.pu;unfold Vo.ws at*;unfold Vo.v at*;obtain⟨es,tu⟩:=v;dsimp only at*;clear F hd N B tok al ok;generalize kT tu (es.map Ev.w)=LS at*;generalize uJ tu (es.map Ev.w)=US at*;refine(av (by conv=>lhs;reduce)).trans ?_;simp only[↓zo,zp,seval];simp(disch:=omega) only[↓zd,seval,push_cast];refine bI (fun i fr L=>ag fr 13=cu 13 (es.map Ev.v)∧ag fr 14= .i es.length∧ag fr 15= .i i∧ag fr 1= .ptr 0 (.o 1) 1 0 0∧ax L (.o 1)=⟨1,2,[[cu 13 (es.map Ev.v),cu 4 (tu.map Tv)]],false⟩) es.length ?_ ?_ ?_
 ·refine⟨?_,?_,?_,?_,?_⟩
  (all_goals try simp only[↓zg,seval]);all_goals try first|rfl|trivial|(simp only[zr,seval];done)
 ·rintro i fr L U ⟨A,g,C,u,r⟩ next
  obtain⟨e,hf⟩:∃x,es[i]? =some x:=⟨_,ak U⟩
  have c:=hc e (ah hf);have T:=K e (ah hf);have l:=e.sz.1;have Y:=e.sz.2;have I:e.v.take 13=e.v:=aO (by omega);have J:e.v.all V.scalar=true:=by simp only[Ev.v,aZ,cB,gq,mO,bR]
  have Z:e.v[2]? =some (.i e.kd):=rfl;clear hc K Q O c3 R j;simp(disch:=omega) only[↓zd,seval,push_cast,A,g,C,u,r,hf,c,l,Y,I,J,Z];refine next _ _ ⟨?_,?_,?_,?_,?_⟩
  (all_goals try simp only[↓zg,seval,A,g,u,r]);all_goals try first|rfl|trivial|(simp only[zr,seval,A,g,u,r];done)
 ·rintro fr L ⟨A,g,C,u,r⟩
  clear hc K j;simp(disch:=omega) only[↓zd,seval,push_cast,g,C,u,r,Q,O,c3,R]
theorem Vo.VM{v:Vo}{len:Int}{e:Ev}(h:v.es=[e])(c:e.kd=3):v.lens len=[len]:=by
 unfold Vo.lens;rw[h];exact aX c
theorem Vo.VN{v:Vo}{len:Int}(h:∀e∈v.es,e.kd≠3):v.lens len=kT v.tu v.ws:=by
 unfold Vo.lens;split
 ·rename_i e c;rw[aP (h e (by rw[c];simp))]
 ·rfl
theorem as9{v:Vo}{len:Int}(ok:yD v len):call bn 213 [.agg v.v,.i len] H=some (.eT [cu 1 ((v.lens len).map Iv),.i 0],none):=by
 have hl:=ok.ln;have hn:=ok.Aw;rcases ok.mr with⟨e,g,l,r⟩|⟨g,l,r,A⟩
 ·have c:=fun H=>amK (H:=H) g
  have d:=fun H=>XH (H:=H) (ok.ev e (by rw[g];simp));have j:=e.sz.1;have B:=e.sz.2;have u:e.v.take 13=e.v:=aO (by omega);rw[Vo.VM g l];unfold Vo.v at*;rw[g,r,bO,dX,dX,gF,qP]at*;rw[l]at c;clear ok;refine(av (by conv=>lhs;reduce)).trans ?_;simp only[↓zo,zp,seval];simp(disch:=omega) only[↓zd,seval,push_cast,c,d,j,B,u,Iv,qP]
 ·obtain⟨e,t,j⟩:=List.exists_cons_of_ne_nil ok.ne
  have c:=fun H=>amK (H:=H) j;have C:=g e (by rw[j];simp);have d:=fun H=>as8 (H:=H) ok.ev g ok.ne ok.Aw l r;rw[Vo.VN g];have hp:=dh Iv.pu (kT v.tu v.ws);clear ok g l r A j;unfold Vo.v at*;refine(av (by conv=>lhs;reduce)).trans ?_;simp only[↓zo,zp,seval];simp(disch:=omega) only[↓zd,seval,push_cast,c,d,hp]
theorem si{v:Vo}{len:Int}(ok:yD v len):(∀n∈v.lens len,0<=n∧n<=100000000)∧(v.lens len).length=v.es.length∧(v.lens len).sum=len:=by
 have hl:=ok.ln;rcases ok.mr with⟨e,c,g,A⟩|⟨c,g,A,u⟩
 ·rw[Vo.VM c g,c]
  exact⟨fun n hn=>by simp at hn;omega,rfl,by simp⟩
 ·rw[Vo.VN c]
  refine⟨fun n hn=> ?_,by simp[kT,Vo.ws],u⟩;obtain⟨i,l,rfl⟩:=gP.1 hn;simp only[kT,List.getElem_mapIdx,VK];have hm:v.ws[i]'(by simpa[kT]using l)∈v.ws:=qb _;obtain⟨e,r,j⟩:=dQ.1 hm;have:=Ev.amL (ok.ev e r);rw[<-j];split<;>omega
theorem amM{v:Vo}{len:Int}(ok:yD v len):call bn 152 [.agg v.v,.i len] H=some (.eT [cu 1 ((v.lens len).map Iv),.i 0],none):=by
 have hl:=ok.ln;have hn:=ok.Aw;obtain⟨r,u,j⟩:=si ok;have c:=fun H=>as9 (H:=H) ok;have d:=fun H=>as7 (H:=H) (l:=v.lens len) (by omega) r;rw[j]at d;have hp:=dh Iv.pu (v.lens len);have C:=v.sz.2;have B:=v.sz.1;have g:v.v.take 2=v.v:=aO (by omega);have A:v.v.all V.scalar=true:=by simp only[Vo.v,aZ,cB,gq,bR]
 have F:0<v.es.length:=dB.2 ok.ne;clear ok r j;generalize v.lens len=I at*;refine(av (by conv=>lhs;reduce)).trans ?_;simp only[↓zo,zp,seval];simp(disch:=omega) only[↓zd,seval,push_cast,c,d,hp,C,B,g,A,u]
theorem ata{v:Vo}{len:Int}(ok:yD v len):call bn 184 [.agg v.v,.i len] H=some (.i 0,none):=by
 have c:=fun H=>amM (H:=H) ok;have r:=v.sz.2;have l:=v.sz.1;have g:v.v.take 2=v.v:=aO (by omega);have j:v.v.all V.scalar=true:=by simp only[Vo.v,aZ,cB,gq,bR]
 clear ok;refine(av (by conv=>lhs;reduce)).trans ?_;simp only[↓zo,zp,seval];simp(disch:=omega) only[↓zd,seval,push_cast,c,r,l,g,j]
def kV(l:List Int):List Int:=l.mapIdx fun i _=>(l.take i).sum
theorem atb{l:List Int}(hl:l.length<=1000)(O:l≠[])(C:∀n∈l,0<=n∧n<=100000000):call bn 153 [cu 1 (l.map Iv)] H=some (kK 1 ((kV l).map Iv),none):=by
 have j:(kV l).length=l.length:=by simp[kV]
 rw[BR (by intro h;have:=eU List.length h;simp[kV]at this;exact O this)];have hbs:∀i,0<=(l.take i).sum∧(l.take i).sum<=100000000*i:=by
  intro i;induction i with
  |zero=>simp
  |succ i X=>
   cases h:l[i]?with
   |none=>rw[aY,h];simp;omega
   |some x=>
    have:=C x (ah h);rw[aY,h,kQ];simp;omega
 have hm:∀(L:Mem),Ji L (.o 1) 1 [.int .i64 0] 8 (.int .i64 l.length) (.int .i64 l.length)=_:=fun L=>Z4 (L:=L) (s:= .o 1) (sz:=1) (zero:=[.int .i64 0]) (bytes:=8) (aJ l.length) (by omega) (by omega) rfl rfl;obtain⟨n,hn⟩:∃n,l.length=n+1:=⟨l.length-1,by have:=dB.2 O;omega⟩
 refine(av (by conv=>lhs;reduce)).trans ?_;simp only[↓zo,zp,seval];simp(disch:=omega) only[↓zd,seval,push_cast,dS,hm];refine bI (fun i fr L=>ag fr 0=cu 1 (l.map Iv)∧ag fr 4= .i ((i:Int)+1)∧ag fr 3= .ref 0 (.o 1) 1 1 0 l.length∧ax L (.o 1)=⟨1,1,((kV l).take (i+1)).map Iv++List.replicate (n-i) [.i 0],false⟩) n ?_ ?_ ?_
 ·refine⟨?_,?_,?_,?_⟩
  (all_goals try simp only[↓zg,seval]);all_goals try first|rfl|trivial|(simp only[zr,seval];done)
  have U:(kV l).take 1=[0]:=by
   obtain⟨x,t,rfl⟩:=List.exists_cons_of_ne_nil O;simp[kV]
  rw[U,ay,aX rfl,hn,ED];rfl
 ·rintro i fr L Y ⟨A,N,u,g⟩ next
  obtain⟨x,hf⟩:∃x,l[i]? =some x:=⟨_,ak (by omega)⟩
  obtain⟨y,R⟩:∃y,l[i+1]? =some y:=⟨_,ak (by omega)⟩
  have hx:=C x (ah hf);have hs:=hbs i;have ho:(kV l)[i]? =some (l.take i).sum:=by rw[kV,gu,hf];rfl
  have r:(kV l)[i+1]? =some ((l.take i).sum+x):=by
   rw[kV,gu,R,aY,hf];simp
  have Q:(kV l).take (i+1+1)=(kV l).take (i+1)++[(l.take i).sum+x]:=by
   rw[aY,r];rfl
  obtain⟨m,I⟩:∃m,n-i=m+1:=⟨n-i-1,by omega⟩
  have J:n-(i+1)=m:=by omega
  rw[I,ED]at g;change ax L (.o 1)=⟨1,1,_++[V.int .i64 0]::List.replicate m [V.int .i64 0],false⟩at g;have c:(((kV l).take (i+1)).map Iv).length=i+1:=by simp;omega
  have T:=zh (B:=List.replicate m [V.int .i64 0]) (z:=[V.int .i64 0]) c;have K:(((kV l).take (i+1)).map Iv++[V.int .i64 0]::List.replicate m [V.int .i64 0])[i]? =some [.i (l.take i).sum]:=by
   rw[jW (by omega),aK,GK,aX (by omega),ho];rfl
  have F:=fun x=>zi (B:=List.replicate m [V.int .i64 0]) (z:=[V.int .i64 0]) (x:=x) c;have W:Iv x=[.i x]:=rfl;have t1:((i:Int)+1-1).toNat=i:=by omega
  have t2:((i:Int)+1).toNat=i+1:=by omega
  clear C hbs hm ho r j c;generalize (l.take i).sum=S at*;generalize (kV l).take (i+1)=P at*;simp(disch:=omega) only[↓zd,seval,push_cast,A,N,u,g,dS,hf,W,T,K,F,t1,t2];refine next _ _ ⟨?_,?_,?_,?_⟩
  (all_goals try simp only[↓zg,seval,A,u]);all_goals try first|rfl|trivial|(simp only[zr,seval,A,u];done)
  rw[ay,aX rfl,J,Q,aR];rfl
 ·rintro fr L ⟨A,N,u,g⟩
  have hp:=dh Iv.pu (kV l);rw[Bj,List.replicate_zero,bz,aO (by omega)]at g;clear C hbs hm;simp(disch:=omega) only[↓zd,seval,push_cast,A,N,u,g,dS,hp,j]
theorem c86{v:Vo}{len:Int}(ok:yD v len):call bn 86 [.agg v.v,.i len] H=some (.eT [cu 1 ((kV (v.lens len)).map Iv),.i 0],none):=by
 obtain⟨j,C,B⟩:=si ok;have hn:=ok.Aw;have F:0<v.es.length:=dB.2 ok.ne;have c:=fun H=>amM (H:=H) ok;have d:=fun H=>atb (H:=H) (l:=v.lens len) (by omega) (by rw[<-dB];omega) j;have A:=v.sz.2;have u:=v.sz.1;have g:v.v.take 2=v.v:=aO (by omega);have r:v.v.all V.scalar=true:=by simp only[Vo.v,aZ,cB,gq,bR]
 have hp:=dh Iv.pu (kV (v.lens len));clear ok j;generalize v.lens len=I at*;refine(av (by conv=>lhs;reduce)).trans ?_;simp only[↓zo,zp,seval];simp(disch:=omega) only[↓zd,seval,push_cast,c,d,hp,A,u,g,r]
theorem c85(v:Vo)(h:v.es.length<=1000):call bn 85 [.agg v.v] H=some (.bool (decide (0<v.es.length)),none):=by
 unfold Vo.v;refine(av (by conv=>lhs;reduce)).trans ?_;simp only[↓zo,zp,seval];by_cases c:0<v.es.length
 ·simp(disch:=omega) only[↓zd,seval,push_cast]
 ·simp(disch:=omega) only[↓zd,seval,push_cast]
end Go.Proofs.YtnahpjebkgbedaaGreat

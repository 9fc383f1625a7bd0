/- Part of the proof of ThereAndBack: what the program's functions compute on the abstract machine, and that it answers as the law says. No condition. -/
import Derived.Test.YtnahpjebkgbedaaGreatH
set_option linter.all false
set_option maxRecDepth 100000
set_option maxHeartbeats 16000000
namespace Go.Proofs.YtnahpjebkgbedaaGreat
open Go Go.Ht
variable{H:List Mem}
def AL(z:Bool)(sz:Nat)(els:List (List V)):V:=if z=true∧els=[]then .sl .any sz []else cu sz els
theorem NG(z:Bool)(sz:Nat)(els:List (List V)):AL z sz els=cu sz els∨(els=[]∧AL z sz els= .sl .any sz []):=by
 unfold AL;split
 ·rename_i h;exact .inr ⟨h.2,rfl⟩
 ·exact .inl rfl
section
variable{z:Bool}{sz d:Nat}{els:List (List V)}{L:Mem}
theorem aot(h:els≠[]):AL z sz els= .sl .any sz els:=by unfold AL;rw[aP (fun c=>h c.2),jO h]
theorem kW:AQ (AL z sz els)=some (.i (els.length:Nat)):=by
 rcases NG z sz els with h|⟨h,c⟩
 ·rw[h,dS]
 ·rw[c,h];rfl
theorem uB{kd:IntKind}{m:Int}:yr sz (AL z sz els) (.int kd m)=if 0<=m then(els[m.toNat]?).map fun e=> .eptr e 0 else none:=by
 rcases NG z sz els with h|⟨h,c⟩
 ·rw[h,Zp]
 ·rw[c,h]
  show(if SK.any≠SK.own∧sz=sz∧0<=m then _ else none)=_;by_cases hm:0<=m
  ·rw[aX ⟨by simp,rfl,hm⟩,aX hm]
  ·rw[aP (fun h=>hm h.2.2),aP hm]
theorem nK:V.shift d (AL z sz els)=AL z sz els:=by
 rcases NG z sz els with h|⟨h,c⟩
 ·rw[h,nZ]
 ·rw[c];rfl
theorem NH:V.scalar (AL z sz els)=true:=by
 rcases NG z sz els with h|⟨h,c⟩
 ·rw[h,gq]
 ·rw[c];rfl
theorem Wn:V.pure (AL z sz els)=els.all (fun e=>e.all V.pure):=by
 rcases NG z sz els with h|⟨h,c⟩
 ·rw[h,se]
 ·rw[c,h];rfl
end
def UC(L:Mem)(S:List Nat)(sz:Nat)(v:V)(els:List (List V)):Prop:=(els=[]∧v= .aL)∨(els≠[]∧∃s∈S,∃ver,0<ver∧v= .ref 0 (.o s) ver sz 0 els.length∧ax L (.o s)=⟨ver,sz,els,false⟩)
theorem X3{L M:Mem}{S:List Nat}{sz:Nat}{v:V}{els:List (List V)}(h:UC L S sz v els)(e:∀s∈S,ax M (.o s)=ax L (.o s)):UC M S sz v els:=by
 rcases h with h|⟨h,s,hs,ver,j,g,c⟩
 ·exact .inl h
 ·exact .inr ⟨h,s,hs,ver,j,g,by rw[e s hs,c]⟩
theorem I4{L:Mem}{S:List Nat}{sz:Nat}{v:V}{els:List (List V)}(h:UC L S sz v els):V.shift 0 v=v:=by
 rcases h with⟨_,rfl⟩|⟨_,_,_,_,_,rfl,_⟩<;>rfl
theorem RU{L:Mem}{S:List Nat}{sz:Nat}{v:V}{els:List (List V)}(h:UC L S sz v els):AQ v=some (.i els.length):=by
 rcases h with⟨rfl,rfl⟩|⟨_,_,_,_,_,rfl,_⟩<;>rfl
theorem aa6{L:Mem}{S:List Nat}{s sz bytes:Nat}{v:V}{els:List (List V)}(h:UC L S sz v els)(hS:s+1∈S)(hl:els.length<=1000000)(A:bytes<=16384){x:List V}(hx:x.length=sz)(hs:x.all V.scalar=true):
  ∃s'∈S,∃w' j,(∀(M:Mem)(H:List Mem),(∀s∈S,ax M (.o s)=ax L (.o s))->DJ (M::H) (s+1) sz bytes v (.sl .any sz [x])=some (.ref 0 (.o s') w' sz 0 (els.length+1),bu M (.o s') j))∧∀M:Mem,ax M (.o s')=j->UC M S sz (.ref 0 (.o s') w' sz 0 (els.length+1)) (els++[x]):=by
 have hr:ug bytes (els.length+1)=true:=by simp[ug];omega
 have u:ug bytes 1=true:=by simp[ug];omega
 rcases h with⟨rfl,rfl⟩|⟨h,s',c,ver,r,rfl,l⟩
 ·refine⟨s+1,hS,(ax L (.o (s+1))).ver+1,⟨(ax L (.o (s+1))).ver+1,sz,[x],false⟩,?_,?_⟩
  ·intro M H e
   simp[IP,wB,fq,u,uP,hx,e _ hS];exact fun y g=>aV.1 hs y g
  ·intro M e
   exact .inr ⟨by simp,s+1,hS,_,jA _,rfl,e⟩
 ·refine⟨s',c,ver+1,⟨ver+1,sz,els++[x],false⟩,?_,?_⟩
  ·intro M H e
   simp[IQ,wB,e _ c,l,r,hr,uP,hx,Mem.ok];exact fun y g=>aV.1 hs y g
  ·intro M e
   exact .inr ⟨by simp,s',c,_,jA _,by simp,e⟩
theorem KT{A B:List Row}{q:Nat}{r:Row}(h:q<A.length):dE (A++B) q r=dE A q r++B:=by
 induction A generalizing q with
 |nil=>simp at h
 |cons a A c=>
  cases q with
  |zero=>rfl
  |succ q=>
   simp only[aW,dE];rw[c (by simpa using h)]
structure Yx(D0:List Row)(q b:Nat)(M:Mem)(x0:V)(es:List Ev)(k:Nat):Prop where
 b:M.b=b
 D:M.D=dE D0 q (kF k)++es.flatMap (rE true false)
 A:UC M [6,7,8] 13 x0 (gY (sE true) (rE true false) D0.length es)
theorem Yx.own{D0:List Row}{q b:Nat}{M c:Mem}{x0:V}{es:List Ev}{k:Nat}(h:Yx D0 q b M x0 es k)(g:c.b=M.b)(j:c.D=M.D)(e:∀s∈[6,7,8],ax c (.o s)=ax M (.o s)):Yx D0 q b c x0 es k:=
 ⟨g.trans h.b,j.trans h.D,X3 h.A e⟩
def MB(D0:List Row)(es:List Ev):Nat:=D0.length+(es.flatMap (rE true false)).length
def MC(D0:List Row)(q:Nat)(es:List Ev)(k:Nat):List Row:=dE D0 q (kF k)++es.flatMap (rE true false)
theorem aer{D0:List Row}{q k:Nat}{es:List Ev}(c:q<D0.length):(MC D0 q es k).length=MB D0 es:=by
 unfold MC MB;rw[aF,fw];omega
theorem Wo{D0:List Row}{q k:Nat}{es:List Ev}(c:q<D0.length):eP (MC D0 q es k) q=kF k:=by
 unfold MC;rw[Ch (by rw[fw];omega),cK,aX rfl]
theorem Wp{D0:List Row}{q k k':Nat}{es:List Ev}(c:q<D0.length):dE (MC D0 q es k) q (kF k')=MC D0 q es k':=by
 unfold MC;rw[KT (by rw[fw];omega),iq]
theorem Wq{D0:List Row}{q k:Nat}{es:List Ev}{e:Ev}:MC D0 q es k++rE true false e=MC D0 q (es++[e]) k:=by
 unfold MC;rw[bH,aC];simp
theorem Ws{D0:List Row}{q b k:Nat}{es:List Ev}{x:It}{lg dt fi:Int}(ok:tQ x)(c:q<D0.length)(u:b<=q)(l:k<=1000000){L:Mem}(j:L.D=MC D0 q es k)(A:L.b=b):
  call bn 66 [.ptr 0 (.g q) 1 0 0,.agg x.v,.agg [.i lg,.i dt],.i fi] (L::H)=some (.agg (sE true (MB D0 es) (x.KR (k+1:Nat) lg dt fi)),some (MC D0 q (es++[x.KR (k+1:Nat) lg dt fi]) (k+1))):=by
 have r:ax L (.g q)=kF k:=by
  show eP L.D q=_;rw[j];exact Wo c
 have hl:L.D.length=MB D0 es:=by rw[j,aer c]
 have:=c66 (H:=H) (lg:=lg) (dt:=dt) (fi:=fi) ok r (by omega) l (by rw[hl];unfold MB;omega);rw[this,hl,j,Wp c,Wq]
theorem NI{D0:List Row}{q b k:Nat}{es:List Ev}(c:q<D0.length)(u:b<=q)(r:k<=1000000){L:Mem}(j:L.D=MC D0 q es k)(A:L.b=b):
  call bn 12 [.ptr 0 (.g q) 1 0 0] (L::H)=some (.agg [.i 1,.i (k+1:Nat)],some (MC D0 q es (k+1))):=by
 have l:ax L (.g q)=kF k:=by
  show eP L.D q=_;rw[j];exact Wo c
 rw[c12 l (by omega) (by omega),j,Wp c]
theorem UD{D0:List Row}{q b k s:Nat}{es:List Ev}{e:Ev}{M:Mem}{x0:V}(I:Yx D0 q b M x0 es k)(hs:s+1∈[6,7,8])(hl:es.length<=1000):
  ∃s'∈[6,7,8],∃w' g,(∀(c:Mem)(H:List Mem),(∀s∈[6,7,8],ax c (.o s)=ax M (.o s))->DJ (c::H) (s+1) 13 152 x0 (.sl .any 13 [sE true (MB D0 es) e])=some (.ref 0 (.o s') w' 13 0 (es.length+1),bu c (.o s') g))∧∀(c:Mem)k',c.b=b->c.D=MC D0 q (es++[e]) k'->ax c (.o s')=g->Yx D0 q b c (.ref 0 (.o s') w' 13 0 (es.length+1)) (es++[e]) k':=by
 obtain⟨B,A,l⟩:=I;obtain⟨s',j,w',g,a1,a2⟩:=aa6 (bytes:=152) l hs (by rw[fE];omega) (by omega) (x:=sE true (MB D0 es) e) (uA true _ e).1 (FC true _ e);rw[fE]at a1 a2;refine⟨s',j,w',g,a1,fun c k' b1 u r=>⟨b1,u,?_⟩⟩;rw[FB];exact a2 c r
def It.lg(x:It):Int:=1+x.vl%4
def It.dt(x:It):Int:=x.vl/4%2
def It.tri(x:It)(k:Int):It:=⟨k,x.vl,(x.pt+2*k)%256,x.mo,x.ti,x.ma⟩
theorem It.aa7{x:It}(ok:tQ x){k:Int}(u:0<=k∧k<=2):tQ (x.tri k):=by
 obtain⟨r,j,l,g,c⟩:=ok;exact⟨by show 0<=k∧k<=255;omega,j,by show 0<=(x.pt+2*k)%256∧(x.pt+2*k)%256<=255;omega,g,c⟩
def AZ(x:It)(k:Nat)(fi:Int)(j:Nat):Ev:=(x.tri j).KR (k+1:Nat) x.lg 0 fi
def Ag(x:It)(k:Nat)(fi:Int)(n:Nat):List Ev:=(List.range n).map fun j=>AZ x (k+j) fi j
theorem X4{x:It}{k:Nat}{fi:Int}{n:Nat}:Ag x k fi (n+1)=Ag x k fi n++[AZ x (k+n) fi n]:=by
 unfold Ag;rw[gK,aR];rfl
theorem t38{cX:eu}(qG:cX=sb 38 44){fr:List V}{M:Mem}{K:List KI}{R:Option (V×Option (List Row))}{x:It}{l:List It}{D0:List Row}{q b k i v3:Nat}{fi:Int}{es:List Ev}{x0 tv:V}{z:Bool}(ok:tQ x)(hi:l[i]? =some x)
  (h0:ag fr 0= .ptr 0 (.g q) 1 0 0)(h1:ag fr 1=AL z 6 (l.map It.v))(h3:ag fr 3= .i fi)(h9:ag fr 9= .ptr 0 (.o 2) 1 0 0)(jg:ag fr 11= .i i)(lT:ag fr 12= .ptr 0 (.o 3) v3 0 0)(tJ:ag fr 15= .i 0)
  (J:ax M (.o 2)=⟨1,2,[[x0,tv]],false⟩)(ji:ax M (.o 3)=⟨v3,2,[[.i x.lg,.i 0]],false⟩)(hv3:0<v3)(I:Yx D0 q b M x0 es k)(hq:q<D0.length)(hb:b<=q)(hk:k+3<=1000000)(hl:es.length<=900)
  (done:∀fr' u x1,(∀m,m<15∨(17<=m∧m<=82)->ag fr' m=ag fr m)->(∀n,n∈[1,3,4]->ax u (.o n)=ax M (.o n))->ax u (.o 2)=⟨1,2,[[x1,tv]],false⟩->Yx D0 q b u x1 (es++Ag x k fi 3) (k+3)->G bn H false [.cell 8 true 2] K fr' u=R):
  G bn H false [.cell 8 true 2] (.code (.loop cX):: .blk 2::K) fr M=R:=by
 subst qG;conv in sb _ _=>reduce
 simp only[↓zo,zp,seval];refine bI (fun j fr' u=>(∀m,m<15∨(17<=m∧m<=82)->ag fr' m=ag fr m)∧ag fr' 15= .i j∧(∀n,n∈[1,3,4]->ax u (.o n)=ax M (.o n))∧∃x1,ax u (.o 2)=⟨1,2,[[x1,tv]],false⟩∧Yx D0 q b u x1 (es++Ag x k fi j) (k+j)) 3 ⟨fun m _=>rfl,tJ,fun n _=>rfl,x0,J,by rw[show Ag x k fi 0=[]from rfl,bz];exact I⟩ ?_ ?_
 ·clear done J I
  rintro j lV M1 hj ⟨B,F,hM,x1,J,I⟩ next
  have g0:=(B 0 (by omega)).trans h0;have g1:=(B 1 (by omega)).trans h1;have g3:=(B 3 (by omega)).trans h3;have g9:=(B 9 (by omega)).trans h9;have yM:=(B 11 (by omega)).trans jg;have Yy:=(B 12 (by omega)).trans lT;have m3:=(hM 3 (by simp)).trans ji;clear h0 h1 h3 h9 jg lT tJ;have lj:(Ag x k fi j).length<=3:=by unfold Ag;rw[aG,Jd];omega
  rw[X4,<-aC]at next
  have Mh:(es++Ag x k fi j).length<=1000:=by rw[aF];omega
  generalize es++Ag x k fi j=C at*;have hkj:k+(j+1)=k+j+1:=rfl;rw[hkj]at next
  unfold AZ at next
  have Yo:k+j<=1000000:=by omega
  generalize k+j=Z at*;have T:tQ (x.tri j):=It.aa7 ok (by omega);have hID:=I.D;have U:=I.b;have c:=fun Y X r3 W H=>Ws (H:=H) (L:=bu (bu (bu (bu M1 (.o 5) Y) (.o 5) X) (.o 5) r3) (.o 5) W) (lg:=x.lg) (dt:=0) (fi:=fi) T hq hb Yo (es:=C) (by simp only[cz];exact hID) (by simp only[eG];exact U);obtain⟨s',r,w',r',a1,a2⟩:=UD (s:=5) (e:=(x.tri j).KR (Z+1:Nat) x.lg 0 fi) I (by simp) Mh;have ap:=fun D b Y X r3 W H=>a1 ⟨D,(bu (bu (bu (bu M1 (.o 5) Y) (.o 5) X) (.o 5) r3) (.o 5) W).O,b⟩ H (by
   intro s hs;show ax (bu (bu (bu (bu M1 (.o 5) Y) (.o 5) X) (.o 5) r3) (.o 5) W) (.o s)=_;have:(5=s)=False:=by simp;rintro rfl;simp at hs
   simp only[ay,Ix.o.injEq,this,bZ])
  have a3:=fun u=>a2 u (Z+1);clear a2;have sx:=I4 I.A;have n1:(1=s')=False:=by simp at r;simp;omega
  have n2:(2=s')=False:=by simp at r;simp;omega
  have n3:(3=s')=False:=by simp at r;simp;omega
  have n4:(4=s')=False:=by simp at r;simp;omega
  have n5:(s'=2)=False:=by simp at r;simp;omega
  have n6:(s'=1)=False:=by simp at r;simp;omega
  have n7:(s'=3)=False:=by simp at r;simp;omega
  have n8:(s'=4)=False:=by simp at r;simp;omega
  have e1:=(x.tri j).sz.1;have wk:IntKind.u8.wrap (j:Int)=j:=Qd (by omega);have wk2:IntKind.u8.wrap (2*(j:Int))=2*j:=Qd (by omega);have wk3:IntKind.u8.wrap (x.pt+2*(j:Int))=(x.pt+2*(j:Int))%256:=rfl;have Q:=x.sz.1;have N:=x.sz.2;have x4:=x.tk;have x5:=x.sc;generalize (x.tri j).KR (Z+1:Nat) x.lg 0 fi=e at*;have E1:=(uA true (MB D0 C) e).1;have E2:=FD true (MB D0 C) e;have E3:=FC true (MB D0 C) e;have E4:=Ei true (MB D0 C) e;have sh:=fun L=>Ac L true (MB D0 C) e;generalize sE true (MB D0 C) e=E at*;generalize MC D0 q (C++[e]) (Z+1)=D' at*;unfold It.v It.tri at c;unfold It.v at Q N x4 x5;dsimp only at c;have Rt:(l.map It.v)[i]? =some [.int .u8 x.kd,.int .u8 x.vl,.int .u8 x.pt,.int .u8 x.mo,.bool x.ti,.int .u16 x.ma]:=by rw[aK,hi];rfl
  clear ji ok T hi lj a1;generalize l.map It.v=lv at*;simp(disch:=omega) only[↓zd,seval,push_cast,g0,g1,g3,g9,yM,Yy,F,J,m3,Rt,Q,N,x4,x5,c,wk,wk2,wk3,uB,nK,qg,jR,sh,lZ,E1,E2,E3,E4,sx,ap,n1,n2,n3,n4,n5,hv3];refine next _ _ ⟨fun m hm=> ?_,?_,fun n hn=> ?_,_,?_,a3 _ ?_ ?_ ?_⟩
  ·rw[<-B m hm]
   simp(disch:=omega) only[bU,bY]
  ·simp only[↓zg,seval]
   rfl
  ·rw[<-hM n hn]
   simp only[ed,jI,Be]at hn;rcases hn with rfl|rfl|rfl<;>simp only[ay,dM,reduceCtorEq,Ix.o.injEq,Nat.reduceEqDiff,eZ,fJ,fK,↓reduceIte,n1,n3,n4,n5,n6,n7,n8]
  ·simp only[ay,dM,reduceCtorEq,Ix.o.injEq,Nat.reduceEqDiff,↓reduceIte]
  ·simp only[eG]
   exact U
  ·simp only[cz]
  ·simp only[ay,Ix.o.injEq,n2,↓reduceIte]
 ·rintro lV M1 ⟨B,F,hM,x1,J,I⟩
  simp(disch:=omega) only[↓zd,seval,push_cast,F];refine done _ _ x1 (fun m hm=> ?_) hM J I;rw[<-B m hm];simp(disch:=omega) only[bU]
structure Bd where
 es:List Ev
 tu:List Int
 lf:Int
 k:Nat
def Bd.NJ(fi:Int)(b:Bd)(x:It):Bd:=
 if x.kd%8=6 then
  if b.lf<2*tk x.lg 0 then b else⟨b.es++Ag x b.k fi 3,b.tu++[(b.es.length:Int)],b.lf-2*tk x.lg 0,b.k+3⟩
 else if b.lf<tk x.lg x.dt then b else⟨b.es++[x.KR (b.k+1:Nat) x.lg x.dt fi],b.tu,b.lf-tk x.lg x.dt,b.k+1⟩
def oo(fi len:Int)(k:Nat)(l:List It):Bd:=(l.take 8).foldl (Bd.NJ fi) ⟨[],[],len,k⟩
theorem aa8{x:It}(ok:tQ x):(∃u:Nat,(1<=u∧u<=24)∧tk x.lg x.dt=60480*u)∧∃u:Nat,(1<=u∧u<=24)∧tk x.lg 0=60480*u:=by
 have h:=ok.vl;have g:x.lg=1∨x.lg=2∨x.lg=3∨x.lg=4:=by unfold It.lg;omega
 have c:x.dt=0∨x.dt=1:=by unfold It.dt;omega
 generalize x.lg=lg at*;generalize x.dt=dt at*;rcases g with rfl|rfl|rfl|rfl<;>rcases c with rfl|rfl
 ·exact⟨⟨16,by omega,rfl⟩,⟨16,by omega,rfl⟩⟩
 ·exact⟨⟨24,by omega,rfl⟩,⟨16,by omega,rfl⟩⟩
 ·exact⟨⟨8,by omega,rfl⟩,⟨8,by omega,rfl⟩⟩
 ·exact⟨⟨12,by omega,rfl⟩,⟨8,by omega,rfl⟩⟩
 ·exact⟨⟨4,by omega,rfl⟩,⟨4,by omega,rfl⟩⟩
 ·exact⟨⟨6,by omega,rfl⟩,⟨4,by omega,rfl⟩⟩
 ·exact⟨⟨2,by omega,rfl⟩,⟨2,by omega,rfl⟩⟩
 ·exact⟨⟨3,by omega,rfl⟩,⟨2,by omega,rfl⟩⟩
theorem KU{x:It}{k:Nat}{fi:Int}{n:Nat}:(Ag x k fi n).length=n:=by unfold Ag;rw[aG,Jd]
structure BdB(b:Bd)(i k0:Nat):Prop where
 lf:∃u:Nat,u<=32∧b.lf=60480*u
 es:b.es.length<=3*i
 tu:b.tu.length<=i
 k:b.k=k0+b.es.length
theorem Bd.aga{fi:Int}{b:Bd}{x:It}{i k0:Nat}(h:BdB b i k0)(ok:tQ x):BdB (b.NJ fi x) (i+1) k0:=by
 obtain⟨⟨u,c,j⟩,C,B,g⟩:=h;obtain⟨⟨w,A,w1⟩,⟨w',l,r⟩⟩:=aa8 ok;unfold Bd.NJ;split
 ·split
  ·exact⟨⟨u,c,j⟩,by omega,by omega,g⟩
  ·refine⟨⟨u-2*w',by omega,?_⟩,?_,?_,?_⟩
   ·dsimp only;omega
   ·dsimp only;rw[List.length_append,KU];omega
   ·dsimp only;rw[List.length_append];simp;omega
   ·dsimp only;rw[List.length_append,KU];omega
 ·split
  ·exact⟨⟨u,c,j⟩,by omega,by omega,g⟩
  ·refine⟨⟨u-w,by omega,?_⟩,?_,by dsimp only;omega,?_⟩
   ·dsimp only;omega
   ·dsimp only;rw[List.length_append];simp;omega
   ·dsimp only;rw[List.length_append];simp;omega
theorem I5{fi:Int}{k0:Nat}:∀(l:List It)(b:Bd)(i:Nat),(∀x∈l,tQ x)->BdB b i k0->BdB (l.foldl (Bd.NJ fi) b) (i+l.length) k0:=by
 intro l;induction l with
 |nil=>intro b i _ h;exact h
 |cons x l c=>
  intro b i hx h;have:=c _ _ (fun y g=>hx y (dD _ g)) (Bd.aga (fi:=fi) h (hx x (gH ..)));rw[jG,aS,show i+(l.length+1)=i+1+l.length from by omega];exact this
theorem Ah{L:Mem}{s sz:Nat}{v:V}{els:List (List V)}(h:sF L s sz v els):V.shift 0 v=v:=by
 rcases h with⟨_,rfl⟩|⟨_,_,_,rfl,_⟩<;>rfl
structure VI(D0:List Row)(q b0:Nat)(fr:List V)(M:Mem)(b:Bd)(x0 tv:V):Prop where
 f10:ag fr 10= .i b.lf
 R1:ax M (.o 1)=⟨1,2,[[.aL,.aL]],false⟩
 R2:ax M (.o 2)=⟨1,2,[[x0,tv]],false⟩
 A:sF M 4 4 tv (b.tu.map Tv)
 I:Yx D0 q b0 M x0 b.es b.k
theorem l38{cX:eu}(qG:cX=sb 38 11){fr:List V}{M:Mem}{K:List KI}{R:Option (V×Option (List Row))}{l:List It}{D0:List Row}{q b0 k0:Nat}{fi len:Int}{u0:Nat}{x0 tv:V}{z:Bool}(ok:∀x∈l,tQ x)(Qg:l.length<=9223372036854775807)
  (h0:ag fr 0= .ptr 0 (.g q) 1 0 0)(h1:ag fr 1=AL z 6 (l.map It.v))(h3:ag fr 3= .i fi)(h8:ag fr 8= .ptr 0 (.o 1) 1 0 0)(h9:ag fr 9= .ptr 0 (.o 2) 1 0 0)(jg:ag fr 11= .i 0)
  (hq:q<D0.length)(hb:b0<=q)(hk:k0<=900000)(hu:u0<=32)(Y:len=60480*u0)
  (I:VI D0 q b0 fr M ⟨[],[],len,k0⟩ x0 tv)
  (done:∀fr' Z x1 F,(∀m,m<10->ag fr' m=ag fr m)->VI D0 q b0 fr' Z (oo fi len k0 l) x1 F->G bn H false [.cell 8 true 2] K fr' Z=R):
  G bn H false [.cell 8 true 2] (.code (.loop cX):: .blk 0::K) fr M=R:=by
 subst qG;conv in sb _ _=>reduce
 simp only[↓zo,zp,seval];refine bI (fun i fr' Z=>(∀m,m<10->ag fr' m=ag fr m)∧ag fr' 11= .i i∧∃x1 F,VI D0 q b0 fr' Z ((l.take i).foldl (Bd.NJ fi) ⟨[],[],len,k0⟩) x1 F) (l.take 8).length ⟨fun m _=>rfl,jg,x0,tv,by rw[fZ];exact I⟩ ?_ ?_
 ·clear done I jg
  rintro i lV J hi ⟨j,r,x1,F,I⟩ next
  rw[bf]at hi;have g0:=(j 0 (by omega)).trans h0;have g1:=(j 1 (by omega)).trans h1;have g3:=(j 3 (by omega)).trans h3;have g8:=(j 8 (by omega)).trans h8;have g9:=(j 9 (by omega)).trans h9;clear h0 h1 h3 h8 h9;obtain⟨x,hx⟩:∃x,l[i]? =some x:=⟨_,ak (by omega)⟩
  have FW:=ok x (ah hx);have hB:BdB ((l.take i).foldl (Bd.NJ fi) ⟨[],[],len,k0⟩) i k0:=by
   have:=I5 (fi:=fi) (k0:=k0) (l.take i) ⟨[],[],len,k0⟩ 0 (fun y hy=>ok y (fH hy)) ⟨⟨u0,hu,Y⟩,by simp,by simp,by simp⟩;rw[bf]at this;rwa[show 0+min i l.length=i from by omega]at this
  rw[aY,hx,eQ,kG]at next
  change∀fr' Z,((∀m,m<10->ag fr' m=ag fr m)∧ag fr' 11= .i (i+1:Nat)∧∃x1 F,VI D0 q b0 fr' Z (Bd.NJ fi _ x) x1 F)->_ at next
  generalize (l.take i).foldl (Bd.NJ fi) ⟨[],[],len,k0⟩=b at*;obtain⟨⟨u,hu',Vl⟩,Mh,htu,hbk⟩:=hB;obtain⟨f10,R1,R2,A,I⟩:=I;have hi8:i<8:=by omega
  have He:i<l.length:=by omega
  have okv:=FW.vl;have lg1:1<=x.lg∧x.lg<=4:=by unfold It.lg;omega
  have dt1:0<=x.dt∧x.dt<=1:=by unfold It.dt;omega
  obtain⟨⟨w,hw,w1⟩,⟨w',hw',w2⟩⟩:=aa8 FW;have cT:=fun H=>c65 (H:=H) (lg:=x.lg) (dt:=x.dt) (by omega) (by omega);have C:=fun H=>c65 (H:=H) (lg:=x.lg) (dt:=0) (by omega) (by omega);have e1:1+x.vl%4=x.lg:=rfl;have e2:x.vl/4%2=x.dt:=rfl;have t1:x.vl.tmod 4=x.vl%4:=dP okv.1;have t2:x.vl.tdiv 4=x.vl/4:=jM okv.1;have t3:(x.vl/4).tmod 2=x.vl/4%2:=dP (by omega);have t4:x.kd.tmod 8=x.kd%8:=dP FW.kd.1;have z2:zK [[.i 0,.i 0]] [.i 0,.i 0]=true:=rfl;have T:=x.sz.1;have Q:=x.sz.2;have x4:=x.tk;have x5:=x.sc;have v0:x.v[0]? =some (.int .u8 x.kd):=rfl;have v1:x.v[1]? =some (.int .u8 x.vl):=rfl;have Rt:(l.map It.v)[i]? =some x.v:=by rw[aK,hx];rfl
  have hlv:(l.map It.v).length=l.length:=aG _;have sx:=I4 I.A;have sx2:=Ah A;rw[show x.lg=1+x.vl%4 from rfl]at cT C;rw[show x.dt=x.vl/4%2 from rfl]at cT;by_cases h6:x.kd%8=6
  ·obtain⟨n0,hn0⟩:∃n0,tk (1+x.vl%4) 0=n0:=⟨_,rfl⟩
   have aa4:tk x.lg 0=n0:=hn0;rw[aa4]at w2;rw[hn0]at C;have aBB:(l.map It.v).length=l.length:=hlv;by_cases hn:b.lf<2*n0
   ·have hs:b.NJ fi x=b:=by unfold Bd.NJ;rw[aX h6,aa4,aX hn]
    rw[hs]at next
    generalize l.map It.v=lv at*;clear ok e1 e2;simp(disch:=omega) only[↓zd,seval,push_cast,kW,uB,nK,g0,g1,g3,g8,g9,r,f10,R1,R2,Rt,hlv,T,Q,x4,x5,v0,v1,t1,t2,t3,t4,cT,C,z2,jZ,iZ,h6,hn];refine next _ _ ⟨fun m hm=> ?_,?_,x1,F,?_,?_,?_,?_,?_⟩
    ·rw[<-j m hm]
     simp(disch:=omega) only[bU,bY]
    ·simp only[↓zg,seval]
     rfl
    ·simp only[↓zg,seval,f10]
    ·simp only[ay,reduceCtorEq,Ix.o.injEq,Nat.reduceEqDiff,↓reduceIte,R1]
    ·simp only[ay,reduceCtorEq,Ix.o.injEq,Nat.reduceEqDiff,↓reduceIte,R2]
    ·exact qz A (by simp only[ay,reduceCtorEq,Ix.o.injEq,Nat.reduceEqDiff,↓reduceIte])
    ·exact I.own (by simp only[eG]) (by simp only[cz]) (fun s hs=>by
      have:(3=s)=False:=by simp;rintro rfl;simp at hs
      simp only[ay,Ix.o.injEq,this,bZ])
   ·have hs:b.NJ fi x=⟨b.es++Ag x b.k fi 3,b.tu++[(b.es.length:Int)],b.lf-2*n0,b.k+3⟩:=by unfold Bd.NJ;rw[aX h6,aa4,aP hn]
    rw[hs]at next
    have KV:=RU I.A;rw[fE]at KV;have N:=fun W U r3 H=>lN (H:=H) (M:=bu (bu (bu J (.o 3) W) (.o 3) U) (.o 3) r3) (bytes:=32) (s:=3) A (by simp only[ay,reduceCtorEq,Ix.o.injEq,Nat.reduceEqDiff,↓reduceIte]) (by rw[aG];omega) (by omega) (x:=Tv b.es.length) rfl rfl;have hTl:(b.tu.map Tv).length=b.tu.length:=aG _;rw[hTl]at N;obtain⟨tvs,aov⟩:∃t,b.tu.map Tv=t:=⟨_,rfl⟩
    rw[aov]at N;unfold Tv at N;generalize hlw:l.map It.v=lv at*;clear ok e1 e2;simp(disch:=omega) only[↓zd,seval,push_cast,kW,uB,nK,g0,g1,g3,g8,g9,r,f10,R1,R2,Rt,hlv,T,Q,x4,x5,v0,v1,t1,t2,t3,t4,cT,C,z2,jZ,iZ,h6,hn,KV,sx,sx2,N];refine t38 (by kernel_rfl) (z:=z) (x:=x) (l:=l) (i:=i) (D0:=D0) (q:=q) (b:=b0) (k:=b.k) (v3:=(ax J (.o 3)).ver+1) (fi:=fi) (es:=b.es) (x0:=x1) (tv:= .ref 0 (.o 4) ((ax J (.o 4)).ver+1) 4 0 (b.tu.length+1)) FW hx ?_ ?_ ?_ ?_ ?_ ?_ ?_ ?_ ?_ (jA _) ?_ hq hb (by omega) (by omega) ?_
    ·simp only[↓zg,seval,g0]
    ·simp only[↓zg,seval,g1]
     rw[hlw]
    ·simp only[↓zg,seval,g3]
    ·simp only[↓zg,seval,g9]
    ·simp only[↓zg,seval,r]
    ·simp only[↓zg,seval]
    ·simp only[↓zg,seval]
    ·simp only[ay,reduceCtorEq,Ix.o.injEq,Nat.reduceEqDiff,↓reduceIte]
    ·simp only[ay,reduceCtorEq,Ix.o.injEq,Nat.reduceEqDiff,↓reduceIte]
     rfl
    ·exact I.own (by simp only[eG]) (by simp only[cz]) (fun s hs=>by
      have h3:(3=s)=False:=by simp;rintro rfl;simp at hs
      have h4:(4=s)=False:=by simp;rintro rfl;simp at hs
      have h2:(2=s)=False:=by simp;rintro rfl;simp at hs
      simp only[ay,Ix.o.injEq,h2,h3,h4,bZ])
    ·intro fr2 M2 x2 gI NK KL I2
     have k10:ag fr2 10= .i b.lf:=(gI 10 (by omega)).trans (by simp only[↓zg,seval,f10]);have k11:ag fr2 11= .i i:=(gI 11 (by omega)).trans (by simp only[↓zg,seval,r]);have k13:ag fr2 13= .i n0:=(gI 13 (by omega)).trans (by simp only[↓zg,seval]);have XI:=NK 1 (by simp);have hr4:=NK 4 (by simp);simp only[ay,reduceCtorEq,Ix.o.injEq,Nat.reduceEqDiff,↓reduceIte,eZ,fJ,fK]at XI hr4;rw[R1]at XI;have vL:∀m,m<10->ag fr2 m=ag fr m:=fun m hm=>by
      rw[gI m (by omega),<-j m hm];simp(disch:=omega) only[bU,bY]
     clear gI NK I A N j;simp(disch:=omega) only[↓zd,seval,push_cast,k10,k11,k13];refine next _ _ ⟨fun m hm=> ?_,?_,x2,_,?_,XI,KL,?_,I2⟩
     ·rw[<-vL m hm]
      simp(disch:=omega) only[bU,bY]
     ·simp only[↓zg,seval]
      rfl
     ·simp only[↓zg,seval]
     ·refine .inr ⟨by simp,(ax J (.o 4)).ver+1,jA _,by simp,?_⟩
      rw[hr4,aR,aov];rfl
  ·obtain⟨n1,CE⟩:∃n1,tk (1+x.vl%4) (x.vl/4%2)=n1:=⟨_,rfl⟩
   have ajo:tk x.lg x.dt=n1:=CE;rw[ajo]at w1;rw[CE]at cT;have h6':(x.kd%8=6)=False:=ru h6;by_cases hn:b.lf<n1
   ·have hs:b.NJ fi x=b:=by unfold Bd.NJ;rw[aP h6,ajo,aX hn]
    rw[hs]at next
    generalize l.map It.v=lv at*;clear ok e1 e2;simp(disch:=omega) only[↓zd,seval,push_cast,kW,uB,nK,g0,g1,g3,g8,g9,r,f10,R1,R2,Rt,hlv,T,Q,x4,x5,v0,v1,t1,t2,t3,t4,cT,C,z2,jZ,iZ,h6',hn];refine next _ _ ⟨fun m hm=> ?_,?_,x1,F,?_,?_,?_,?_,?_⟩
    ·rw[<-j m hm]
     simp(disch:=omega) only[bU,bY]
    ·simp only[↓zg,seval]
     rfl
    ·simp only[↓zg,seval,f10]
    ·simp only[ay,reduceCtorEq,Ix.o.injEq,Nat.reduceEqDiff,↓reduceIte,R1]
    ·simp only[ay,reduceCtorEq,Ix.o.injEq,Nat.reduceEqDiff,↓reduceIte,R2]
    ·exact qz A (by simp only[ay,reduceCtorEq,Ix.o.injEq,Nat.reduceEqDiff,↓reduceIte])
    ·exact I.own (by simp only[eG]) (by simp only[cz]) (fun s hs=>by
      have:(3=s)=False:=by simp;rintro rfl;simp at hs
      simp only[ay,Ix.o.injEq,this,bZ])
   ·have hs:b.NJ fi x=⟨b.es++[x.KR (b.k+1:Nat) x.lg x.dt fi],b.tu,b.lf-n1,b.k+1⟩:=by unfold Bd.NJ;rw[aP h6,ajo,aP hn]
    rw[hs]at next
    have hID:=I.D;have hIb:=I.b;have c:∀W U H,call bn 66 [.ptr 0 (.g q) 1 0 0,.agg x.v,.agg [.i (1+x.vl%4),.i (x.vl/4%2)],.i fi] (bu (bu J (.o 3) W) (.o 3) U::H)=_:=fun W U H=>Ws (H:=H) (L:=bu (bu J (.o 3) W) (.o 3) U) (lg:=x.lg) (dt:=x.dt) (fi:=fi) FW hq hb (by omega) (es:=b.es) (k:=b.k) (by simp only[cz];exact hID) (by simp only[eG];exact hIb);obtain⟨s',B,w'',r',a1,a2⟩:=UD (s:=6) (e:=x.KR (b.k+1:Nat) x.lg x.dt fi) I (by simp) (by omega);have ap:=fun D b W U H=>a1 ⟨D,(bu (bu J (.o 3) W) (.o 3) U).O,b⟩ H (by
     intro s hs;show ax (bu (bu J (.o 3) W) (.o 3) U) (.o s)=_;have:(3=s)=False:=by simp;rintro rfl;simp at hs
     simp only[ay,Ix.o.injEq,this,bZ])
    have a3:=fun Z=>a2 Z (b.k+1);clear a2 a1;have n1':(1=s')=False:=by simp at B;simp;omega
    have n2':(2=s')=False:=by simp at B;simp;omega
    have n4':(4=s')=False:=by simp at B;simp;omega
    have n5':(s'=2)=False:=by simp at B;simp;omega
    have n6':(s'=1)=False:=by simp at B;simp;omega
    have n8':(s'=4)=False:=by simp at B;simp;omega
    generalize x.KR (b.k+1:Nat) x.lg x.dt fi=e at*;have E1:=(uA true (MB D0 b.es) e).1;have E2:=FD true (MB D0 b.es) e;have E3:=FC true (MB D0 b.es) e;have E4:=Ei true (MB D0 b.es) e;have sh:=fun L=>Ac L true (MB D0 b.es) e;generalize sE true (MB D0 b.es) e=E at*;generalize MC D0 q (b.es++[e]) (b.k+1)=D' at*;generalize l.map It.v=lv at*;clear ok e1 e2;simp(disch:=omega) only[↓zd,seval,push_cast,kW,uB,nK,g0,g1,g3,g8,g9,r,f10,R1,R2,Rt,hlv,T,Q,x4,x5,v0,v1,t1,t2,t3,t4,cT,C,z2,jZ,iZ,h6',hn,c,qg,jR,sh,lZ,E1,E2,E3,E4,sx,ap,n1',n2',n4',n5',n6',n8'];refine next _ _ ⟨fun m hm=> ?_,?_,_,F,?_,?_,?_,?_,a3 _ ?_ ?_ ?_⟩
    ·rw[<-j m hm]
     simp(disch:=omega) only[bU,bY]
    ·simp only[↓zg,seval]
     rfl
    ·simp only[↓zg,seval]
    ·simp only[ay,dM,reduceCtorEq,Ix.o.injEq,Nat.reduceEqDiff,↓reduceIte,R1,n1',n6',eZ,fJ,fK]
    ·simp only[ay,dM,reduceCtorEq,Ix.o.injEq,Nat.reduceEqDiff,↓reduceIte]
    ·exact qz A (by simp only[ay,dM,reduceCtorEq,Ix.o.injEq,Nat.reduceEqDiff,↓reduceIte,n4',n8'])
    ·simp only[eG]
     exact hIb
    ·simp only[cz]
    ·simp only[ay,Ix.o.injEq,n2',↓reduceIte]
 ·rintro lV J ⟨j,r,x1,F,I⟩
  have g1:=(j 1 (by omega)).trans h1;have hlv:(l.map It.v).length=l.length:=aG _;have X:(l.take (l.take 8).length)=l.take 8:=by rw[bf,<-nQ,aO (i:=l.length) (by omega)]
  rw[X]at I;change VI D0 q b0 lV J (oo fi len k0 l) x1 F at I;rw[bf]at r;have d:=done;clear done ok X h0 h3 h8 h9 jg;have f10:=I.f10;have fin:∀fr2,(∀m,m<11->ag fr2 m=ag lV m)->G bn H false [.cell 8 true 2] K fr2 J=R:=fun fr2 h=>d fr2 J x1 F (fun m hm=>(h m (by omega)).trans (j m hm)) ⟨(h 10 (by omega)).trans f10,I.R1,I.R2,I.A,I.I⟩;clear d I j f10 h1 Y;generalize l.map It.v=lv at*;by_cases h8:8<=l.length
  ·rw[eH h8]at r
   rcases jq 8 l.length with h9|h9
   ·simp(disch:=omega) only[↓zd,seval,push_cast,kW,g1,r,hlv]
    refine fin _ fun m hm=> ?_;simp(disch:=omega) only[bU,bY]
   ·simp(disch:=omega) only[↓zd,seval,push_cast,kW,g1,r,hlv]
    refine fin _ fun m hm=> ?_;simp(disch:=omega) only[bU,bY]
  ·rw[Nat.min_eq_right (by omega)]at r
   simp(disch:=omega) only[↓zd,seval,push_cast,kW,g1,r,hlv];refine fin _ fun m hm=> ?_;simp(disch:=omega) only[bU,bY]
def zC(k:Int)(p:Int×Int):Ev:=⟨k,2,p.1,p.2,[],[],0,0,0,[]⟩
def mU(k:Nat)(d:List (Int×Int)):List Ev:=d.mapIdx fun i p=>zC (k+i+1:Nat) p
theorem KW{k i:Nat}{d:List (Int×Int)}{p:Int×Int}(h:d[i]? =some p):mU k (d.take (i+1))=mU k (d.take i)++[zC (k+i+1:Nat) p]:=by
 unfold mU;rw[aY,h,eQ,List.mapIdx_append];have:(d.take i).length=i:=by rw[bf];have:=(au.1 h).1;omega
 simp[this]
theorem r38{cX:eu}(qG:cX=sb 38 87){fr:List V}{M:Mem}{K:List KI}{R:Option (V×Option (List Row))}{d:List (Int×Int)}{D0:List Row}{q b k:Nat}{es:List Ev}{x0 tv:V}
  (h0:ag fr 0= .ptr 0 (.g q) 1 0 0)(h9:ag fr 9= .ptr 0 (.o 2) 1 0 0)(Y:ag fr 17=cu 2 (d.map Iw))(lW:ag fr 19= .i 0)
  (J:ax M (.o 2)=⟨1,2,[[x0,tv]],false⟩)(I:Yx D0 q b M x0 es k)(hq:q<D0.length)(hb:b<=q)(hk:k+d.length<=1000000)(hl:es.length+d.length<=900)
  (done:∀fr' u x1,(∀m,m<17->ag fr' m=ag fr m)->(∀n,n∈[1,4]->ax u (.o n)=ax M (.o n))->ax u (.o 2)=⟨1,2,[[x1,tv]],false⟩->Yx D0 q b u x1 (es++mU k d) (k+d.length)->G bn H false [.cell 8 true 2] K fr' u=R):
  G bn H false [.cell 8 true 2] (.code (.loop cX):: .blk 4::K) fr M=R:=by
 subst qG;conv in sb _ _=>reduce
 simp only[↓zo,zp,seval];refine bI (fun j fr' u=>(∀m,m<18->ag fr' m=ag fr m)∧ag fr' 19= .i j∧(∀n,n∈[1,4]->ax u (.o n)=ax M (.o n))∧∃x1,ax u (.o 2)=⟨1,2,[[x1,tv]],false⟩∧Yx D0 q b u x1 (es++mU k (d.take j)) (k+j)) d.length ⟨fun m _=>rfl,lW,fun n _=>rfl,x0,J,by rw[fZ,show mU k []=[]from rfl,bz];exact I⟩ ?_ ?_
 ·clear done J I
  rintro j lV Z hj ⟨F,B,U,x1,J,I⟩ next
  have g0:=(F 0 (by omega)).trans h0;have g9:=(F 9 (by omega)).trans h9;have C:=(F 17 (by omega)).trans Y;clear h0 h9 Y lW;obtain⟨p,hp⟩:∃p,d[j]? =some p:=⟨_,ak hj⟩
  have lj:(mU k (d.take j)).length<=d.length:=by unfold mU;rw[dJ,bf];omega
  rw[KW hp,<-aC]at next
  have Mh:(es++mU k (d.take j)).length<=1000:=by rw[aF];omega
  generalize es++mU k (d.take j)=N at*;have T:k+(j+1)=k+j+1:=rfl;rw[T]at next
  have Yo:k+j<=1000000:=by omega
  generalize k+j=r at*;have c:=fun H=>NI (H:=H) (L:=Z) hq hb Yo (es:=N) I.D I.b;obtain⟨s',l,w',r',a1,a2⟩:=UD (s:=7) (e:=zC (r+1:Nat) p) I (by simp) Mh;have ap:=fun D b H=>a1 ⟨D,Z.O,b⟩ H (by
   intro s hs;rfl)
  have W:MC D0 q N (r+1)=MC D0 q (N++[zC (r+1:Nat) p]) (r+1):=by
   rw[<-Wq];exact(bz _).symm
  have X:=I.b;have a3:=fun u=>a2 u (r+1);clear a2;have sx:=I4 I.A;have n1:(1=s')=False:=by simp at l;simp;omega
  have n2:(2=s')=False:=by simp at l;simp;omega
  have n4:(4=s')=False:=by simp at l;simp;omega
  have n5:(s'=2)=False:=by simp at l;simp;omega
  have n6:(s'=1)=False:=by simp at l;simp;omega
  have n7:(s'=3)=False:=by simp at l;simp;omega
  have n8:(s'=4)=False:=by simp at l;simp;omega
  have hE:sE true (MB D0 N) (zC (r+1:Nat) p)=[.i 1,.i (r+1:Nat),.i 2,.i p.1,.i p.2,.aL,.aL,.i 0,.i 0,.i 0,.aL,.i 0,.i 0]:=rfl;rw[hE]at ap;have sh:=fun L=>Ac L true (MB D0 N) (zC (r+1:Nat) p);rw[hE]at sh;have E4:[V.i 1,V.i (r+1:Nat),.i 2,.i p.1,.i p.2,.aL,.aL,.i 0,.i 0,.i 0,.aL,.i 0,.i 0].all V.gL=true:=rfl;generalize ((r+1:Nat):Int)=kk at*;have Q:(d.map Iw)[j]? =some [.i p.1,.i p.2]:=by rw[aK,hp];rfl
  have hlv:(d.map Iw).length=d.length:=aG _;rw[W]at c;generalize MC D0 q (N++[zC kk p]) (r+1)=D' at*;generalize d.map Iw=lv at*;simp(disch:=omega) only[↓zd,seval,push_cast,g0,g9,C,B,J,Q,hlv,c,qg,jR,sh,lZ,E4,sx,ap,n1,n2,n4,n5];refine next _ _ ⟨fun m hm=> ?_,?_,fun n hn=> ?_,_,?_,a3 _ ?_ ?_ ?_⟩
  ·rw[<-F m hm]
   simp(disch:=omega) only[bU,bY]
  ·simp only[↓zg,seval]
   rfl
  ·rw[<-U n hn]
   simp only[ed,jI,Be]at hn;rcases hn with rfl|rfl<;>simp only[ay,dM,reduceCtorEq,Ix.o.injEq,Nat.reduceEqDiff,eZ,fJ,fK,↓reduceIte,n1,n4,n5,n6,n8]
  ·simp only[ay,dM,reduceCtorEq,Ix.o.injEq,Nat.reduceEqDiff,↓reduceIte]
  ·simp only[eG]
   exact X
  ·simp only[cz]
  ·simp only[ay,Ix.o.injEq,n2,↓reduceIte]
 ·rintro lV Z ⟨F,B,U,x1,J,I⟩
  have C:=(F 17 (by omega)).trans Y;rw[aT]at I;have hlv:(d.map Iw).length=d.length:=aG _;generalize d.map Iw=lv at*;simp(disch:=omega) only[↓zd,seval,push_cast,C,B,hlv];refine done _ _ x1 (fun m hm=> ?_) U J I;rw[<-F m (by omega)];simp(disch:=omega) only[bU]
def ME(y:Ev)(p:P3):Bool:=decide (y.kd=1)&&y.hs.any fun h=>h.p.eq p
theorem aoy(a b:P3):dN [.int,.int,.int] a.v b.v=some (a.eq b):=by simp[P3.v,dN,P3.eq]
theorem Hd.el5(h:Hd):h.v.length=5∧h.v.take 3=h.p.v∧h.v.drop 0=h.v:=⟨rfl,rfl,rfl⟩
theorem aa9{α:Type}{p:α->Bool}{l:List α}{i:Nat}{x:α}(h:l[i]? =some x):(l.drop i).any p=(p x||(l.drop (i+1)).any p):=by
 rw[kE h,List.any_cons]
theorem c40{L:Mem}{y:Ev}{n:Nat}{p:P3}(hl:y.hs.length<=1000)(hr:y.hs≠[]->ax L (.g n)=⟨y.hs.length,5,y.hs.map Hd.v,false⟩):call bn 40 [.agg (sE true n y),.agg p.v] (L::H)=some (.bool (ME y p),none):=by
 have F:=(uA true n y).1;have e2:=(uA true n y).2;have N:=FD true n y;have e4:=FC true n y;have e5:(sE true n y)[2]? =some (.i y.kd):=rfl;have j:(sE true n y)[5]? =some (yL true n y.hs):=rfl;have W:=p.sz.1;have U:=p.tk;have T:=p.sc;have R:=p.sz.2;have AU:y.hs≠[]->ax (Ht.start true (L::H)) (.g n)=⟨y.hs.length,5,y.hs.map Hd.v,false⟩:=hr;unfold ME;have hO:∀i,ax (Ht.start true (L::H)) (.o i)=⟨0,0,[],false⟩:=fun i=>jB;refine(av (show bn 40=some a40 from by kernel_rfl)).trans ?_;unfold a40;generalize Ht.start true (L::H)=L0 at*;generalize sE true n y=E at*;rcases yE y.hs with hn|⟨a,t,hn⟩
 ·rw[hn]at j⊢
  unfold yL at j;rw[aX rfl]at j;simp(disch:=omega) only[↓zd,seval,push_cast,↓ik,F,e2,N,e4,j,W,U,T,R,List.any_nil]
 ·have Y:y.hs≠[]:=by rw[hn];simp
  have C:=AU Y;have Z:0<y.hs.length:=dB.2 Y;unfold yL at j;rw[aP Y]at j;rw[aX rfl]at j;clear hn hr AU Y;generalize y.hs=hs at*;generalize y.kd=kd at*;have xK:(hs.map Hd.v).length=hs.length:=aG _;simp(disch:=omega) only[↓zd,seval,push_cast,F,e2,N,e4,W,U,T,R,hO];obtain⟨B,X⟩:∃B,(decide (kd=1)&&hs.any fun h=>h.p.eq p)=B:=⟨_,rfl⟩
  rw[X];refine bI (fun i fr' O=>ag fr' 2= .ptr 0 (.o 1) 1 0 0∧ag fr' 3= .ptr 0 (.o 2) 1 0 0∧ag fr' 5= .i i∧ax O (.o 1)=⟨1,13,[E],false⟩∧ax O (.o 2)=⟨1,3,[p.v],false⟩∧ax O (.g n)=⟨hs.length,5,hs.map Hd.v,false⟩∧B=(decide (kd=1)&&(hs.drop i).any fun h=>h.p.eq p)) hs.length ?_ ?_ ?_
  ·refine⟨?_,?_,?_,?_,?_,?_,by rw[dH,X]⟩
   (all_goals try simp only[↓zg,seval]);all_goals try first|rfl|trivial|(simp only[zr,seval];done)
   all_goals (first|done|(simp only[ay,reduceCtorEq,bZ];exact C)|skip)
  ·rintro i fr' O hi ⟨A,u,K,r,l,rg,c⟩ next
   obtain⟨h,hh⟩:∃h,hs[i]? =some h:=⟨_,ak hi⟩
   rw[aa9 hh]at c;have q1:=h.el5.1;have q2:=h.el5.2.1;have q3:=h.p.sz.1;have q4:=h.p.sc;have q6:=h.p.sz.2;have q7:=h.sz.2;have Q:=aoy h.p p;have J:(hs.map Hd.v)[i]? =some h.v:=by rw[aK,hh];rfl
   clear C X;by_cases I:kd=1
   ·cases hq:h.p.eq p
    ·rw[hq]at Q c
     rw[iK]at c;generalize h.p.v=hp at*;generalize h.v=hv at*;generalize p.v=pv at*;simp(disch:=omega) only[↓zd,seval,push_cast,A,u,K,r,l,rg,F,N,e5,j,Z,q1,q2,q3,q4,Q,q6,q7,W,U,T,R,J,xK,I,eqGuard];refine next _ _ ⟨?_,?_,?_,?_,?_,?_,c⟩
     (all_goals try simp only[↓zg,seval,A,u,r,l,rg]);all_goals try first|rfl|trivial|(simp only[zr,seval,A,u,r,l,rg];done)
    ·rw[hq]at Q c
     rw[I]at c;have hB1:B=true:=by rw[c];rfl
     generalize h.p.v=hp at*;generalize h.v=hv at*;generalize p.v=pv at*;simp(disch:=omega) only[↓zd,seval,push_cast,A,u,K,r,l,rg,F,N,e5,j,Z,q1,q2,q3,q4,Q,q6,q7,W,U,T,R,J,xK,I,eqGuard,hB1]
   ·have Qy:(kd=1)=False:=ru I
    have hE':B=(decide (kd=1)&&(hs.drop (i+1)).any fun h=>h.p.eq p):=by rw[c,fB I];rfl
    simp(disch:=omega) only[↓zd,seval,push_cast,A,u,K,r,l,rg,F,N,e5,j,Z,xK,Qy];refine next _ _ ⟨?_,?_,?_,?_,?_,?_,hE'⟩
    (all_goals try simp only[↓zg,seval,A,u,r,l,rg]);all_goals try first|rfl|trivial|(simp only[zr,seval,A,u,r,l,rg];done)
  ·rintro fr' O ⟨A,u,K,r,l,rg,c⟩
   rw[c,dZ,List.any_nil,mh];clear c X C;simp(disch:=omega) only[↓zd,seval,push_cast,A,u,K,r,l,rg,F,e2,j,Z]
def mrE(k:Int):Ev:=⟨k,3,0,0,[],[],0,0,0,[]⟩
def Bd.dcs(b:Bd):List (Int×Int):=Lp (64*(b.lf/60480).toNat) (64*(b.lf/60480).toNat)
def Bd.vo(b:Bd):Vo:=if b.es=[]then⟨[mrE (b.k+1:Nat)],[]⟩else⟨b.es++mU b.k b.dcs,b.tu⟩
def Bd.kk(b:Bd):Nat:=if b.es=[]then b.k+1 else b.k+b.dcs.length
def mkV(fi len:Int)(k:Nat)(l:List It):Vo:=(oo fi len k l).vo
def PH(fi len:Int)(k:Nat)(l:List It):Nat:=(oo fi len k l).kk
theorem c38{L:Mem}{l:List It}{q k u0:Nat}{fi:Int}{z:Bool}(ok:∀x∈l,tQ x)(Qg:l.length<=9223372036854775807)(hr:ax L (.g q)=kF k)(hq:L.b<=q)(hk:k<=900000)(hu:u0<=32):
  call bn 38 [.ptr 0 (.g q) 1 0 0,AL z 6 (l.map It.v),.i (60480*u0:Nat),.i fi] (L::H)=some (.agg (sV true L.D.length (mkV fi (60480*u0:Nat) k l)),some (dE L.D q (kF (PH fi (60480*u0:Nat) k l))++rV true false (mkV fi (60480*u0:Nat) k l))):=by
 have N:q<L.D.length:=gX hr (by simp[kF]);have hD:(Ht.start false (L::H)).D=L.D:=rfl;have hB:(Ht.start false (L::H)).b=L.b:=rfl;have hO:∀i,ax (Ht.start false (L::H)) (.o i)=⟨0,0,[],false⟩:=fun i=>jB;refine(av (by conv=>lhs;reduce)).trans ?_;simp only[↓zo,zp,seval];generalize Ht.start false (L::H)=L0 at*;have lm:0<=((60480*u0:Nat):Int)∧((60480*u0:Nat):Int)<=1935360:=by omega
 obtain⟨len,B⟩:∃len:Int,((60480*u0:Nat):Int)=len:=⟨_,rfl⟩
 rw[B]at lm⊢;obtain⟨lv,hlv⟩:∃lv,AL z 6 (l.map It.v)=lv:=⟨_,rfl⟩
 rw[hlv];simp(disch:=omega) only[↓zd,seval,push_cast,hO];refine l38 (by kernel_rfl) (z:=z) (l:=l) (D0:=L.D) (q:=q) (b0:=L.b) (k0:=k) (fi:=fi) (len:=len) (u0:=u0) (x0:= .aL) (tv:= .aL) ok Qg ?_ ?_ ?_ ?_ ?_ ?_ N hq hk hu (by omega) ?_ ?_
 ·simp only[↓zg,seval]
  rfl
 ·simp only[↓zg,seval]
  exact hlv.symm
 ·simp only[↓zg,seval]
  rfl
 ·simp only[↓zg,seval]
 ·simp only[↓zg,seval]
 ·simp only[↓zg,seval]
 ·refine⟨?_,?_,?_,.inl ⟨rfl,rfl⟩,?_,?_,.inl ⟨rfl,rfl⟩⟩
  ·simp only[↓zg,seval]
  ·simp only[ay,hO,reduceCtorEq,Ix.o.injEq,Nat.reduceEqDiff,↓reduceIte,fJ,fK,eZ]
  ·simp only[ay,hO,reduceCtorEq,Ix.o.injEq,Nat.reduceEqDiff,↓reduceIte]
  ·simp only[eG];exact hB
  ·simp only[cz,dK,bz]
   rw[Ae hr N];exact hD
 ·intro U M1 x1 T Q I
  have g0:ag U 0= .ptr 0 (.g q) 1 0 0:=(Q 0 (by omega)).trans (by simp only[↓zg,seval];rfl);have g8:ag U 8= .ptr 0 (.o 1) 1 0 0:=(Q 8 (by omega)).trans (by simp only[↓zg,seval]);have O:ag U 9= .ptr 0 (.o 2) 1 0 0:=(Q 9 (by omega)).trans (by simp only[↓zg,seval]);clear Q;have hBd:BdB (oo fi len k l) 8 k:=by
   have:=I5 (fi:=fi) (k0:=k) (l.take 8) ⟨[],[],len,k⟩ 0 (fun y hy=>ok y (fH hy)) ⟨⟨u0,hu,by rw[<-B];exact Int.natCast_mul 60480 u0⟩,by simp,by simp,by simp⟩;have h8:0+(l.take 8).length<=8:=by rw[bf];omega
   exact⟨this.lf,eO this.es (by omega),eO this.tu h8,this.k⟩
  unfold mkV PH;generalize oo fi len k l=b at*;obtain⟨⟨u,Z,Vl⟩,Mh,htu,hbk⟩:=hBd;obtain⟨f10,R1,R2,A,I⟩:=I;have hIb:=I.b;have R:=RU I.A;rw[fE]at R;have sx:=I4 I.A;by_cases C:b.es=[]
  ·have W:x1= .aL:=by
    rcases I.A with⟨_,h⟩|⟨h,_⟩
    ·exact h
    ·rw[C]at h;exact absurd rfl h
   subst W;unfold Bd.vo Bd.kk;rw[aX C,aX C];have c:=fun H=>NI (H:=H) (L:=M1) N hq (by omega) (k:=b.k) (es:=b.es) I.D I.b;unfold MC at c;simp only[C,dK,bz]at c;clear R sx I A;generalize ((b.k+1:Nat):Int)=kk at*;have hE:sV true L.D.length ⟨[mrE kk],[]⟩=[.sl .any 13 [[.i 1,.i kk,.i 3,.i 0,.i 0,.aL,.aL,.i 0,.i 0,.i 0,.aL,.i 0,.i 0]],.aL]:=rfl;have hV:rV true false ⟨[mrE kk],[]⟩=[]:=rfl;have sh:∀L,kJ L [.i 1,.i kk,.i 3,.i 0,.i 0,.aL,.aL,.i 0,.i 0,.i 0,.aL,.i 0,.i 0]=some ([.i 1,.i kk,.i 3,.i 0,.i 0,.aL,.aL,.i 0,.i 0,.i 0,.aL,.i 0,.i 0],L):=fun L=>Ac L true 0 (mrE kk);have E4:[V.i 1,.i kk,.i 3,.i 0,.i 0,.aL,.aL,.i 0,.i 0,.i 0,.aL,.i 0,.i 0].all V.gL=true:=rfl;rw[hE,hV,bz];generalize dE L.D q (kF (b.k+1))=D' at*;simp(disch:=omega) only[↓zd,seval,push_cast,g0,g8,O,R1,R2,c,qg,jR,sh,lZ,E4]
  ·have hd:b.dcs=Lp (64*u) (64*u):=by
    unfold Bd.dcs;rw[show(b.lf/60480).toNat=u by omega]
   unfold Bd.vo Bd.kk;rw[aP C,aP C,hd];have hdl:(Lp (64*u) (64*u)).length<=32:=by
    have h1:=PG u;have h2:=(KS (64*u) (64*u) (aJ _) h1.1).2.2;omega
   have hz:b.lf=((60480*u:Nat):Int):=by omega
   have F:=fun H=>c67 (H:=H) Z;rw[hz]at f10;have hz0:0<=((60480*u:Nat):Int):=by omega
   clear hz hd Vl;generalize ((60480*u:Nat):Int)=z at*;generalize Lp (64*u) (64*u)=d at*;have UG:0<b.es.length:=dB.2 C;simp(disch:=omega) only[↓zd,seval,push_cast,g0,g8,O,f10,R1,R2,R,sx,F];refine r38 (by kernel_rfl) (d:=d) (D0:=L.D) (q:=q) (b:=L.b) (k:=b.k) (es:=b.es) (x0:=x1) (tv:=T) ?_ ?_ ?_ ?_ R2 I N hq (by omega) (by omega) ?_
   ·simp only[↓zg,seval,g0]
   ·simp only[↓zg,seval,O]
   ·simp only[↓zg,seval]
   ·simp only[↓zg,seval]
   ·intro fr2 M2 x2 gI NK J I2
    have k8:ag fr2 8= .ptr 0 (.o 1) 1 0 0:=(gI 8 (by omega)).trans (by simp only[↓zg,seval,g8]);have k9:ag fr2 9= .ptr 0 (.o 2) 1 0 0:=(gI 9 (by omega)).trans (by simp only[↓zg,seval,O]);have K:=(NK 1 (by simp)).trans R1;have A':=qz A (NK 4 (by simp));have AJ:=I2.D;rw[show(b.es++mU b.k d).flatMap (rE true false)=rV true false ⟨b.es++mU b.k d,b.tu⟩from rfl]at AJ;rw[<-AJ];have ajq:(b.es++mU b.k d)≠[]:=fun h=>C (List.append_eq_nil_iff.1 h).1;have Qj:(b.es++mU b.k d).length<=1000:=by
     unfold mU;rw[aF,dJ];omega
    have gl:=CG (Ei true) (r:=rE true false) (b.es++mU b.k d) L.D.length;have hA:=I2.A;have AX:(gY (sE true) (rE true false) L.D.length (b.es++mU b.k d)).length=(b.es++mU b.k d).length:=fE _ _;have Sy:gY (sE true) (rE true false) L.D.length (b.es++mU b.k d)≠[]:=fun h=>by
     rw[h]at AX;exact ajq (eF.1 AX.symm)
    unfold sV;dsimp only;clear gI NK I2 I A AJ F R R2 R1;generalize gY (sE true) (rE true false) L.D.length (b.es++mU b.k d)=X at*;rcases hA with⟨h,_⟩|⟨_,s',j,ver,hv,rfl,h5⟩
    ·exact absurd h Sy
    have n4:(4=s')=False:=by simp at j;simp;omega
    have n6:(s'=1)=False:=by simp at j;simp;omega
    have n1:(1=s')=False:=by simp at j;simp;omega
    have n8:(s'=4)=False:=by simp at j;simp;omega
    rw[jO Sy];rcases A' with⟨ht0,rfl⟩|⟨htn,ank,F5,rfl,h6⟩
    ·rw[ht0,gF]
     simp(disch:=omega) only[↓zd,seval,push_cast,k8,k9,K,J,h5,hv,Px,Ad,o9,AR,nD,jR,kJ,tO,xe,gl,dH,aT,n1,n4,n6,n8]
    ·have gl2:(b.tu.map Tv).all (fun e=>e.all V.gL)=true:=KF (enc:=Tv) (fun _=>rfl) _
     rw[jO htn];generalize b.tu.map Tv=Y at*;simp(disch:=omega) only[↓zd,seval,push_cast,k8,k9,K,J,h5,hv,h6,F5,Px,Ad,o9,AR,nD,jR,kJ,tO,gl,gl2,dH,aT,n1,n4,n6,n8]
structure Ba where
 mt:Int
 ky:Int
 fl:Int
 te:Int
 zv:Bool
 vs:List (Bool×List It)
def Lw(l:Bool×List It):List V:=[AL l.1 6 (l.2.map It.v)]
def Ba.v(b:Ba):List V:=[.int .u8 b.mt,.int .u8 b.ky,.int .u8 b.fl,.int .u8 b.te,AL b.zv 1 (b.vs.map Lw)]
structure yG(b:Ba):Prop where
 mt:0<=b.mt∧b.mt<=255
 ky:0<=b.ky∧b.ky<=255
 fl:0<=b.fl∧b.fl<=255
 te:0<=b.te∧b.te<=255
 vs:∀l∈b.vs,l.2.length<=9223372036854775807∧∀x∈l.2,tQ x
 ln:b.vs.length<=9223372036854775807
theorem Ba.sz(b:Ba):b.v.length=5∧∀d,V.bW d b.v=b.v:=⟨rfl,fun d=>by simp only[Ba.v,V.bW,V.shift,nK]⟩
theorem Ba.tk(b:Ba):b.v.take 5=b.v:=rfl
theorem Ba.sc(b:Ba):b.v.all V.scalar=true:=by
 show(true&&(true&&(true&&(true&&(V.scalar (AL b.zv 1 (b.vs.map Lw))&&true)))))=true;rw[NH];rfl
theorem Lw.sz(l:Bool×List It):(Lw l).length=1∧∀d,V.bW d (Lw l)=Lw l:=⟨rfl,fun d=>by simp only[Lw,V.bW,V.shift,nK]⟩
def Ba.vz(b:Ba)(j:Nat):Bool×List It:=(b.vs[j]?).getD (false,[])
def Ba.vl(b:Ba)(j:Nat):List It:=(b.vz j).2
def PI(fi len:Int)(b:Ba)(i:Nat)(st:List Vo×Nat)(j:Nat):List Vo×Nat:=if j=0∨b.vl (2*i+j)≠[]then(st.1++[mkV fi len st.2 (b.vl (2*i+j))],PH fi len st.2 (b.vl (2*i+j)))else st
def I6(fi len:Int)(b:Ba)(i k n:Nat):List Vo×Nat:=(List.range n).foldl (PI fi len b i) ([],k)
theorem zD(fi len:Int)(b:Ba)(i k n:Nat):I6 fi len b i k (n+1)=PI fi len b i (I6 fi len b i k n) n:=by
 unfold I6;rw[gK,kG];rfl
theorem aa'{fi:Int}{k u:Nat}{l:List It}(ok:∀x∈l,tQ x)(j:u<=32):k<=PH fi (60480*u:Nat) k l∧PH fi (60480*u:Nat) k l<=k+57:=by
 have:=I5 (fi:=fi) (k0:=k) (l.take 8) ⟨[],[],(60480*u:Nat),k⟩ 0 (fun y g=>ok y (fH g)) ⟨⟨u,j,Int.natCast_mul 60480 u⟩,by simp,by simp,by simp⟩;have B:0+(l.take 8).length<=8:=by rw[bf];omega
 obtain⟨⟨w,A,c⟩,r,F,C⟩:=this;unfold PH Bd.kk oo;generalize (l.take 8).foldl (Bd.NJ fi) _=b at*;split
 ·omega
 ·unfold Bd.dcs
  rw[show(b.lf/60480).toNat=w by omega];have c:=PG w;have r:=(KS (64*w) (64*w) (aJ _) c.1).2.2;omega
theorem Ba.aba{b:Ba}(ok:yG b)(j:Nat):(b.vl j).length<=9223372036854775807∧∀x∈b.vl j,tQ x:=by
 unfold Ba.vl Ba.vz;cases h:b.vs[j]?with
 |none=>simp
 |some l=>exact ok.vs l (ah h)
theorem ajr{fi:Int}{b:Ba}(ok:yG b){i j u:Nat}{st:List Vo×Nat}(c:u<=32):st.2<=(PI fi (60480*u:Nat) b i st j).2∧(PI fi (60480*u:Nat) b i st j).2<=st.2+57:=by
 unfold PI;split
 ·exact aa' (Ba.aba ok _).2 c
 ·omega
theorem Wt{fi:Int}{b:Ba}(ok:yG b){i k u:Nat}(c:u<=32):∀n,k<=(I6 fi (60480*u:Nat) b i k n).2∧(I6 fi (60480*u:Nat) b i k n).2<=k+57*n:=by
 intro n;induction n with
 |zero=>exact⟨aJ _,aJ _⟩
 |succ n g=>
  rw[zD];have:=ajr (fi:=fi) ok (i:=i) (j:=n) (st:=I6 fi (60480*u:Nat) b i k n) c;omega
theorem Wu{fi len:Int}{b:Ba}{i k:Nat}:∀n,(I6 fi len b i k n).1.length<=n:=by
 intro n;induction n with
 |zero=>exact aJ _
 |succ n c=>
  rw[zD];unfold PI;split
  ·simp;omega
  ·omega
def kD(D0:List Row)(q k:Nat)(R:List Row):List Row:=dE D0 q (kF k)++R
theorem abb{D0 R:List Row}{q k:Nat}(c:q<D0.length):(kD D0 q k R).length=D0.length+R.length:=by
 unfold kD;rw[aF,fw];omega
theorem UH{D0 R:List Row}{q k:Nat}(c:q<D0.length):eP (kD D0 q k R) q=kF k:=by
 unfold kD;rw[Ch (by rw[fw];omega),cK,aX rfl]
theorem abd{D0 R:List Row}{q k k':Nat}(c:q<D0.length):dE (kD D0 q k R) q (kF k')=kD D0 q k' R:=by
 unfold kD;rw[KT (by rw[fw];omega),iq]
theorem ajs{D0 R R':List Row}{q k:Nat}:kD D0 q k R++R'=kD D0 q k (R++R'):=aC ..
theorem ajt{D0 R:List Row}{q b k:Nat}(c:q<D0.length)(u:b<=q)(r:k<=1000000){L:Mem}(j:L.D=kD D0 q k R)(A:L.b=b):
  call bn 12 [.ptr 0 (.g q) 1 0 0] (L::H)=some (.agg [.i 1,.i (k+1:Nat)],some (kD D0 q (k+1) R)):=by
 have l:ax L (.g q)=kF k:=by
  show eP L.D q=_;rw[j];exact UH c
 rw[c12 l (by omega) (by omega),j,abd c]
theorem avj{D0 R:List Row}{q b k u:Nat}{fi:Int}{l:List It}{z:Bool}(ok:∀x∈l,tQ x)(C:l.length<=9223372036854775807)(c:q<D0.length)(F:b<=q)(A:k<=900000)(r:u<=32){L:Mem}(j:L.D=kD D0 q k R)(I:L.b=b):
  call bn 38 [.ptr 0 (.g q) 1 0 0,AL z 6 (l.map It.v),.i (60480*u:Nat),.i fi] (L::H)=some (.agg (sV true (D0.length+R.length) (mkV fi (60480*u:Nat) k l)),some (kD D0 q (PH fi (60480*u:Nat) k l) (R++rV true false (mkV fi (60480*u:Nat) k l)))):=by
 have B:ax L (.g q)=kF k:=by
  show eP L.D q=_;rw[j];exact UH c
 have hl:L.D.length=D0.length+R.length:=by rw[j,abb c]
 rw[c38 ok C B (by omega) A r,hl,j,abd c,ajs]
theorem v14{cX:eu}(qG:cX=sb 14 26){fr:List V}{M:Mem}{K:List KI}{T:Option (V×Option (List Row))}{b:Ba}{D0 R:List Row}{q b0 k i v4 u:Nat}{fi:Int}{m:Me}{xm:V}(ok:yG b)(V3:m.fi=fi)
  (h0:ag fr 0= .ptr 0 (.g q) 1 0 0)(h4:ag fr 4= .ptr 0 (.o 1) 1 0 0)(h7:ag fr 7= .ptr 0 (.o 3) 1 0 0)(h8:ag fr 8= .i (60480*u:Nat))(iQ:ag fr 10= .i i)(jg:ag fr 11= .ptr 0 (.o 4) v4 0 0)(lT:ag fr 12= .i 0)
  (gG:ax M (.o 1)=⟨1,5,[b.v],false⟩)(ji:ax M (.o 3)=⟨1,22,[m.vc xm],false⟩)(B:ax M (.o 4)=⟨v4,2,[[.aL,.aL]],false⟩)(YA:0<v4)
  (hD:M.D=kD D0 q k R)(Y:M.b=b0)(hq:q<D0.length)(hb:b0<=q)(hk:k<=800000)(hu:u<=32)(hi:i<=1000)
  (done:∀fr' C x1,(∀m,m<12->ag fr' m=ag fr m)->(∀n,n∈[1,2,3,6]->ax C (.o n)=ax M (.o n))->ax C (.o 4)=⟨v4,2,[[.aL,x1]],false⟩->sF C 5 2 x1 (gY (sV true) (rV true false) (D0.length+R.length) (I6 fi (60480*u:Nat) b i k 2).1)->C.b=b0->C.D=kD D0 q (I6 fi (60480*u:Nat) b i k 2).2 (R++(I6 fi (60480*u:Nat) b i k 2).1.flatMap (rV true false))->G bn H false [.cell 6 true 22] K fr' C=T):
  G bn H false [.cell 6 true 22] (.code (.loop cX):: .blk 2::K) fr M=T:=by
 subst qG;conv in sb _ _=>reduce
 simp only[↓zo,zp,seval];refine bI (fun j fr' C=>(∀m,m<12->ag fr' m=ag fr m)∧ag fr' 12= .i j∧(∀n,n∈[1,2,3,6]->ax C (.o n)=ax M (.o n))∧∃x1,ax C (.o 4)=⟨v4,2,[[.aL,x1]],false⟩∧sF C 5 2 x1 (gY (sV true) (rV true false) (D0.length+R.length) (I6 fi (60480*u:Nat) b i k j).1)∧C.b=b0∧C.D=kD D0 q (I6 fi (60480*u:Nat) b i k j).2 (R++(I6 fi (60480*u:Nat) b i k j).1.flatMap (rV true false))) 2 ⟨fun m _=>rfl,lT,fun n _=>rfl,.aL,B,.inl ⟨rfl,rfl⟩,Y,by rw[hD];exact eU (kD D0 q k) (bz _).symm⟩ ?_ ?_
 ·clear done B hD Y
  rintro j lV M1 hj ⟨r,Yy,W,x1,B,A,Y,hD⟩ next
  have g0:=(r 0 (by omega)).trans h0;have g4:=(r 4 (by omega)).trans h4;have g7:=(r 7 (by omega)).trans h7;have g8:=(r 8 (by omega)).trans h8;have uo:=(r 10 (by omega)).trans iQ;have yM:=(r 11 (by omega)).trans jg;have r1:=(W 1 (by simp)).trans gG;have r3:=(W 3 (by simp)).trans ji;clear h0 h4 h7 h8 iQ jg lT gG ji;have hkb:=Wt (fi:=fi) ok (i:=i) (k:=k) hu j;have Tc:=Wu (fi:=fi) (len:=(60480*u:Nat)) (b:=b) (i:=i) (k:=k) j;rw[zD]at next
  generalize I6 fi (60480*u:Nat) b i k j=st at*;obtain⟨vs,k1⟩:=st;dsimp only at A hD hkb Tc;have U:=Ba.aba ok (2*i+j);have b1:=b.sz.1;have b2:=b.sz.2;have b5:b.v[4]? =some (AL b.zv 1 (b.vs.map Lw)):=rfl;have m1:(m.vc xm).length=22:=rfl;have m2:(m.vc xm)[11]? =some (.i m.fi):=rfl;rw[V3]at m2;have F:(b.vs.map Lw).length=b.vs.length:=aG _;have Mr:(2*(i:Int)+(j:Int)).toNat=2*i+j:=by omega
  have Q:(0<=2*(i:Int)+(j:Int))=True:=by simp;omega
  have sx:=Ah A;have hbl:=ok.ln;have hX:(gY (sV true) (rV true false) (D0.length+R.length) vs).length<=1000000:=by rw[fE];omega
  have c:∀H,call bn 38 [.ptr 0 (.g q) 1 0 0,AL (b.vz (2*i+j)).1 6 ((b.vl (2*i+j)).map It.v),.i (60480*u:Nat),.i fi] (M1::H)=_:=fun H=>avj (H:=H) (L:=M1) (fi:=fi) U.2 U.1 hq hb (by omega) hu hD Y;rw[aC,aF,<-jd]at c;generalize TK:((60480*u:Nat):Int)=len at*;unfold PI at next
  have hzv:b.vl (2*i+j)=(b.vz (2*i+j)).2:=rfl;generalize hl:b.vl (2*i+j)=l at*;obtain⟨zz,hzz⟩:∃zz,(b.vz (2*i+j)).1=zz:=⟨_,rfl⟩
  rw[hzz]at c;generalize hv:mkV fi len k1 l=v at*;have ap:=fun D H=>lN (H:=H) (M:=⟨D,M1.O,M1.b⟩) (bytes:=48) (s:=4) A rfl hX (by omega) (x:=sV true (D0.length+R.length+(vs.flatMap (rV true false)).length) v) (Hz true _ v).1 (V5 true _ v);have f1:∀M,ax M (.o 5)=⟨(ax M1 (.o 5)).ver+1,2,gY (sV true) (rV true false) (D0.length+R.length) vs++[sV true (D0.length+R.length+(vs.flatMap (rV true false)).length) v],false⟩->sF M 5 2 (.ref 0 (.o 5) ((ax M1 (.o 5)).ver+1) 2 0 ((gY (sV true) (rV true false) (D0.length+R.length) vs).length+1)) (gY (sV true) (rV true false) (D0.length+R.length) (vs++[v])):=fun M h=>by
   rw[FB];exact mJ (by omega) h
  have hDn:R++(vs++[v]).flatMap (rV true false)=R++(vs.flatMap (rV true false)++rV true false v):=by rw[bH];simp
  have g1:=(Hz true (D0.length+R.length+(vs.flatMap (rV true false)).length) v).1;have g2:=aaz true (D0.length+R.length+(vs.flatMap (rV true false)).length) v;have g3:=V5 true (D0.length+R.length+(vs.flatMap (rV true false)).length) v;have N:=Pw true (D0.length+R.length+(vs.flatMap (rV true false)).length) v;have sh:=fun L=>V6 L true (D0.length+R.length+(vs.flatMap (rV true false)).length) v;have abf:b.vs.length<=2*i+j->l=[]∧zz=false:=fun h=>by rw[<-hl,<-hzz];unfold Ba.vl Ba.vz;rw[dL h];exact⟨rfl,rfl⟩
  have abg:2*i+j<b.vs.length->(b.vs.map Lw)[2*i+j]? =some (Lw (zz,l)):=fun h=>by
   rw[aK,ak h,<-hl,<-hzz];unfold Ba.vl Ba.vz;rw[ak h];rfl
  have I:(l.map It.v).length=l.length:=aG _;have aoB:=(Lw.sz (zz,l)).2;have aBL:=U.1;clear U;by_cases hs:2*i+j<b.vs.length
  ·have hg:(b.vs.map Lw)[2*i+j]? =some [AL zz 6 (l.map It.v)]:=abg hs
   have hsi:2*(i:Int)+(j:Int)<(b.vs.length:Int):=by omega
   generalize hLV:b.vs.map Lw=LV at*;clear abg abf hLV;by_cases J:j=0
   ·rw[aX (Or.inl J)]at next
    dsimp only at next
    rw[hDn]at next
    generalize R++(vs.flatMap (rV true false)++rV true false v)=R' at*;generalize gY (sV true) (rV true false) (D0.length+R.length) (vs++[v])=X' at*;generalize hXX:gY (sV true) (rV true false) (D0.length+R.length) vs=X at*;generalize sV true (D0.length+R.length+(vs.flatMap (rV true false)).length) v=E at*;have Z:((j:Int)=0)=True:=by simp;omega
    clear aoB
    ·simp(disch:=omega) only[↓zd,seval,push_cast,kW,uB,nK,g0,g4,g7,g8,uo,yM,Yy,r1,r3,B,YA,b1,b2,b5,m1,m2,F,I,Mr,Q,sx,c,qg,jR,sh,lZ,g1,g2,g3,N,ap,hg,Z,dS]
     refine next _ _ ⟨fun m hm=> ?_,?_,fun n hn=> ?_,_,?_,f1 _ ?_,?_,?_⟩
     ·rw[<-r m hm]
      simp(disch:=omega) only[bU,bY]
     ·simp only[↓zg,seval]
      rfl
     ·rw[<-W n hn]
      simp only[ed,jI,Be]at hn;rcases hn with rfl|rfl|rfl|rfl<;>simp only[ay,dM,reduceCtorEq,Ix.o.injEq,Nat.reduceEqDiff,eZ,fJ,fK,↓reduceIte]
     ·simp only[ay,dM,reduceCtorEq,Ix.o.injEq,Nat.reduceEqDiff,↓reduceIte]
     ·simp only[ay,dM,reduceCtorEq,Ix.o.injEq,Nat.reduceEqDiff,↓reduceIte]
     ·simp only[eG]
      exact Y
     ·simp only[cz]
   ·have Z:((j:Int)=0)=False:=by simp;exact J
    by_cases ajv:l=[]
    ·rw[aP (by rintro(h|h)<;>contradiction)]at next
     dsimp only at next
     subst ajv;simp(disch:=omega) only[↓zd,seval,push_cast,kW,uB,nK,g0,g4,g7,g8,uo,yM,Yy,r1,r3,B,YA,b1,b2,b5,m1,m2,F,I,Mr,Q,sx,c,qg,jR,sh,lZ,g1,g2,g3,N,ap,hg,Z,dS];refine next _ _ ⟨fun m hm=> ?_,?_,W,_,B,A,Y,hD⟩
     ·rw[<-r m hm]
      simp(disch:=omega) only[bU,bY]
     ·simp only[↓zg,seval]
      rfl
    ·rw[aX (Or.inr ajv)]at next
     dsimp only at next
     rw[hDn]at next
     generalize R++(vs.flatMap (rV true false)++rV true false v)=R' at*;generalize gY (sV true) (rV true false) (D0.length+R.length) (vs++[v])=X' at*;generalize hXX:gY (sV true) (rV true false) (D0.length+R.length) vs=X at*;generalize sV true (D0.length+R.length+(vs.flatMap (rV true false)).length) v=E at*;have UG:0<l.length:=dB.2 ajv;clear aoB;simp(disch:=omega) only[↓zd,seval,push_cast,kW,uB,nK,g0,g4,g7,g8,uo,yM,Yy,r1,r3,B,YA,b1,b2,b5,m1,m2,F,I,Mr,Q,sx,c,qg,jR,sh,lZ,g1,g2,g3,N,ap,hg,Z,UG,dS];refine next _ _ ⟨fun m hm=> ?_,?_,fun n hn=> ?_,_,?_,f1 _ ?_,?_,?_⟩
     ·rw[<-r m hm]
      simp(disch:=omega) only[bU,bY]
     ·simp only[↓zg,seval]
      rfl
     ·rw[<-W n hn]
      simp only[ed,jI,Be]at hn;rcases hn with rfl|rfl|rfl|rfl<;>simp only[ay,dM,reduceCtorEq,Ix.o.injEq,Nat.reduceEqDiff,eZ,fJ,fK,↓reduceIte]
     ·simp only[ay,dM,reduceCtorEq,Ix.o.injEq,Nat.reduceEqDiff,↓reduceIte]
     ·simp only[ay,dM,reduceCtorEq,Ix.o.injEq,Nat.reduceEqDiff,↓reduceIte]
     ·simp only[eG]
      exact Y
     ·simp only[cz]
  ·obtain⟨hn,hzf⟩:=abf (by omega)
   subst hn;rw[hzf]at c;have hsi:¬2*(i:Int)+(j:Int)<(b.vs.length:Int):=by omega
   clear abg abf;rw[dX,show AL false 6 []= .aL from rfl]at c;generalize hLV:b.vs.map Lw=LV at*;clear hLV;by_cases J:j=0
   ·rw[aX (Or.inl J)]at next
    dsimp only at next
    rw[hDn]at next
    generalize R++(vs.flatMap (rV true false)++rV true false v)=R' at*;generalize gY (sV true) (rV true false) (D0.length+R.length) (vs++[v])=X' at*;generalize hXX:gY (sV true) (rV true false) (D0.length+R.length) vs=X at*;generalize sV true (D0.length+R.length+(vs.flatMap (rV true false)).length) v=E at*;have Z:((j:Int)=0)=True:=by simp;omega
    ·simp(disch:=omega) only[↓zd,seval,push_cast,kW,uB,nK,g0,g4,g7,g8,uo,yM,Yy,r1,r3,B,YA,b1,b2,b5,m1,m2,F,I,Mr,Q,sx,c,qg,jR,sh,lZ,g1,g2,g3,N,ap,Z,dS]
     refine next _ _ ⟨fun m hm=> ?_,?_,fun n hn=> ?_,_,?_,f1 _ ?_,?_,?_⟩
     ·rw[<-r m hm]
      simp(disch:=omega) only[bU,bY]
     ·simp only[↓zg,seval]
      rfl
     ·rw[<-W n hn]
      simp only[ed,jI,Be]at hn;rcases hn with rfl|rfl|rfl|rfl<;>simp only[ay,dM,reduceCtorEq,Ix.o.injEq,Nat.reduceEqDiff,eZ,fJ,fK,↓reduceIte]
     ·simp only[ay,dM,reduceCtorEq,Ix.o.injEq,Nat.reduceEqDiff,↓reduceIte]
     ·simp only[ay,dM,reduceCtorEq,Ix.o.injEq,Nat.reduceEqDiff,↓reduceIte]
     ·simp only[eG]
      exact Y
     ·simp only[cz]
   ·have Z:((j:Int)=0)=False:=by simp;exact J
    ·rw[aP (by rintro(h|h)<;>contradiction)]at next
     dsimp only at next
     simp(disch:=omega) only[↓zd,seval,push_cast,kW,uB,nK,g0,g4,g7,g8,uo,yM,Yy,r1,r3,B,YA,b1,b2,b5,m1,m2,F,I,Mr,Q,sx,c,qg,jR,sh,lZ,g1,g2,g3,N,ap,Z,dS];refine next _ _ ⟨fun m hm=> ?_,?_,W,_,B,A,Y,hD⟩
     ·rw[<-r m hm]
      simp(disch:=omega) only[bU,bY]
     ·simp only[↓zg,seval]
      rfl
 ·rintro lV M1 ⟨r,Yy,W,x1,B,A,hB',hD'⟩
  simp(disch:=omega) only[↓zd,seval,push_cast,Yy];refine done _ _ x1 (fun m hm=> ?_) W B A hB' hD';rw[<-r m hm];simp(disch:=omega) only[bU,bY]
def X5(fi len:Int)(b:Ba)(st:List Ce×Nat)(i:Nat):List Ce×Nat:=(st.1++[⟨(I6 fi len b i st.2 2).1⟩],(I6 fi len b i st.2 2).2)
def wV(fi len:Int)(b:Ba)(k n:Nat):List Ce×Nat:=(List.range n).foldl (X5 fi len b) ([],k)
theorem CL(fi len:Int)(b:Ba)(k n:Nat):wV fi len b k (n+1)=X5 fi len b (wV fi len b k n) n:=by
 unfold wV;rw[gK,kG];rfl
theorem PK{fi:Int}{b:Ba}(ok:yG b){k u:Nat}(c:u<=32):∀n,k<=(wV fi (60480*u:Nat) b k n).2∧(wV fi (60480*u:Nat) b k n).2<=k+114*n:=by
 intro n;induction n with
 |zero=>exact⟨aJ _,aJ _⟩
 |succ n g=>
  rw[CL];have:=Wt (fi:=fi) ok (i:=n) (k:=(wV fi (60480*u:Nat) b k n).2) c 2;unfold X5;dsimp only;omega
theorem KX{fi len:Int}{b:Ba}{k:Nat}:∀n,(wV fi len b k n).1.length=n:=by
 intro n;induction n with
 |zero=>rfl
 |succ n c=>
  rw[CL];unfold X5;simp[c]
theorem abh{fi len:Int}{b:Ba}{i k:Nat}:(I6 fi len b i k 2).1≠[]:=by
 rw[zD,zD];unfold PI;rw[aX (Or.inl rfl)];split<;>simp
theorem l14{cX:eu}(qG:cX=sb 14 11){fr:List V}{M:Mem}{K:List KI}{T:Option (V×Option (List Row))}{b:Ba}{D0:List Row}{q b0 k n u:Nat}{fi:Int}{m:Me}(ok:yG b)(V3:m.fi=fi)
  (h0:ag fr 0= .ptr 0 (.g q) 1 0 0)(h2:ag fr 2= .i n)(h4:ag fr 4= .ptr 0 (.o 1) 1 0 0)(h7:ag fr 7= .ptr 0 (.o 3) 1 0 0)(h8:ag fr 8= .i (60480*u:Nat))(iQ:ag fr 10= .i 0)
  (gG:ax M (.o 1)=⟨1,5,[b.v],false⟩)(l:ax M (.o 3)=⟨1,22,[m.vc .aL],false⟩)
  (J:M.D=kD D0 q k [])(U:M.b=b0)(hq:q<D0.length)(hb:b0<=q)(hk:k<=700000)(hu:u<=32)(hn:n<=10)
  (done:∀fr' c x1,(∀m,m<10->ag fr' m=ag fr m)->(∀n,n∈[1,2]->ax c (.o n)=ax M (.o n))->ax c (.o 3)=⟨1,22,[m.vc x1],false⟩->sF c 6 2 x1 (gY (sC true) (rC true false) D0.length (wV fi (60480*u:Nat) b k n).1)->c.b=b0->c.D=kD D0 q (wV fi (60480*u:Nat) b k n).2 ((wV fi (60480*u:Nat) b k n).1.flatMap (rC true false))->G bn H false [.cell 6 true 22] K fr' c=T):
  G bn H false [.cell 6 true 22] (.code (.loop cX):: .blk 0::K) fr M=T:=by
 subst qG;conv in sb _ _=>reduce
 simp only[↓zo,zp,seval];refine bI (fun i fr' c=>(∀m,m<10->ag fr' m=ag fr m)∧ag fr' 10= .i i∧(∀n,n∈[1,2]->ax c (.o n)=ax M (.o n))∧∃x1,ax c (.o 3)=⟨1,22,[m.vc x1],false⟩∧sF c 6 2 x1 (gY (sC true) (rC true false) D0.length (wV fi (60480*u:Nat) b k i).1)∧c.b=b0∧c.D=kD D0 q (wV fi (60480*u:Nat) b k i).2 ((wV fi (60480*u:Nat) b k i).1.flatMap (rC true false))) n ⟨fun m _=>rfl,iQ,fun n _=>rfl,.aL,l,.inl ⟨rfl,rfl⟩,U,J⟩ ?_ ?_
 ·clear done l J U
  rintro i lV C hi ⟨j,F,Q,x1,l,A,U,J⟩ next
  have g0:=(j 0 (by omega)).trans h0;have g2:=(j 2 (by omega)).trans h2;have g4:=(j 4 (by omega)).trans h4;have g7:=(j 7 (by omega)).trans h7;have g8:=(j 8 (by omega)).trans h8;have Z:=(Q 1 (by simp)).trans gG;clear h0 h2 h4 h7 h8 iQ gG;have hkb:=PK (fi:=fi) ok (k:=k) hu i;have Tc:=KX (fi:=fi) (len:=(60480*u:Nat)) (b:=b) (k:=k) i;rw[CL]at next
  generalize wV fi (60480*u:Nat) b k i=st at*;obtain⟨cs,k1⟩:=st;unfold X5 at next
  dsimp only at A J hkb Tc next
  have sx:=Ah A;have hX:(gY (sC true) (rC true false) D0.length cs).length<=1000000:=by rw[fE];omega
  simp(disch:=omega) only[↓zd,seval,push_cast,g2,F];refine v14 (by kernel_rfl) (b:=b) (D0:=D0) (R:=cs.flatMap (rC true false)) (q:=q) (b0:=b0) (k:=k1) (i:=i) (v4:=(ax C (.o 4)).ver+1) (u:=u) (fi:=fi) (m:=m) (xm:=x1) ok V3 ?_ ?_ ?_ ?_ ?_ ?_ ?_ ?_ ?_ ?_ (jA _) ?_ ?_ hq hb (by omega) hu (by omega) ?_
  ·simp only[↓zg,seval,g0]
  ·simp only[↓zg,seval,g4]
  ·simp only[↓zg,seval,g7]
  ·simp only[↓zg,seval,g8]
  ·simp only[↓zg,seval,F]
  ·simp only[↓zg,seval]
  ·simp only[↓zg,seval]
  ·simp only[ay,reduceCtorEq,Ix.o.injEq,Nat.reduceEqDiff,↓reduceIte,Z]
  ·simp only[ay,reduceCtorEq,Ix.o.injEq,Nat.reduceEqDiff,↓reduceIte,l]
  ·simp only[ay,reduceCtorEq,Ix.o.injEq,Nat.reduceEqDiff,↓reduceIte]
  ·simp only[cz];exact J
  ·simp only[eG];exact U
  ·intro fr2 M2 x2 N O nk A2 hB2 AJ
   have k7:ag fr2 7= .ptr 0 (.o 3) 1 0 0:=(N 7 (by omega)).trans (by simp only[↓zg,seval,g7]);have k10:ag fr2 10= .i i:=(N 10 (by omega)).trans (by simp only[↓zg,seval,F]);have k11:ag fr2 11= .ptr 0 (.o 4) ((ax C (.o 4)).ver+1) 0 0:=(N 11 (by omega)).trans (by simp only[↓zg,seval]);have XI:=O 1 (by simp);have I:=O 2 (by simp);have B:=O 3 (by simp);have Mg:=O 6 (by simp);simp only[ay,reduceCtorEq,Ix.o.injEq,Nat.reduceEqDiff,↓reduceIte,eZ,fJ,fK]at XI I B Mg;have vL:∀m,m<10->ag fr2 m=ag fr m:=fun m hm=>by
    rw[N m (by omega),<-j m hm];simp(disch:=omega) only[bU,bY]
   have A':=qz A Mg;rw[l]at B;have YA:0<(ax C (.o 4)).ver+1:=jA _;clear N O A j;have fP:=abh (fi:=fi) (len:=(60480*u:Nat)) (b:=b) (i:=i) (k:=k1);generalize I6 fi (60480*u:Nat) b i k1 2=W at*;obtain⟨vs,k2⟩:=W;dsimp only at A2 AJ fP next
   have gl:=CG (Pw true) (r:=rV true false) vs (D0.length+(cs.flatMap (rC true false)).length);have AX:(gY (sV true) (rV true false) (D0.length+(cs.flatMap (rC true false)).length) vs).length=vs.length:=fE _ _;have hEC:sC true (D0.length+(cs.flatMap (rC true false)).length) ⟨vs⟩=[.aL,cu 2 (gY (sV true) (rV true false) (D0.length+(cs.flatMap (rC true false)).length) vs)]:=rfl;have hDn:(cs++[(⟨vs⟩:Ce)]).flatMap (rC true false)=cs.flatMap (rC true false)++vs.flatMap (rV true false):=by
    rw[bH];simp[rC]
   have ajw:gY (sC true) (rC true false) D0.length (cs++[(⟨vs⟩:Ce)])=gY (sC true) (rC true false) D0.length cs++[sC true (D0.length+(cs.flatMap (rC true false)).length) ⟨vs⟩]:=by rw[FB];rfl
   rw[hDn,ajw,hEC]at next
   have PL:gY (sV true) (rV true false) (D0.length+(cs.flatMap (rC true false)).length) vs≠[]:=fun h=>by
    rw[h]at AX;exact fP (eF.1 AX.symm)
   rw[jO PL]at next
   generalize gY (sV true) (rV true false) (D0.length+(cs.flatMap (rC true false)).length) vs=Y at*;rcases A2 with⟨h,_⟩|⟨_,ver,hv,rfl,h5⟩
   ·exact absurd h PL
   generalize gY (sC true) (rC true false) D0.length cs=X at*;have ap:=fun Z H=>lN (H:=H) (M:=bu M2 (.o 5) Z) (bytes:=48) (s:=5) A' (by simp only[ay,reduceCtorEq,Ix.o.injEq,Nat.reduceEqDiff,↓reduceIte]) hX (by omega) (x:=[.aL,.sl .any 2 Y]) rfl rfl;have f1:∀M,ax M (.o 6)=⟨(ax C (.o 6)).ver+1,2,X++[[.aL,.sl .any 2 Y]],false⟩->sF M 6 2 (.ref 0 (.o 6) ((ax C (.o 6)).ver+1) 2 0 (X.length+1)) (X++[[.aL,.sl .any 2 Y]]):=fun M h=>mJ (by omega) h;have m1:∀x,(m.vc x).length=22:=fun x=>rfl;have m2:∀x,(m.vc x)[21]? =some x:=fun x=>rfl;have m3:∀x,(m.vc x).take 21=(m.vc x1).take 21:=fun x=>rfl;have m4:∀x,(m.vc x).drop 22=[]:=fun x=>rfl;have m5:∀x,(m.vc x1).take 21++[x]=m.vc x:=fun x=>rfl;have g5:[V.aL,.sl .any 2 Y].all V.gL=true:=rfl;simp(disch:=omega) only[↓zd,seval,push_cast,k7,k10,k11,B,nk,YA,h5,hv,qg,jR,kJ,tO,xe,Px,Ad,g5,lZ,gl,dH,aT,sx,ap,m1,m2,m3,m4,m5,Mg];refine next _ _ ⟨fun m hm=> ?_,?_,fun n hn=> ?_,_,?_,f1 _ ?_,?_,?_⟩
   ·rw[<-vL m hm]
    simp(disch:=omega) only[bU,bY]
   ·simp only[↓zg,seval]
    rfl
   ·rw[<-Q n hn]
    simp only[ed,jI,Be]at hn;rcases hn with rfl|rfl<;>simp only[ay,dM,reduceCtorEq,Ix.o.injEq,Nat.reduceEqDiff,eZ,fJ,fK,↓reduceIte,XI,I]
   ·simp only[ay,dM,reduceCtorEq,Ix.o.injEq,Nat.reduceEqDiff,↓reduceIte]
   ·simp only[ay,dM,reduceCtorEq,Ix.o.injEq,Nat.reduceEqDiff,↓reduceIte]
   ·simp only[eG]
    exact hB2
   ·simp only[cz]
    exact AJ
 ·rintro lV C ⟨j,F,Q,x1,l,A,hB',hD'⟩
  have g2:=(j 2 (by omega)).trans h2;simp(disch:=omega) only[↓zd,seval,push_cast,F,g2];refine done _ _ x1 (fun m hm=> ?_) Q l A hB' hD';rw[<-j m hm];simp(disch:=omega) only[bU,bY]
def Ba.fi(b:Ba):Int:=b.ky%9-4
def Ba.tm(b:Ba):List (Int×Bool):=if b.te%3=1 then[(300000+10000*b.te,decide (b.te%2=1))]else[]
def X6(b:Ba)(k n:Nat):Me:=⟨(k+1:Nat),b.mt%5,b.fi,false,0,0,b.tm,(wV b.fi (kL (b.mt%5)) b (k+1) n).1⟩
def GC(b:Ba)(k n:Nat):Nat:=(wV b.fi (kL (b.mt%5)) b (k+1) n).2
theorem UI{k:Int}(h:Fj k):∃u:Nat,u<=32∧kL k=((60480*u:Nat):Int):=by
 rcases adA h with rfl|rfl|rfl|rfl|rfl
 ·exact⟨32,by omega,rfl⟩
 ·exact⟨24,by omega,rfl⟩
 ·exact⟨24,by omega,rfl⟩
 ·exact⟨32,by omega,rfl⟩
 ·exact⟨20,by omega,rfl⟩
theorem c14{L:Mem}{b:Ba}{q k n:Nat}(ok:yG b)(hr:ax L (.g q)=kF k)(hq:L.b<=q)(hk:k<=600000)(hn0:1<=n)(hn:n<=10):
  call bn 14 [.ptr 0 (.g q) 1 0 0,.agg b.v,.i n] (L::H)=some (.agg (sM true L.D.length (X6 b k n)),some (kD L.D q (GC b k n) (rM true false (X6 b k n)))):=by
 have lq:q<L.D.length:=gX hr (by simp[kF]);have hD:(Ht.start false (L::H)).D=L.D:=rfl;have hB:(Ht.start false (L::H)).b=L.b:=rfl;have hO:∀i,ax (Ht.start false (L::H)) (.o i)=⟨0,0,[],false⟩:=fun i=>jB;have Q:L.D=kD L.D q k []:=by
  unfold kD;rw[bz,Ae hr lq]
 obtain⟨o1,o2,o3,o4,o5,o6⟩:=id ok;have im:Fj (b.mt%5):=by unfold Fj;omega
 obtain⟨u,hu,I1⟩:=UI im;unfold X6 GC;rw[I1];have b1:=b.sz.1;have b2:=b.sz.2;have b3:=b.tk;have b4:=b.sc;have v0:b.v[0]? =some (.int .u8 b.mt):=rfl;have v1:b.v[1]? =some (.int .u8 b.ky):=rfl;have v3:b.v[3]? =some (.int .u8 b.te):=rfl;have t1:b.ky.tmod 9=b.ky%9:=dP o2.1;have t2:b.te.tmod 3=b.te%3:=dP o4.1;have t3:b.te.tmod 2=b.te%2:=dP o4.1;have t4:b.ky%9-4=b.fi:=rfl;have C:=fun H=>c36 (H:=H) o1;have z22:zK [[.i 0,.i 0,.i 0,.i 0,.i 0,.i 0,.i 0,.i 0,.i 0,.i 0,.i 0,.i 0,.bool false,.i 0,.i 0,.i 0,.i 0,.i 0,.i 0,.str ⟨#[]⟩,.aL,.aL]] [.i 0,.i 0,.i 0,.i 0,.i 0,.i 0,.i 0,.i 0,.i 0,.i 0,.i 0,.i 0,.bool false,.i 0,.i 0,.i 0,.i 0,.i 0,.i 0,.str ⟨#[]⟩,.aL,.aL]=true:=rfl;have mk:∀id:Int,[V.i 1,.i id]++XB (b.mt%5)=[V.i 1,.i id,.i (mA (b.mt%5)),.i (mB (b.mt%5)),.i (mC (b.mt%5)),.i (mD (b.mt%5)),.i 0,.i 0,.i 0,.i 0]:=fun _=>rfl;have B:=fun id H=>c37 (H:=H) (m:=⟨id,b.mt%5,b.fi,false,0,0,[],[]⟩) im;have mv:∀id:Int,(⟨id,b.mt%5,b.fi,false,0,0,[],[]⟩:Me).v=[.i 1,.i id,.i (mA (b.mt%5)),.i (mB (b.mt%5)),.i (mC (b.mt%5)),.i (mD (b.mt%5)),.i 0,.i 0,.i 0,.i 0,.i 0,.i b.fi,.bool false,.i 0,.i 0,.i 0,.i 0,.i 0,.i 0,.str ⟨#[]⟩,.aL,.aL]:=fun _=>rfl;simp only[mv]at B;unfold XB at C;refine(av (by conv=>lhs;reduce)).trans ?_;simp only[↓zo,zp,seval];generalize Ht.start false (L::H)=L0 at*;have Mw:=fun J I r3=>ajt (H:=L::H) (L:=bu (bu (bu L0 (.o 1) J) (.o 2) I) (.o 3) r3) (D0:=L.D) (R:=[]) (q:=q) (b:=L.b) (k:=k) lq hq (by omega) (by simp only[cz];exact hD.trans Q) (by simp only[eG];exact hB);generalize hid:((k+1:Nat):Int)=id at*;rw[I1]at B;generalize N:((60480*u:Nat):Int)=len at*;generalize T:kD L.D q (k+1) []=D1 at*;simp(disch:=omega) only[↓zd,seval,push_cast,hD,hB,hO,b1,b2,b3,b4,v0,v1,v3,t1,t4,Mw,C,B,z22,jZ,iZ];rw[<-N];obtain⟨c,l⟩:∃c:Me,(⟨id,b.mt%5,b.fi,false,0,0,[],[]⟩:Me)=c:=⟨_,rfl⟩
 refine l14 (by kernel_rfl) (b:=b) (D0:=L.D) (q:=q) (b0:=L.b) (k:=k+1) (n:=n) (u:=u) (fi:=b.fi) (m:=c) ok (by rw[<-l]) ?_ ?_ ?_ ?_ ?_ ?_ ?_ ?_ ?_ ?_ lq hq (by omega) hu hn ?_
 ·simp only[↓zg,seval]
  all_goals rfl
 ·simp only[↓zg,seval]
  all_goals rfl
 ·simp only[↓zg,seval]
 ·simp only[↓zg,seval]
 ·simp only[↓zg,seval]
 ·simp only[↓zg,seval]
 ·simp only[ay,dM,hO,reduceCtorEq,Ix.o.injEq,Nat.reduceEqDiff,↓reduceIte,eZ,fJ,fK]
 ·simp only[ay,dM,hO,reduceCtorEq,Ix.o.injEq,Nat.reduceEqDiff,↓reduceIte,eZ,fJ,fK]
  rw[<-l];rfl
 ·simp only[cz]
  exact T.symm
 ·simp only[eG]
 ·intro lV M1 x1 dG O ji A hB1 ng
  have g4:ag lV 4= .ptr 0 (.o 1) 1 0 0:=(dG 4 (by omega)).trans (by simp only[↓zg,seval]);have g6:ag lV 6= .ptr 0 (.o 2) 1 0 0:=(dG 6 (by omega)).trans (by simp only[↓zg,seval]);have g7:ag lV 7= .ptr 0 (.o 3) 1 0 0:=(dG 7 (by omega)).trans (by simp only[↓zg,seval]);have J:=O 1 (by simp);have I:=O 2 (by simp);simp only[ay,dM,hO,reduceCtorEq,Ix.o.injEq,Nat.reduceEqDiff,↓reduceIte,eZ,fJ,fK]at J I;clear dG O T Mw C B Q;have hcl:=KX (fi:=b.fi) (len:=(60480*u:Nat)) (b:=b) (k:=k+1) n;generalize wV b.fi (60480*u:Nat) b (k+1) n=st at*;obtain⟨cs,k2⟩:=st;dsimp only at A ng hcl⊢;rw[show rM true false ⟨id,b.mt%5,b.fi,false,0,0,b.tm,cs⟩=cs.flatMap (rC true false)from rfl,<-ng];have AX:(gY (sC true) (rC true false) L.D.length cs).length=cs.length:=fE _ _;have gl:=CG (Uw true) (r:=rC true false) cs L.D.length;have K:sM true L.D.length ⟨id,b.mt%5,b.fi,false,0,0,b.tm,cs⟩=({c with tm:=b.tm}:Me).vc (cu 2 (gY (sC true) (rC true false) L.D.length cs)):=by rw[<-l];rfl
  rw[K];have fP:gY (sC true) (rC true false) L.D.length cs≠[]:=fun h=>by
   rw[h]at AX;simp at AX;omega
  rw[jO fP];generalize gY (sC true) (rC true false) L.D.length cs=X at*;rcases A with⟨h,_⟩|⟨_,ver,hv,rfl,h5⟩
  ·exact absurd h fP
  have m1:∀(m:Me)x,(m.vc x).length=22:=fun m x=>rfl;have F:∀(m:Me)x,(m.vc x).take 22=m.vc x:=fun m x=>rfl;have m6:∀x t,(c.vc x).take 20++[cu 3 (List.map Qv t)]++(c.vc x).drop 21=({c with tm:=t}:Me).vc x:=by
   intro x t;rw[<-l];rfl
  have m7:b.tm=[]->({c with tm:=b.tm}:Me)=c:=fun h=>by rw[h,<-l]
  have y1:∀m:Me,(m.vc (.ref 0 (.o 6) ver 2 0 X.length)).all V.scalar=true:=fun m=>by
   have hx:V.scalar (.ref 0 (.o 6) ver 2 0 X.length)=true:=rfl;simp only[Me.vc,aZ,cB,gq,mO,hx,bR]
  have Z:∀m:Me,V.bW 0 (m.vc (.ref 0 (.o 6) ver 2 0 X.length))=m.vc (.ref 0 (.o 6) ver 2 0 X.length):=fun m=>by simp only[Me.vc,V.bW,V.shift,nZ]
  have Y:∀m:Me,(m.vc (.ref 0 (.o 6) ver 2 0 X.length)).all V.gL=false:=fun m=>by simp only[Me.vc,aZ,cB,Px,mh,iW]
  have W:∀m:Me,(m.vc (.sl .any 2 X)).all V.gL=true:=fun m=>by simp only[Me.vc,aZ,cB,uU,BQ,Ad,bR]
  have U:∀(m:Me)(M:Mem),ax M (.o 6)=⟨ver,2,X,false⟩->kJ M (m.vc (.ref 0 (.o 6) ver 2 0 X.length))=some (m.vc (.sl .any 2 X),bu M (.o 6) ⟨ver,2,X,true⟩):=fun m M O=>by
   simp only[Me.vc,kJ,uM,Ej,zt,wO,bG,aU,tO,O,hv,gl,Bc,dV,aJ,dH,aT,bK,iK,Mem.ok,nT,jK,bq,bZ]
  have o4':=o4;have u1:b.te.tmod 3=b.te%3:=dP o4.1;clear v0 v1 ok mk mv l K fP AX t1 t4;by_cases ht:b.te%3=1
  ·have j:b.tm=[(300000+10000*b.te,decide (b.te%2=1))]:=by unfold Ba.tm;rw[aX ht]
   have m8:=m6 (.ref 0 (.o 6) ver 2 0 X.length) b.tm;rw[j,show cu 3 (List.map Qv [(300000+10000*b.te,decide (b.te%2=1))])= .sl .any 3 [[.i 0,.i (300000+10000*b.te),.bool (decide (b.te%2=1))]]from rfl,<-j]at m8;have y6:=fun r r'=>U {c with tm:=b.tm} (bu (bu M1 (.o 3) r) (.o 2) r') (by rw[ay,aP (by simp),ay,aP (by simp)];exact h5);clear m6 m7 j;have z1:=m1 {c with tm:=b.tm} (.ref 0 (.o 6) ver 2 0 X.length);have z2:=F {c with tm:=b.tm} (.ref 0 (.o 6) ver 2 0 X.length);have z3:=y1 {c with tm:=b.tm};have z4:=Z {c with tm:=b.tm};have z5:=Y {c with tm:=b.tm};have z6:=W {c with tm:=b.tm};have z7:=m1 {c with tm:=b.tm} (.sl .any 2 X);have z8:=F {c with tm:=b.tm} (.sl .any 2 X);generalize ({c with tm:=b.tm}:Me).vc (.ref 0 (.o 6) ver 2 0 X.length)=E1 at*;generalize ({c with tm:=b.tm}:Me).vc (.sl .any 2 X)=E2 at*;have z9:=m1 c (.ref 0 (.o 6) ver 2 0 X.length);have zA:=y1 c;generalize c.vc (.ref 0 (.o 6) ver 2 0 X.length)=E0 at*;clear y1 Z Y W U m1 F;simp(disch:=omega) only[↓zd,seval,push_cast,nK,g4,g6,g7,J,I,ji,h5,hv,b1,v3,u1,t3,ht,m8,y6,z1,z2,z3,z4,z5,z6,z7,z8,z9,zA,o9,AR,nD,jR]
  ·have j:b.tm=[]:=by unfold Ba.tm;rw[aP ht]
   have ht':(b.te%3=1)=False:=ru ht;rw[m7 j];have y6:=fun r'=>U c (bu M1 (.o 2) r') (by rw[ay,aP (by simp)];exact h5);clear m6 m7 j;have z1:=m1 c (.ref 0 (.o 6) ver 2 0 X.length);have z2:=F c (.ref 0 (.o 6) ver 2 0 X.length);have z3:=y1 c;have z4:=Z c;have z5:=Y c;have z6:=W c;have z7:=m1 c (.sl .any 2 X);have z8:=F c (.sl .any 2 X);generalize c.vc (.ref 0 (.o 6) ver 2 0 X.length)=E1 at*;generalize c.vc (.sl .any 2 X)=E2 at*;clear y1 Z Y W U m1 F;simp(disch:=omega) only[↓zd,seval,push_cast,nK,g4,g6,g7,J,I,ji,h5,hv,b1,v3,u1,t3,ht',y6,z1,z2,z3,z4,z5,z6,z7,z8,o9,AR,nD,jR]
theorem qU{α:Type}{sk:Nat->α->List V}{r:α->List Row}{l:List α}{i n:Nat}{x:α}(h:l[i]? =some x):(gY sk r n l)[i]? =some (sk (n+((l.take i).flatMap r).length) x):=by
 induction l generalizing i n with
 |nil=>simp at h
 |cons a l c=>
  cases i with
  |zero=>simp at h;subst h;rfl
  |succ i=>
   have:=c (n:=n+(r a).length) (i:=i) (by simpa using h);simp only[gY,di,lQ,bF,aF];rw[this,jd]
def nM(n:Nat)(ms:List Me)(i:Nat):Nat:=n+((ms.take i).flatMap (rM true false)).length
def nC(n:Nat)(cs:List Ce)(i:Nat):Nat:=n+((cs.take i).flatMap (rC true false)).length
def nV(n:Nat)(vs:List Vo)(i:Nat):Nat:=n+((vs.take i).flatMap (rV true false)).length
def nE(n:Nat)(es:List Ev)(i:Nat):Nat:=n+((es.take i).flatMap (rE true false)).length
def RV(n:Nat)(ms:List Me)(i c:Nat):Option (Nat×List Vo):=
 match ms[i]?with
 |none=>none
 |some m=>match m.cs[c]?with
  |none=>none
  |some ce=>some (nC (nM n ms i) m.cs c,ce.vs)
def Ci(n:Nat)(ms:List Me)(i c v:Nat):Option (Nat×List Ev):=
 match RV n ms i c with
 |none=>none
 |some (n1,vs)=>match vs[v]?with
  |none=>none
  |some vo=>some (nV n1 vs v,vo.es)
def wW(n:Nat)(ms:List Me)(i c v x:Nat):Option (Nat×Ev):=
 match Ci n ms i c v with
 |none=>none
 |some (n1,es)=>match es[x]?with
  |none=>none
  |some e=>some (nE n1 es x,e)
def nxE(n:Nat)(ms:List Me)(i c v x:Nat):Option (Nat×Ev):=(wW n ms i c v (x+1)).or (wW n ms (i+1) c v 0)
def evZ:List V:=[.i 0,.i 0,.i 0,.i 0,.i 0,.aL,.aL,.i 0,.i 0,.i 0,.aL,.i 0,.i 0]
def nxV:Option (Nat×Ev)->List V
 |some (n,y)=>[.agg (sE true n y),.bool true]
 |none=>[.agg evZ,.bool false]
theorem NL{n:Nat}{ms:List Me}{i c v n1:Nat}{es:List Ev}(h:Ci n ms i c v=some (n1,es)):∃m g vo,ms[i]? =some m∧m.cs[c]? =some g∧g.vs[v]? =some vo∧vo.es=es∧n1=nV (nC (nM n ms i) m.cs c) g.vs v:=by
 unfold Ci RV at h;cases hm:ms[i]?with
 |none=>rw[hm]at h;cases h
 |some m=>
  rw[hm]at h;dsimp only at h;cases hc:m.cs[c]?with
  |none=>rw[hc]at h;cases h
  |some g=>
   rw[hc]at h;dsimp only at h;cases j:g.vs[v]?with
   |none=>rw[j]at h;cases h
   |some vo=>
    rw[j]at h;dsimp only at h;injection h with h
    injection h with r l
    exact⟨m,g,vo,rfl,hc,j,l,r.symm⟩
theorem c39{M15 M4:Mem}{wr:Bool}{P:V}{vm n N:Nat}{ms:List Me}{i c v x n1:Nat}{es:List Ev}(hP:V.scalar P=true)(hr:ax M4 (.o 7)=⟨vm,22,gY (sM true) (rM true false) n ms,false⟩)(Cc:0<vm)(xK:ms.length<=1000)(hN:∀m∈ms,m.cs.length=N)(Mh:∀m∈ms,∀c∈m.cs,∀v∈c.vs,v.es≠[])(h:Ci n ms i c v=some (n1,es))(hx:x<es.length)(MM:es.length<=1000):
  call bn 39 [.agg [.str iB,.bool wr,P,.ref 2 (.o 7) vm 22 0 ms.length,.aL,.aL],.i i,.i c,.i v,.i x] (M15::M4::H)=some (.eT (nxV (nxE n ms i c v x)),some M15.D):=by
 obtain⟨m,O,vo,hm,hc,hv,he,CE⟩:=NL h;have hO:∀i,ax (Ht.start false (M15::M4::H)) (.o i)=⟨0,0,[],false⟩:=fun i=>jB;have hD:(Ht.start false (M15::M4::H)).D=M15.D:=rfl;have hi:i<ms.length:=(au.1 hm).1;have hcl:c<m.cs.length:=(au.1 hc).1;have k1:=qU (sk:=sM true) (r:=rM true false) (n:=n) hm;have Z:=qU (sk:=sC true) (r:=rC true false) (n:=nM n ms i) hc;have R:=qU (sk:=sV true) (r:=rV true false) (n:=nC (nM n ms i) m.cs c) hv;have B:nxE n ms i c v x=(wW n ms i c v (x+1)).or (wW n ms (i+1) c v 0):=rfl;have K:(gY (sM true) (rM true false) n ms).length=ms.length:=fE _ _;have Lt:(([.str iB,.bool wr,P,.ref 2 (.o 7) vm 22 0 ms.length,.aL,.aL]:List V)).all V.scalar=true:=by
  show(true&&(true&&(V.scalar P&&true)))=true;rw[hP];rfl
 have J:wW n ms i c v (x+1)=match es[x+1]?with
   |none=>none
   |some e=>some (nE n1 es (x+1),e):=by unfold wW;rw[h]
 change _=some (sM true (nM n ms i) m)at k1;change _=some (sC true (nC (nM n ms i) m.cs c) O)at Z;change _=some (sV true (nV (nC (nM n ms i) m.cs c) O.vs v) vo)at R;rw[<-CE]at R;have m1:=(zq true (nM n ms i) m).1;have m2:=(zq true (nM n ms i) m).2;have m3:(sM true (nM n ms i) m)[21]? =some (cu 2 (gY (sC true) (rC true false) (nM n ms i) m.cs)):=rfl;have e1:=(RL true (nC (nM n ms i) m.cs c) O).1;have e3:(sC true (nC (nM n ms i) m.cs c) O)[1]? =some (cu 2 (gY (sV true) (rV true false) (nC (nM n ms i) m.cs c) O.vs)):=rfl;have w1:=(Hz true n1 vo).1;have w3:(sV true n1 vo)[0]? =some (cu 13 (gY (sE true) (rE true false) n1 vo.es)):=rfl;rw[he]at w3;have F:(gY (sE true) (rE true false) n1 es).length=es.length:=fE _ _;have evz:evZ.length=13:=rfl;refine(av (by conv=>lhs;reduce)).trans ?_;simp only[↓zo,zp,seval];generalize Ht.start false (M15::M4::H)=L0 at*;generalize iB=T0 at*;generalize hMs:gY (sM true) (rM true false) n ms=Ms at*;generalize sM true (nM n ms i) m=Em at*;generalize gY (sC true) (rC true false) (nM n ms i) m.cs=Cs at*;generalize sC true (nC (nM n ms i) m.cs c) O=Ec at*;generalize gY (sV true) (rV true false) (nC (nM n ms i) m.cs c) O.vs=Vs at*;generalize sV true n1 vo=Ew at*;by_cases hlt:x+1<es.length
 ·obtain⟨y,T⟩:∃y,es[x+1]? =some y:=⟨_,ak hlt⟩
  rw[T]at J;dsimp only at J;rw[B,J];show _=some (V.eT [.agg (sE true (nE n1 es (x+1)) y),.bool true],some M15.D);have k4:=qU (sk:=sE true) (r:=rE true false) (n:=n1) T;change _=some (sE true (nE n1 es (x+1)) y)at k4;have y1:=(uA true (nE n1 es (x+1)) y).1;have y2:=(uA true (nE n1 es (x+1)) y).2;have y3:=FC true (nE n1 es (x+1)) y;have y4:=FD true (nE n1 es (x+1)) y;have y5:=Ei true (nE n1 es (x+1)) y;have y6:=fun L=>Ac L true (nE n1 es (x+1)) y;have u:(x:Int)+1<(es.length:Int):=by omega
  have hxn:((x:Int)+1).toNat=x+1:=by omega
  generalize sE true (nE n1 es (x+1)) y=Ey at*;generalize gY (sE true) (rE true false) n1 es=Es at*;clear hN Mh B J he h;simp(disch:=omega) only[↓zd,seval,push_cast,hO,hD,Lt,hr,Cc,hi,k1,Z,R,k4,m1,m2,m3,e1,e3,w1,w3,F,u,hxn,y1,y2,y3,y4,y5,y6,o9,AR,nD,jR]
 ·have u:¬(x:Int)+1<(es.length:Int):=by omega
  rw[dL (by omega)]at J;dsimp only at J;rw[B,J,Option.none_or];clear B J;generalize gY (sE true) (rE true false) n1 es=Es at*;by_cases hi1:ms.length<=i+1
  ·have hp:wW n ms (i+1) c v 0=none:=by
    unfold wW Ci RV;rw[dL hi1]
   rw[hp];show _=some (V.eT [.agg evZ,.bool false],some M15.D);have C:(ms.length:Int)<=(i:Int)+1:=by omega
   clear hN Mh he h hp;unfold evZ;simp(disch:=omega) only[↓zd,seval,push_cast,hO,hD,Lt,hr,Cc,hi,k1,Z,R,m1,m2,m3,e1,e3,w1,w3,F,u,C,o9,AR,nD,jR,K]
  ·obtain⟨g,U⟩:∃y,ms[i+1]? =some y:=⟨_,ak (by omega)⟩
   have hc1:c<g.cs.length:=by rw[hN g (ah U),<-hN m (ah hm)];exact hcl
   obtain⟨l,A⟩:∃y,g.cs[c]? =some y:=⟨_,ak hc1⟩
   have q1:=qU (sk:=sM true) (r:=rM true false) (n:=n) U;have q2:=qU (sk:=sC true) (r:=rC true false) (n:=nM n ms (i+1)) A;change _=some (sM true (nM n ms (i+1)) g)at q1;change _=some (sC true (nC (nM n ms (i+1)) g.cs c) l)at q2;rw[hMs]at q1;have Y:=(zq true (nM n ms (i+1)) g).1;have X:=(zq true (nM n ms (i+1)) g).2;have W:(sM true (nM n ms (i+1)) g)[21]? =some (cu 2 (gY (sC true) (rC true false) (nM n ms (i+1)) g.cs)):=rfl;have ee1:=(RL true (nC (nM n ms (i+1)) g.cs c) l).1;have ee3:(sC true (nC (nM n ms (i+1)) g.cs c) l)[1]? =some (cu 2 (gY (sV true) (rV true false) (nC (nM n ms (i+1)) g.cs c) l.vs)):=rfl;have I:(gY (sC true) (rC true false) (nM n ms (i+1)) g.cs).length=g.cs.length:=fE _ _;have aoD:(gY (sV true) (rV true false) (nC (nM n ms (i+1)) g.cs c) l.vs).length=l.vs.length:=fE _ _;have C:¬(ms.length:Int)<=(i:Int)+1:=by omega
   have zH:((i:Int)+1).toNat=i+1:=by omega
   have hi0:(0<=(i:Int)+1)=True:=by simp;omega
   have aoE:(i:Int)+1<(ms.length:Int):=by omega
   have aoF:i+1<ms.length:=by omega
   have Q:=Mh g (ah U) l (ah A);by_cases hv1:l.vs.length<=v
   ·have hp:wW n ms (i+1) c v 0=none:=by
     unfold wW Ci RV;rw[U];dsimp only;rw[A];dsimp only;rw[dL hv1]
    rw[hp];show _=some (V.eT [.agg evZ,.bool false],some M15.D);generalize sM true (nM n ms (i+1)) g=Em' at*;generalize gY (sC true) (rC true false) (nM n ms (i+1)) g.cs=Cs' at*;generalize sC true (nC (nM n ms (i+1)) g.cs c) l=Ec' at*;generalize gY (sV true) (rV true false) (nC (nM n ms (i+1)) g.cs c) l.vs=Vs' at*;clear hN Mh he h hp Q;unfold evZ;simp(disch:=omega) only[↓zd,seval,push_cast,hO,hD,Lt,hr,Cc,hi,k1,Z,R,m1,m2,m3,e1,e3,w1,w3,F,u,C,aoE,aoF,zH,hi0,o9,AR,nD,jR,K,q1,q2,Y,X,W,ee1,ee3,I,aoD]
   ·obtain⟨j,F5⟩:∃y,l.vs[v]? =some y:=⟨_,ak (by omega)⟩
    have Ed:=Q j (ah F5);obtain⟨y,T⟩:∃y,j.es[0]? =some y:=⟨_,ak (dB.2 Ed)⟩
    have hy0:0<j.es.length:=dB.2 Ed;obtain⟨n2,Nr⟩:∃n2,nV (nC (nM n ms (i+1)) g.cs c) l.vs v=n2:=⟨_,rfl⟩
    have hp:wW n ms (i+1) c v 0=some (nE n2 j.es 0,y):=by
     unfold wW Ci RV;rw[U];dsimp only;rw[A];dsimp only;rw[F5];dsimp only;rw[T,Nr]
    rw[hp];show _=some (V.eT [.agg (sE true (nE n2 j.es 0) y),.bool true],some M15.D);have q3:=qU (sk:=sV true) (r:=rV true false) (n:=nC (nM n ms (i+1)) g.cs c) F5;change _=some (sV true (nV (nC (nM n ms (i+1)) g.cs c) l.vs v) j)at q3;rw[Nr]at q3;have q4:=qU (sk:=sE true) (r:=rE true false) (n:=n2) T;change _=some (sE true (nE n2 j.es 0) y)at q4;have ww1:=(Hz true n2 j).1;have ww3:(sV true n2 j)[0]? =some (cu 13 (gY (sE true) (rE true false) n2 j.es)):=rfl;have ajq:(gY (sE true) (rE true false) n2 j.es).length=j.es.length:=fE _ _;have y1:=(uA true (nE n2 j.es 0) y).1;have y2:=(uA true (nE n2 j.es 0) y).2;have y3:=FC true (nE n2 j.es 0) y;have y4:=FD true (nE n2 j.es 0) y;have y5:=Ei true (nE n2 j.es 0) y;have y6:=fun L=>Ac L true (nE n2 j.es 0) y;have hvl:¬(l.vs.length:Int)<=(v:Int):=by omega
    have avo:((j.es.length:Int)=0)=False:=by simp;exact Ed
    generalize sE true (nE n2 j.es 0) y=Ey at*;generalize gY (sE true) (rE true false) n2 j.es=Es' at*;generalize sV true n2 j=Ew' at*;generalize sM true (nM n ms (i+1)) g=Em' at*;generalize gY (sC true) (rC true false) (nM n ms (i+1)) g.cs=Cs' at*;generalize sC true (nC (nM n ms (i+1)) g.cs c) l=Ec' at*;generalize gY (sV true) (rV true false) (nC (nM n ms (i+1)) g.cs c) l.vs=Vs' at*;clear hN Mh he h hp Q T Ed U A F5;simp(disch:=omega) only[↓zd,seval,push_cast,hO,hD,Lt,hr,Cc,hi,k1,Z,R,m1,m2,m3,e1,e3,w1,w3,F,u,C,aoE,aoF,zH,hi0,o9,AR,nD,jR,K,q1,q2,q3,q4,Y,X,W,ee1,ee3,ww1,ww3,I,aoD,ajq,hvl,avo,y1,y2,y3,y4,y5,y6]
def zF(nx:Option Ev)(h:Hd):Hd:={h with ti:=h.ti&&(match nx with|some y=>ME y h.p|none=>false)}
def KY:Option (Nat×Ev)->List V
 |some (n,y)=>sE true n y
 |none=>evZ
def vZ(nx:Option Ev)(e:Ev):Ev:={e with hs:=e.hs.map (zF nx)}
def X7(D:List Row)(n:Nat)(hs hs':List Hd):List Row:=if hs=[]then D else dE D n ⟨hs.length,5,hs'.map Hd.v,false⟩
theorem avp{cX:eu}(qG:cX=sb 15 56){fr:List V}{M:Mem}{K:List KI}{T:Option (V×Option (List Row))}{Es:List (List V)}{x n v1:Nat}{e:Ev}{nx:Option (Nat×Ev)}(hx:Es[x]? =some (sE true n e))
  (h5:ag fr 5=cu 13 Es)(h6:ag fr 6= .i x)(h7:ag fr 7= .ptr 0 (.o 1) v1 0 0)(h8:ag fr 8= .bool nx.isSome)(h9:ag fr 9= .i 0)
  (gG:ax M (.o 1)=⟨v1,13,[KY nx],false⟩)(X:0<v1)
  (l:∀c y,nx=some (c,y)->(e.hs≠[]->c≠n)∧y.hs.length<=1000∧(y.hs≠[]->ax M (.g c)=⟨y.hs.length,5,y.hs.map Hd.v,false⟩))
  (hr:e.hs≠[]->ax M (.g n)=⟨e.hs.length,5,e.hs.map Hd.v,false⟩)(hb:M.b<=n)(hl:e.hs.length<=1000)
  (done:∀fr' r,(∀m,m<9->ag fr' m=ag fr m)->r.b=M.b->r.D=X7 M.D n e.hs (e.hs.map (zF (nx.map Prod.snd)))->G bn H false [] K fr' r=T):
  G bn H false [] (.code (.loop cX):: .blk 8::K) fr M=T:=by
 subst qG;conv in sb _ _=>reduce
 simp only[↓zo,zp,seval];have O:(sE true n e)[5]? =some (yL true n e.hs):=rfl;have e1:=(uA true n e).1;generalize sE true n e=E at*;by_cases W:e.hs=[]
 ·rw[W]at O
  unfold yL at O;rw[aX rfl]at O;unfold X7 at done;rw[W]at done;clear l;have d:=fun fr' h=>done fr' M h rfl rfl;clear done;simp(disch:=omega) only[↓zd,seval,push_cast,↓ik,h5,h6,h9,hx,e1,O];refine d _ fun m hm=> ?_;simp(disch:=omega) only[bU,bY]
 ·have AU:=hr W
  have UG:0<e.hs.length:=dB.2 W;unfold yL at O;rw[aP W,aX rfl]at O;unfold X7 at done;rw[aP W]at done;have RX:∀c y,nx=some (c,y)->c≠n∧y.hs.length<=1000∧(y.hs≠[]->ax M (.g c)=⟨y.hs.length,5,y.hs.map Hd.v,false⟩):=fun c y h=>⟨(l c y h).1 W,(l c y h).2⟩
  have lq:n<M.D.length:=gX AU UG;clear hr l W;generalize e.hs=hs at*;refine bI (fun j fr' r=>(∀m,m<9->ag fr' m=ag fr m)∧ag fr' 9= .i j∧ax r (.o 1)=ax M (.o 1)∧r.b=M.b∧r.D=dE M.D n ⟨hs.length,5,((hs.take j).map (zF (nx.map Prod.snd))++hs.drop j).map Hd.v,false⟩) hs.length ⟨fun m _=>rfl,h9,rfl,rfl,by rw[fZ,dH,dX,dm,Ae AU lq]⟩ ?_ ?_
  ·clear done
   rintro j lV N hj ⟨U,g9,Q,hB,R⟩ next
   have g5:=(U 5 (by omega)).trans h5;have g6:=(U 6 (by omega)).trans h6;have g7:=(U 7 (by omega)).trans h7;have g8:=(U 8 (by omega)).trans h8;rw[gG]at Q;clear h5 h6 h7 h8 h9;obtain⟨h,hh⟩:∃h,hs[j]? =some h:=⟨_,ak hj⟩
   have hP:((hs.take j).map (zF (nx.map Prod.snd))).length=j:=by rw[aG,bf];omega
   have aoG:(hs.take (j+1)).map (zF (nx.map Prod.snd))++hs.drop (j+1)=(hs.take j).map (zF (nx.map Prod.snd))++zF (nx.map Prod.snd) h::hs.drop (j+1):=by
    rw[aY,hh,eQ,aR,aC];rfl
   rw[aoG]at next
   clear aoG;rw[kE hh]at R;have hdl:(hs.drop (j+1)).length=hs.length-(j+1):=eY ..;have Yq:((hs.take j).map (zF (nx.map Prod.snd))).length+((hs.drop (j+1)).length+1)=hs.length:=by rw[hP,hdl];omega
   generalize (hs.take j).map (zF (nx.map Prod.snd))=J at*;generalize hs.drop (j+1)=u at*;rw[aR,bO]at R next
   have F:(J.map Hd.v).length=j:=by rw[aG,hP]
   have Y:ax N (.g n)=⟨hs.length,5,J.map Hd.v++h.v::u.map Hd.v,false⟩:=by
    show eP N.D n=_;rw[R,cK,aX rfl]
   have xL:=zh (B:=u.map Hd.v) (z:=h.v) F;have qw:=fun y=>zi (B:=u.map Hd.v) (z:=h.v) (x:=y) F;have C:(J.map Hd.v++h.v::u.map Hd.v).length=hs.length:=by rw[aF,aS,aG,aG,<-Yq]
   have q1:=h.sz.1;have q2:h.v[3]? =some (.bool h.ti):=rfl;have q3:∀t,h.v.take 3++[.bool t]++h.v.drop 4=({h with ti:=t}:Hd).v:=fun _=>rfl;have q4:h.v.take 3=h.p.v:=rfl;have q5:h.p.v.length=3:=rfl;have q6:=h.p.sz.2;have o7:N.b<=n:=by omega
   have lk:∀t D,dE (dE M.D n D) n ⟨hs.length,5,J.map Hd.v++({h with ti:=t}:Hd).v::u.map Hd.v,false⟩=dE M.D n ⟨hs.length,5,J.map Hd.v++({h with ti:=t}:Hd).v::u.map Hd.v,false⟩:=fun t D=>iq;have Z:∀y,J.map Hd.v++[y]++u.map Hd.v=J.map Hd.v++y::u.map Hd.v:=fun y=>by simp
   have vW:∀D,eP (dE M.D n D) n=D:=fun D=>by rw[cK,aX rfl]
   have eL:sb 15 56=_:=(by conv=>lhs;reduce);simp only[↓zo,zp,seval]at eL;have fin:∀t,(zF (nx.map Prod.snd) h).v=({h with ti:=t}:Hd).v->∀fr' r,(∀m,m<9->ag fr' m=ag lV m)->ag fr' 9= .i (j+1:Nat)->r=bu N (.g n) ⟨hs.length,5,J.map Hd.v++({h with ti:=t}:Hd).v::u.map Hd.v,false⟩->G bn H false [] (.code (.loop (sb 15 56)):: .blk 8::K) fr' r=T:=by
    intro t ht fr' r h1 h2 h3;rw[eL];refine next fr' r ⟨fun m hm=>(h1 m hm).trans (U m hm),h2,?_,?_,?_⟩
    ·rw[h3,ay,aP (by simp),Q,gG]
    ·rw[h3,eG,hB]
    ·rw[h3,ht]
     show dE N.D n _=_;rw[R,iq]
   rw[eL]at fin;clear next eL
   have Qh:(j:Int)<(hs.length:Int):=by omega
   by_cases Ij:h.ti=true
   ·cases l:nx with
    |none=>
     rw[l]at fin g8 Q;have f:=fin false (by unfold zF;rw[Ij];rfl);have I:ag lV 8= .bool false:=g8;have A:=q3 false;rw[Ij]at q2;clear fin RX lk vW q3;generalize ({h with ti:=false}:Hd).v=F5 at*;generalize KY none=N1 at*;generalize J.map Hd.v=Pv at*;generalize u.map Hd.v=Dv at*;generalize h.v=hv at*;simp(disch:=omega) only[↓zd,seval,push_cast,g5,g6,g7,I,g9,Q,X,hx,e1,O,Y,xL,qw,C,UG,q1,q2,q5,q6,o7,Z,F,Xz,A];refine f _ _ (fun m hm=> ?_) ?_ ?_
     ·simp(disch:=omega) only[bU,bY]
     ·simp only[↓zg,seval]
      all_goals rfl
     ·all_goals rfl
    |some p=>
     obtain⟨c,y⟩:=p;obtain⟨y1,y2,y3⟩:=RX c y l;have cH:=fun(M:Mem)(hM:y.hs≠[]->ax M (.g c)=⟨y.hs.length,5,y.hs.map Hd.v,false⟩)=>c40 (H:=H) (L:=M) (y:=y) (n:=c) (p:=h.p) y2 hM;have hM1:y.hs≠[]->ax N (.g c)=⟨y.hs.length,5,y.hs.map Hd.v,false⟩:=fun h=>by
      rw[<-y3 h];show eP N.D c=eP M.D c;rw[R,cK,aP (fun h=>y1 h.symm)]
     have cH':=cH N hM1;rw[l]at fin g8 Q;have f:=fin (ME y h.p) (by unfold zF;rw[Ij];rfl);have I:ag lV 8= .bool true:=g8;have A:h.p.v++[.bool (ME y h.p)]++h.v.drop 4=({h with ti:=ME y h.p}:Hd).v:=rfl;have z1:=(uA true c y).1;have z2:=(uA true c y).2;have z3:=FD true c y;rw[Ij]at q2;change ax N (.o 1)=⟨v1,13,[sE true c y],false⟩at Q;clear fin RX lk vW q3 cH hM1;generalize ME y h.p=wG at*;generalize ({h with ti:=wG}:Hd).v=F5 at*;generalize sE true c y=N1 at*;generalize J.map Hd.v=Pv at*;generalize u.map Hd.v=Dv at*;generalize hp3:h.p.v=hp at*;have q4':h.v.drop 0=h.v:=rfl;generalize h.v=hv at*;simp(disch:=omega) only[↓zd,seval,push_cast,g5,g6,g7,I,g9,Q,X,hx,e1,O,Y,xL,qw,C,UG,q1,q2,q5,q6,o7,Z,F,Xz,A,q4,cH',z1,z2,z3];refine f _ _ (fun m hm=> ?_) ?_ ?_
     ·simp(disch:=omega) only[bU,bY]
     ·simp only[↓zg,seval]
      all_goals rfl
     ·all_goals rfl
   ·have f:=fin false (by unfold zF;rw[eq_false_of_ne_true Ij];rfl)
    rw[eq_false_of_ne_true Ij]at q2;have I:=g8;have A:=q3 false;clear fin RX lk vW q3;generalize ({h with ti:=false}:Hd).v=F5 at*;generalize KY nx=N1 at*;generalize J.map Hd.v=Pv at*;generalize u.map Hd.v=Dv at*;generalize h.v=hv at*;simp(disch:=omega) only[↓zd,seval,push_cast,g5,g6,g7,I,g9,Q,X,hx,e1,O,Y,xL,qw,C,UG,q1,q2,q5,q6,o7,Z,F,Xz,A];refine f _ _ (fun m hm=> ?_) ?_ ?_
    ·simp(disch:=omega) only[bU,bY]
    ·simp only[↓zg,seval]
     all_goals rfl
    ·all_goals rfl
  ·rintro lV N ⟨U,g9,Q,hB,R⟩
   have g5:=(U 5 (by omega)).trans h5;have g6:=(U 6 (by omega)).trans h6;rw[aT,dZ,bz]at R;have d:=fun fr' h=>done fr' N h hB R;clear done RX R;simp(disch:=omega) only[↓zd,seval,push_cast,g5,g6,g9,hx,e1,O];refine d _ fun m hm=> ?_;rw[<-U m hm];simp(disch:=omega) only[bU,bY]
def Bg(c:Ce):List Ev:=c.vs.flatMap Vo.es
def EC(m:Me):List Ev:=m.cs.flatMap Bg
def RY(ms:List Me):List Ev:=ms.flatMap EC
abbrev oJ(l:List Ev):List Row:=l.flatMap (rE true false)
theorem abk(c:Ce):rC true false c=oJ (Bg c):=by
 unfold rC Bg oJ;rw[GL];rfl
theorem abl(cs:List Ce):cs.flatMap (rC true false)=oJ (cs.flatMap Bg):=by
 unfold oJ;rw[GL];exact eU (fun f=>List.flatMap f cs) (funext abk)
theorem abm(m:Me):rM true false m=oJ (EC m):=abl m.cs
theorem abn(ms:List Me):ms.flatMap (rM true false)=oJ (RY ms):=by
 unfold oJ RY;rw[GL];exact eU (fun f=>List.flatMap f ms) (funext abm)
theorem agc(vs:List Vo):vs.flatMap (rV true false)=oJ (vs.flatMap Vo.es):=by
 unfold oJ;rw[GL];rfl
theorem CO{α β:Type}{l:List α}{i:Nat}{a:α}{f:α->List β}(h:l[i]? =some a):l.flatMap f=(l.take i).flatMap f++(f a++(l.drop (i+1)).flatMap f):=by
 induction l generalizing i with
 |nil=>simp at h
 |cons b l c=>
  cases i with
  |zero=>simp at h;subst h;simp
  |succ i=>
   rw[bF,c (i:=i) (by simpa using h),lQ,bF,List.drop_succ_cons,aC]
theorem Ww{α:Type}{l:List α}{i:Nat}{a:α}(h:l[i]? =some a):l=l.take i++a::l.drop (i+1):=by
 rw[<-kE h,mq]
theorem Wx{n:Nat}{ms:List Me}{i c v x r:Nat}{y:Ev}(h:wW n ms i c v x=some (r,y)):
  ∃m g vo,ms[i]? =some m∧m.cs[c]? =some g∧g.vs[v]? =some vo∧vo.es[x]? =some y∧r=n+(oJ ((ms.take i).flatMap EC++((m.cs.take c).flatMap Bg++((g.vs.take v).flatMap Vo.es++vo.es.take x)))).length:=by
 unfold wW at h;cases l:Ci n ms i c v with
 |none=>rw[l]at h;cases h
 |some p=>
  obtain⟨n1,es⟩:=p;rw[l]at h;dsimp only at h;cases j:es[x]?with
  |none=>rw[j]at h;cases h
  |some e=>
   rw[j]at h;dsimp only at h;injection h with h
   injection h with B A
   subst A;obtain⟨m,g,vo,hm,hc,u,C,hn⟩:=NL l;subst C;refine⟨m,g,vo,hm,hc,u,j,?_⟩;rw[<-B,hn];unfold nE nV nC nM;rw[abn,abl,agc];unfold oJ;simp only[bH,aF];simp only[jd];rfl
def pre(ms:List Me)(i:Nat)(cs:List Ce)(c:Nat)(vs:List Vo)(v:Nat)(es:List Ev)(x:Nat):List Ev:=(ms.take i).flatMap EC++((cs.take c).flatMap Bg++((vs.take v).flatMap Vo.es++es.take x))
theorem abo{m:Me}{g:Ce}{vo:Vo}{y:Ev}{c v x:Nat}(hc:m.cs[c]? =some g)(j:g.vs[v]? =some vo)(hx:vo.es[x]? =some y):EC m=(m.cs.take c).flatMap Bg++((g.vs.take v).flatMap Vo.es++(vo.es.take x++y::(vo.es.drop (x+1)++((g.vs.drop (v+1)).flatMap Vo.es++(m.cs.drop (c+1)).flatMap Bg)))):=by
 unfold EC;rw[CO hc];show _++(g.vs.flatMap Vo.es++_)=_;rw[CO j];have h:=Ww hx;simp only[aC];congr 2;show vo.es++_=_;generalize (g.vs.drop (v+1)).flatMap Vo.es=Q;generalize (m.cs.drop (c+1)).flatMap Bg=l;conv=>lhs;rw[h]
 simp only[aC,aW]
theorem abp{ms:List Me}{m:Me}{g:Ce}{vo:Vo}{y:Ev}{i c v x:Nat}(hm:ms[i]? =some m)(hc:m.cs[c]? =some g)(j:g.vs[v]? =some vo)(hx:vo.es[x]? =some y):
  ∃C,RY ms=pre ms i m.cs c g.vs v vo.es x++y::C:=by
 refine⟨vo.es.drop (x+1)++((g.vs.drop (v+1)).flatMap Vo.es++((m.cs.drop (c+1)).flatMap Bg++(ms.drop (i+1)).flatMap EC)),?_⟩;unfold RY pre;rw[CO hm,abo hc j hx];simp only[aC,aW]
theorem aoJ{n:Nat}{ms:List Me}{m:Me}{g:Ce}{vo:Vo}{e y:Ev}{i c v x N:Nat}(hm:ms[i]? =some m)(hc:m.cs[c]? =some g)(F:g.vs[v]? =some vo)(hx:vo.es[x]? =some e)(h:nxE n ms i c v x=some (N,y)):
  ∃W C,RY ms=pre ms i m.cs c g.vs v vo.es x++e::(W++y::C)∧N=n+(oJ (pre ms i m.cs c g.vs v vo.es x++e::W)).length:=by
 unfold nxE at h;cases J:wW n ms i c v (x+1)with
 |some p=>
  rw[J,Option.some_or]at h;injection h with h
  subst h;obtain⟨l,r,K,A,j,u,B,hn⟩:=Wx J;obtain rfl:m=l:=by rw[hm]at A;exact iL A
  obtain rfl:g=r:=by rw[hc]at j;exact iL j
  obtain rfl:vo=K:=by rw[F]at u;exact iL u
  obtain⟨C,I⟩:=abp hm hc F B;have hp:pre ms i m.cs c g.vs v vo.es (x+1)=pre ms i m.cs c g.vs v vo.es x++[e]:=by
   unfold pre;rw[aY,hx];simp only[aC];rfl
  refine⟨[],C,?_,?_⟩
  ·rw[I,hp];simp
  ·rw[<-hp,hn];rfl
 |none=>
  rw[J,Option.none_or]at h;obtain⟨l,r,K,A,j,u,B,hn⟩:=Wx h;obtain⟨C,I⟩:=abp A j u B;have hp:pre ms (i+1) l.cs c r.vs v K.es 0=pre ms i m.cs c g.vs v vo.es x++e::(vo.es.drop (x+1)++((g.vs.drop (v+1)).flatMap Vo.es++(m.cs.drop (c+1)).flatMap Bg)++((l.cs.take c).flatMap Bg++((r.vs.take v).flatMap Vo.es++[]))):=by
   unfold pre;rw[aY,hm,eQ,bH,bF,dK,abo hc F hx];simp only[aC,aW,bz,fZ]
  generalize (vo.es.drop (x+1)++((g.vs.drop (v+1)).flatMap Vo.es++(m.cs.drop (c+1)).flatMap Bg)++((l.cs.take c).flatMap Bg++((r.vs.take v).flatMap Vo.es++[])))=W at hp;refine⟨W,C,?_,?_⟩
  ·rw[I,hp]
   simp only[aC,aW]
  ·rw[<-hp,hn];rfl
theorem abq(nx:Option Ev)(e:Ev):(rE true false (vZ nx e)).length=(rE true false e).length:=by
 unfold rE wH De vZ;dsimp only;by_cases h:e.hs=[]
 ·rw[h];rfl
 ·rw[aP h,aP (by simpa using h)];rfl
theorem X8{D A:List Row}{n:Nat}{nx:Option Ev}{e:Ev}{X Y:List Ev}{Z:List Row}(c:D=A++oJ (X++e::Y)++Z)(hn:n=A.length+(oJ X).length):X7 D n e.hs (e.hs.map (zF nx))=A++oJ (X++vZ nx e::Y)++Z:=by
 unfold X7;unfold oJ at*;rw[bH,bF]at c;rw[bH,bF];by_cases h:e.hs=[]
 ·rw[aX h,c]
  have:rE true false (vZ nx e)=rE true false e:=by unfold vZ;rw[h];unfold rE wH De;dsimp only;rw[h];rfl
  rw[this]
 ·rw[aP h,c]
  have j:rE true false e=[⟨e.hs.length,5,e.hs.map Hd.v,false⟩]:=by unfold rE wH De;rw[aP h];rfl
  have g:rE true false (vZ nx e)=[⟨e.hs.length,5,(e.hs.map (zF nx)).map Hd.v,false⟩]:=by
   unfold rE wH De vZ;dsimp only;rw[aP (by simpa using h)];simp
  rw[j,g];have:A++(X.flatMap (rE true false)++([⟨e.hs.length,5,e.hs.map Hd.v,false⟩]++Y.flatMap (rE true false)))++Z=(A++X.flatMap (rE true false))++⟨e.hs.length,5,e.hs.map Hd.v,false⟩::(Y.flatMap (rE true false)++Z):=by simp
  rw[this,uN (by rw[hn,aF])];simp
theorem abr{D A:List Row}{n:Nat}{e:Ev}{X Y:List Ev}{Z:List Row}(c:D=A++oJ (X++e::Y)++Z)(hn:n=A.length+(oJ X).length)(h:e.hs≠[]):eP D n=⟨e.hs.length,5,e.hs.map Hd.v,false⟩:=by
 unfold oJ at*;rw[bH,bF]at c;have g:rE true false e=[⟨e.hs.length,5,e.hs.map Hd.v,false⟩]:=by unfold rE wH De;rw[aP h];rfl
 have:D=(A++X.flatMap (rE true false))++⟨e.hs.length,5,e.hs.map Hd.v,false⟩::(Y.flatMap (rE true false)++Z):=by rw[c,g];simp
 rw[this];exact jC (by rw[hn,aF])
def UJ(ms:List Me)(i c v x:Nat):Option Ev:=(nxE 0 ms i c v x).map Prod.snd
def tT(ms:List Me)(i c v:Nat)(vo:Vo):Vo:=⟨vo.es.mapIdx fun x e=>vZ (UJ ms i c v x) e,vo.tu⟩
def yH(ms:List Me)(i c:Nat)(ce:Ce):Ce:=⟨ce.vs.mapIdx fun v vo=>tT ms i c v vo⟩
def yI(ms:List Me)(i:Nat)(m:Me):Me:={m with cs:=m.cs.mapIdx fun c ce=>yH ms i c ce}
def pI(ms:List Me):List Me:=ms.mapIdx fun i m=>yI ms i m
theorem ajC(n:Nat)(ms:List Me)(i c v:Nat):(Ci n ms i c v).map Prod.snd=(Ci 0 ms i c v).map Prod.snd:=by
 unfold Ci RV;cases ms[i]?with
 |none=>rfl
 |some m=>
  dsimp only;cases m.cs[c]?with
  |none=>rfl
  |some g=>
   dsimp only;cases g.vs[v]? <;>rfl
theorem abt(n:Nat)(ms:List Me)(i c v x:Nat):(wW n ms i c v x).map Prod.snd=(wW 0 ms i c v x).map Prod.snd:=by
 have h:=ajC n ms i c v;unfold wW;cases j:Ci n ms i c v with
 |none=>
  cases g:Ci 0 ms i c v with
  |none=>rfl
  |some q=>rw[j,g]at h;cases h
 |some p=>
  cases g:Ci 0 ms i c v with
  |none=>rw[j,g]at h;cases h
  |some q=>
   rw[j,g]at h;injection h with h
   obtain⟨n1,es⟩:=p;obtain⟨n2,es'⟩:=q;dsimp only at h⊢;subst h;cases es[x]? <;>rfl
theorem aoK(n:Nat)(ms:List Me)(i c v x:Nat):(nxE n ms i c v x).map Prod.snd=UJ ms i c v x:=by
 have g:=abt n ms i c v (x+1);have r:=abt n ms (i+1) c v 0;unfold UJ nxE;cases l:wW n ms i c v (x+1)with
 |none=>
  rw[l]at g;cases j:wW 0 ms i c v (x+1)with
  |none=>exact r
  |some q=>rw[j]at g;cases g
 |some p=>
  rw[l]at g;cases j:wW 0 ms i c v (x+1)with
  |none=>rw[j]at g;cases g
  |some q=>rw[j]at g;exact g
structure UnS(M4:Mem)(ms:List Me)(n vm vp np N:Nat)(wr:Bool):Prop where
 R3:ax M4 (.o 3)=⟨1,6,[[.str iB,.bool wr,.ref 0 (.o 6) vp 6 0 np,.ref 0 (.o 7) vm 22 0 ms.length,.aL,.aL]],false⟩
 R7:ax M4 (.o 7)=⟨vm,22,gY (sM true) (rM true false) n ms,false⟩
 Cc:0<vm
 ml:ms.length<=1000
 hN:∀m∈ms,m.cs.length=N
 nl:N<=1000
 vl:∀m∈ms,∀c∈m.cs,c.vs.length<=1000
 ne:∀m∈ms,∀c∈m.cs,∀v∈c.vs,v.es≠[]
 el:∀m∈ms,∀c∈m.cs,∀v∈c.vs,v.es.length<=1000
 hl:∀e∈RY ms,e.hs.length<=1000
theorem ajD(nx:Option (Nat×Ev)):nxV nx=[.agg (KY nx),.bool nx.isSome]:=by
 cases nx<;>rfl
theorem aev(nx:Option (Nat×Ev)):(KY nx).length=13∧(∀d,V.bW d (KY nx)=KY nx)∧(KY nx).take 13=KY nx∧(KY nx).all V.scalar=true:=by
 cases nx with
 |none=>exact⟨rfl,fun _=>rfl,rfl,rfl⟩
 |some p=>exact⟨(uA true p.1 p.2).1,(uA true p.1 p.2).2,FD true p.1 p.2,FC true p.1 p.2⟩
theorem RZ{ms:List Me}{i c v:Nat}{vo:Vo}(x:Nat):(oJ ((tT ms i c v vo).es.take x)).length=(oJ (vo.es.take x)).length:=by
 induction x with
 |zero=>rfl
 |succ x g=>
  unfold tT at*;dsimp only at*;cases h:vo.es[x]?with
  |none=>
   have j:(vo.es.mapIdx fun x e=>vZ (UJ ms i c v x) e)[x]? =none:=by rw[gu,h];rfl
   rw[aY,aY,h,j];simp only[Option.toList_none,bz];exact g
  |some e=>
   rw[kZ h,aY,h];unfold oJ at*;rw[bH,bH,aF,aF,g];congr 1;simp only[eQ,bF,dK,bz];exact abq _ _
theorem ajE{n:Nat}{ms:List Me}{i c v:Nat}{cs:List Ce}{vs:List Vo}{es:List Ev}:nV (nC (nM n ms i) cs c) vs v=n+(oJ (pre ms i cs c vs v es 0)).length:=by
 unfold nV nC nM pre;rw[abn,abl,agc];unfold oJ;simp only[bH,aF,fZ,dK,ek,nR,jd];rfl
theorem agd{ms:List Me}{i c v x:Nat}{cs:List Ce}{vs:List Vo}{es:List Ev}:pre ms i cs c vs v es x=pre ms i cs c vs v es 0++es.take x:=by
 unfold pre;simp only[fZ,bz,aC]
theorem avr{cX:eu}(qG:cX=sb 15 42){fr:List V}{M M4:Mem}{K:List KI}{T:Option (V×Option (List Row))}{ms:List Me}{n vm vp np N i c v:Nat}{wr:Bool}{m:Me}{j:Ce}{vo:Vo}{A Z:List Row}{dn C:List Ev}(U:UnS M4 ms n vm vp np N wr)(hm:ms[i]? =some m)(hc:m.cs[c]? =some j)(hv:j.vs[v]? =some vo)
  (h0:ag fr 0= .ptr 1 (.o 3) 1 0 0)(h2:ag fr 2= .i i)(h3:ag fr 3= .i c)(h4:ag fr 4= .i v)(h5:ag fr 5=cu 13 (gY (sE true) (rE true false) (nV (nC (nM n ms i) m.cs c) j.vs v) vo.es))(h6:ag fr 6= .i 0)
  (hb:M.b<=n)(hA:A.length=n)(Y0:(oJ dn).length=(oJ (pre ms i m.cs c j.vs v vo.es 0)).length)(hC:RY ms=pre ms i m.cs c j.vs v vo.es 0++(vo.es++C))(l:M.D=A++oJ (dn++(vo.es++C))++Z)
  (done:∀fr' X,(∀m,m<6->ag fr' m=ag fr m)->X.b=M.b->X.D=A++oJ (dn++((tT ms i c v vo).es++C))++Z->G bn (M4::H) false [] K fr' X=T):
  G bn (M4::H) false [] (.code (.loop cX):: .blk 6::K) fr M=T:=by
 subst qG;conv in sb _ _=>reduce
 simp only[↓zo,zp,seval];have MM:=U.el m (ah hm) j (ah hc) vo (ah hv);have I1:(tT ms i c v vo).es.length=vo.es.length:=dJ ..;have hEl:(gY (sE true) (rE true false) (nV (nC (nM n ms i) m.cs c) j.vs v) vo.es).length=vo.es.length:=fE _ _;refine bI (fun x fr' X=>(∀m,m<6->ag fr' m=ag fr m)∧ag fr' 6= .i x∧X.b=M.b∧X.D=A++oJ (dn++((tT ms i c v vo).es.take x++(vo.es.drop x++C)))++Z) vo.es.length ⟨fun m _=>rfl,h6,rfl,l⟩ ?_ ?_
 ·clear done l h6
  rintro x lV B hx ⟨u,g6,hB,l⟩ next
  have g0:=(u 0 (by omega)).trans h0;have g2:=(u 2 (by omega)).trans h2;have g3:=(u 3 (by omega)).trans h3;have g4:=(u 4 (by omega)).trans h4;have g5:=(u 5 (by omega)).trans h5;clear h0 h2 h3 h4 h5;obtain⟨e,he⟩:∃e,vo.es[x]? =some e:=⟨_,ak hx⟩
  have xq:(tT ms i c v vo).es.take (x+1)=(tT ms i c v vo).es.take x++[vZ (UJ ms i c v x) e]:=kZ he;have GA:=RZ (ms:=ms) (i:=i) (c:=c) (v:=v) (vo:=vo) x;rw[xq]at next
  rw[kE he]at l;generalize (tT ms i c v vo).es.take x=I at*;have R:RY ms=pre ms i m.cs c j.vs v vo.es x++e::(vo.es.drop (x+1)++C):=by
   rw[hC,agd (x:=x),aC];congr 1;conv=>lhs;rw[Ww he]
   simp only[aC,aW]
  have Ed:(nV (nC (nM n ms i) m.cs c) j.vs v+(oJ (vo.es.take x)).length)=A.length+(oJ (dn++I)).length:=by
   rw[ajE (es:=vo.es),hA,<-Y0];unfold oJ at*;rw[bH,aF,GA,jd]
  have hk:=qU (sk:=sE true) (r:=rE true false) (n:=nV (nC (nM n ms i) m.cs c) j.vs v) he;change _=some (sE true (nV (nC (nM n ms i) m.cs c) j.vs v+(oJ (vo.es.take x)).length) e)at hk;rw[Ed]at hk;have ng:B.D=A++oJ ((dn++I)++e::(vo.es.drop (x+1)++C))++Z:=by
   rw[l];simp only[aC,aW]
  obtain⟨ne,fP⟩:∃ne,A.length+(oJ (dn++I)).length=ne:=⟨_,rfl⟩
  rw[fP]at hk;have F:e.hs≠[]->ax B (.g ne)=⟨e.hs.length,5,e.hs.map Hd.v,false⟩:=fun h=>abr ng fP.symm h;have avs:e.hs.length<=1000:=U.hl e (by rw[R];simp);have O:∀J y,nxE n ms i c v x=some (J,y)->(e.hs≠[]->J≠ne)∧y.hs.length<=1000∧(y.hs≠[]->ax B (.g J)=⟨y.hs.length,5,y.hs.map Hd.v,false⟩):=by
   intro J y hny;obtain⟨W,C2,w1,w2⟩:=aoJ hm hc hv he hny;have hW:vo.es.drop (x+1)++C=W++y::C2:=by
    rw[R]at w1;have:=List.append_cancel_left w1;injection this
   have AJ:B.D=A++oJ ((dn++I++e::W)++y::C2)++Z:=by
    rw[ng,hW];simp only[aC,aW]
   have hpl:(oJ (pre ms i m.cs c j.vs v vo.es x)).length=(oJ (dn++I)).length:=by
    rw[agd (x:=x)];unfold oJ at*;rw[bH,bH,aF,aF,Y0,GA]
   have Y:J=A.length+(oJ (dn++I++e::W)).length:=by
    rw[w2,hA];unfold oJ at*;rw[bH,bH (xs:=dn++I),aF,aF,hpl]
   refine⟨fun h=> ?_,U.hl y (by rw[w1];simp),fun h=>abr AJ Y h⟩;rw[Y,<-fP];have h1:rE true false e=[⟨e.hs.length,5,e.hs.map Hd.v,false⟩]:=by unfold rE wH De;rw[aP h];rfl
   unfold oJ;rw[bH,bF,h1];simp
  have c':=fun H=>c39 (H:=H) (M15:=B) (M4:=M4) (wr:=wr) (P:= .ref 2 (.o 6) vp 6 0 np) rfl U.R7 U.Cc U.ml U.hN U.ne (h:=(by
   show Ci n ms i c v=some (nV (nC (nM n ms i) m.cs c) j.vs v,vo.es);unfold Ci RV;rw[hm];dsimp only;rw[hc];dsimp only;rw[hv])) hx MM
  simp only[ajD]at c';have Q:=aoK n ms i c v x;have avu:=U.R3;have He:i<ms.length:=(au.1 hm).1;have xK:=U.ml;have e1:=(uA true ne e).1;obtain⟨nx,aoM⟩:∃nx,nxE n ms i c v x=nx:=⟨_,rfl⟩
  rw[aoM]at c' O Q;obtain⟨x1,x2,x3,x4⟩:=aev nx;have AV:B.b<=ne:=by omega
  have hE0:(vZ (UJ ms i c v x) e)=vZ (nx.map Prod.snd) e:=by rw[Q]
  rw[hE0]at next
  have fin:X7 B.D ne e.hs (e.hs.map (zF (nx.map Prod.snd)))=A++oJ (dn++(I++[vZ (nx.map Prod.snd) e]++(vo.es.drop (x+1)++C)))++Z:=by
   rw[X8 ng fP.symm];simp only[aC,aW,dm]
  clear aoM Q hC R l ng hE0 Ed Y0 xq GA;generalize hNv:KY nx=Nv at*;generalize hOk:nx.isSome=ok at*;generalize gY (sE true) (rE true false) (nV (nC (nM n ms i) m.cs c) j.vs v) vo.es=Es at*;generalize iB=T0 at*;simp(disch:=omega) only[↓zd,seval,push_cast,g0,g2,g3,g4,g5,g6,avu,hEl,c',x1,x2,x3,x4];refine avp (by kernel_rfl) (Es:=Es) (x:=x) (n:=ne) (v1:=(ax B (.o 1)).ver+1) (e:=e) (nx:=nx) hk ?_ ?_ ?_ ?_ ?_ ?_ (jA _) ?_ ?_ ?_ avs ?_
  ·simp only[↓zg,seval,g5]
  ·simp only[↓zg,seval,g6]
  ·simp only[↓zg,seval]
  ·simp only[↓zg,seval]
   rw[hOk]
  ·simp only[↓zg,seval]
   all_goals rfl
  ·simp only[ay,bK]
   rw[hNv]
  ·intro J y h
   obtain⟨a1,a2,a3⟩:=O J y h;exact⟨a1,a2,fun h=>by simp only[ay,reduceCtorEq,bZ];exact a3 h⟩
  ·intro h
   simp only[ay,reduceCtorEq,bZ];exact F h
  ·simp only[eG];exact AV
  ·intro fr2 M2 gI hB2 AJ
   simp only[eG,cz]at hB2 AJ;rw[fin]at AJ;have k6:ag fr2 6= .i x:=(gI 6 (by omega)).trans (by simp only[↓zg,seval,g6]);have vL:∀m,m<6->ag fr2 m=ag fr m:=fun m hm=>by
    rw[gI m (by omega),<-u m hm];simp(disch:=omega) only[bU,bY]
   clear gI O fin u c' F;simp(disch:=omega) only[↓zd,seval,push_cast,k6];refine next _ _ ⟨fun m hm=> ?_,?_,hB2.trans hB,AJ⟩
   ·rw[<-vL m hm]
    simp(disch:=omega) only[bU,bY]
   ·simp only[↓zg,seval]
    rfl
 ·rintro lV B ⟨u,g6,hB,l⟩
  have g5:=(u 5 (by omega)).trans h5;rw[<-I1,aT,I1,dZ,dm]at l;have d:=fun fr' h=>done fr' B h hB l;clear done l hC;generalize gY (sE true) (rE true false) (nV (nC (nM n ms i) m.cs c) j.vs v) vo.es=Es at*;simp(disch:=omega) only[↓zd,seval,push_cast,g5,g6,hEl];refine d _ fun m hm=> ?_;rw[<-u m hm];simp(disch:=omega) only[bU,bY]
theorem ym(a b:List Ev):(oJ (a++b)).length=(oJ a).length+(oJ b).length:=by unfold oJ;rw[bH,aF]
theorem I8{α:Type}{f:Nat->α->α}{g:α->List Ev}(h:∀i a,(oJ (g (f i a))).length=(oJ (g a)).length)(l:List α)(x:Nat):(oJ (((l.mapIdx f).take x).flatMap g)).length=(oJ ((l.take x).flatMap g)).length:=by
 induction x with
 |zero=>rfl
 |succ x c=>
  cases hx:l[x]?with
  |none=>
   have j:(l.mapIdx f)[x]? =none:=by rw[gu,hx];rfl
   rw[aY,aY,hx,j];simp only[Option.toList_none,bz];exact c
  |some e=>
   rw[kZ hx,aY,hx,bH,bH,ym,ym,c];congr 1;simp only[eQ,bF,dK,bz];exact h x e
theorem Wy{α:Type}{f:Nat->α->α}{g:α->List Ev}(h:∀i a,(oJ (g (f i a))).length=(oJ (g a)).length)(l:List α):(oJ ((l.mapIdx f).flatMap g)).length=(oJ (l.flatMap g)).length:=by
 have:=I8 h l l.length;rwa[aT,show(l.mapIdx f).take l.length=l.mapIdx f from by rw[show l.length=(l.mapIdx f).length from List.length_mapIdx.symm,aT]]at this
theorem KZ(ms:List Me)(i c v:Nat)(vo:Vo):(oJ (tT ms i c v vo).es).length=(oJ vo.es).length:=by
 have:=RZ (ms:=ms) (i:=i) (c:=c) (v:=v) (vo:=vo) vo.es.length;rwa[aT,show(tT ms i c v vo).es.take vo.es.length=(tT ms i c v vo).es from by rw[show vo.es.length=(tT ms i c v vo).es.length from List.length_mapIdx.symm,aT]]at this
theorem K3(ms:List Me)(i c:Nat)(j:Ce):(oJ (Bg (yH ms i c j))).length=(oJ (Bg j)).length:=Wy (f:=fun v vo=>tT ms i c v vo) (g:=Vo.es) (fun v vo=>KZ ms i c v vo) j.vs
theorem R5(ms:List Me)(i:Nat)(m:Me):(oJ (EC (yI ms i m))).length=(oJ (EC m)).length:=Wy (f:=fun c j=>yH ms i c j) (g:=Bg) (fun c j=>K3 ms i c j) m.cs
theorem age{ms:List Me}{i c v:Nat}{cs:List Ce}{vs:List Vo}{es:List Ev}:pre ms i cs c vs v es 0=(ms.take i).flatMap EC++((cs.take c).flatMap Bg++(vs.take v).flatMap Vo.es):=by
 unfold pre;simp only[fZ,bz]
theorem avv{cX:eu}(qG:cX=sb 15 28){fr:List V}{M M4:Mem}{K:List KI}{T:Option (V×Option (List Row))}{ms:List Me}{n vm vp np N i c:Nat}{wr:Bool}{m:Me}{j:Ce}{A Z:List Row}{dn C:List Ev}(U:UnS M4 ms n vm vp np N wr)(hm:ms[i]? =some m)(hc:m.cs[c]? =some j)
  (h0:ag fr 0= .ptr 1 (.o 3) 1 0 0)(h2:ag fr 2= .i i)(h3:ag fr 3= .i c)(h4:ag fr 4= .i 0)
  (hb:M.b<=n)(hA:A.length=n)(Y0:(oJ dn).length=(oJ ((ms.take i).flatMap EC++(m.cs.take c).flatMap Bg)).length)(hC:RY ms=((ms.take i).flatMap EC++(m.cs.take c).flatMap Bg)++(Bg j++C))(u:M.D=A++oJ (dn++(Bg j++C))++Z)
  (done:∀fr' F,(∀m,m<4->ag fr' m=ag fr m)->F.b=M.b->F.D=A++oJ (dn++(Bg (yH ms i c j)++C))++Z->G bn (M4::H) false [] K fr' F=T):
  G bn (M4::H) false [] (.code (.loop cX):: .blk 4::K) fr M=T:=by
 subst qG;conv in sb _ _=>reduce
 simp only[↓zo,zp,seval];have k1:=qU (sk:=sM true) (r:=rM true false) (n:=n) hm;have k2:=qU (sk:=sC true) (r:=rC true false) (n:=nM n ms i) hc;change _=some (sM true (nM n ms i) m)at k1;change _=some (sC true (nC (nM n ms i) m.cs c) j)at k2;have m1:=(zq true (nM n ms i) m).1;have m2:=(zq true (nM n ms i) m).2;have m3:(sM true (nM n ms i) m)[21]? =some (cu 2 (gY (sC true) (rC true false) (nM n ms i) m.cs)):=rfl;have e1:=(RL true (nC (nM n ms i) m.cs c) j).1;have e3:(sC true (nC (nM n ms i) m.cs c) j)[1]? =some (cu 2 (gY (sV true) (rV true false) (nC (nM n ms i) m.cs c) j.vs)):=rfl;have O:(gY (sV true) (rV true false) (nC (nM n ms i) m.cs c) j.vs).length=j.vs.length:=fE _ _;have He:i<ms.length:=(au.1 hm).1;have xK:=U.ml;have ji:=U.R3;have Sz:=U.R7;have Cc:=U.Cc;have hvl:=U.vl m (ah hm) j (ah hc);have Q:(gY (sM true) (rM true false) n ms).length=ms.length:=fE _ _;have J:(yH ms i c j).vs.length=j.vs.length:=dJ ..;refine bI (fun v fr' F=>(∀m,m<4->ag fr' m=ag fr m)∧ag fr' 4= .i v∧F.b=M.b∧F.D=A++oJ ((dn++((yH ms i c j).vs.take v).flatMap Vo.es)++((j.vs.drop v).flatMap Vo.es++C))++Z) j.vs.length ⟨fun m _=>rfl,h4,rfl,by rw[u];simp only[fZ,dK,bz,dH];rfl⟩ ?_ ?_
 ·clear done u h4
  rintro v lV M1 ajF ⟨l,W,hB,u⟩ next
  have g0:=(l 0 (by omega)).trans h0;have Y:=(l 2 (by omega)).trans h2;have X:=(l 3 (by omega)).trans h3;clear h0 h2 h3;obtain⟨vo,I⟩:∃e,j.vs[v]? =some e:=⟨_,ak ajF⟩
  have k3:=qU (sk:=sV true) (r:=rV true false) (n:=nC (nM n ms i) m.cs c) I;change _=some (sV true (nV (nC (nM n ms i) m.cs c) j.vs v) vo)at k3;have w1:=(Hz true (nV (nC (nM n ms i) m.cs c) j.vs v) vo).1;have w3:(sV true (nV (nC (nM n ms i) m.cs c) j.vs v) vo)[0]? =some (cu 13 (gY (sE true) (rE true false) (nV (nC (nM n ms i) m.cs c) j.vs v) vo.es)):=rfl;have xq:(yH ms i c j).vs.take (v+1)=(yH ms i c j).vs.take v++[tT ms i c v vo]:=kZ I;have I1:=I8 (f:=fun v vo=>tT ms i c v vo) (g:=Vo.es) (fun v vo=>KZ ms i c v vo) j.vs v;change (oJ (((yH ms i c j).vs.take v).flatMap Vo.es)).length=_ at I1;rw[xq]at next
  rw[kE I,bF]at u;have B:RY ms=pre ms i m.cs c j.vs v vo.es 0++(vo.es++((j.vs.drop (v+1)).flatMap Vo.es++C)):=by
   rw[hC,age];simp only[aC];congr 2;show j.vs.flatMap Vo.es++C=_;rw[CO I];simp only[aC]
  generalize (yH ms i c j).vs.take v=Un at*;have ajG:(oJ (dn++Un.flatMap Vo.es)).length=(oJ (pre ms i m.cs c j.vs v vo.es 0)).length:=by
   rw[age,ym,I1,Y0,ym,ym,ym];omega
  generalize hMs:gY (sM true) (rM true false) n ms=Ms at*;generalize sM true (nM n ms i) m=Em at*;generalize gY (sC true) (rC true false) (nM n ms i) m.cs=Cs at*;generalize sC true (nC (nM n ms i) m.cs c) j=Ec at*;generalize gY (sV true) (rV true false) (nC (nM n ms i) m.cs c) j.vs=Vs at*;generalize sV true (nV (nC (nM n ms i) m.cs c) j.vs v) vo=Ew at*;obtain⟨Es,R⟩:∃E,gY (sE true) (rE true false) (nV (nC (nM n ms i) m.cs c) j.vs v) vo.es=E:=⟨_,rfl⟩
  rw[R]at w3;generalize iB=T0 at*;have hC3:=B;clear I1 hC;simp(disch:=omega) only[↓zd,seval,push_cast,g0,Y,X,W,ji,Sz,Cc,Q,He,k1,k2,k3,m1,m2,m3,e1,e3,w1,w3,O];refine avr (by kernel_rfl) (dn:=dn++Un.flatMap Vo.es) (C:=(j.vs.drop (v+1)).flatMap Vo.es++C) (A:=A) (Z:=Z) U hm hc I ?_ ?_ ?_ ?_ ?_ ?_ ?_ hA ajG B ?_ ?_
  ·simp only[↓zg,seval,g0]
  ·simp only[↓zg,seval,Y]
  ·simp only[↓zg,seval,X]
  ·simp only[↓zg,seval,W]
  ·simp only[↓zg,seval]
   rw[R]
  ·simp only[↓zg,seval]
   all_goals rfl
  ·omega
  ·rw[u]
   simp only[aC]
  ·intro fr2 M2 gI hB2 AJ
   have j4:ag fr2 4= .i v:=(gI 4 (by omega)).trans (by simp only[↓zg,seval,W]);have vL:∀m,m<4->ag fr2 m=ag fr m:=fun m hm=>by
    rw[gI m (by omega),<-l m hm];simp(disch:=omega) only[bU,bY]
   clear gI l B hC3;simp(disch:=omega) only[↓zd,seval,push_cast,j4];refine next _ _ ⟨fun m hm=> ?_,?_,hB2.trans hB,?_⟩
   ·rw[<-vL m hm]
    simp(disch:=omega) only[bU,bY]
   ·simp only[↓zg,seval]
    rfl
   ·rw[AJ]
    simp only[bH,bF,dK,bz,aC]
 ·rintro lV M1 ⟨l,W,hB,u⟩
  have g0:=(l 0 (by omega)).trans h0;have Y:=(l 2 (by omega)).trans h2;have X:=(l 3 (by omega)).trans h3;rw[<-J,aT,J,dZ,dK,dm]at u;have d:=fun fr' h=>done fr' M1 h hB (u.trans (by simp only[aC];rfl));clear done u hC;generalize gY (sM true) (rM true false) n ms=Ms at*;generalize sM true (nM n ms i) m=Em at*;generalize gY (sC true) (rC true false) (nM n ms i) m.cs=Cs at*;generalize sC true (nC (nM n ms i) m.cs c) j=Ec at*;generalize gY (sV true) (rV true false) (nC (nM n ms i) m.cs c) j.vs=Vs at*;generalize iB=T0 at*;simp(disch:=omega) only[↓zd,seval,push_cast,g0,Y,X,W,ji,Sz,Cc,Q,He,k1,k2,m1,m2,m3,e1,e3,O];refine d _ fun m hm=> ?_;rw[<-l m hm];simp(disch:=omega) only[bU,bY]
theorem avw{cX:eu}(qG:cX=sb 15 16){fr:List V}{M M4:Mem}{K:List KI}{T:Option (V×Option (List Row))}{ms:List Me}{n vm vp np N i:Nat}{wr:Bool}{m:Me}{A Z:List Row}{dn C:List Ev}(U:UnS M4 ms n vm vp np N wr)(hm:ms[i]? =some m)
  (h0:ag fr 0= .ptr 1 (.o 3) 1 0 0)(h2:ag fr 2= .i i)(h3:ag fr 3= .i 0)
  (hb:M.b<=n)(hA:A.length=n)(Y0:(oJ dn).length=(oJ ((ms.take i).flatMap EC)).length)(hC:RY ms=(ms.take i).flatMap EC++(EC m++C))(j:M.D=A++oJ (dn++(EC m++C))++Z)
  (done:∀fr' F,(∀m,m<3->ag fr' m=ag fr m)->F.b=M.b->F.D=A++oJ (dn++(EC (yI ms i m)++C))++Z->G bn (M4::H) false [] K fr' F=T):
  G bn (M4::H) false [] (.code (.loop cX):: .blk 2::K) fr M=T:=by
 subst qG;conv in sb _ _=>reduce
 simp only[↓zo,zp,seval];have X:=qU (sk:=sM true) (r:=rM true false) (n:=n) hm;change _=some (sM true (nM n ms i) m)at X;have m1:=(zq true (nM n ms i) m).1;have m2:=(zq true (nM n ms i) m).2;have m3:(sM true (nM n ms i) m)[21]? =some (cu 2 (gY (sC true) (rC true false) (nM n ms i) m.cs)):=rfl;have O:(gY (sC true) (rC true false) (nM n ms i) m.cs).length=m.cs.length:=fE _ _;have He:i<ms.length:=(au.1 hm).1;have xK:=U.ml;have ji:=U.R3;have Sz:=U.R7;have Cc:=U.Cc;have hcl:=U.hN m (ah hm);have Yq:=U.nl;have J:(gY (sM true) (rM true false) n ms).length=ms.length:=fE _ _;have I:(yI ms i m).cs.length=m.cs.length:=dJ ..;refine bI (fun c fr' F=>(∀m,m<3->ag fr' m=ag fr m)∧ag fr' 3= .i c∧F.b=M.b∧F.D=A++oJ ((dn++((yI ms i m).cs.take c).flatMap Bg)++((m.cs.drop c).flatMap Bg++C))++Z) m.cs.length ⟨fun m _=>rfl,h3,rfl,by rw[j];simp only[fZ,dK,bz,dH];rfl⟩ ?_ ?_
 ·clear done j h3
  rintro c lV M1 ajF ⟨l,Q,hB,j⟩ next
  have W:=(l 0 (by omega)).trans h0;have R:=(l 2 (by omega)).trans h2;clear h0 h2;obtain⟨B,hc⟩:∃e,m.cs[c]? =some e:=⟨_,ak ajF⟩
  have xq:(yI ms i m).cs.take (c+1)=(yI ms i m).cs.take c++[yH ms i c B]:=kZ hc;have I1:=I8 (f:=fun c B=>yH ms i c B) (g:=Bg) (fun c B=>K3 ms i c B) m.cs c;change (oJ (((yI ms i m).cs.take c).flatMap Bg)).length=_ at I1;rw[xq]at next
  rw[kE hc,bF]at j;have u:RY ms=((ms.take i).flatMap EC++(m.cs.take c).flatMap Bg)++(Bg B++((m.cs.drop (c+1)).flatMap Bg++C)):=by
   rw[hC];simp only[aC];congr 1;show m.cs.flatMap Bg++C=_;rw[CO hc];simp only[aC]
  generalize (yI ms i m).cs.take c=Un at*;have ajG:(oJ (dn++Un.flatMap Bg)).length=(oJ ((ms.take i).flatMap EC++(m.cs.take c).flatMap Bg)).length:=by
   rw[ym,ym,I1,Y0]
  generalize hMs:gY (sM true) (rM true false) n ms=Ms at*;generalize sM true (nM n ms i) m=Em at*;generalize gY (sC true) (rC true false) (nM n ms i) m.cs=Cs at*;generalize iB=T0 at*;have Y:=u;clear I1 hC;simp(disch:=omega) only[↓zd,seval,push_cast,W,R,Q,ji,Sz,Cc,J,He,X,m1,m2,m3,O];refine avv (by kernel_rfl) (dn:=dn++Un.flatMap Bg) (C:=(m.cs.drop (c+1)).flatMap Bg++C) (A:=A) (Z:=Z) U hm hc ?_ ?_ ?_ ?_ ?_ hA ajG u ?_ ?_
  ·simp only[↓zg,seval,W]
  ·simp only[↓zg,seval,R]
  ·simp only[↓zg,seval,Q]
  ·simp only[↓zg,seval]
   all_goals rfl
  ·omega
  ·rw[j]
   simp only[aC]
  ·intro fr2 M2 gI hB2 AJ
   have j3:ag fr2 3= .i c:=(gI 3 (by omega)).trans (by simp only[↓zg,seval,Q]);have vL:∀m,m<3->ag fr2 m=ag fr m:=fun m hm=>by
    rw[gI m (by omega),<-l m hm];simp(disch:=omega) only[bU,bY]
   clear gI l u Y;simp(disch:=omega) only[↓zd,seval,push_cast,j3];refine next _ _ ⟨fun m hm=> ?_,?_,hB2.trans hB,?_⟩
   ·rw[<-vL m hm]
    simp(disch:=omega) only[bU,bY]
   ·simp only[↓zg,seval]
    rfl
   ·rw[AJ]
    simp only[bH,bF,dK,bz,aC]
 ·rintro lV M1 ⟨l,Q,hB,j⟩
  have W:=(l 0 (by omega)).trans h0;have R:=(l 2 (by omega)).trans h2;rw[<-I,aT,I,dZ,dK,dm]at j;have d:=fun fr' h=>done fr' M1 h hB (j.trans (by simp only[aC];rfl));clear done j hC;generalize gY (sM true) (rM true false) n ms=Ms at*;generalize sM true (nM n ms i) m=Em at*;generalize gY (sC true) (rC true false) (nM n ms i) m.cs=Cs at*;generalize iB=T0 at*;simp(disch:=omega) only[↓zd,seval,push_cast,W,R,Q,ji,Sz,Cc,J,He,X,m1,m2,m3,O];refine d _ fun m hm=> ?_;rw[<-l m hm];simp(disch:=omega) only[bU,bY]
theorem c15{M4:Mem}{ms:List Me}{n vm vp Y N:Nat}{wr:Bool}{A Z:List Row}(U:UnS M4 ms n vm vp Y N wr)(hb:M4.b<=n)(hA:A.length=n)(J:M4.D=A++ms.flatMap (rM true false)++Z):
  call bn 15 [.ptr 1 (.o 3) 1 0 0] (M4::H)=some (.eT [],some (A++(pI ms).flatMap (rM true false)++Z)):=by
 have F:(Ht.start false (M4::H)).D=M4.D:=rfl;have I:(Ht.start false (M4::H)).b=M4.b:=rfl;rw[abn]at J⊢;have xK:=U.ml;have ji:=U.R3;have hMl:(gY (sM true) (rM true false) n ms).length=ms.length:=fE _ _;have l:(pI ms).length=ms.length:=dJ ..;have B:=ji;generalize iB=T0 at B;refine(av (by conv=>lhs;reduce)).trans ?_;simp only[↓zo,zp,seval];generalize Ht.start false (M4::H)=L0 at*;simp(disch:=omega) only[↓zd,seval,push_cast,B];refine bI (fun i fr' T=>ag fr' 0= .ptr 1 (.o 3) 1 0 0∧ag fr' 2= .i i∧T.b=M4.b∧T.D=A++oJ (((pI ms).take i).flatMap EC++(ms.drop i).flatMap EC)++Z) ms.length ⟨?_,?_,?_,?_⟩ ?_ ?_
 ·simp only[↓zg,seval]
  all_goals rfl
 ·simp only[↓zg,seval]
  all_goals rfl
 ·exact I
 ·rw[F,J];rfl
 ·rintro i lV M1 hi ⟨u,r,R,j⟩ next
  obtain⟨m,hm⟩:∃e,ms[i]? =some e:=⟨_,ak hi⟩
  have X:(pI ms).take (i+1)=(pI ms).take i++[yI ms i m]:=kZ hm;have W:=I8 (f:=fun i m=>yI ms i m) (g:=EC) (fun i m=>R5 ms i m) ms i;change (oJ (((pI ms).take i).flatMap EC)).length=_ at W;rw[X]at next
  rw[kE hm,bF]at j;have c:RY ms=(ms.take i).flatMap EC++(EC m++(ms.drop (i+1)).flatMap EC):=CO hm;generalize (pI ms).take i=Un at*;have K:=c;simp(disch:=omega) only[↓zd,seval,push_cast,u,r,B];refine avw (by kernel_rfl) (dn:=Un.flatMap EC) (C:=(ms.drop (i+1)).flatMap EC) (A:=A) (Z:=Z) U hm ?_ ?_ ?_ ?_ hA W c j ?_
  ·simp only[↓zg,seval,u]
  ·simp only[↓zg,seval,r]
  ·simp only[↓zg,seval]
   all_goals rfl
  ·omega
  ·intro fr2 M2 Q O AJ
   have j0:ag fr2 0= .ptr 1 (.o 3) 1 0 0:=(Q 0 (by omega)).trans (by simp only[↓zg,seval,u]);have j2:ag fr2 2= .i i:=(Q 2 (by omega)).trans (by simp only[↓zg,seval,r]);clear Q c K;simp(disch:=omega) only[↓zd,seval,push_cast,j2];refine next _ _ ⟨?_,?_,O.trans R,?_⟩
   ·simp only[↓zg,seval,j0]
   ·simp only[↓zg,seval]
    rfl
   ·rw[AJ]
    simp only[bH,bF,dK,bz,aC]
 ·rintro lV M1 ⟨u,r,R,j⟩
  rw[<-l,aT,l,dZ,dK,bz,show(pI ms).flatMap EC=RY (pI ms)from rfl]at j;rw[<-j];clear j J;simp(disch:=omega) only[↓zd,seval,push_cast,u,r,B]
def YB(es:List Ev):List Int:=es.map Ev.id
def YC(c v:Nat)(m:Me):List Int:=
 match m.cs[c]?with
 |none=>[]
 |some ce=>match ce.vs[v]?with
  |none=>[]
  |some vo=>YB vo.es
def PM(ms:List Me)(c v:Nat):List Int:=ms.flatMap (YC c v)
def pJ(ms:List Me)(N:Nat):List (List Int):=(List.range N).flatMap fun c=>[PM ms c 0,PM ms c 1]
def K4(l:List Int):List V:=[cu 2 (l.map Av)]
theorem k17{cX:eu}(O:cX=sb 17 56){fr:List V}{M:Mem}{K:List KI}{T:Option (V×Option (List Row))}{es:List Ev}{l0:List (List V)}{x0:V}
  (J:ag fr 6=x0)(r:ag fr 8=cu 13 (es.map Ev.v))(h9:ag fr 9= .i 0)(A:sF M 2 2 x0 l0)(hl:l0.length+es.length<=1000000)
  (done:∀fr' g x1,(∀m,m<6∨m=7->ag fr' m=ag fr m)->(∀n,n≠2->ax g (.o n)=ax M (.o n))->ag fr' 6=x1->sF g 2 2 x1 (l0++(YB es).map Av)->G bn H true [.tmp 2] K fr' g=T):
  G bn H true [.tmp 2] (.code (.loop cX):: .blk 6::K) fr M=T:=by
 subst O;conv in sb _ _=>reduce
 simp only[↓zo,zp,seval];refine bI (fun k fr' g=>(∀m,m<6∨m=7->ag fr' m=ag fr m)∧ag fr' 8=ag fr 8∧ag fr' 9= .i k∧(∀n,n≠2->ax g (.o n)=ax M (.o n))∧∃x1,ag fr' 6=x1∧sF g 2 2 x1 (l0++(YB (es.take k)).map Av)) es.length ⟨fun m _=>rfl,rfl,h9,fun n _=>rfl,x0,J,by simpa[YB]using A⟩ ?_ ?_
 ·clear done A J h9
  rintro k Q j U ⟨C,c,u,l,x1,B,A⟩ next
  rw[r]at c;obtain⟨e,I⟩:∃e,es[k]? =some e:=⟨_,ak U⟩
  have hn:l0++(YB (es.take (k+1))).map Av=(l0++(YB (es.take k)).map Av)++[Av e.id]:=by
   rw[aY,I];simp[YB]
  have W:(l0++(YB (es.take k)).map Av).length<=1000000:=by simp[YB];omega
  rw[hn]at next
  generalize l0++(YB (es.take k)).map Av=X at*;have e1:=e.sz.1;have e2:=e.sz.2;have Z:(e.v.drop 0).take 2=[.i 1,.i e.id]:=rfl;have e4:e.v.take 2=[.i 1,.i e.id]:=rfl;have R:(es.map Ev.v)[k]? =some e.v:=by rw[aK,I];rfl
  have F:(es.map Ev.v).length=es.length:=aG _;have ap:=fun H=>lN (H:=H) (M:=j) (bytes:=16) (s:=1) A rfl W (by omega) (x:=[.i 1,.i e.id]) rfl rfl;have Y:∀M,ax M (.o 2)=⟨(ax j (.o 2)).ver+1,2,X++[[.i 1,.i e.id]],false⟩->sF M 2 2 (.ref 0 (.o 2) ((ax j (.o 2)).ver+1) 2 0 (X.length+1)) (X++[Av e.id]):=fun M h=>mJ (by omega) h;have N:=Ah A;clear A;generalize es.map Ev.v=lv at*;simp(disch:=omega) only[↓zd,seval,push_cast,B,c,u,R,F,e1,e2,Z,e4,ap,N];refine next _ _ ⟨fun m hm=> ?_,?_,?_,fun n hn=> ?_,_,?_,Y _ ?_⟩
  ·rw[<-C m hm]
   simp(disch:=omega) only[bU,bY]
  ·simp only[↓zg,seval,c]
   exact r.symm
  ·simp only[↓zg,seval]
   rfl
  ·rw[<-l n hn,ay,aP (by simp;omega)]
  ·simp only[↓zg,seval]
  ·rw[ay,aX rfl]
 ·rintro Q j ⟨C,c,u,l,x1,B,A⟩
  rw[r]at c;rw[aT]at A;have F:(es.map Ev.v).length=es.length:=aG _;generalize es.map Ev.v=lv at*;simp(disch:=omega) only[↓zd,seval,push_cast,c,u,F];refine done _ _ x1 (fun m hm=> ?_) l ?_ A
  ·rw[<-C m hm]
   simp(disch:=omega) only[bU,bY]
  ·simp only[↓zg,seval,B]
structure abv(s:Sc):Prop where
 ml:1<=s.ms.length∧s.ms.length<=6
 me:∀m∈s.ms,vI m
 cs:∀m∈s.ms,m.cs.length=mI s.ps
theorem Ce.el(c:Ce):c.v[1]? =some (cu 2 (c.vs.map Vo.v)):=rfl
theorem Wz{s:Sc}(ok:abv s)(c v:Nat):∀m∈s.ms,(YC c v m).length<=128:=by
 intro m hm;unfold YC;cases hc:m.cs[c]?with
 |none=>simp
 |some g=>
  dsimp only;cases j:g.vs[v]?with
  |none=>simp
  |some vo=>
   have:=((ok.me m hm).vo g (ah hc) vo (ah j)).Aw;simp[YB];omega
theorem WA{α β:Type}{f:α->List β}{k:Nat}:∀{l:List α},(∀x∈l,(f x).length<=k)->(l.flatMap f).length<=k*l.length:=by
 intro l;induction l with
 |nil=>intro _;simp
 |cons a l c=>
  intro h;have j:=h a (gH ..);have g:=c (fun x hx=>h x (dD _ hx));rw[bF,aF,aS,Nat.mul_succ];omega
theorem i17{cX:eu}(qG:cX=sb 17 36){fr:List V}{M:Mem}{K:List KI}{T:Option (V×Option (List Row))}{s:Sc}{c v:Nat}(ok:abv s)(hcN:c<mI s.ps)(hv2:v<2)
  (h1:ag fr 1= .ptr 0 (.o 1) 1 0 0)(h4:ag fr 4= .i c)(h5:ag fr 5= .i v)(h6:ag fr 6= .aL)(h7:ag fr 7= .i 0)(W:ax M (.o 1)=⟨1,6,[s.v],false⟩)
  (done:∀fr' F x1,(∀m,m<6->ag fr' m=ag fr m)->(∀n,n≠2->ax F (.o n)=ax M (.o n))->ag fr' 6=x1->sF F 2 2 x1 ((PM s.ms c v).map Av)->G bn H true [.tmp 2] K fr' F=T):
  G bn H true [.tmp 2] (.code (.loop cX):: .blk 4::K) fr M=T:=by
 subst qG;conv in sb _ _=>reduce
 simp only[↓zo,zp,seval];have xK:=ok.ml;refine bI (fun i fr' F=>(∀m,m<6->ag fr' m=ag fr m)∧ag fr' 7= .i i∧(∀n,n≠2->ax F (.o n)=ax M (.o n))∧∃x1,ag fr' 6=x1∧sF F 2 2 x1 ((PM (s.ms.take i) c v).map Av)) s.ms.length ⟨fun m _=>rfl,h7,fun n _=>rfl,.aL,h6,.inl ⟨rfl,rfl⟩⟩ ?_ ?_
 ·clear done h6 h7
  rintro i lV M1 hi ⟨r,Q,B,x1,C,A⟩ next
  have g1:=(r 1 (by omega)).trans h1;have g4:=(r 4 (by omega)).trans h4;have g5:=(r 5 (by omega)).trans h5;have U:=(B 1 (by omega)).trans W;clear h1 h4 h5 W;obtain⟨m,hm⟩:∃e,s.ms[i]? =some e:=⟨_,ak hi⟩
  have Z:c<m.cs.length:=by rw[ok.cs m (ah hm)];exact hcN
  obtain⟨g,hc⟩:∃e,m.cs[c]? =some e:=⟨_,ak Z⟩
  have hn:(PM (s.ms.take (i+1)) c v).map Av=(PM (s.ms.take i) c v).map Av++(YC c v m).map Av:=by
   rw[aY,hm];unfold PM;rw[bH,aR];simp
  have AX:((PM (s.ms.take i) c v).map Av).length<=128*6:=by
   have:=WA (l:=s.ms.take i) (f:=YC c v) (k:=128) (fun x hx=>Wz ok c v x (fH hx));rw[bf]at this;rw[aG];unfold PM;omega
  rw[hn]at next
  generalize (PM (s.ms.take i) c v).map Av=X at*;have s1:=s.sz.1;have s2:=s.sz.2;have R:s.v[3]? =some (cu 22 (s.ms.map Me.v)):=rfl;have J:(s.ms.map Me.v)[i]? =some m.v:=by rw[aK,hm];rfl
  have j:(s.ms.map Me.v).length=s.ms.length:=aG _;have m1:=m.sz.1;have m2:=m.sz.2;have m3:m.v[21]? =some (cu 2 (m.cs.map Ce.v)):=rfl;have N:(m.cs.map Ce.v)[c]? =some g.v:=by rw[aK,hc];rfl
  have O:(m.cs.map Ce.v).length=m.cs.length:=aG _;have c1:=g.sz.1;have c3:=g.el;have I:(g.vs.map Vo.v).length=g.vs.length:=aG _;by_cases hv:g.vs.length<=v
  ·have Rt:YC c v m=[]:=by
    unfold YC;rw[hc];dsimp only;rw[dL hv]
   rw[Rt,dX,bz]at next
   generalize g.vs.map Vo.v=Wv at*;generalize m.cs.map Ce.v=Cv at*;generalize s.ms.map Me.v=Mv at*;generalize s.v=sv at*;generalize m.v=mv at*;generalize g.v=cv at*;simp(disch:=omega) only[↓zd,seval,push_cast,g1,g4,g5,C,Q,U,s1,R,J,j,m1,m3,N,O,c1,c3,I];refine next _ _ ⟨fun m hm=> ?_,?_,B,x1,?_,A⟩
   ·rw[<-r m hm]
    simp(disch:=omega) only[bU,bY]
   ·simp only[↓zg,seval]
    rfl
   ·simp only[↓zg,seval,C]
  ·obtain⟨vo,u⟩:∃e,g.vs[v]? =some e:=⟨_,ak (by omega)⟩
   have Rt:YC c v m=YB vo.es:=by
    unfold YC;rw[hc];dsimp only;rw[u]
   have Y5:=((ok.me m (ah hm)).vo g (ah hc) vo (ah u)).Aw;have Y:(g.vs.map Vo.v)[v]? =some vo.v:=by rw[aK,u];rfl
   have v1:=vo.sz.1;have v3:vo.v[0]? =some (cu 13 (vo.es.map Ev.v)):=rfl;rw[Rt]at next
   generalize g.vs.map Vo.v=Wv at*;generalize m.cs.map Ce.v=Cv at*;generalize s.ms.map Me.v=Mv at*;generalize s.v=sv at*;generalize m.v=mv at*;generalize g.v=cv at*;generalize vo.v=vv at*;simp(disch:=omega) only[↓zd,seval,push_cast,g1,g4,g5,C,Q,U,s1,R,J,j,m1,m3,N,O,c1,c3,I,Y,v1,v3];refine k17 (by kernel_rfl) (es:=vo.es) (l0:=X) (x0:=x1) ?_ ?_ ?_ A (by omega) ?_
   ·simp only[↓zg,seval,C]
   ·simp only[↓zg,seval]
   ·simp only[↓zg,seval]
    all_goals rfl
   ·intro fr2 M2 x2 gI NK k6 A2
    have k7:ag fr2 7= .i i:=(gI 7 (by omega)).trans (by simp only[↓zg,seval,Q]);have vL:∀m,m<6->ag fr2 m=ag fr m:=fun m hm=>by
     rw[gI m (by omega),<-r m hm];simp(disch:=omega) only[bU,bY]
    clear gI r A;simp(disch:=omega) only[↓zd,seval,push_cast,k7];refine next _ _ ⟨fun m hm=> ?_,?_,fun n hn=>(NK n hn).trans (B n hn),x2,?_,A2⟩
    ·rw[<-vL m hm]
     simp(disch:=omega) only[bU,bY]
    ·simp only[↓zg,seval]
     rfl
    ·simp only[↓zg,seval,k6]
 ·rintro lV M1 ⟨r,Q,B,x1,C,A⟩
  have g1:=(r 1 (by omega)).trans h1;have U:=(B 1 (by omega)).trans W;rw[aT]at A;have s1:=s.sz.1;have R:s.v[3]? =some (cu 22 (s.ms.map Me.v)):=rfl;have j:(s.ms.map Me.v).length=s.ms.length:=aG _;have d:=fun fr' h h'=>done fr' M1 x1 h B h' A;clear done A W;generalize s.ms.map Me.v=Mv at*;generalize s.v=sv at*;simp(disch:=omega) only[↓zd,seval,push_cast,g1,Q,U,s1,R,j];refine d _ (fun m hm=> ?_) ?_
  ·rw[<-r m hm]
   simp(disch:=omega) only[bU,bY]
  ·simp only[↓zg,seval,C]
def IB(ms:List Me)(c n:Nat):List (List Int):=(List.range n).map fun v=>PM ms c v
theorem v17{cX:eu}(qG:cX=sb 17 21){fr:List V}{M:Mem}{K:List KI}{T:Option (V×Option (List Row))}{s:Sc}{c:Nat}{X:List (List V)}{x0:V}(ok:abv s)(J:c<mI s.ps)
  (h1:ag fr 1= .ptr 0 (.o 1) 1 0 0)(h4:ag fr 4= .i c)(F:ag fr 5= .i 0)(h3:ag fr 3=x0)(A:sF M 3 1 x0 X)(hX:X.length<=1000)(g:ax M (.o 1)=⟨1,6,[s.v],false⟩)
  (done:∀fr' u x1,(∀m,m<3∨m=4->ag fr' m=ag fr m)->ax u (.o 1)=⟨1,6,[s.v],false⟩->ag fr' 3=x1->sF u 3 1 x1 (X++(IB s.ms c 2).map K4)->G bn H true [.tmp 2] K fr' u=T):
  G bn H true [.tmp 2] (.code (.loop cX):: .blk 2::K) fr M=T:=by
 subst qG;conv in sb _ _=>reduce
 simp only[↓zo,zp,seval];refine bI (fun v fr' u=>(∀m,m<3∨m=4->ag fr' m=ag fr m)∧ag fr' 5= .i v∧ax u (.o 1)=⟨1,6,[s.v],false⟩∧∃x1,ag fr' 3=x1∧sF u 3 1 x1 (X++(IB s.ms c v).map K4)) 2 ⟨fun m _=>rfl,F,g,x0,h3,by rw[show IB s.ms c 0=[]from rfl,dX,bz];exact A⟩ ?_ ?_
 ·clear done A h3 F g
  rintro v lV M1 hv ⟨j,B,g,x1,N,A⟩ next
  have g1:=(j 1 (by omega)).trans h1;have g4:=(j 4 (by omega)).trans h4;clear h1 h4;have hn:X++(IB s.ms c (v+1)).map K4=(X++(IB s.ms c v).map K4)++[K4 (PM s.ms c v)]:=by
   unfold IB;rw[gK];simp
  have AX:(X++(IB s.ms c v).map K4).length<=1000000:=by simp[IB];omega
  rw[hn]at next
  generalize X++(IB s.ms c v).map K4=Y at*;simp(disch:=omega) only[↓zd,seval,push_cast,g1,g4,B];refine i17 (by kernel_rfl) (s:=s) (c:=c) (v:=v) ok J hv ?_ ?_ ?_ ?_ ?_ g ?_
  ·simp only[↓zg,seval,g1]
  ·simp only[↓zg,seval,g4]
  ·simp only[↓zg,seval,B]
  ·simp only[↓zg,seval]
  ·simp only[↓zg,seval]
   all_goals rfl
  ·intro fr2 l x2 I NK W A2
   have k5:ag fr2 5= .i v:=(I 5 (by omega)).trans (by simp only[↓zg,seval,B]);have k3:ag fr2 3=x1:=(I 3 (by omega)).trans (by simp only[↓zg,seval,N]);have Q:∀m,m<3∨m=4->ag fr2 m=ag fr m:=fun m hm=>by
    rw[I m (by omega),<-j m hm];simp(disch:=omega) only[bU,bY]
   have C:=qz A (NK 3 (by omega));have U:=(NK 1 (by omega)).trans g;clear I j A;unfold K4 at next
   have R:=Ah C;rcases A2 with⟨h,rfl⟩|⟨fP,ver,F5,rfl,F⟩
   ·rw[h,gF]at next
    have ap:=fun H=>lN (H:=H) (M:=l) (bytes:=24) (s:=2) C rfl AX (by omega) (x:=[.aL]) rfl rfl;have O:∀M,ax M (.o 3)=⟨(ax l (.o 3)).ver+1,1,Y++[[.aL]],false⟩->sF M 3 1 (.ref 0 (.o 3) ((ax l (.o 3)).ver+1) 1 0 (Y.length+1)) (Y++[[.aL]]):=fun M h=>mJ (by omega) h;clear h C;simp(disch:=omega) only[↓zd,seval,push_cast,k3,k5,W,R,qg,sG,xf,wR,lZ,ap];refine next _ _ ⟨fun m hm=> ?_,?_,?_,_,?_,O _ ?_⟩
    ·rw[<-Q m hm]
     simp(disch:=omega) only[bU,bY]
    ·simp only[↓zg,seval]
     rfl
    ·rw[ay,aP (by simp)];exact U
    ·simp only[↓zg,seval]
    ·rw[ay,aX rfl]
   ·rw[jO fP]at next
    have pu:=dh Av.pu (PM s.ms c v);generalize (PM s.ms c v).map Av=Z at*;have ap:=fun r H=>lN (H:=H) (M:=bu l (.o 2) r) (bytes:=24) (s:=2) C (by rw[ay,aP (by simp)]) AX (by omega) (x:=[.sl .any 2 Z]) rfl rfl;have O:∀M,ax M (.o 3)=⟨(ax l (.o 3)).ver+1,1,Y++[[.sl .any 2 Z]],false⟩->sF M 3 1 (.ref 0 (.o 3) ((ax l (.o 3)).ver+1) 1 0 (Y.length+1)) (Y++[[.sl .any 2 Z]]):=fun M h=>mJ (by omega) h;have pus:(SK.any !=SK.own&&V.qZ Z)=true:=(V.N7 (k:= .any) (sz:=2) (els:=Z)).trans (by rw[pu];rfl);clear C fP;simp(disch:=omega) only[↓zd,seval,push_cast,k3,k5,W,R,F,F5,pu,pus,qg,sG,xf,mZ,lZ,ap,dH,aT];refine next _ _ ⟨fun m hm=> ?_,?_,?_,_,?_,O _ ?_⟩
    ·rw[<-Q m hm]
     simp(disch:=omega) only[bU,bY]
    ·simp only[↓zg,seval]
     rfl
    ·rw[ay,aP (by simp),ay,aP (by simp)];exact U
    ·simp only[↓zg,seval]
    ·rw[ay,aX rfl]
 ·rintro lV M1 ⟨j,B,g,x1,N,A⟩
  simp(disch:=omega) only[↓zd,seval,push_cast,B];refine done _ _ x1 (fun m hm=> ?_) g ?_ A
  ·rw[<-j m hm]
   simp(disch:=omega) only[bU,bY]
  ·simp only[↓zg,seval,N]
theorem NM(ms:List Me)(N:Nat):pJ ms (N+1)=pJ ms N++IB ms N 2:=by
 unfold pJ;rw[gK,bH];simp[IB,gK]
theorem K5(ms:List Me)(N:Nat):(pJ ms N).length=2*N:=by
 induction N with
 |zero=>rfl
 |succ N c=>
  rw[NM,aF,c];simp[IB];omega
theorem c17{s:Sc}(ok:abv s)(hN:1<=mI s.ps∧mI s.ps<=100):call bn 17 [.agg s.v] H=some (kK 1 ((pJ s.ms (mI s.ps)).map K4),none):=by
 have O:∀i,ax (Ht.start true H) (.o i)=⟨0,0,[],false⟩:=fun i=>jB;have xK:=ok.ml;have s1:=s.sz.1;have s2:=s.sz.2;have W:=s.tk;have U:=s.sc;have K:s.v[3]? =some (cu 22 (s.ms.map Me.v)):=rfl;obtain⟨m,hm⟩:∃m,s.ms[0]? =some m:=⟨_,ak (by omega)⟩
 have r:(s.ms.map Me.v)[0]? =some m.v:=by rw[aK,hm];rfl
 have I:=ok.cs m (ah hm);have m1:=m.sz.1;have N:m.v[21]? =some (cu 2 (m.cs.map Ce.v)):=rfl;have u:(m.cs.map Ce.v).length=mI s.ps:=by rw[aG,I]
 refine(av (by conv=>lhs;reduce)).trans ?_;simp only[↓zo,zp,seval];generalize Ht.start true H=L0 at*;generalize j:s.v=sv at*;simp(disch:=omega) only[↓zd,seval,push_cast,O,s1,W,U];refine bI (fun c fr' R=>ag fr' 1= .ptr 0 (.o 1) 1 0 0∧ag fr' 4= .i c∧ax R (.o 1)=⟨1,6,[s.v],false⟩∧∃x1,ag fr' 3=x1∧sF R 3 1 x1 ((pJ s.ms c).map K4)) (mI s.ps) ⟨?_,?_,?_,.aL,?_,.inl ⟨rfl,rfl⟩⟩ ?_ ?_
 ·simp only[↓zg,seval]
 ·simp only[↓zg,seval]
  all_goals rfl
 ·simp only[ay,O,bK]
  rw[j]
 ·simp only[↓zg,seval]
 ·rintro c Z M1 hc ⟨g1,B,C,x1,F,A⟩ next
  have g:=C;rw[j]at g;have hX:((pJ s.ms c).map K4).length<=1000:=by rw[aG,K5];omega
  rw[NM,aR]at next
  generalize (pJ s.ms c).map K4=X at*;generalize m.cs.map Ce.v=Cv at*;generalize hMv:s.ms.map Me.v=Mv at*;simp(disch:=omega) only[↓zd,seval,push_cast,g1,F,B,g,s1,K,r,m1,N,u];refine v17 (by kernel_rfl) (s:=s) (c:=c) (X:=X) (x0:=x1) ok hc ?_ ?_ ?_ ?_ A hX C ?_
  ·simp only[↓zg,seval,g1]
  ·simp only[↓zg,seval,B]
  ·simp only[↓zg,seval]
   all_goals rfl
  ·simp only[↓zg,seval,F]
  ·intro fr2 M2 T J Y k3 A2
   have k1:ag fr2 1= .ptr 0 (.o 1) 1 0 0:=(J 1 (by omega)).trans (by simp only[↓zg,seval,g1]);have k4:ag fr2 4= .i c:=(J 4 (by omega)).trans (by simp only[↓zg,seval,B]);clear J A;simp(disch:=omega) only[↓zd,seval,push_cast,k4];refine next _ _ ⟨?_,?_,Y,T,?_,A2⟩
   ·simp only[↓zg,seval,k1]
   ·simp only[↓zg,seval]
    rfl
   ·simp only[↓zg,seval,k3]
 ·rintro Z M1 ⟨g1,B,C,x1,F,A⟩
  have g:=C;rw[j]at g;have Q:(pJ s.ms (mI s.ps)).map K4≠[]:=fun h=>by
   have:=eU List.length h;rw[aG,K5]at this;simp at this;omega
  have pu:((pJ s.ms (mI s.ps)).map K4).all (fun e=>e.all V.pure)=true:=dh (enc:=K4) (fun l=>by simp only[K4,aZ,cB,se,dh Av.pu,bR]) _;rw[BR Q];generalize (pJ s.ms (mI s.ps)).map K4=X at*;rcases A with⟨h,_⟩|⟨_,ver,hv,rfl,h5⟩
  ·exact absurd h Q
  generalize m.cs.map Ce.v=Cv at*;generalize s.ms.map Me.v=Mv at*;simp(disch:=omega) only[↓zd,seval,push_cast,g1,F,B,g,s1,K,r,m1,N,u,hv,h5,pu,dH,aT]
end Go.Proofs.YtnahpjebkgbedaaGreat

/- Part of the proof of ThereAndBack: what the program's functions compute on the abstract machine, and that it answers as the law says. No condition. -/
import Derived.Test.YtnahpjebkgbedaaGreatD
set_option linter.all false
set_option maxRecDepth 100000
set_option maxHeartbeats 16000000
namespace Go.Proofs.YtnahpjebkgbedaaGreat
open Go Go.Ht
variable{H:List Mem}
structure Ce where
 vs:List Vo
def Ce.v(c:Ce):List V:=[.aL,cu 2 (c.vs.map Vo.v)]
theorem Ce.sz(c:Ce):c.v.length=2∧∀d,V.bW d c.v=c.v:=⟨rfl,fun d=>by simp only[Ce.v,V.bW,V.shift,nZ]⟩
theorem Ce.pu(c:Ce):c.v.all V.pure=true:=by simp only[Ce.v,aZ,cB,se,dh Vo.pu,V.pure,bR]
theorem Ce.sc(c:Ce):c.v.all V.scalar=true:=by simp only[Ce.v,aZ,cB,gq,mO,bR]
theorem Ce.tk(c:Ce):c.v.take 2=c.v:=rfl
theorem Vo.sc(v:Vo):v.v.all V.scalar=true:=by simp only[Vo.v,aZ,cB,gq,bR]
theorem Vo.tk(v:Vo):v.v.take 2=v.v:=rfl
theorem Ev.sc(e:Ev):e.v.all V.scalar=true:=by simp only[Ev.v,aZ,cB,gq,mO,bR]
theorem Ev.tk(e:Ev):e.v.take 13=e.v:=rfl
def Qv(t:Int×Bool):List V:=[.i 0,.i t.1,.bool t.2]
theorem Qv.pu(t:Int×Bool):(Qv t).all V.pure=true:=rfl
structure Me where
 id:Int
 mt:Int
 fi:Int
 rs:Bool
 re:Int
 sw:Int
 tm:List (Int×Bool)
 cs:List Ce
def Me.v(m:Me):List V:=[.i 1,.i m.id,.i (mA m.mt),.i (mB m.mt),.i (mC m.mt),.i (mD m.mt),.i 0,.i 0,.i 0,.i 0,.i 0,.i m.fi,.bool m.rs,.i m.re,.i 0,.i 0,.i 0,.i m.sw,.i 0,.str ⟨#[]⟩,cu 3 (m.tm.map Qv),cu 2 (m.cs.map Ce.v)]
theorem Me.sz(m:Me):m.v.length=22∧∀d,V.bW d m.v=m.v:=⟨rfl,fun d=>by simp only[Me.v,V.bW,V.shift,nZ]⟩
theorem Me.pu(m:Me):m.v.all V.pure=true:=by simp only[Me.v,aZ,cB,se,dh Ce.pu,dh Qv.pu,V.pure,bR]
theorem Me.sc(m:Me):m.v.all V.scalar=true:=by simp only[Me.v,aZ,cB,gq,mO,bR]
theorem Me.tk(m:Me):m.v.take 22=m.v:=rfl
structure St where
 id:Int
 cl:Int
def St.v(s:St):List V:=[.i 1,.i s.id,.i s.cl]
theorem St.pu(s:St):s.v.all V.pure=true:=rfl
structure Pa where
 id:Int
 nm:ByteArray
 ts:Int
 tn:Int
 ss:List St
def Pa.v(p:Pa):List V:=[.i 1,.i p.id,.str p.nm,.i p.ts,.i p.tn,cu 3 (p.ss.map St.v)]
theorem Pa.sz(p:Pa):p.v.length=6∧∀d,V.bW d p.v=p.v:=⟨rfl,fun d=>by simp only[Pa.v,V.bW,V.shift,nZ]⟩
theorem Pa.pu(p:Pa):p.v.all V.pure=true:=by simp only[Pa.v,aZ,cB,se,dh St.pu,V.pure,bR]
theorem Pa.sc(p:Pa):p.v.all V.scalar=true:=by simp only[Pa.v,aZ,cB,gq,mO,bR]
theorem Pa.tk(p:Pa):p.v.take 6=p.v:=rfl
structure Sp where
 id:Int
 kd:Int
 fr:Int
 to:Int
def Sp.v(p:Sp):List V:=[.i 1,.i p.id,.i p.kd,.i 1,.i p.fr,.i 1,.i p.to]
theorem Sp.sz(p:Sp):p.v.length=7∧∀d,V.bW d p.v=p.v:=⟨rfl,fun d=>rfl⟩
theorem Sp.pu(s:Sp):s.v.all V.pure=true:=rfl
theorem Sp.sc(p:Sp):p.v.all V.scalar=true:=rfl
theorem Sp.tk(p:Sp):p.v.take 7=p.v:=rfl
def Av(n:Int):List V:=[.i 1,.i n]
theorem Av.pu(n:Int):(Av n).all V.pure=true:=rfl
def iB:ByteArray:=⟨#[119,111,114,108,100]⟩
structure Sc where
 wr:Bool
 ps:List Pa
 ms:List Me
 sp:List Sp
 la:List Int
def Sc.v(s:Sc):List V:=[.str iB,.bool s.wr,cu 6 (s.ps.map Pa.v),cu 22 (s.ms.map Me.v),cu 7 (s.sp.map Sp.v),cu 2 (s.la.map Av)]
theorem Sc.sz(s:Sc):s.v.length=6∧∀d,V.bW d s.v=s.v:=⟨rfl,fun d=>by simp only[Sc.v,V.bW,V.shift,nZ]⟩
theorem Sc.pu(s:Sc):s.v.all V.pure=true:=by simp only[Sc.v,aZ,cB,se,dh Pa.pu,dh Me.pu,dh Sp.pu,dh Av.pu,V.pure,bR]
theorem Sc.sc(s:Sc):s.v.all V.scalar=true:=by simp only[Sc.v,aZ,cB,gq,mO,bR]
theorem Sc.tk(s:Sc):s.v.take 6=s.v:=rfl
theorem c37{m:Me}(h:Fj m.mt):call bn 37 [.agg m.v] H=some (.eT [.i (kL m.mt),.i 0],none):=by
 have c:=fun H=>c64 (H:=H) h;have hl:=zW h;have hr:(kL m.mt).tmod 7560=0:=by rw[dP (by omega)];exact hl.2.2
 unfold XB at c;unfold Me.v;clear h;generalize kL m.mt=L at*;refine(av (by conv=>lhs;reduce)).trans ?_;simp only[↓zo,zp,seval];simp(disch:=omega) only[↓zd,seval,push_cast,c,hr]
def mI(ps:List Pa):Nat:=(ps.map fun p=>p.ss.length).sum
structure T9(ps:List Pa):Prop where
 len:1<=ps.length∧ps.length<=3
 st:∀p∈ps,1<=p.ss.length∧p.ss.length<=2
theorem c21{s:Sc}(ok:T9 s.ps):call bn 21 [.agg s.v] H=some (.i (mI s.ps),none):=by
 have hl:=ok.len;have l:∀i,mI (s.ps.take i)<=2*i:=by
  intro i;induction i with
  |zero=>simp[mI]
  |succ i K=>
   cases h:s.ps[i]?with
   |none=>rw[aY,h];simp;omega
   |some x=>
    have:=ok.st x (ah h);unfold mI at*;rw[aY,h,aR,kQ];simp only[eQ,bO,dX,sQ,List.sum_nil];omega
 have u:=s.sc;unfold Sc.v at*;obtain⟨wr,ps,ms,sp,la⟩:=s;dsimp only at*;refine(av (by conv=>lhs;reduce)).trans ?_;simp only[↓zo,zp,seval];simp(disch:=omega) only[↓zd,seval,push_cast];refine bI (fun i fr L=>ag fr 7=cu 6 (ps.map Pa.v)∧ag fr 8= .i ps.length∧ag fr 9= .i i∧ag fr 3= .i (mI (ps.take i))) ps.length ?_ ?_ ?_
 ·refine⟨?_,?_,?_,?_⟩
  (all_goals try simp only[↓zg,seval]);all_goals try first|rfl|trivial|(simp only[zr,seval];done)
 ·rintro i fr L A ⟨g,c,h9,j⟩ next
  obtain⟨x,hf⟩:∃x,ps[i]? =some x:=⟨_,ak A⟩
  have hx:=ok.st x (ah hf);have hs:=l i;have r:mI (ps.take (i+1))=mI (ps.take i)+x.ss.length:=by
   unfold mI;rw[aY,hf,aR,kQ];simp
  have J:=x.sz.1;have I:=x.sz.2;have F:=x.tk;have C:=x.sc;have B:x.v[5]? =some (cu 3 (x.ss.map St.v)):=rfl;clear l ok u;generalize mI (ps.take i)=S at*;simp(disch:=omega) only[↓zd,seval,push_cast,g,c,h9,j,hf,J,I,F,C,B];refine next _ _ ⟨?_,?_,?_,?_⟩
  (all_goals try simp only[↓zg,seval,g,c,r]);all_goals try first|rfl|trivial|(simp only[zr,seval,g,c,r];done)
 ·rintro fr L ⟨g,c,h9,j⟩
  rw[aT]at j;clear l ok u;simp(disch:=omega) only[↓zd,seval,push_cast,c,h9,j]
def xy:List Pa->Nat->Nat->Option (Nat×Nat)
 |[],_,_=>none
 |p::l,i,k=>if k<p.ss.length then some (i,k)else xy l (i+1) (k-p.ss.length)
def ptR:Option (Nat×Nat)->List V
 |some (i,k)=>[.i i,.i k,.i 0]
 |none=>[.i 0,.i 0,.i 2]
theorem c22{s:Sc}{k:Nat}(ok:T9 s.ps)(F:k<=1000):call bn 22 [.agg s.v,.i k] H=some (.eT (ptR (xy s.ps 0 k)),none):=by
 have hl:=ok.len;unfold Sc.v at*;obtain⟨wr,ps,ms,sp,la⟩:=s;dsimp only at*;refine(av (by conv=>lhs;reduce)).trans ?_;simp only[↓zo,zp,seval];simp(disch:=omega) only[↓zd,seval,push_cast];refine bI (fun i fr L=>ag fr 12=cu 6 (ps.map Pa.v)∧ag fr 13= .i ps.length∧ag fr 14= .i i∧∃q:Nat,q<=1000∧ag fr 1= .i q∧xy ps 0 k=xy (ps.drop i) i q) ps.length ?_ ?_ ?_
 ·refine⟨?_,?_,?_,k,F,?_,rfl⟩
  (all_goals try simp only[↓zg,seval]);all_goals try first|rfl|trivial|(simp only[zr,seval];done)
 ·rintro i fr L I ⟨g,c,j,q,C,l,hp⟩ next
  obtain⟨x,hf⟩:∃x,ps[i]? =some x:=⟨_,ak I⟩
  have hx:=ok.st x (ah hf);have B:=x.sz.1;have A:=x.sz.2;have u:=x.tk;have e4:=x.sc;have r:x.v[5]? =some (cu 3 (x.ss.map St.v)):=rfl;have hd:ps.drop i=x::ps.drop (i+1):=by
   obtain⟨h,rfl⟩:=au.1 hf;exact gv h
  rw[hd,xy]at hp;by_cases hc:q<x.ss.length
  ·rw[aX hc]at hp
   rw[hp];unfold ptR;clear ok next hd
   simp(disch:=omega) only[↓zd,seval,push_cast,g,c,j,l,hf,B,A,u,e4,r]
  ·rw[aP hc]at hp
   have t:(q:Int)-(x.ss.length:Nat)=((q-x.ss.length:Nat):Int):=by omega
   clear ok hd;simp(disch:=omega) only[↓zd,seval,push_cast,g,c,j,l,hf,B,A,u,e4,r];rw[t];refine next _ _ ⟨?_,?_,?_,q-x.ss.length,by omega,?_,hp⟩
   (all_goals try simp only[↓zg,seval,g,c]);all_goals try first|rfl|trivial|(simp only[zr,seval,g,c];done)
 ·rintro fr L ⟨g,c,j,q,C,l,hp⟩
  rw[dZ]at hp;rw[hp];unfold xy ptR;clear ok;simp(disch:=omega) only[↓zd,seval,push_cast,c,j]
def sF(L:Mem)(s sz:Nat)(v:V)(els:List (List V)):Prop:=(els=[]∧v= .aL)∨(els≠[]∧∃ver,0<ver∧v= .ref 0 (.o s) ver sz 0 els.length∧ax L (.o s)=⟨ver,sz,els,false⟩)
theorem qz{L M:Mem}{s sz:Nat}{v:V}{els:List (List V)}(h:sF L s sz v els)(e:ax M (.o s)=ax L (.o s)):sF M s sz v els:=by
 rcases h with h|⟨h,ver,j,g,c⟩
 ·exact .inl h
 ·exact .inr ⟨h,ver,j,g,by rw[e,c]⟩
theorem lN{L M:Mem}{s sz bytes:Nat}{v:V}{els:List (List V)}(h:sF L (s+1) sz v els)(e:ax M (.o (s+1))=ax L (.o (s+1)))(hl:els.length<=1000000)(r:bytes<=16384){x:List V}(hx:x.length=sz)(hs:x.all V.scalar=true):
  DJ (M::H) (s+1) sz bytes v (.sl .any sz [x])=some (.ref 0 (.o (s+1)) ((ax L (.o (s+1))).ver+1) sz 0 (els.length+1),bu M (.o (s+1)) ⟨(ax L (.o (s+1))).ver+1,sz,els++[x],false⟩):=by
 have hr:ug bytes (els.length+1)=true:=by simp[ug];omega
 have l:ug bytes 1=true:=by simp[ug];omega
 rcases h with⟨rfl,rfl⟩|⟨h,ver,j,rfl,g⟩
 ·simp[IP,wB,fq,l,uP,hx,e]
  exact fun y c=>aV.1 hs y c
 ·simp[IQ,wB,e,g,j,hr,uP,hx,Mem.ok]
  exact fun y c=>aV.1 hs y c
theorem mJ{M:Mem}{s sz ver:Nat}{els:List (List V)}{x:List V}(c:0<ver)(e:ax M (.o s)=⟨ver,sz,els++[x],false⟩):sF M s sz (.ref 0 (.o s) ver sz 0 (els.length+1)) (els++[x]):=
 .inr ⟨by simp,ver,c,by simp,e⟩
structure vI(m:Me):Prop where
 met:Fj m.mt
 cn:m.cs.length<=6
 vn:∀c∈m.cs,1<=c.vs.length∧c.vs.length<=2
 vo:∀c∈m.cs,∀v∈c.vs,yD v (kL m.mt)
def Sw(i k:Nat)(len:Int)(on:List Int):List (List V):=on.mapIdx fun n o=>[.i i,.i k,.i n,.i o,.i ((on[n+1]?).getD len)]
def slV(i:Nat)(len:Int)(vs:List Vo):List (List V):=(vs.mapIdx fun k v=>Sw i k len (kV (v.lens len))).flatten
def slC(len:Int)(cs:List Ce):List (List V):=(cs.mapIdx fun i c=>slV i len c.vs).flatten
theorem Np{α β:Type}{f:Nat->α->List β}{l:List α}{i:Nat}{x:α}(h:l[i]? =some x):((l.mapIdx f).take (i+1)).flatten=((l.mapIdx f).take i).flatten++f i x:=by
 rw[kZ h,lS];simp
theorem sF.at{L:Mem}{s sz:Nat}{v:V}{a b:List (List V)}(h:sF L s sz v a)(e:a=b):sF L s sz v b:=e▸h
theorem Ru{α β:Type}{f:Nat->α->List β}{p:β->Bool}(h:∀i x,(f i x).all p=true)(l:List α):(l.mapIdx f).flatten.all p=true:=by
 rw[List.all_flatten,aV];intro y c;obtain⟨i,g,rfl⟩:=vt.1 c;exact h _ _
theorem ahZ(len:Int)(cs:List Ce):(slC len cs).all (fun e=>e.all V.pure)=true:=Ru (fun i c=>Ru (fun k v=>by
 unfold Sw;rw[aV];intro y g;obtain⟨i,j,rfl⟩:=vt.1 g;rfl) _) _
theorem c42{m:Me}(ok:vI m):call bn 42 [.agg m.v] H=some (.eT [kK 5 (slC (kL m.mt) m.cs),.i 0],none):=by
 have c1:=fun H=>c37 (H:=H) ok.met;have hcn:=ok.cn;have a1:=m.sz.1;have a2:=m.sz.2;have a3:=m.tk;have a4:=m.sc;have a5:m.v[21]? =some (cu 2 (m.cs.map Ce.v)):=rfl;have vn:=ok.vn;have vo:=ok.vo;have hlen:=zW ok.met;clear ok;generalize kL m.mt=len at*;obtain⟨id,mt,fi,rs,re,sw,tm,cs⟩:=m;dsimp only at*;generalize Me.v ⟨id,mt,fi,rs,re,sw,tm,cs⟩=X at*;refine(av (by conv=>lhs;reduce)).trans ?_;simp only[↓zo,zp,seval];simp(disch:=omega) only[↓zd,seval,push_cast,c1,a1,a2,a3,a4,a5];refine bI (fun i fr L=>ag fr 21=cu 2 (cs.map Ce.v)∧ag fr 22= .i cs.length∧ag fr 23= .i i∧ag fr 4= .i len∧ag fr 5= .i 0∧sF L 4 5 (ag fr 6) ((cs.mapIdx fun i c=>slV i len c.vs).take i).flatten∧((cs.mapIdx fun i c=>slV i len c.vs).take i).flatten.length<=256*i) cs.length ?_ ?_ ?_
 ·refine⟨?_,?_,?_,?_,?_,?_,?_⟩
  (all_goals try simp only[↓zg,seval]);all_goals try first|rfl|trivial|(simp only[zr,seval];done)
  ·exact .inl ⟨rfl,rfl⟩
  ·simp
 ·rintro i fr L hi ⟨u,l,j,A,r,g,hP⟩ next
  obtain⟨c,hf⟩:∃x,cs[i]? =some x:=⟨_,ak hi⟩
  have hvn:=vn c (ah hf);have hvo:=vo c (ah hf);rw[Np hf]at next
  have b1:=c.sz.1;have Y:=c.sz.2;have U:=c.tk;have T:=c.sc;have b5:c.v[1]? =some (cu 2 (c.vs.map Vo.v)):=rfl;clear vn vo c1 a1 a2 a3 a4 a5;generalize ((cs.mapIdx fun i c=>slV i len c.vs).take i).flatten=P at*;obtain⟨K,B⟩:∃K,ag fr 6=K:=⟨_,rfl⟩
  rw[B]at g;simp(disch:=omega) only[↓zd,seval,push_cast,u,l,j,A,r,hf,b1,Y,U,T,b5];refine bI (fun k fr L=>ag fr 21=cu 2 (cs.map Ce.v)∧ag fr 22= .i cs.length∧ag fr 23= .i i∧ag fr 4= .i len∧ag fr 5= .i 0∧ag fr 7= .i i∧ag fr 29=cu 2 (c.vs.map Vo.v)∧ag fr 30= .i c.vs.length∧ag fr 31= .i k∧sF L 4 5 (ag fr 6) (P++((c.vs.mapIdx fun k v=>Sw i k len (kV (v.lens len))).take k).flatten)∧(P++((c.vs.mapIdx fun k v=>Sw i k len (kV (v.lens len))).take k).flatten).length<=256*i+128*k) c.vs.length ?_ ?_ ?_
  ·refine⟨?_,?_,?_,?_,?_,?_,?_,?_,?_,?_,?_⟩
   (all_goals try simp only[↓zg,seval,u,l,j,A,r]);all_goals try first|rfl|trivial|(simp only[zr,seval,u,l,j,A,r];done)
   ·rw[B]
    exact(qz g (by simp only[ay,reduceCtorEq,Ix.o.injEq,Nat.reduceEqDiff,bZ])).at (by simp)
   ·simp;omega
  ·clear u l j A r B g next b1 Y U T b5
   rintro k fr L hk ⟨u,l,j,A,r,C,J,F,I,g,hQ⟩ next
   obtain⟨v,hg⟩:∃x,c.vs[k]? =some x:=⟨_,ak hk⟩
   have ok:=hvo v (ah hg);have d1:=fun H=>c85 (H:=H) v (by have:=ok.Aw;omega);have d2:=fun H=>c86 (H:=H) ok;have Mh:=ok.Aw;have hol:(kV (v.lens len)).length=v.es.length:=by rw[kV,dJ];exact(si ok).2.1
   have C7:0<v.es.length:=dB.2 ok.ne;rw[Np hg]at next
   have b1:=v.sz.1;have Y:=v.sz.2;have U:=v.tk;have T:=v.sc;have hk2:k<2:=by omega
   clear ok hvo hvn;generalize kV (v.lens len)=on at*;generalize ((c.vs.mapIdx fun k v=>Sw i k len (kV (v.lens len))).take k).flatten=Q at*;obtain⟨K,B⟩:∃K,ag fr 6=K:=⟨_,rfl⟩
   rw[B]at g;simp(disch:=omega) only[↓zd,seval,push_cast,u,l,j,A,r,C,J,F,I,hg,b1,Y,U,T,d1,d2];refine bI (fun n fr L=>ag fr 21=cu 2 (cs.map Ce.v)∧ag fr 22= .i cs.length∧ag fr 23= .i i∧ag fr 4= .i len∧ag fr 5= .i 0∧ag fr 7= .i i∧ag fr 29=cu 2 (c.vs.map Vo.v)∧ag fr 30= .i c.vs.length∧ag fr 31= .i k∧ag fr 9= .i k∧ag fr 11=cu 1 (on.map Iv)∧ag fr 49=cu 1 (on.map Iv)∧ag fr 50= .i on.length∧ag fr 51= .i n∧sF L 4 5 (ag fr 6) (P++Q++(Sw i k len on).take n)) on.length ?_ ?_ ?_
   ·refine⟨?_,?_,?_,?_,?_,?_,?_,?_,?_,?_,?_,?_,?_,?_,?_⟩
    (all_goals try simp only[↓zg,seval,u,l,j,A,r,C,J,F,I]);all_goals try first|rfl|trivial|(simp only[zr,seval,u,l,j,A,r,C,J,F,I];done)
    rw[B];exact(qz g (by simp only[ay,reduceCtorEq,Ix.o.injEq,Nat.reduceEqDiff,bZ])).at (by simp)
   ·clear u l j A r C J F I B g next d1 d2 b1 Y U T
    rintro n fr L hn ⟨u,l,j,A,r,C,J,F,I,h9,R,Z,O,N,g⟩ next
    obtain⟨o,ho⟩:∃x,on[n]? =some x:=⟨_,ak hn⟩
    have ht:(Sw i k len on).take (n+1)=(Sw i k len on).take n++[[.i i,.i k,.i n,.i o,.i ((on[n+1]?).getD len)]]:=kZ ho;have hlt:((Sw i k len on).take n).length<=n:=by simp;omega
    rw[ht,<-aC]at next
    have hW:(P++Q++(Sw i k len on).take n).length<=1000000:=by
     rw[aF];omega
    generalize P++Q++(Sw i k len on).take n=W at*;obtain⟨off,Z6⟩:∃off,off=(on[n+1]?).getD len:=⟨_,rfl⟩
    rw[<-Z6]at next
    obtain⟨K,B⟩:∃K,ag fr 6=K:=⟨_,rfl⟩
    rw[B]at g;have ap:DJ (L::H) 4 5 40 K (.sl .any 5 [[.i i,.i k,.i n,.i o,.i off]])=some (.ref 0 (.o 4) ((ax L (.o 4)).ver+1) 5 0 (W.length+1),bu L (.o 4) ⟨(ax L (.o 4)).ver+1,5,W++[[.i i,.i k,.i n,.i o,.i off]],false⟩):=lN (s:=3) g rfl hW (by omega) rfl rfl;have hi1:Iv o=[.i o]:=rfl;have t1:((n:Int)+1).toNat=n+1:=by omega
    have fin:∀M,ax M (.o 4)=⟨(ax L (.o 4)).ver+1,5,W++[[.i i,.i k,.i n,.i o,.i off]],false⟩->sF M 4 5 (.ref 0 (.o 4) ((ax L (.o 4)).ver+1) 5 0 (W.length+1)) (W++[[.i i,.i k,.i n,.i o,.i off]]):=fun M e=>mJ (by omega) e;clear g ht hlt hQ hP hW;by_cases hc:n+1<on.length
    ·obtain⟨p,hp⟩:∃x,on[n+1]? =some x:=⟨_,ak hc⟩
     rw[hp,dU]at Z6;subst Z6;have hi2:Iv off=[.i off]:=rfl;simp(disch:=omega) only[↓zd,seval,push_cast,u,l,j,A,r,C,h9,R,Z,O,N,B,ho,hp,hi1,hi2,t1,ap,dS];refine next _ _ ⟨?_,?_,?_,?_,?_,?_,?_,?_,?_,?_,?_,?_,?_,?_,?_⟩
     (all_goals try simp only[↓zg,seval,u,l,j,A,r,C,J,F,I,h9,R,Z,O]);all_goals try first|rfl|trivial|(simp only[zr,seval,u,l,j,A,r,C,J,F,I,h9,R,Z,O];done)
     exact fin _ (by rw[ay,aX rfl])
    ·rw[dL (by omega),xJ]at Z6
     subst Z6;simp(disch:=omega) only[↓zd,seval,push_cast,u,l,j,A,r,C,h9,R,Z,O,N,B,ho,hi1,t1,ap,dS];refine next _ _ ⟨?_,?_,?_,?_,?_,?_,?_,?_,?_,?_,?_,?_,?_,?_,?_⟩
     (all_goals try simp only[↓zg,seval,u,l,j,A,r,C,J,F,I,h9,R,Z,O]);all_goals try first|rfl|trivial|(simp only[zr,seval,u,l,j,A,r,C,J,F,I,h9,R,Z,O];done)
     exact fin _ (by rw[ay,aX rfl])
   ·clear u l j A r C J F I B g d1 d2 b1 Y U T
    rintro fr L ⟨u,l,j,A,r,C,J,F,I,h9,R,Z,O,N,g⟩;rw[aO (by simp[Sw]),aC]at g;have hle:(Sw i k len on).length=on.length:=by simp[Sw]
    simp(disch:=omega) only[↓zd,seval,push_cast,O,N,I];refine next _ _ ⟨?_,?_,?_,?_,?_,?_,?_,?_,?_,?_,?_⟩
    (all_goals try simp only[↓zg,seval,u,l,j,A,r,C,J,F]);all_goals try first|rfl|trivial|(simp only[zr,seval,u,l,j,A,r,C,J,F];done)
    all_goals (first|exact g|skip)
    rw[<-aC,aF];omega
  ·clear u l j A r B g b1 Y U T b5
   rintro fr L ⟨u,l,j,A,r,C,J,F,I,g,hQ⟩;rw[aO (by simp)]at g hQ;change sF L 4 5 _ (P++slV i len c.vs)at g;change (P++slV i len c.vs).length<=_ at hQ;simp(disch:=omega) only[↓zd,seval,push_cast,u,l,j,A,r,F,I];refine next _ _ ⟨?_,?_,?_,?_,?_,?_,?_⟩
   (all_goals try simp only[↓zg,seval,u,l,j,A,r]);all_goals try first|rfl|trivial|(simp only[zr,seval,u,l,j,A,r];done)
   all_goals (first|exact g|omega)
 ·rintro fr L ⟨u,l,j,A,r,g,hP⟩
  rw[aO (by simp)]at g;change sF L 4 5 _ (slC len cs)at g;clear vn vo c1 a1 a2 a3 a4 a5;obtain⟨K,B⟩:∃K,ag fr 6=K:=⟨_,rfl⟩
  rw[B]at g;have hp:=ahZ len cs;rcases g with⟨g,rfl⟩|⟨g,ver,hv,rfl,hL⟩
  ·rw[g]
   unfold kK;simp(disch:=omega) only[↓zd,seval,push_cast,l,j,r,B]
  ·rw[BR g]
   simp(disch:=omega) only[↓zd,seval,push_cast,l,j,r,B,hL,hp]
theorem ate(h:Hd):call bn 195 [.agg h.v] H=some (.bool h.ti,none):=by
 unfold Hd.v;refine(av (by conv=>lhs;reduce)).trans ?_;simp only[↓zo,zp,seval];simp(disch:=omega) only[↓zd,seval,push_cast]
def Ev.Db(e:Ev):Bool:=decide (e.kd=1)&&e.hs.any Hd.ti
theorem amP(e:Ev)(hl:e.hs.length<=1000):call bn 136 [.agg e.v] H=some (.bool e.Db,none):=by
 have c:=fun H=>Hl (H:=H) (m:=131) (n:=193) (sz:=5) (f:=195) (caps:=[]) (enc:=Hd.v) (p:=Hd.ti) (l:=e.hs) rfl rfl (by omega) Hd.sz rfl (fun x _ M N=>ate x);unfold Ev.Db Ev.v;refine(av (by conv=>lhs;reduce)).trans ?_;simp only[↓zo,zp,seval];by_cases h:e.kd=1
 ·simp(disch:=omega) only[↓zd,seval,push_cast,c,h]
 ·simp(disch:=omega) only[↓zd,seval,push_cast,h]
def Hd.eqp(a b:Hd):Bool:=decide (a.st=b.st)&&(decide (a.al=b.al)&&decide (a.oc=b.oc))
theorem atf{M N L:Mem}{k h:Hd}{ver:Nat}(g:0<ver)(c:ax L (.o 3)=⟨ver,5,[h.v],false⟩):call bn 200 [.agg k.v,.ptr 3 (.o 3) ver 0 0] (M::N::L::H)=some (.bool (k.eqp h),none):=by
 unfold Hd.v at*;unfold Hd.eqp;refine(av (show bn 200=some amw from by kernel_rfl)).trans ?_;unfold amw;simp(disch:=omega) only[↓zd,seval,push_cast,c,dN,eqGuard];done
def Hd.Dx(y:Ev)(h:Hd):Bool:= !h.ti||(decide (y.kd=1)&&y.hs.any fun k=>k.eqp h)
def Ev.Ay(x y:Ev):Bool:= !decide (x.kd=1)||x.hs.all (Hd.Dx y)
theorem atg{x y:Ev}(hx:x.hs.length<=1000)(X:y.hs.length<=1000):call bn 139 [.agg x.v,.agg y.v] H=some (.bool (x.Ay y),none):=by
 have x1:=x.sc;have Q:=y.sc;have O:=x.sz.1;have x4:=y.sz.1;have x5:x.v[2]? =some (.i x.kd):=rfl;have K:x.v[5]? =some (cu 5 (x.hs.map Hd.v)):=rfl;refine(av (by conv=>lhs;reduce)).trans ?_;simp only[↓zo,zp,seval];unfold Ev.Ay;by_cases R:x.kd=1
 ·rw[dW R,nL,iK]
  rw[R]at x5;simp(disch:=omega) only[↓zd,seval,push_cast,x1,Q,O,x4,x5,K];refine bI (fun i fr L=>ag fr 11=cu 5 (x.hs.map Hd.v)∧ag fr 12= .i x.hs.length∧ag fr 13= .i i∧ag fr 3= .ptr 0 (.o 2) 1 0 0∧ax L (.o 2)=⟨1,13,[y.v],false⟩∧x.hs.all (Hd.Dx y)=(x.hs.drop i).all (Hd.Dx y)) x.hs.length ?_ ?_ ?_
  ·refine⟨?_,?_,?_,?_,?_,rfl⟩
   (all_goals try simp only[↓zg,seval]);all_goals try first|rfl|trivial|(simp only[zr,seval];done)
  ·clear x1 Q O x5 K
   rintro i fr L U ⟨j,g,C,u,r,hp⟩ next
   obtain⟨h,hf⟩:∃h,x.hs[i]? =some h:=⟨_,ak U⟩
   have hd:x.hs.drop i=h::x.hs.drop (i+1):=by
    obtain⟨_,rfl⟩:=au.1 hf;exact gv U
   rw[hd,aZ,Hd.Dx]at hp;have c:=fun B I ver W hr=>Hl (H:=bu (bu L (.o 3) B) (.o 3) I::H) (m:=131) (n:=193) (sz:=5) (f:=200) (caps:=[.ptr 1 (.o 3) ver 0 0]) (enc:=Hd.v) (p:=fun k=>k.eqp h) (l:=y.hs) rfl rfl (by omega) Hd.sz rfl (fun k _ M N=>atf (H:=H) (M:=M) (N:=N) (L:=bu (bu L (.o 3) B) (.o 3) I) (k:=k) (h:=h) (ver:=ver) W hr);have F:y.v[2]? =some (.i y.kd):=rfl;have J:y.v[5]? =some (cu 5 (y.hs.map Hd.v)):=rfl;obtain⟨st,al,oc,ti,sh⟩:=h;cases ti with
   |false=>
    simp only[nT,Bool.true_or,l9]at hp;clear c hd;unfold Hd.v at*;simp(disch:=omega) only[↓zd,seval,push_cast,j,g,C,u,r,hf];refine next _ _ ⟨?_,?_,?_,?_,?_,hp⟩
    (all_goals try simp only[↓zg,seval,j,g,u,r]);all_goals try first|rfl|trivial|(simp only[zr,seval,j,g,u,r];done)
   |true=>
    have c':=fun B I=>c B I ((ax L (.o 3)).ver+1) (by omega);clear c hd;simp only[nL,iK]at hp;by_cases A:y.kd=1
    ·rw[A]at F
     rw[dW A,l9]at hp;have c:=fun B=>c' B ⟨(ax L (.o 3)).ver+1,5,[[.i st,.i al,.i oc,.bool true,.i sh]],false⟩ (by rw[ay,aX rfl];rfl);clear c';cases T:y.hs.any fun k=>k.eqp ⟨st,al,oc,true,sh⟩with
     |false=>
      rw[T]at c hp;rw[hp,iW];clear next hp
      simp(disch:=omega) only[↓zd,seval,push_cast,j,g,C,u,r,hf,x4,F,J,c,Hd.v]
     |true=>
      rw[T]at c hp;rw[l9]at hp;simp(disch:=omega) only[↓zd,seval,push_cast,j,g,C,u,r,hf,x4,F,J,c,Hd.v];refine next _ _ ⟨?_,?_,?_,?_,?_,hp⟩
      (all_goals try simp only[↓zg,seval,j,g,u,r]);all_goals try first|rfl|trivial|(simp only[zr,seval,j,g,u,r];done)
    ·rw[fB A,iW,iW]at hp
     rw[hp];clear next hp c'
     unfold Hd.v at*;simp(disch:=omega) only[↓zd,seval,push_cast,j,g,C,u,r,hf,x4,F,J]
  ·rintro fr L ⟨j,g,C,u,r,hp⟩
   rw[dZ,cB]at hp;rw[hp];clear hp;simp(disch:=omega) only[↓zd,seval,push_cast,g,C]
 ·rw[fB R,nT,Bool.true_or]
  simp(disch:=omega) only[↓zd,seval,push_cast,x1,Q,O,x4,x5,K]
def iJ(s:Sc)(m c v:Nat):List Ev:=
 match s.ms[m]?with
 |none=>[]
 |some x=>
  match x.cs[c]?with
  |none=>[]
  |some y=>
   match y.vs[v]?with
   |none=>[]
   |some z=>z.es
structure BS(s:Sc):Prop where
 ms:s.ms.length<=6
 cs:∀m∈s.ms,m.cs.length<=6
 vs:∀m∈s.ms,∀c∈m.cs,c.vs.length<=2
 es:∀m∈s.ms,∀c∈m.cs,∀v∈c.vs,v.es.length<=128
theorem Ev.pus(l:List Ev):(l.map Ev.v).all (fun e=>e.all V.pure)=true:=dh Ev.pu l
theorem adL{s:Sc}{m c v:Nat}(ok:BS s)(hm:m<=100)(hc:c<=100)(I:v<=100):call bn 197 [.agg s.v,.i m,.i c,.i v] H=some (cu 13 ((iJ s m c v).map Ev.v),none):=by
 have N:=ok.ms;have s1:=s.sc;have s2:=s.sz.1;have s3:s.v[3]? =some (cu 22 (s.ms.map Me.v)):=rfl;unfold iJ;cases hx:s.ms[m]?with
 |none=>
  have hl:=jX.1 hx;clear ok;refine(av (by conv=>lhs;reduce)).trans ?_;simp only[↓zo,zp,seval];simp(disch:=omega) only[↓zd,seval,push_cast,s1,s2,s3,gF]
 |some x=>
  dsimp only;have hl:=(au.1 hx).1;have K:=ok.cs x (ah hx);have l:=x.sz.1;have j:x.v[21]? =some (cu 2 (x.cs.map Ce.v)):=rfl;cases g:x.cs[c]?with
  |none=>
   have F:=jX.1 g;clear ok;refine(av (by conv=>lhs;reduce)).trans ?_;simp only[↓zo,zp,seval];simp(disch:=omega) only[↓zd,seval,push_cast,s1,s2,s3,gF,hx,l,j]
  |some y=>
   dsimp only;have F:=(au.1 g).1;have J:=ok.vs x (ah hx) y (ah g);have B:=y.sz.1;have A:y.v[1]? =some (cu 2 (y.vs.map Vo.v)):=rfl;cases r:y.vs[v]?with
   |none=>
    have u:=jX.1 r;clear ok;refine(av (by conv=>lhs;reduce)).trans ?_;simp only[↓zo,zp,seval];simp(disch:=omega) only[↓zd,seval,push_cast,s1,s2,s3,gF,hx,l,j,g,B,A]
   |some z=>
    have u:=(au.1 r).1;have C:z.v[0]? =some (cu 13 (z.es.map Ev.v)):=rfl;have hp:=Ev.pus z.es;clear ok;refine(av (by conv=>lhs;reduce)).trans ?_;simp only[↓zo,zp,seval];simp(disch:=omega) only[↓zd,seval,push_cast,s1,s2,s3,gF,hx,l,j,g,B,A,r,C,hp]
theorem xc{s:Sc}{m c v:Nat}(ok:BS s):(iJ s m c v).length<=128:=by
 unfold iJ;cases hx:s.ms[m]?with
 |none=>simp
 |some x=>
  dsimp only;cases j:x.cs[c]?with
  |none=>simp
  |some y=>
   dsimp only;cases g:y.vs[v]?with
   |none=>simp
   |some z=>exact ok.es x (ah hx) y (ah j) z (ah g)
def Pv(m c v e:Int):List V:=[.i 4,.i 0,.i c,.i m,.i v,.i e,.i 0]
theorem amQ{m c v e:Int}:call bn 198 [.i m,.i c,.i v,.i e] H=some (.agg (Pv m c v e),none):=by
 unfold Pv;refine(av (by conv=>lhs;reduce)).trans ?_;simp only[↓zo,zp,seval];simp(disch:=omega) only[↓zd,seval,push_cast]
theorem amR{s:Sc}{m c v e:Nat}(ok:BS s)(hm:m<=100)(hc:c<=100)(j:v<=100)(l:e<(iJ s m c v).length):call bn 196 [.agg s.v,.agg (Pv m c v e)] H=some (.i 0,none):=by
 have d:=fun H=>adL (H:=H) ok hm hc j;have hl:=xc (m:=m) (c:=c) (v:=v) ok;have s1:=s.sc;have s2:=s.sz.1;have s3:=s.sz.2;have g:=s.tk;clear ok;generalize iJ s m c v=E at*;unfold Pv;refine(av (by conv=>lhs;reduce)).trans ?_;simp only[↓zo,zp,seval];simp(disch:=omega) only[↓zd,seval,push_cast,s1,s2,s3,g,d]
def qC(s:Sc)(m c v e:Nat):Option (Nat×Nat):=if e+1<(iJ s m c v).length then some (m,e+1)else if 0<(iJ s (m+1) c v).length then some (m+1,0)else none
def Km(c v:Nat):Option (Nat×Nat)->List V
 |some (m,e)=>[.agg (Pv m c v e),.bool true]
 |none=>[.agg [.i 0,.i 0,.i 0,.i 0,.i 0,.i 0,.i 0],.bool false]
theorem amS{s:Sc}{m c v e:Nat}(ok:BS s)(hm:m<=90)(hc:c<=100)(j:v<=100)(A:e<(iJ s m c v).length):call bn 137 [.agg s.v,.agg (Pv m c v e)] H=some (.eT (Km c v (qC s m c v e)),none):=by
 have l:=fun H=>amR (H:=H) ok (by omega) hc j A;have d:=fun H=>adL (H:=H) ok (by omega:m<=100) hc j;have d1:∀H,call bn 197 [.agg s.v,.i ((m:Int)+1),.i c,.i v] H=some (cu 13 ((iJ s (m+1) c v).map Ev.v),none):=fun H=>adL (H:=H) ok (by omega:m+1<=100) hc j;have hl:=xc (m:=m) (c:=c) (v:=v) ok;have I:=xc (m:=m+1) (c:=c) (v:=v) ok;have s1:=s.sc;have s2:=s.sz.1;have s3:=s.sz.2;have g:=s.tk;have C:∀H,call bn 198 [.i m,.i c,.i v,.i ((e:Int)+1)] H=some (.agg (Pv m c v (e+1)),none):=fun H=>amQ;have B:∀H,call bn 198 [.i ((m:Int)+1),.i c,.i v,.i 0] H=some (.agg (Pv (m+1) c v 0),none):=fun H=>amQ;clear ok;unfold qC;generalize iJ s m c v=E at*;generalize iJ s (m+1) c v=F at*;unfold Pv at*;by_cases u:e+1<E.length
 ·rw[aX u]
  unfold Km Pv;refine(av (by conv=>lhs;reduce)).trans ?_;simp only[↓zo,zp,seval];simp(disch:=omega) only[↓zd,seval,push_cast,s1,s2,s3,g,l,d,C];all_goals rfl
 ·rw[aP u]
  by_cases r:0<F.length
  ·rw[aX r]
   unfold Km Pv;refine(av (by conv=>lhs;reduce)).trans ?_;simp only[↓zo,zp,seval];simp(disch:=omega) only[↓zd,seval,push_cast,s1,s2,s3,g,l,d,d1,B];all_goals rfl
  ·rw[aP r]
   unfold Km;refine(av (by conv=>lhs;reduce)).trans ?_;simp only[↓zo,zp,seval];simp(disch:=omega) only[↓zd,seval,push_cast,s1,s2,s3,g,l,d,d1]
theorem uK{L:Mem}{q:Nat}{a b:Int}:call bn 111 [.ptr 0 (.g q) 1 0 0,.bool false,.agg [.i a,.i b]] (L::H)=some (.eT [],some L.D):=by
 refine(av (by conv=>lhs;reduce)).trans ?_;simp only[↓zo,zp,seval];simp(disch:=omega) only[↓zd,seval,push_cast]
def Nq(L:Mem)(q:Nat)(s:Sc)(rule:Int)(els:List (List V)):Prop:=
 q<L.D.length∧L.b<=q∧∃lv,ax L (.g q)=⟨1,8,[s.v++[.i rule,lv]],false⟩∧((els=[]∧lv= .aL)∨(els≠[]∧∃p ver,(q=p)=False∧(p=q)=False∧L.b<=p∧0<ver∧lv= .ref 0 (.g p) ver 3 0 els.length∧ax L (.g p)=⟨ver,3,els,false⟩))
theorem ah0{L:Mem}{q:Nat}{s:Sc}{rule a b:Int}{els:List (List V)}(h:Nq L q s rule els)(hl:els.length<=1000000):∃K,(∀(M:Mem)(H:List Mem),M.D=L.D->M.b=L.b->call bn 111 [.ptr 0 (.g q) 1 0 0,.bool true,.agg [.i a,.i b]] (M::H)=some (.eT [],some K))∧∀M:Mem,M.D=K->M.b=L.b->Nq M q s rule (els++[[.i rule,.i a,.i b]]):=by
 obtain⟨C,u,lv,j,N⟩:=h;rcases N with⟨rfl,rfl⟩|⟨T,p,ver,B,J,I,R,rfl,A⟩
 ·refine⟨dE (dE L.D L.D.length ⟨1,3,[[.i rule,.i a,.i b]],false⟩) q ⟨1,8,[s.v++[.i rule,.ref 0 (.g L.D.length) 1 3 0 1]],false⟩,?_,?_⟩
  ·intro M H c r
   have j:ax M (.g q)=⟨1,8,[s.v++[.i rule,.aL]],false⟩:=by rw[<-j];exact eU (fun D=>eP D q) c
   rw[<-c]at C⊢;rw[<-r]at u;clear c r;have Q:(M.D.length=q)=False:=by simp;omega
   have hx:ax M (.g M.D.length)=⟨0,0,[],false⟩:=jH;unfold Sc.v at*;refine(av (by conv=>lhs;reduce)).trans ?_;simp only[↓zo,zp,seval];simp(disch:=omega) only[↓zd,seval,push_cast,j,Q,hx]
  ·rintro⟨D,O,F⟩ rfl l
   change F=L.b at l;subst l;refine⟨?_,u,.ref 0 (.g L.D.length) 1 3 0 1,?_,.inr ⟨by simp,L.D.length,1,by simp;omega,by simp;omega,eO u (xN C),by omega,rfl,?_⟩⟩
   ·simp only[fw];omega
   ·simp only[gp,cK,bK]
   ·simp only[gp,cK]
    rw[aP (by omega),aX trivial];rfl
 ·refine⟨dE (dE L.D p ⟨ver+1,3,els++[[.i rule,.i a,.i b]],false⟩) q ⟨1,8,[s.v++[.i rule,.ref 0 (.g p) (ver+1) 3 0 (els.length+1)]],false⟩,?_,?_⟩
  ·intro M H c r
   have j:ax M (.g q)=⟨1,8,[s.v++[.i rule,.ref 0 (.g p) ver 3 0 els.length]],false⟩:=by rw[<-j];exact eU (fun D=>eP D q) c
   have A:ax M (.g p)=⟨ver,3,els,false⟩:=by rw[<-A];exact eU (fun D=>eP D p) c
   rw[<-c]at C⊢;rw[<-r]at u I;clear c r;unfold Sc.v at*;refine(av (by conv=>lhs;reduce)).trans ?_;simp only[↓zo,zp,seval];simp(disch:=omega) only[↓zd,seval,push_cast,j,B,J,A,aT]
  ·rintro⟨D,O,F⟩ rfl l
   change F=L.b at l;subst l;refine⟨?_,u,.ref 0 (.g p) (ver+1) 3 0 (els.length+1),?_,.inr ⟨by simp,p,ver+1,B,J,I,by omega,by simp,?_⟩⟩
   ·simp only[fw];omega
   ·simp only[gp,cK,bK]
   ·simp only[gp,cK,B,bZ,bK]
theorem Ee{L:Mem}{q f:Nat}{caps:List V}{s:Sc}{rule:Int}{lv:V}(J:ax L (.g q)=⟨1,8,[s.v++[.i rule,lv]],false⟩)(hl:s.ms.length<=1000)
  (I:∀(i:Nat)(m:Me),s.ms[i]? =some m->∀M:Mem,M.D=L.D->call bn f (.i i:: .agg m.v::V.bW 1 caps) (M::L::H)=some (.bool false,none)):
  call bn 117 [.ptr 0 (.g q) 1 0 0,.fn f caps] (L::H)=some (.eT [],some L.D):=by
 have j:(Ht.start false (L::H)).D=L.D:=rfl;refine(av (by conv=>lhs;reduce)).trans ?_;simp only[↓zo,zp,seval];generalize Ht.start false (L::H)=W at*;have r:ax W (.g q)=⟨1,8,[s.v++[.i rule,lv]],false⟩:=by rw[<-J];exact eU (fun D=>eP D q) j
 unfold Sc.v at r;simp(disch:=omega) only[↓zd,seval,push_cast,r,dS];refine bI (fun i fr C=>ag fr 0= .ptr 0 (.g q) 1 0 0∧ag fr 1= .fn f caps∧ag fr 10=cu 22 (s.ms.map Me.v)∧ag fr 11= .i s.ms.length∧ag fr 12= .i i∧C.D=L.D) s.ms.length ?_ ?_ ?_
 ·refine⟨?_,?_,?_,?_,?_,?_⟩
  (all_goals try simp only[↓zg,seval]);all_goals try first|rfl|trivial|(simp only[zr,seval];done)
  all_goals (first|exact j|skip)
 ·clear r j
  rintro i fr C U ⟨B,A,u,l,F,j⟩ next
  obtain⟨m,hf⟩:∃x,s.ms[i]? =some x:=⟨_,ak U⟩
  have c:=fun N K=>I i m hf (bu (bu C (.o 1) N) (.o 1) K) (by rw[cz,cz];exact j);have m1:=m.sz.1;have m2:=m.sz.2;have T:=m.tk;have R:=m.sc;have Q:(m.v.drop 0).take 2=[.i 1,.i m.id]:=rfl;have O:m.v.take 2=[.i 1,.i m.id]:=rfl;clear I J;simp(disch:=omega) only[↓zd,seval,push_cast,B,A,u,l,F,hf,m1,m2,T,R,Q,O,c,uK];refine next _ _ ⟨?_,?_,?_,?_,?_,?_⟩
  (all_goals try simp only[↓zg,seval,B,A,u,l]);all_goals try first|rfl|trivial|(simp only[zr,seval,B,A,u,l];done)
 ·rintro fr C ⟨B,A,u,l,F,j⟩
  clear I J r;simp(disch:=omega) only[↓zd,seval,push_cast,l,F,j]
theorem Ua{L:Mem}{q f:Nat}{caps:List V}{s:Sc}{rule:Int}{lv:V}(hq:ax L (.g q)=⟨1,8,[s.v++[.i rule,lv]],false⟩)(ok:BS s)
  (Y:∀(i k v e:Nat)(m:Me)(c:Ce)(z:Vo)(x:Ev),s.ms[i]? =some m->m.cs[k]? =some c->c.vs[v]? =some z->z.es[e]? =some x->∀M:Mem,M.D=L.D->call bn f (.agg (Pv i k v e):: .agg x.v::V.bW 1 caps) (M::L::H)=some (.bool false,none)):
  call bn 126 [.ptr 0 (.g q) 1 0 0,.fn f caps] (L::H)=some (.eT [],some L.D):=by
 have B:(Ht.start false (L::H)).D=L.D:=rfl;have hl:=ok.ms;refine(av (by conv=>lhs;reduce)).trans ?_;simp only[↓zo,zp,seval];generalize Ht.start false (L::H)=L0 at*;have kM:ax L0 (.g q)=⟨1,8,[s.v++[.i rule,lv]],false⟩:=by rw[<-hq];exact eU (fun D=>eP D q) B
 unfold Sc.v at kM;simp(disch:=omega) only[↓zd,seval,push_cast,kM,dS];refine bI (fun i fr K=>ag fr 0= .ptr 0 (.g q) 1 0 0∧ag fr 1= .fn f caps∧ag fr 16=cu 22 (s.ms.map Me.v)∧ag fr 17= .i s.ms.length∧ag fr 18= .i i∧K.D=L.D) s.ms.length ?_ ?_ ?_
 ·refine⟨?_,?_,?_,?_,?_,?_⟩
  (all_goals try simp only[↓zg,seval]);all_goals try first|rfl|trivial|(simp only[zr,seval];done)
  all_goals (first|exact B|skip)
 ·clear kM B
  rintro i fr K hi ⟨l,j,u,r,A,B⟩ next
  obtain⟨m,hf⟩:∃x,s.ms[i]? =some x:=⟨_,ak hi⟩
  have m1:=m.sz.1;have O:=m.tk;have N:=m.sc;have W:m.v[21]? =some (cu 2 (m.cs.map Ce.v)):=rfl;have Qj:=ok.cs m (ah hf);simp(disch:=omega) only[↓zd,seval,push_cast,l,j,u,r,A,hf,m1,O,N,W];refine bI (fun k fr K=>ag fr 0= .ptr 0 (.g q) 1 0 0∧ag fr 1= .fn f caps∧ag fr 16=cu 22 (s.ms.map Me.v)∧ag fr 17= .i s.ms.length∧ag fr 18= .i i∧K.D=L.D∧ag fr 4= .i i∧ag fr 24=cu 2 (m.cs.map Ce.v)∧ag fr 25= .i m.cs.length∧ag fr 26= .i k) m.cs.length ?_ ?_ ?_
  ·refine⟨?_,?_,?_,?_,?_,?_,?_,?_,?_,?_⟩
   (all_goals try simp only[↓zg,seval,l,j,u,r,A]);all_goals try first|rfl|trivial|(simp only[zr,seval,l,j,u,r,A];done)
   all_goals (first|exact B|skip)
  ·clear l j u r A B m1 O N W next
   rintro k fr K hk ⟨l,j,u,r,A,B,F,J,C,I⟩ next
   obtain⟨c,hg⟩:∃x,m.cs[k]? =some x:=⟨_,ak hk⟩
   have m1:=c.sz.1;have O:=c.tk;have N:=c.sc;have W:c.v[1]? =some (cu 2 (c.vs.map Vo.v)):=rfl;have hl3:=ok.vs m (ah hf) c (ah hg);simp(disch:=omega) only[↓zd,seval,push_cast,l,j,u,r,A,F,J,C,I,hg,m1,O,N,W];refine bI (fun v fr K=>ag fr 0= .ptr 0 (.g q) 1 0 0∧ag fr 1= .fn f caps∧ag fr 16=cu 22 (s.ms.map Me.v)∧ag fr 17= .i s.ms.length∧ag fr 18= .i i∧K.D=L.D∧ag fr 4= .i i∧ag fr 24=cu 2 (m.cs.map Ce.v)∧ag fr 25= .i m.cs.length∧ag fr 26= .i k∧ag fr 6= .i k∧ag fr 32=cu 2 (c.vs.map Vo.v)∧ag fr 33= .i c.vs.length∧ag fr 34= .i v) c.vs.length ?_ ?_ ?_
   ·refine⟨?_,?_,?_,?_,?_,?_,?_,?_,?_,?_,?_,?_,?_,?_⟩
    (all_goals try simp only[↓zg,seval,l,j,u,r,A,F,J,C,I]);all_goals try first|rfl|trivial|(simp only[zr,seval,l,j,u,r,A,F,J,C,I];done)
    all_goals (first|exact B|skip)
   ·clear l j u r A B F J C I m1 O N W next
    rintro v fr K hv ⟨l,j,u,r,A,B,F,J,C,I,Q,T,R,U⟩ next
    obtain⟨z,hh⟩:∃x,c.vs[v]? =some x:=⟨_,ak hv⟩
    have m1:=z.sz.1;have O:=z.tk;have N:=z.sc;have W:z.v[0]? =some (cu 13 (z.es.map Ev.v)):=rfl;have hl4:=ok.es m (ah hf) c (ah hg) z (ah hh);simp(disch:=omega) only[↓zd,seval,push_cast,l,j,u,r,A,F,J,C,I,Q,T,R,U,hh,m1,O,N,W];refine bI (fun e fr K=>ag fr 0= .ptr 0 (.g q) 1 0 0∧ag fr 1= .fn f caps∧ag fr 16=cu 22 (s.ms.map Me.v)∧ag fr 17= .i s.ms.length∧ag fr 18= .i i∧K.D=L.D∧ag fr 4= .i i∧ag fr 24=cu 2 (m.cs.map Ce.v)∧ag fr 25= .i m.cs.length∧ag fr 26= .i k∧ag fr 6= .i k∧ag fr 32=cu 2 (c.vs.map Vo.v)∧ag fr 33= .i c.vs.length∧ag fr 34= .i v∧ag fr 8= .i v∧ag fr 40=cu 13 (z.es.map Ev.v)∧ag fr 41= .i z.es.length∧ag fr 42= .i e) z.es.length ?_ ?_ ?_
    ·refine⟨?_,?_,?_,?_,?_,?_,?_,?_,?_,?_,?_,?_,?_,?_,?_,?_,?_,?_⟩
     (all_goals try simp only[↓zg,seval,l,j,u,r,A,F,J,C,I,Q,T,R,U]);all_goals try first|rfl|trivial|(simp only[zr,seval,l,j,u,r,A,F,J,C,I,Q,T,R,U];done)
     all_goals (first|exact B|skip)
    ·clear l j u r A B F J C I Q T R U m1 O N W next
     rintro e fr K he ⟨l,j,u,r,A,B,F,J,C,I,Q,T,R,U,h8,Lu,Z,X⟩ next
     obtain⟨x,hx⟩:∃x,z.es[e]? =some x:=⟨_,ak he⟩
     have cc:=fun r1 r2=>Y i k v e m c z x hf hg hh hx (bu (bu K (.o 4) r1) (.o 4) r2) (by rw[cz,cz];exact B);have m1:=x.sz.1;have m2:=x.sz.2;have O:=x.tk;have N:=x.sc;have m6:x.v.take 2=[.i 1,.i x.id]:=rfl;clear Y hq ok;unfold Pv at cc;simp(disch:=omega) only[↓zd,seval,push_cast,l,j,F,Q,h8,Lu,Z,X,hx,m1,m2,O,N,m6,cc,uK];refine next _ _ ⟨?_,?_,?_,?_,?_,B,?_,?_,?_,?_,?_,?_,?_,?_,?_,?_,?_,?_⟩
     (all_goals try simp only[↓zg,seval,l,j,u,r,A,F,J,C,I,Q,T,R,U,h8,Lu,Z]);all_goals try first|rfl|trivial|(simp only[zr,seval,l,j,u,r,A,F,J,C,I,Q,T,R,U,h8,Lu,Z];done)
    ·clear l j u r A B F J C I Q T R U m1 O N W
     rintro fr K ⟨l,j,u,r,A,B,F,J,C,I,Q,T,R,U,h8,Lu,Z,X⟩;clear Y;simp(disch:=omega) only[↓zd,seval,push_cast,U,Z,X];refine next _ _ ⟨?_,?_,?_,?_,?_,B,?_,?_,?_,?_,?_,?_,?_,?_⟩
     (all_goals try simp only[↓zg,seval,l,j,u,r,A,F,J,C,I,Q,T,R]);all_goals try first|rfl|trivial|(simp only[zr,seval,l,j,u,r,A,F,J,C,I,Q,T,R];done)
   ·clear l j u r A B F J C I m1 O N W
    rintro fr K ⟨l,j,u,r,A,B,F,J,C,I,Q,T,R,U⟩;clear Y;simp(disch:=omega) only[↓zd,seval,push_cast,I,R,U];refine next _ _ ⟨?_,?_,?_,?_,?_,B,?_,?_,?_,?_⟩
    (all_goals try simp only[↓zg,seval,l,j,u,r,A,F,J,C]);all_goals try first|rfl|trivial|(simp only[zr,seval,l,j,u,r,A,F,J,C];done)
  ·clear l j u r A B m1 O N W
   rintro fr K ⟨l,j,u,r,A,B,F,J,C,I⟩;clear Y;simp(disch:=omega) only[↓zd,seval,push_cast,A,C,I];refine next _ _ ⟨?_,?_,?_,?_,?_,B⟩
   (all_goals try simp only[↓zg,seval,l,j,u,r]);all_goals try first|rfl|trivial|(simp only[zr,seval,l,j,u,r];done)
 ·rintro fr K ⟨l,j,u,r,A,B⟩
  clear Y hq kM ok;simp(disch:=omega) only[↓zd,seval,push_cast,r,A,B]
theorem ati{x:Ev}{a b c d:Int}(ok:mX x):call bn 127 [.agg (Pv a b c d),.agg x.v] H=some (.bool false,none):=by
 have e:=fun H=>XH (H:=H) ok;have m1:=x.sz.1;have m2:=x.sz.2;have j:=x.tk;have g:=x.sc;clear ok;unfold Pv;refine(av (by conv=>lhs;reduce)).trans ?_;simp only[↓zo,zp,seval];simp(disch:=omega) only[↓zd,seval,push_cast,e,m1,m2,j,g]
theorem c75{L:Mem}{q:Nat}{s:Sc}{rule:Int}{lv:V}(j:ax L (.g q)=⟨1,8,[s.v++[.i rule,lv]],false⟩)(ok:BS s)(ev:∀m∈s.ms,∀c∈m.cs,∀v∈c.vs,∀e∈v.es,mX e):call bn 75 [.ptr 0 (.g q) 1 0 0] (L::H)=some (.eT [],none):=by
 have c:=fun(M:Mem)(h:M.D=L.D)=>Ua (H:=L::H) (L:=M) (q:=q) (f:=127) (caps:=[]) (s:=s) (rule:=rule) (lv:=lv) (by rw[<-j];exact eU (fun D=>eP D q) h) ok (fun i k v e m c z x A u r l N hN=>ati (ev m (ah A) c (ah u) z (ah r) x (ah l)));have B:=c (Ht.start true (L::H)) rfl;clear c ok ev;refine(av (by conv=>lhs;reduce)).trans ?_;simp only[↓zo,zp,seval];simp(disch:=omega) only[↓zd,seval,push_cast,B]
theorem qR{bn:yw}{H:List Mem}{pm:Bool}{rs:List sU}{k:List KI}{fr:List V}{L:Mem}{c:eu}{T:Option (V×Option (List Row))->Prop}(P:Nat->List V->Mem->Prop)(n:Nat)(l:P 0 fr L)
  (step:∀i fr L,i<n->P i fr L->(∀fr' L',P (i+1) fr' L'->T (G bn H pm rs (.code (.loop c)::k) fr' L'))->T (G bn H pm rs (.code c:: .code (.loop c)::k) fr L))
  (done:∀fr L,P n fr L->T (G bn H pm rs (.code c:: .code (.loop c)::k) fr L)):T (G bn H pm rs (.code (.loop c)::k) fr L):=by
 have h:∀m i fr L,i+m=n->P i fr L->T (G bn H pm rs (.code (.loop c)::k) fr L):=by
  intro m;induction m with
  |zero=>
   intro i fr L e hp;rw[ik];have:i=n:=by omega
   subst this;exact done fr L hp
  |succ m j=>intro i fr L e hp;rw[ik];exact step i fr L (by omega) hp fun fr' L' g=>j (i+1) fr' L' (by omega) g
 exact h n 0 fr L (by omega) l
theorem Nq.own{L M:Mem}{q:Nat}{s:Sc}{rule:Int}{els:List (List V)}(h:Nq L q s rule els)(g:M.D=L.D)(c:M.b=L.b):Nq M q s rule els:=by
 obtain⟨D,O,b⟩:=M;obtain⟨r,l,j⟩:=L;dsimp only at g c;subst g;subst c;exact h
def uj(L:Mem)(q:Nat)(s:Sc)(rule:Int)(n:Nat)(b:Bool):Prop:=∃els,Nq L q s rule els∧els.length<=n∧els.isEmpty=b∧∀e∈els,∃r a c:Int,e=[.i r,.i a,.i c]
theorem uj.own{L M:Mem}{q:Nat}{s:Sc}{rule:Int}{n:Nat}{b:Bool}(h:uj L q s rule n b)(g:M.D=L.D)(c:M.b=L.b):uj M q s rule n b:=by
 obtain⟨els,h,j⟩:=h;exact⟨els,h.own g c,j⟩
theorem uj.row{L:Mem}{q:Nat}{s:Sc}{rule:Int}{n:Nat}{b:Bool}(h:uj L q s rule n b):∃lv,ax L (.g q)=⟨1,8,[s.v++[.i rule,lv]],false⟩:=by
 obtain⟨els,⟨r,l,lv,c,j⟩,u⟩:=h;exact⟨lv,c⟩
theorem uj.mono{L:Mem}{q:Nat}{s:Sc}{rule:Int}{n m:Nat}{b c:Bool}(h:uj L q s rule n b)(hn:n<=m)(j:b=c):uj L q s rule m c:=by
 obtain⟨els,h,l,g⟩:=h;exact⟨els,h,by omega,by rw[g.1,j],g.2⟩
theorem Gm{L:Mem}{q:Nat}{s:Sc}{rule a b:Int}{n:Nat}{e:Bool}(h:uj L q s rule n e)(hn:n<=900000):∃c,(∀(M:Mem)(H:List Mem),M.D=L.D->M.b=L.b->call bn 111 [.ptr 0 (.g q) 1 0 0,.bool true,.agg [.i a,.i b]] (M::H)=some (.eT [],some c))∧∀M:Mem,M.D=c->M.b=L.b->uj M q s rule (n+1) false:=by
 obtain⟨els,h,B,j⟩:=h;obtain⟨c,A,u⟩:=ah0 h (by omega);exact⟨c,A,fun M r l=>⟨_,u M r l,by rw[aF];simp;omega,by simp,fun e he=>by
  rcases dx.1 he with he|he
  ·exact j.2 e he
  ·exact⟨_,_,_,dA.1 he⟩⟩⟩
theorem Z7{n:Nat}{p:Nat->Bool}:(List.range (n+1)).any p=((List.range n).any p||p n):=by
 rw[gK,List.any_append,List.any_cons,List.any_nil,yR]
def Z8(z:Vo)(P:Nat->Bool):Bool:=(List.range z.es.length).any P
def fV(c:Ce)(P:Nat->Nat->Bool)(v:Nat):Bool:=match c.vs[v]?with|some z=>Z8 z (P v)|none=>false
def Z9(c:Ce)(P:Nat->Nat->Bool):Bool:=(List.range c.vs.length).any (fV c P)
def fC(m:Me)(P:Nat->Nat->Nat->Bool)(k:Nat):Bool:=match m.cs[k]?with|some c=>Z9 c (P k)|none=>false
def aaa(m:Me)(P:Nat->Nat->Nat->Bool):Bool:=(List.range m.cs.length).any (fC m P)
def fM(s:Sc)(P:Nat->Nat->Nat->Nat->Bool)(i:Nat):Bool:=match s.ms[i]?with|some m=>aaa m (P i)|none=>false
def wQ(s:Sc)(P:Nat->Nat->Nat->Nat->Bool):Bool:=(List.range s.ms.length).any (fM s P)
theorem Kn{a:Bool}{n:Nat}{p:Nat->Bool}:((a&& !(List.range n).any p)&& !p n)=(a&& !(List.range (n+1)).any p):=by
 rw[Z7];cases a<;>cases(List.range n).any p<;>cases p n<;>rfl
theorem Gn{a:Bool}{p:Nat->Bool}:a=(a&& !(List.range 0).any p):=by cases a<;>rfl
theorem aab{L:Mem}{q f:Nat}{caps:List V}{s:Sc}{rule:Int}{n0:Nat}{b0:Bool}(P:Nat->Nat->Nat->Nat->Bool)(st:uj L q s rule n0 b0)(hn0:n0<=800000)(ok:BS s)
  (hw:∀(i k v e:Nat)(m:Me)(c:Ce)(z:Vo)(x:Ev),s.ms[i]? =some m->m.cs[k]? =some c->c.vs[v]? =some z->z.es[e]? =some x->∀(M:Mem)(lv:V),ax M (.g q)=⟨1,8,[s.v++[.i rule,lv]],false⟩->call bn f (.agg (Pv i k v e):: .agg x.v::V.bW 1 caps) (M::L::H)=some (.bool (P i k v e),none))
  (T:Option (V×Option (List Row))->Prop)(fin:∀D':List Row,(∀M:Mem,M.D=D'->M.b=L.b->uj M q s rule (n0+9216) (b0&& !wQ s P))->T (some (.eT [],some D'))):
  T (call bn 126 [.ptr 0 (.g q) 1 0 0,.fn f caps] (L::H)):=by
 have hF:uj (Ht.start false (L::H)) q s rule n0 b0:=st.own rfl rfl;have F:(Ht.start false (L::H)).b=L.b:=rfl;have hl:=ok.ms;rw[av (f:=126) (by conv=>lhs;reduce)];simp only[↓zo,zp,seval];generalize Ht.start false (L::H)=L0 at*;obtain⟨lv0,kM⟩:=hF.row;unfold Sc.v at kM;simp(disch:=omega) only[↓zd,seval,push_cast,kM,dS];refine qR (fun i fr K=>ag fr 0= .ptr 0 (.g q) 1 0 0∧ag fr 1= .fn f caps∧ag fr 16=cu 22 (s.ms.map Me.v)∧ag fr 17= .i s.ms.length∧ag fr 18= .i i∧K.b=L.b∧uj K q s rule (n0+1536*i) (b0&& !(List.range i).any (fM s P))) s.ms.length ?_ ?_ ?_
 ·refine⟨?_,?_,?_,?_,?_,?_,?_⟩
  (all_goals try simp only[↓zg,seval]);all_goals try first|rfl|trivial|(simp only[zr,seval];done)
  all_goals (first|exact F|exact(hF.mono (by omega) Gn)|skip)
 ·clear kM F hF fin
  rintro i fr K hi ⟨l,j,u,r,A,F,hF⟩ next
  obtain⟨m,hf⟩:∃x,s.ms[i]? =some x:=⟨_,ak hi⟩
  have m1:=m.sz.1;have U:=m.tk;have R:=m.sc;have Y:m.v[21]? =some (cu 2 (m.cs.map Ce.v)):=rfl;have Qj:=ok.cs m (ah hf);simp(disch:=omega) only[↓zd,seval,push_cast,l,j,u,r,A,hf,m1,U,R,Y];refine qR (fun k fr K=>ag fr 0= .ptr 0 (.g q) 1 0 0∧ag fr 1= .fn f caps∧ag fr 16=cu 22 (s.ms.map Me.v)∧ag fr 17= .i s.ms.length∧ag fr 18= .i i∧K.b=L.b∧ag fr 4= .i i∧ag fr 24=cu 2 (m.cs.map Ce.v)∧ag fr 25= .i m.cs.length∧ag fr 26= .i k∧uj K q s rule (n0+1536*i+256*k) ((b0&& !(List.range i).any (fM s P))&& !(List.range k).any (fC m (P i)))) m.cs.length ?_ ?_ ?_
  ·refine⟨?_,?_,?_,?_,?_,?_,?_,?_,?_,?_,?_⟩
   (all_goals try simp only[↓zg,seval,l,j,u,r,A]);all_goals try first|rfl|trivial|(simp only[zr,seval,l,j,u,r,A];done)
   all_goals (first|exact F|exact(hF.mono (by omega) Gn)|exact((hF.own rfl rfl).mono (by omega) Gn)|skip)
  ·clear l j u r A F m1 U R Y next hF
   rintro k fr K hk ⟨l,j,u,r,A,F,B,J,C,I,hF⟩ next
   obtain⟨c,hg⟩:∃x,m.cs[k]? =some x:=⟨_,ak hk⟩
   have m1:=c.sz.1;have U:=c.tk;have R:=c.sc;have Y:c.v[1]? =some (cu 2 (c.vs.map Vo.v)):=rfl;have hl3:=ok.vs m (ah hf) c (ah hg);simp(disch:=omega) only[↓zd,seval,push_cast,l,j,u,r,A,B,J,C,I,hg,m1,U,R,Y];refine qR (fun v fr K=>ag fr 0= .ptr 0 (.g q) 1 0 0∧ag fr 1= .fn f caps∧ag fr 16=cu 22 (s.ms.map Me.v)∧ag fr 17= .i s.ms.length∧ag fr 18= .i i∧K.b=L.b∧ag fr 4= .i i∧ag fr 24=cu 2 (m.cs.map Ce.v)∧ag fr 25= .i m.cs.length∧ag fr 26= .i k∧ag fr 6= .i k∧ag fr 32=cu 2 (c.vs.map Vo.v)∧ag fr 33= .i c.vs.length∧ag fr 34= .i v∧uj K q s rule (n0+1536*i+256*k+128*v) (((b0&& !(List.range i).any (fM s P))&& !(List.range k).any (fC m (P i)))&& !(List.range v).any (fV c (P i k)))) c.vs.length ?_ ?_ ?_
   ·refine⟨?_,?_,?_,?_,?_,?_,?_,?_,?_,?_,?_,?_,?_,?_,?_⟩
    (all_goals try simp only[↓zg,seval,l,j,u,r,A,B,J,C,I]);all_goals try first|rfl|trivial|(simp only[zr,seval,l,j,u,r,A,B,J,C,I];done)
    all_goals (first|exact F|exact((hF.own rfl rfl).mono (by omega) Gn)|skip)
   ·clear l j u r A F B J C I m1 U R Y next hF
    rintro v fr K hv ⟨l,j,u,r,A,F,B,J,C,I,N,Q,O,W,hF⟩ next
    obtain⟨z,hh⟩:∃x,c.vs[v]? =some x:=⟨_,ak hv⟩
    have m1:=z.sz.1;have U:=z.tk;have R:=z.sc;have Y:z.v[0]? =some (cu 13 (z.es.map Ev.v)):=rfl;have hl4:=ok.es m (ah hf) c (ah hg) z (ah hh);simp(disch:=omega) only[↓zd,seval,push_cast,l,j,u,r,A,B,J,C,I,N,Q,O,W,hh,m1,U,R,Y];refine qR (fun e fr K=>ag fr 0= .ptr 0 (.g q) 1 0 0∧ag fr 1= .fn f caps∧ag fr 16=cu 22 (s.ms.map Me.v)∧ag fr 17= .i s.ms.length∧ag fr 18= .i i∧K.b=L.b∧ag fr 4= .i i∧ag fr 24=cu 2 (m.cs.map Ce.v)∧ag fr 25= .i m.cs.length∧ag fr 26= .i k∧ag fr 6= .i k∧ag fr 32=cu 2 (c.vs.map Vo.v)∧ag fr 33= .i c.vs.length∧ag fr 34= .i v∧ag fr 8= .i v∧ag fr 40=cu 13 (z.es.map Ev.v)∧ag fr 41= .i z.es.length∧ag fr 42= .i e∧uj K q s rule (n0+1536*i+256*k+128*v+e) ((((b0&& !(List.range i).any (fM s P))&& !(List.range k).any (fC m (P i)))&& !(List.range v).any (fV c (P i k)))&& !(List.range e).any (P i k v))) z.es.length ?_ ?_ ?_
    ·refine⟨?_,?_,?_,?_,?_,?_,?_,?_,?_,?_,?_,?_,?_,?_,?_,?_,?_,?_,?_⟩
     (all_goals try simp only[↓zg,seval,l,j,u,r,A,B,J,C,I,N,Q,O,W]);all_goals try first|rfl|trivial|(simp only[zr,seval,l,j,u,r,A,B,J,C,I,N,Q,O,W];done)
     all_goals (first|exact F|exact((hF.own rfl rfl).mono (by omega) Gn)|skip)
    ·clear l j u r A F B J C I N Q O W m1 U R Y next hF
     rintro e fr K he ⟨l,j,u,r,A,F,B,J,C,I,N,Q,O,W,h8,Lu,BU,Z,hF⟩ next
     obtain⟨x,hx⟩:∃x,z.es[e]? =some x:=⟨_,ak he⟩
     obtain⟨lv,hrow⟩:=hF.row;have cc:=fun r1 r2=>hw i k v e m c z x hf hg hh hx (bu (bu K (.o 4) r1) (.o 4) r2) lv hrow;obtain⟨D',a1,a2⟩:=Gm (a:=1) (b:=x.id) hF (by omega);have aa:=fun r1 r2=>a1 (bu (bu K (.o 4) r1) (.o 4) r2) (L::H) rfl rfl;have m1:=x.sz.1;have m2:=x.sz.2;have U:=x.tk;have R:=x.sc;have m6:x.v.take 2=[.i 1,.i x.id]:=rfl;have X:= @Kn (((b0&& !(List.range i).any (fM s P))&& !(List.range k).any (fC m (P i)))&& !(List.range v).any (fV c (P i k))) e (P i k v);clear hw ok a1 hrow;unfold Pv at cc;cases hp:P i k v e with
     |true=>
      rw[hp]at cc X;simp(disch:=omega) only[↓zd,seval,push_cast,l,j,B,N,h8,Lu,BU,Z,hx,m1,m2,U,R,m6,cc,aa];refine next _ _ ⟨?_,?_,?_,?_,?_,?_,?_,?_,?_,?_,?_,?_,?_,?_,?_,?_,?_,?_,?_⟩
      (all_goals try simp only[↓zg,seval,l,j,u,r,A,B,J,C,I,N,Q,O,W,h8,Lu,BU]);all_goals try first|rfl|trivial|(simp only[zr,seval,l,j,u,r,A,B,J,C,I,N,Q,O,W,h8,Lu,BU];done)
      refine uj.mono (a2 _ rfl rfl) ?_ ?_
      ·omega
      ·rw[<-X];simp
     |false=>
      rw[hp]at cc X;simp(disch:=omega) only[↓zd,seval,push_cast,l,j,B,N,h8,Lu,BU,Z,hx,m1,m2,U,R,m6,cc,uK];refine next _ _ ⟨?_,?_,?_,?_,?_,?_,?_,?_,?_,?_,?_,?_,?_,?_,?_,?_,?_,?_,?_⟩
      (all_goals try simp only[↓zg,seval,l,j,u,r,A,B,J,C,I,N,Q,O,W,h8,Lu,BU]);all_goals try first|rfl|trivial|(simp only[zr,seval,l,j,u,r,A,B,J,C,I,N,Q,O,W,h8,Lu,BU];done)
      all_goals (first|exact F|exact((hF.own rfl rfl).mono (by omega) (by rw[<-X];simp))|skip)
    ·clear l j u r A F B J C I N Q O W m1 U R Y hF
     rintro fr K ⟨l,j,u,r,A,F,B,J,C,I,N,Q,O,W,h8,Lu,BU,Z,hF⟩;have X:= @Kn ((b0&& !(List.range i).any (fM s P))&& !(List.range k).any (fC m (P i))) v (fV c (P i k));have F5:fV c (P i k) v=Z8 z (P i k v):=by unfold fV;rw[hh]
     rw[F5]at X;clear hw;simp(disch:=omega) only[↓zd,seval,push_cast,W,BU,Z];refine next _ _ ⟨?_,?_,?_,?_,?_,?_,?_,?_,?_,?_,?_,?_,?_,?_,?_⟩
     (all_goals try simp only[↓zg,seval,l,j,u,r,A,B,J,C,I,N,Q,O]);all_goals try first|rfl|trivial|(simp only[zr,seval,l,j,u,r,A,B,J,C,I,N,Q,O];done)
     all_goals (first|exact F|exact((hF.own rfl rfl).mono (by omega) X)|skip)
   ·clear l j u r A F B J C I m1 U R Y hF
    rintro fr K ⟨l,j,u,r,A,F,B,J,C,I,N,Q,O,W,hF⟩;have X:= @Kn (b0&& !(List.range i).any (fM s P)) k (fC m (P i));have F5:fC m (P i) k=Z9 c (P i k):=by unfold fC;rw[hg]
    rw[F5]at X;clear hw;simp(disch:=omega) only[↓zd,seval,push_cast,I,O,W];refine next _ _ ⟨?_,?_,?_,?_,?_,?_,?_,?_,?_,?_,?_⟩
    (all_goals try simp only[↓zg,seval,l,j,u,r,A,B,J,C]);all_goals try first|rfl|trivial|(simp only[zr,seval,l,j,u,r,A,B,J,C];done)
    all_goals (first|exact F|exact((hF.own rfl rfl).mono (by omega) X)|skip)
  ·clear l j u r A F m1 U R Y hF
   rintro fr K ⟨l,j,u,r,A,F,B,J,C,I,hF⟩;have X:= @Kn b0 i (fM s P);have F5:fM s P i=aaa m (P i):=by unfold fM;rw[hf]
   rw[F5]at X;clear hw;simp(disch:=omega) only[↓zd,seval,push_cast,A,C,I];refine next _ _ ⟨?_,?_,?_,?_,?_,?_,?_⟩
   (all_goals try simp only[↓zg,seval,l,j,u,r]);all_goals try first|rfl|trivial|(simp only[zr,seval,l,j,u,r];done)
   all_goals (first|exact F|exact((hF.own rfl rfl).mono (by omega) X)|skip)
 ·rintro fr K ⟨l,j,u,r,A,F,hF⟩
  clear hw kM ok;simp(disch:=omega) only[↓zd,seval,push_cast,r,A];exact fin _ fun M hD hb=>(hF.own hD (by rw[hb,F])).mono (by omega) rfl
theorem ah2{s:ByteArray}(h:Eb s=true):call bn 112 [.str s] H=some (.bool true,none):=by
 refine(Fg (show bn.fn 112=none from rfl)).trans ?_;show(prF 112 [.str s]).map (fun v=>(v,none))=_;simp only[prF,h,bK,aU]
theorem BV{n lo c:Int}(h:lo<=n∧n<=c):call bn 113 [.i n,.i lo,.i c] H=some (.bool true,none):=by
 rw[amA,dW h.1,dW h.2];rfl
structure XJ(p:Pa):Prop where
 nm:Eb p.nm=true
 iv:wP p.ts p.tn=0
 cl:∀x∈p.ss,1<=x.cl∧x.cl<=4
structure O4(m:Me):Prop where
 fi: -7<=m.fi∧m.fi<=7
 re:m.re=0∨m.re=2∨m.re=3
 sw:m.sw=0∨m.sw=60
 tm:m.tm.length<=1
 mc:∀t∈m.tm,1<=t.1∧t.1<=60000000
structure kN(s:Sc):Prop where
 ps:T9 s.ps
 pa:∀p∈s.ps,XJ p
 ml:1<=s.ms.length∧s.ms.length<=6
 me:∀m∈s.ms,vI m
 mf:∀m∈s.ms,O4 m
 cs:∀m∈s.ms,m.cs.length=mI s.ps
 sp:s.sp.length<=6
 la:∃n,s.la=[n]∧1<=n∧n<=1073741824
theorem kN.short{s:Sc}(ok:kN s):BS s where
 ms:=ok.ml.2
 cs:=fun m hm=>(ok.me m hm).cn
 vs:=fun m hm c hc=>((ok.me m hm).vn c hc).2
 es:=fun m hm c hc v g=>((ok.me m hm).vo c hc v g).Aw
theorem kN.ev{s:Sc}(ok:kN s):∀m∈s.ms,∀c∈m.cs,∀v∈c.vs,∀e∈v.es,mX e:=fun m hm c hc v g=>((ok.me m hm).vo c hc v g).ev
theorem l8{L M:Mem}{q:Nat}{r:Row}(c:ax L (.g q)=r)(h:M.D=L.D):ax M (.g q)=r:=by rw[<-c];exact eU (fun D=>eP D q) h
theorem ah3:Eb iB=true:=by kernel_rfl
theorem c68{L:Mem}{q:Nat}{s:Sc}{rule:Int}{lv:V}(hq:ax L (.g q)=⟨1,8,[s.v++[.i rule,lv]],false⟩)(ok:kN s):call bn 68 [.ptr 0 (.g q) 1 0 0] (L::H)=some (.eT [],none):=by
 have hs:=ok.sp;have xK:=ok.ml;have hpl:=ok.ps.len;obtain⟨n0,Yn,azJ⟩:=ok.la;have atj:s.la.length=1:=by rw[Yn];rfl
 have hS:(Ht.start true (L::H)).D=L.D:=rfl;unfold Sc.v at hq;refine(av (by conv=>lhs;reduce)).trans ?_;simp only[↓zo,zp,seval];generalize Ht.start true (L::H)=L0 at*;have Q:=l8 hq hS;simp(disch:=omega) only[↓zd,seval,push_cast,Q,dS];refine bI (fun i fr B=>ag fr 0= .ptr 0 (.g q) 1 0 0∧ag fr 15=cu 6 (s.ps.map Pa.v)∧ag fr 16= .i s.ps.length∧ag fr 17= .i i∧B.D=L.D) s.ps.length ?_ ?_ ?_
 ·refine⟨?_,?_,?_,?_,?_⟩
  (all_goals try simp only[↓zg,seval]);all_goals try first|rfl|trivial|(simp only[zr,seval];done)
  all_goals (first|exact hS|skip)
 ·clear Q hS
  rintro i fr B hi ⟨j,U,W,gM,A⟩ next
  obtain⟨x,hf⟩:∃x,s.ps[i]? =some x:=⟨_,ak hi⟩
  have ox:=ok.pa x (ah hf);have ol:=ok.ps.st x (ah hf);have x1:=x.sz.1;have x2:=x.tk;have Z:=x.sc;have x4:x.v[2]? =some (.str x.nm):=rfl;have x5:x.v[5]? =some (cu 3 (x.ss.map St.v)):=rfl;have Y:(x.v.drop 3).take 2=[.i x.ts,.i x.tn]:=rfl;have X:x.v.take 2=[.i 1,.i x.id]:=rfl;have c1:=fun H=>ah2 (H:=H) ox.nm;have c2:=fun H=>c10 (H:=H) x.ts x.tn;rw[ox.iv]at c2;clear ok ox;simp(disch:=omega) only[↓zd,seval,push_cast,j,U,W,gM,hf,x1,x2,Z,x4,x5,Y,X,c1,c2,BV,uK];refine next _ _ ⟨?_,?_,?_,?_,?_⟩
  (all_goals try simp only[↓zg,seval,j,U,W]);all_goals try first|rfl|trivial|(simp only[zr,seval,j,U,W];done)
 ·clear Q hS
  rintro fr B ⟨j,U,W,gM,A⟩;have Q:=l8 hq A;simp(disch:=omega) only[↓zd,seval,push_cast,j,U,W,gM,Q];refine bI (fun i fr B=>ag fr 0= .ptr 0 (.g q) 1 0 0∧ag fr 47=cu 22 (s.ms.map Me.v)∧ag fr 48= .i s.ms.length∧ag fr 49= .i i∧B.D=L.D) s.ms.length ?_ ?_ ?_
  ·refine⟨?_,?_,?_,?_,?_⟩
   (all_goals try simp only[↓zg,seval,j]);all_goals try first|rfl|trivial|(simp only[zr,seval,j];done)
  ·clear Q
   rintro i fr B hi ⟨j,r,l,u,A⟩ next
   obtain⟨x,hf⟩:∃x,s.ms[i]? =some x:=⟨_,ak hi⟩
   have om:=ok.me x (ah hf);have of:=(ok.mf x (ah hf)).tm;have on:=om.cn;have x1:=x.sz.1;have x2:=x.tk;have Z:=x.sc;have x4:x.v[19]? =some (.str ⟨#[]⟩):=rfl;have x5:x.v[20]? =some (cu 3 (x.tm.map Qv)):=rfl;have Y:x.v[21]? =some (cu 2 (x.cs.map Ce.v)):=rfl;have X:x.v.take 2=[.i 1,.i x.id]:=rfl;have c1:=fun H=>ah2 (H:=H) (s:=⟨#[]⟩) (by kernel_rfl);clear ok;simp(disch:=omega) only[↓zd,seval,push_cast,j,r,l,u,hf,x1,x2,Z,x4,x5,Y,X,c1,dS];refine bI (fun k fr B=>ag fr 0= .ptr 0 (.g q) 1 0 0∧ag fr 47=cu 22 (s.ms.map Me.v)∧ag fr 48= .i s.ms.length∧ag fr 49= .i i∧B.D=L.D∧ag fr 64=cu 2 (x.cs.map Ce.v)∧ag fr 65= .i x.cs.length∧ag fr 66= .i k∧ag fr 6= .bool false∧∃ver,0<ver∧ag fr 5= .ptr 0 (.o 2) ver 0 0∧ax B (.o 2)=⟨ver,22,[x.v],false⟩) x.cs.length ?_ ?_ ?_
   ·refine⟨?_,?_,?_,?_,?_,?_,?_,?_,?_,(ax B (.o 2)).ver+1,by omega,?_,?_⟩
    (all_goals try simp only[↓zg,seval,j,r,l,u]);all_goals try first|rfl|trivial|(simp only[zr,seval,j,r,l,u];done)
    all_goals (first|exact A|skip)
   ·clear j r l u A next x1 x2 Z x4 x5 Y X
    rintro k fr B hk ⟨j,r,l,u,A,J,F,I,C,ver,hv,N,K⟩ next
    obtain⟨c,hg⟩:∃y,x.cs[k]? =some y:=⟨_,ak hk⟩
    have oc:=om.vn c (ah hg);have y1:=c.sz.1;have y2:=c.tk;have y3:=c.sc;have y4:c.v[0]? =some .aL:=rfl;have y5:c.v[1]? =some (cu 2 (c.vs.map Vo.v)):=rfl;have ov:=om.vo c (ah hg);clear om;simp(disch:=omega) only[↓zd,seval,push_cast,j,r,l,u,J,F,I,C,hg,y1,y2,y3,y4,y5,dS];refine bI (fun v fr B=>ag fr 0= .ptr 0 (.g q) 1 0 0∧ag fr 47=cu 22 (s.ms.map Me.v)∧ag fr 48= .i s.ms.length∧ag fr 49= .i i∧B.D=L.D∧ag fr 64=cu 2 (x.cs.map Ce.v)∧ag fr 65= .i x.cs.length∧ag fr 66= .i k∧ag fr 6= .bool false∧ag fr 5= .ptr 0 (.o 2) ver 0 0∧ax B (.o 2)=⟨ver,22,[x.v],false⟩∧ag fr 84=cu 2 (c.vs.map Vo.v)∧ag fr 85= .i c.vs.length∧ag fr 86= .i v) c.vs.length ?_ ?_ ?_
    ·refine⟨?_,?_,?_,?_,?_,?_,?_,?_,?_,?_,?_,?_,?_,?_⟩
     (all_goals try simp only[↓zg,seval,j,r,l,u,J,F,I,C,N,K]);all_goals try first|rfl|trivial|(simp only[zr,seval,j,r,l,u,J,F,I,C,N,K];done)
     all_goals (first|exact A|skip)
    ·clear j r l u A J F I C N K next y1 y2 y3 y4 y5
     rintro v fr B hvv ⟨j,r,l,u,A,J,F,I,C,N,K,R,O,T⟩ next
     obtain⟨z,hz⟩:∃y,c.vs[v]? =some y:=⟨_,ak hvv⟩
     have oz:=ov z (ah hz);have z0:=oz.Aw;have z0':z.tu.length<=16:=by
      rcases oz.mr with⟨e,h,h',h''⟩|⟨h,h',h''⟩
      ·rw[h''];simp
      ·exact h'.len
     have z1:=z.sz.1;have z2:=z.tk;have z3:=z.sc;have z4:z.v[0]? =some (cu 13 (z.es.map Ev.v)):=rfl;have z5:z.v[1]? =some (cu 4 (z.tu.map Tv)):=rfl;clear ov oz;simp(disch:=omega) only[↓zd,seval,push_cast,j,r,l,u,J,F,I,C,R,O,T,hz,z1,z2,z3,z4,z5,dS];refine next _ _ ⟨?_,?_,?_,?_,A,?_,?_,?_,?_,?_,?_,?_,?_,?_⟩
     (all_goals try simp only[↓zg,seval,j,r,l,u,J,F,I,C,N,K,R,O]);all_goals try first|rfl|trivial|(simp only[zr,seval,j,r,l,u,J,F,I,C,N,K,R,O];done)
    ·clear j r l u A J F I C N K y1 y2 y3 y4 y5
     rintro fr B ⟨j,r,l,u,A,J,F,I,C,N,K,R,O,T⟩;simp(disch:=omega) only[↓zd,seval,push_cast,I,O,T];refine next _ _ ⟨?_,?_,?_,?_,A,?_,?_,?_,?_,ver,hv,?_,?_⟩
     (all_goals try simp only[↓zg,seval,j,r,l,u,J,F,C,N,K]);all_goals try first|rfl|trivial|(simp only[zr,seval,j,r,l,u,J,F,C,N,K];done)
   ·clear j r l u A x1 x2 Z x4 x5 Y
    rintro fr B ⟨j,r,l,u,A,J,F,I,C,ver,hv,N,K⟩;have x1:=x.sz.1;simp(disch:=omega) only[↓zd,seval,push_cast,j,r,l,u,F,I,C,N,K,x1,X,uK];refine next _ _ ⟨?_,?_,?_,?_,A⟩
    (all_goals try simp only[↓zg,seval,j,r,l]);all_goals try first|rfl|trivial|(simp only[zr,seval,j,r,l];done)
  ·clear Q j U W gM A
   rintro fr B ⟨j,r,l,u,A⟩;have Q:=l8 hq A;have c1:=fun H=>ah2 (H:=H) ah3;clear ok;simp(disch:=omega) only[↓zd,seval,push_cast,j,l,u,Q,c1,BV,dS,atj,uK]
theorem atm{M L:Mem}{i:Int}{m:Me}(hL:ax L (.o 1)=⟨1,1,[[.i m.cs.length]],false⟩)(ok:vI m):call bn 118 [.i i,.agg m.v,.ptr 2 (.o 1) 1 0 0] (M::L::H)=some (.bool false,none):=by
 have x1:=m.sz.1;have X:=m.tk;have W:=m.sc;have U:m.v[21]? =some (cu 2 (m.cs.map Ce.v)):=rfl;have on:=ok.cn;refine(av (by conv=>lhs;reduce)).trans ?_;simp only[↓zo,zp,seval];simp(disch:=omega) only[↓zd,seval,push_cast,hL,x1,X,W,U,dS];refine bI (fun k fr K=>ag fr 18=cu 2 (m.cs.map Ce.v)∧ag fr 19= .i m.cs.length∧ag fr 20= .i k∧ag fr 6= .bool false) m.cs.length ?_ ?_ ?_
 ·refine⟨?_,?_,?_,?_⟩
  (all_goals try simp only[↓zg,seval]);all_goals try first|rfl|trivial|(simp only[zr,seval];done)
 ·rintro k fr K hk ⟨l,g,j,r⟩ next
  obtain⟨c,T⟩:∃y,m.cs[k]? =some y:=⟨_,ak hk⟩
  have oc:=ok.vn c (ah T);have B:=ok.vo c (ah T);obtain⟨J,F⟩:∃z,c.vs[0]? =some z:=⟨_,ak (by omega)⟩
  obtain⟨zl,C⟩:∃z,c.vs[c.vs.length-1]? =some z:=⟨_,ak (by omega)⟩
  have hi:((c.vs.length:Int)-1).toNat=c.vs.length-1:=by omega
  have n0:=(B J (ah F)).ne;have nl:=(B zl (ah C)).ne;have n0':J.es.length≠0:=fun h=>n0 (eF.1 h);have nl':zl.es.length≠0:=fun h=>nl (eF.1 h);have k0:=(B J (ah F)).Aw;have kl:=(B zl (ah C)).Aw;have y1:=c.sz.1;have Q:=c.tk;have O:=c.sc;have N:c.v[1]? =some (cu 2 (c.vs.map Vo.v)):=rfl;have u1:=J.sz.1;have u2:=zl.sz.1;have u3:J.v[0]? =some (cu 13 (J.es.map Ev.v)):=rfl;have u4:zl.v[0]? =some (cu 13 (zl.es.map Ev.v)):=rfl;clear ok x1 X W U n0 nl;simp(disch:=omega) only[↓zd,seval,push_cast,l,g,j,r,T,y1,Q,O,N,F,C,hi,u1,u2,u3,u4,dS];refine bI (fun v fr K=>ag fr 18=cu 2 (m.cs.map Ce.v)∧ag fr 19= .i m.cs.length∧ag fr 20= .i k∧ag fr 6= .bool false∧ag fr 51=cu 2 (c.vs.map Vo.v)∧ag fr 52= .i c.vs.length∧ag fr 53= .i v) c.vs.length ?_ ?_ ?_
  ·refine⟨?_,?_,?_,?_,?_,?_,?_⟩
   (all_goals try simp only[↓zg,seval,l,g,j]);all_goals try first|rfl|trivial|(simp only[zr,seval,l,g,j];done)
  ·clear l g j r next y1 Q O N
   rintro v fr K hv ⟨l,g,j,r,A,u,I⟩ next
   obtain⟨z,R⟩:∃y,c.vs[v]? =some y:=⟨_,ak hv⟩
   have Y:=(B z (ah R)).ne;have kz:=(B z (ah R)).Aw;have nz':z.es.length≠0:=fun h=>Y (eF.1 h);have z1:=z.sz.1;have z2:=z.tk;have Z:=z.sc;have z4:z.v[0]? =some (cu 13 (z.es.map Ev.v)):=rfl;clear B Y;simp(disch:=omega) only[↓zd,seval,push_cast,l,g,j,r,A,u,I,R,z1,z2,Z,z4,dS];refine next _ _ ⟨?_,?_,?_,?_,?_,?_,?_⟩
   (all_goals try simp only[↓zg,seval,l,g,j,r,A,u]);all_goals try first|rfl|trivial|(simp only[zr,seval,l,g,j,r,A,u];done)
  ·clear l g j r y1 Q O N
   rintro fr K ⟨l,g,j,r,A,u,I⟩;simp(disch:=omega) only[↓zd,seval,push_cast,j,u,I];refine next _ _ ⟨?_,?_,?_,?_⟩
   (all_goals try simp only[↓zg,seval,l,g,r]);all_goals try first|rfl|trivial|(simp only[zr,seval,l,g,r];done)
 ·rintro fr K ⟨l,g,j,r⟩
  simp(disch:=omega) only[↓zd,seval,push_cast,g,j,r]
theorem c70{L:Mem}{q:Nat}{s:Sc}{rule:Int}{lv:V}(j:ax L (.g q)=⟨1,8,[s.v++[.i rule,lv]],false⟩)(ok:kN s):call bn 70 [.ptr 0 (.g q) 1 0 0] (L::H)=some (.eT [],none):=by
 have u:=ok.ml;have s1:=s.sz.1;have s2:=s.sz.2;have s3:=s.tk;have e:=fun H=>c21 (H:=H) ok.ps;have c:=fun(M:Mem)(h:M.D=L.D)(l:ax M (.o 1)=⟨1,1,[[.i (mI s.ps)]],false⟩)=>Ee (H:=L::H) (L:=M) (q:=q) (f:=118) (caps:=[.ptr 1 (.o 1) 1 0 0]) (s:=s) (rule:=rule) (lv:=lv) (l8 j h) (by omega) (fun i m hm N hN=>atm (by rw[ok.cs m (ah hm)];exact l) (ok.me m (ah hm)));have r:=c (bu (bu (Ht.start true (L::H)) (.o 1) ⟨1,1,[[.i 0]],false⟩) (.o 1) ⟨1,1,[[.i (mI s.ps)]],false⟩) rfl rfl;have A:ax (Ht.start true (L::H)) (.g q)=⟨1,8,[s.v++[.i rule,lv]],false⟩:=j;have t1:(s.v++[.i rule,lv]).take 6=s.v:=rfl;have t2:(s.v++[.i rule,lv]).length=8:=rfl;clear c ok;refine(av (by conv=>lhs;reduce)).trans ?_;simp only[↓zo,zp,seval];simp(disch:=omega) only[↓zd,seval,push_cast,r,e,j,t1,t2,s1,s2]
theorem atn{m:Me}{i:Int}(ok:vI m):call bn 120 [.i i,.agg m.v] H=some (.bool false,none):=by
 have x1:=m.sz.1;have F:=m.tk;have C:=m.sc;have x4:=m.sz.2;have B:m.v[21]? =some (cu 2 (m.cs.map Ce.v)):=rfl;have on:=ok.cn;have c:=fun H=>c37 (H:=H) ok.met;refine(av (by conv=>lhs;reduce)).trans ?_;simp only[↓zo,zp,seval];simp(disch:=omega) only[↓zd,seval,push_cast,c,x1,F,C,x4,B,dS];refine bI (fun k fr A=>ag fr 18=cu 2 (m.cs.map Ce.v)∧ag fr 19= .i m.cs.length∧ag fr 20= .i k∧ag fr 7= .bool false∧ag fr 6= .i 0) m.cs.length ?_ ?_ ?_
 ·refine⟨?_,?_,?_,?_,?_⟩
  (all_goals try simp only[↓zg,seval]);all_goals try first|rfl|trivial|(simp only[zr,seval];done)
 ·rintro k fr A O ⟨u,g,r,j,l⟩ next
  obtain⟨c,Q⟩:∃y,m.cs[k]? =some y:=⟨_,ak O⟩
  have y1:=c.sz.1;have K:=c.tk;have J:=c.sc;have I:c.v[0]? =some .aL:=rfl;clear ok x1 F C B;simp(disch:=omega) only[↓zd,seval,push_cast,u,g,r,j,l,Q,y1,K,J,I];refine bI (fun v fr A=>ag fr 18=cu 2 (m.cs.map Ce.v)∧ag fr 19= .i m.cs.length∧ag fr 20= .i k∧ag fr 7= .bool false∧ag fr 6= .i 0∧ag fr 26= .i 0∧ag fr 27= .i v) 0 ?_ ?_ ?_
  ·refine⟨?_,?_,?_,?_,?_,?_,?_⟩
   (all_goals try simp only[↓zg,seval,u,g,r,l,j]);all_goals try first|rfl|trivial|(simp only[zr,seval,u,g,r,l,j];done)
  ·rintro v fr A R
   omega
  ·clear u g r l j
   rintro fr A ⟨u,g,r,j,l,N,Yv⟩;rw[Int.natCast_zero]at Yv;simp(disch:=omega) only[↓zd,seval,push_cast,r,N,Yv];refine next _ _ ⟨?_,?_,?_,?_,?_⟩
   (all_goals try simp only[↓zg,seval,u,g,l,j]);all_goals try first|rfl|trivial|(simp only[zr,seval,u,g,l,j];done)
 ·rintro fr A ⟨u,g,r,j,l⟩
  simp(disch:=omega) only[↓zd,seval,push_cast,g,r,j,l]
theorem c71{L:Mem}{q:Nat}{s:Sc}{rule:Int}{lv:V}(J:ax L (.g q)=⟨1,8,[s.v++[.i rule,lv]],false⟩)(ok:kN s):call bn 71 [.ptr 0 (.g q) 1 0 0] (L::H)=some (.eT [],none):=by
 have xK:=ok.ml;have hpl:=ok.ps.len;have hS:(Ht.start true (L::H)).D=L.D:=rfl;have K:=fun(M:Mem)(h:M.D=L.D)=>Ee (H:=L::H) (L:=M) (q:=q) (f:=120) (caps:=[]) (s:=s) (rule:=rule) (lv:=lv) (l8 J h) (by omega) (fun i m hm N hN=>atn (ok.me m (ah hm)));refine(av (by conv=>lhs;reduce)).trans ?_;simp only[↓zo,zp,seval];unfold Sc.v at J;generalize Ht.start true (L::H)=L0 at*;have I:=l8 J hS;simp(disch:=omega) only[↓zd,seval,push_cast,I,dS];refine bI (fun i fr A=>ag fr 0= .ptr 0 (.g q) 1 0 0∧ag fr 10=cu 6 (s.ps.map Pa.v)∧ag fr 11= .i s.ps.length∧ag fr 12= .i i∧A.D=L.D) s.ps.length ?_ ?_ ?_
 ·refine⟨?_,?_,?_,?_,?_⟩
  (all_goals try simp only[↓zg,seval]);all_goals try first|rfl|trivial|(simp only[zr,seval];done)
  all_goals (first|exact hS|skip)
 ·clear I hS K
  rintro i fr A hi ⟨j,r,c,l,u⟩ next
  obtain⟨x,hf⟩:∃x,s.ps[i]? =some x:=⟨_,ak hi⟩
  have R:=(ok.pa x (ah hf)).cl;have ol:=ok.ps.st x (ah hf);have x1:=x.sz.1;have x2:=x.tk;have Z:=x.sc;have x5:x.v[5]? =some (cu 3 (x.ss.map St.v)):=rfl;clear ok;simp(disch:=omega) only[↓zd,seval,push_cast,j,r,c,l,hf,x1,x2,Z,x5,dS];refine bI (fun k fr A=>ag fr 0= .ptr 0 (.g q) 1 0 0∧ag fr 10=cu 6 (s.ps.map Pa.v)∧ag fr 11= .i s.ps.length∧ag fr 12= .i i∧A.D=L.D∧ag fr 17=cu 3 (x.ss.map St.v)∧ag fr 18= .i x.ss.length∧ag fr 19= .i k) x.ss.length ?_ ?_ ?_
  ·refine⟨?_,?_,?_,?_,?_,?_,?_,?_⟩
   (all_goals try simp only[↓zg,seval,j,r,c,l]);all_goals try first|rfl|trivial|(simp only[zr,seval,j,r,c,l];done)
   all_goals (first|exact u|skip)
  ·clear j r c l u next
   rintro k fr A hk ⟨j,r,c,l,u,C,B,F⟩ next
   obtain⟨y,T⟩:∃y,x.ss[k]? =some y:=⟨_,ak hk⟩
   have Q:=R y (ah T);have O:=fun H=>asJ (H:=H) Q;have y1:y.v.length=3:=rfl;have Y:y.v.all V.scalar=true:=rfl;have X:y.v.take 3=y.v:=rfl;have W:y.v[2]? =some (.i y.cl):=rfl;have U:y.v.take 2=[.i 1,.i y.id]:=rfl;clear R Q;simp(disch:=omega) only[↓zd,seval,push_cast,j,r,c,l,C,B,F,T,y1,Y,X,W,U,O,uK];refine next _ _ ⟨?_,?_,?_,?_,u,?_,?_,?_⟩
   (all_goals try simp only[↓zg,seval,j,r,c,l,C,B]);all_goals try first|rfl|trivial|(simp only[zr,seval,j,r,c,l,C,B];done)
  ·clear j r c l u
   rintro fr A ⟨j,r,c,l,u,C,B,F⟩;simp(disch:=omega) only[↓zd,seval,push_cast,l,B,F];refine next _ _ ⟨?_,?_,?_,?_,u⟩
   (all_goals try simp only[↓zg,seval,j,r,c]);all_goals try first|rfl|trivial|(simp only[zr,seval,j,r,c];done)
 ·clear I hS
  rintro fr A ⟨j,r,c,l,u⟩;have O:=K A u;clear K ok;simp(disch:=omega) only[↓zd,seval,push_cast,j,c,l,O]
theorem ato{M L:Mem}{q:Nat}{i:Int}{m:Me}{s:Sc}{rule:Int}{lv:V}(O:ax M (.g q)=⟨1,8,[s.v++[.i rule,lv]],false⟩)(R:ax L (.o 1)=⟨1,1,[[.ptr 0 (.g q) 1 0 0]],false⟩)(X:vI m)(of:O4 m)(pl:s.ps.length<=1000)(op:∀p∈s.ps,XJ p):call bn 121 [.i i,.agg m.v,.ptr 2 (.o 1) 1 0 0] (M::L::H)=some (.bool false,none):=by
 have x1:=m.sz.1;have x2:=m.tk;have x3:=m.sc;have x4:=m.sz.2;have K:m.v[11]? =some (.i m.fi):=rfl;have c:=fun H=>c37 (H:=H) X.met;have hf:=of.fi;have hS:(Ht.start true (M::L::H)).D=M.D:=rfl;clear X of;unfold Sc.v at O;refine(av (by conv=>lhs;reduce)).trans ?_;simp only[↓zo,zp,seval];generalize Ht.start true (M::L::H)=L0 at*;have l:=l8 O hS;simp(disch:=omega) only[↓zd,seval,push_cast,c,R,l,x1,x2,x3,x4,K,dS,BV];refine bI (fun k fr I=>ag fr 28=cu 6 (s.ps.map Pa.v)∧ag fr 29= .i s.ps.length∧ag fr 30= .i k∧ag fr 8= .bool false∧ag fr 2= .ptr 2 (.o 1) 1 0 0∧I.D=M.D∧∃ver,0<ver∧ag fr 4= .ptr 0 (.o 1) ver 0 0∧ax I (.o 1)=⟨ver,22,[m.v],false⟩) s.ps.length ?_ ?_ ?_
 ·refine⟨?_,?_,?_,?_,?_,?_,(ax L0 (.o 1)).ver+1,by omega,?_,?_⟩
  (all_goals try simp only[↓zg,seval]);all_goals try first|rfl|trivial|(simp only[zr,seval];done)
  all_goals (first|exact hS|skip)
 ·clear l hS
  rintro k fr I hk ⟨B,j,J,C,A,F,ver,N,u,r⟩ next
  have l:=l8 O F;obtain⟨p,Q⟩:∃y,s.ps[k]? =some y:=⟨_,ak hk⟩
  have o:=op p (ah Q);have Z:=fun H=>asK (H:=H) hf o.iv;have y1:=p.sz.1;have W:=p.tk;have U:=p.sc;have T:(p.v.drop 3).take 2=[.i p.ts,.i p.tn]:=rfl;clear o op;cases Y:s.wr
  ·rw[Y]at l
   simp(disch:=omega) only[↓zd,seval,push_cast,B,j,J,C,A,u,r,R,l,Q,y1,W,U,T,Z,x1,K];refine next _ _ ⟨?_,?_,?_,?_,?_,F,ver,N,?_,?_⟩
   (all_goals try simp only[↓zg,seval,B,j,C,A,u,r]);all_goals try first|rfl|trivial|(simp only[zr,seval,B,j,C,A,u,r];done)
  ·rw[Y]at l
   simp(disch:=omega) only[↓zd,seval,push_cast,B,j,J,C,A,u,r,R,l,Q,y1,W,U,T,Z,x1,K];refine next _ _ ⟨?_,?_,?_,?_,?_,F,ver,N,?_,?_⟩
   (all_goals try simp only[↓zg,seval,B,j,A,u,r]);all_goals try first|rfl|trivial|(simp only[zr,seval,B,j,A,u,r];done)
 ·rintro fr I ⟨B,j,J,C,A,F,ver,N,u,r⟩
  simp(disch:=omega) only[↓zd,seval,push_cast,j,J,C]
theorem c72{L:Mem}{q:Nat}{s:Sc}{rule:Int}{lv:V}(j:ax L (.g q)=⟨1,8,[s.v++[.i rule,lv]],false⟩)(ok:kN s):call bn 72 [.ptr 0 (.g q) 1 0 0] (L::H)=some (.eT [],none):=by
 have A:=ok.ml;have l:=ok.ps.len;have c:=fun(M:Mem)(h:M.D=L.D)(r:ax M (.o 1)=⟨1,1,[[.ptr 0 (.g q) 1 0 0]],false⟩)=>Ee (H:=L::H) (L:=M) (q:=q) (f:=121) (caps:=[.ptr 1 (.o 1) 1 0 0]) (s:=s) (rule:=rule) (lv:=lv) (l8 j h) (by omega) (fun i m hm N hN=>ato (l8 j (hN.trans h)) r (ok.me m (ah hm)) (ok.mf m (ah hm)) (by omega) ok.pa);have u:=c (bu (Ht.start true (L::H)) (.o 1) ⟨1,1,[[.ptr 0 (.g q) 1 0 0]],false⟩) rfl rfl;clear c ok;refine(av (by conv=>lhs;reduce)).trans ?_;simp only[↓zo,zp,seval];simp(disch:=omega) only[↓zd,seval,push_cast,u]
theorem O5{α:Type}{l:List α}:(l.any fun _=>false)=false:=by induction l<;>simp_all
theorem atp{x:Ev}(ok:mX x):call bn 178 [.agg x.v] H=some (.bool false,none):=by
 have e:=fun H=>XH (H:=H) ok;have m1:=x.sz.1;have m2:=x.sz.2;have g:=x.tk;have c:=x.sc;clear ok;refine(av (by conv=>lhs;reduce)).trans ?_;simp only[↓zo,zp,seval];simp(disch:=omega) only[↓zd,seval,push_cast,e,m1,m2,g,c]
theorem ah4:call bn 124 [.i 0] H=some (.bool false,none):=by
 refine(av (by conv=>lhs;reduce)).trans ?_;simp only[↓zo,zp,seval];simp(disch:=omega) only[↓zd,seval,push_cast]
theorem ah5:call bn 125 [.i 0] H=some (.bool false,none):=by
 refine(av (by conv=>lhs;reduce)).trans ?_;simp only[↓zo,zp,seval];simp(disch:=omega) only[↓zd,seval,push_cast]
theorem atq{z:Vo}{len:Int}{f:Nat}{A B C D E F J K:Mem}(hf:∀H,call bn f [.i 0] H=some (.bool false,none))(I:ax A (.o 3)=⟨1,1,[[.fn 178 []]],false⟩)(O:ax A (.o 2)=⟨1,1,[[.i len]],false⟩)(Q:ax K (.o 1)=⟨1,1,[[.fn f []]],false⟩)(ok:yD z len):
  call bn 182 [.agg z.v,.ptr 6 (.o 3) 1 0 0,.ptr 8 (.o 1) 1 0 0,.ptr 6 (.o 2) 1 0 0] (F::E::D::C::B::A::J::K::H)=some (.bool false,none):=by
 have R:=ok.Aw;have c:=fun H=>Hl (H:=H) (m:=183) (n:=235) (sz:=13) (f:=178) (caps:=[]) (enc:=Ev.v) (p:=fun _=>false) (l:=z.es) rfl rfl (by omega) Ev.sz rfl (fun x hx M N=>atp (ok.ev x hx));rw[O5]at c;have d:=fun H=>ata (H:=H) ok;have u:=z.sz.1;have r:=z.sz.2;have j:=z.sc;have z4:=z.tk;have g:z.v[0]? =some (cu 13 (z.es.map Ev.v)):=rfl;clear ok;refine(av (by conv=>lhs;reduce)).trans ?_;simp only[↓zo,zp,seval];simp(disch:=omega) only[↓zd,seval,push_cast,c,d,hf,Q,O,I,u,r,j,z4,g]
theorem atr{c:Ce}{len:Int}{f:Nat}{A B C J K:Mem}(hf:∀H,call bn f [.i 0] H=some (.bool false,none))(I:ax A (.o 3)=⟨1,1,[[.fn 178 []]],false⟩)(O:ax A (.o 2)=⟨1,1,[[.i len]],false⟩)(Q:ax K (.o 1)=⟨1,1,[[.fn f []]],false⟩)(hl:c.vs.length<=2)(ok:∀v∈c.vs,yD v len):
  call bn 180 [.agg c.v,.ptr 3 (.o 3) 1 0 0,.ptr 5 (.o 1) 1 0 0,.ptr 3 (.o 2) 1 0 0] (C::B::A::J::K::H)=some (.bool false,none):=by
 have g:=fun D=>Hl (H:=D::C::B::A::J::K::H) (m:=181) (n:=234) (sz:=2) (f:=182) (caps:=[.ptr 4 (.o 3) 1 0 0,.ptr 6 (.o 1) 1 0 0,.ptr 4 (.o 2) 1 0 0]) (enc:=Vo.v) (p:=fun _=>false) (l:=c.vs) rfl rfl (by omega) Vo.sz rfl (fun x hx M N=>atq hf I O Q (ok x hx));rw[O5]at g;have F:=c.sz.1;have u:=c.sz.2;have r:=c.sc;have z4:=c.tk;have j:c.v[1]? =some (cu 2 (c.vs.map Vo.v)):=rfl;clear ok;refine(av (by conv=>lhs;reduce)).trans ?_;simp only[↓zo,zp,seval];simp(disch:=omega) only[↓zd,seval,push_cast,g,F,u,r,z4,j]
theorem att{m:Me}{i:Int}{f:Nat}{J K:Mem}(hf:∀H,call bn f [.i 0] H=some (.bool false,none))(I:ax K (.o 1)=⟨1,1,[[.fn f []]],false⟩)(ok:vI m):
  call bn 177 [.i i,.agg m.v,.ptr 2 (.o 1) 1 0 0] (J::K::H)=some (.bool false,none):=by
 have O:=fun H=>c37 (H:=H) ok.met;have hn:=ok.cn;have c:=fun(A:Mem)(C:ax A (.o 3)=⟨1,1,[[.fn 178 []]],false⟩)(F:ax A (.o 2)=⟨1,1,[[.i (kL m.mt)]],false⟩)=>Hl (H:=A::J::K::H) (m:=179) (n:=233) (sz:=2) (f:=180) (caps:=[.ptr 1 (.o 3) 1 0 0,.ptr 3 (.o 1) 1 0 0,.ptr 1 (.o 2) 1 0 0]) (enc:=Ce.v) (p:=fun _=>false) (l:=m.cs) rfl rfl (by omega) Ce.sz rfl (fun x hx M N=>atr hf C F I (ok.vn x hx).2 (ok.vo x hx));rw[O5]at c;have Q:=fun B=>c (bu (bu (bu (bu (bu (Ht.start true (J::K::H)) (.o 1) B) (.o 2) ⟨1,1,[[.i 0]],false⟩) (.o 2) ⟨1,1,[[.i (kL m.mt)]],false⟩) (.o 3) ⟨1,1,[[.pO]],false⟩) (.o 3) ⟨1,1,[[.fn 178 []]],false⟩) rfl rfl;have u:=m.sz.1;have r:=m.sz.2;have j:=m.sc;have z4:=m.tk;have g:m.v[21]? =some (cu 2 (m.cs.map Ce.v)):=rfl;clear ok c;refine(av (by conv=>lhs;reduce)).trans ?_;simp only[↓zo,zp,seval];simp(disch:=omega) only[↓zd,seval,push_cast,Q,O,u,r,j,z4,g]
theorem amU{L:Mem}{q f:Nat}{s:Sc}{rule:Int}{lv:V}(hf:∀H,call bn f [.i 0] H=some (.bool false,none))(j:ax L (.g q)=⟨1,8,[s.v++[.i rule,lv]],false⟩)(ok:kN s):call bn 123 [.ptr 0 (.g q) 1 0 0,.fn f []] (L::H)=some (.eT [],some L.D):=by
 have u:=ok.ml;have c:=fun(M:Mem)(h:M.D=L.D)(l:ax M (.o 1)=⟨1,1,[[.fn f []]],false⟩)=>Ee (H:=L::H) (L:=M) (q:=q) (f:=177) (caps:=[.ptr 1 (.o 1) 1 0 0]) (s:=s) (rule:=rule) (lv:=lv) (l8 j h) (by omega) (fun i m hm N hN=>att hf l (ok.me m (ah hm)));have r:=c (bu (Ht.start false (L::H)) (.o 1) ⟨1,1,[[.fn f []]],false⟩) rfl rfl;clear c ok;refine(av (by conv=>lhs;reduce)).trans ?_;simp only[↓zo,zp,seval];simp(disch:=omega) only[↓zd,seval,push_cast,r]
theorem c73{L:Mem}{q:Nat}{s:Sc}{rule:Int}{lv:V}(c:ax L (.g q)=⟨1,8,[s.v++[.i rule,lv]],false⟩)(ok:kN s):call bn 73 [.ptr 0 (.g q) 1 0 0] (L::H)=some (.eT [],none):=by
 have j:=amU (H:=L::H) (L:=Ht.start true (L::H)) (fun H=>ah4 (H:=H)) (l8 c rfl) ok;refine(av (by conv=>lhs;reduce)).trans ?_;simp only[↓zo,zp,seval];simp(disch:=omega) only[↓zd,seval,push_cast,j]
theorem c74{L:Mem}{q:Nat}{s:Sc}{rule:Int}{lv:V}(c:ax L (.g q)=⟨1,8,[s.v++[.i rule,lv]],false⟩)(ok:kN s):call bn 74 [.ptr 0 (.g q) 1 0 0] (L::H)=some (.eT [],none):=by
 have j:=amU (H:=L::H) (L:=Ht.start true (L::H)) (fun H=>ah5 (H:=H)) (l8 c rfl) ok;refine(av (by conv=>lhs;reduce)).trans ?_;simp only[↓zo,zp,seval];simp(disch:=omega) only[↓zd,seval,push_cast,j]
theorem zY{α:Type}{enc:α->List V}{sz:Nat}(h:∀x,(enc x).length=sz∧(enc x).all V.scalar=true)(l:List α):(l.map enc).all (fun e=>decide (e.length=sz∧e.all V.scalar=true))=true:=by
 rw[vk,aV];intro x _;exact dW (h x)
theorem yE{α:Type}(l:List α):l=[]∨∃x t,l=x::t:=by cases l<;>simp
theorem atu(l:List Hd)(hl:l.length<=1000000):call bn 244 [cu 5 (l.map Hd.v)] H=some (kK 5 (l.map Hd.v),none):=by
 obtain rfl|⟨x,t,rfl⟩:=yE l
 ·rw[dX,gF]
  show _=some (V.aL,none);refine(av (by conv=>lhs;reduce)).trans ?_;simp only[↓zo,zp,seval];simp(disch:=omega) only[↓zd,seval,push_cast,Ia]
 ·have h:=zY (enc:=Hd.v) (sz:=5) (fun _=>⟨rfl,rfl⟩) (x::t)
  have p:=dh Hd.pu (x::t);rw[show kK 5 ((x::t).map Hd.v)= .sl .own 5 ((x::t).map Hd.v)from rfl];have i:((x::t).map Hd.v).isEmpty=false:=rfl;have c:((x::t).map Hd.v).length<=1000000:=by rw[aG];exact hl
  generalize (x::t).map Hd.v=els at*;refine(av (by conv=>lhs;reduce)).trans ?_;simp only[↓zo,zp,seval];simp(disch:=omega) only[↓zd,seval,push_cast,i,h,p]
theorem atv(l:List Gr)(hl:l.length<=1000000):call bn 245 [cu 5 (l.map Gr.v)] H=some (kK 5 (l.map Gr.v),none):=by
 obtain rfl|⟨x,t,rfl⟩:=yE l
 ·rw[dX,gF]
  show _=some (V.aL,none);refine(av (by conv=>lhs;reduce)).trans ?_;simp only[↓zo,zp,seval];simp(disch:=omega) only[↓zd,seval,push_cast,Ia]
 ·have h:=zY (enc:=Gr.v) (sz:=5) (fun _=>⟨rfl,rfl⟩) (x::t)
  have p:=dh Gr.pu (x::t);rw[show kK 5 ((x::t).map Gr.v)= .sl .own 5 ((x::t).map Gr.v)from rfl];have i:((x::t).map Gr.v).isEmpty=false:=rfl;have c:((x::t).map Gr.v).length<=1000000:=by rw[aG];exact hl
  generalize (x::t).map Gr.v=els at*;refine(av (by conv=>lhs;reduce)).trans ?_;simp only[↓zo,zp,seval];simp(disch:=omega) only[↓zd,seval,push_cast,i,h,p]
theorem atw(l:List ByteArray)(hl:l.length<=1000000):call bn 246 [cu 2 (l.map Lv)] H=some (kK 2 (l.map Lv),none):=by
 obtain rfl|⟨x,t,rfl⟩:=yE l
 ·rw[dX,gF]
  show _=some (V.aL,none);refine(av (by conv=>lhs;reduce)).trans ?_;simp only[↓zo,zp,seval];simp(disch:=omega) only[↓zd,seval,push_cast,Ia]
 ·have h:=zY (enc:=Lv) (sz:=2) (fun _=>⟨rfl,rfl⟩) (x::t)
  have p:=dh Lv.pu (x::t);rw[show kK 2 ((x::t).map Lv)= .sl .own 2 ((x::t).map Lv)from rfl];have i:((x::t).map Lv).isEmpty=false:=rfl;have c:((x::t).map Lv).length<=1000000:=by rw[aG];exact hl
  generalize (x::t).map Lv=els at*;refine(av (by conv=>lhs;reduce)).trans ?_;simp only[↓zo,zp,seval];simp(disch:=omega) only[↓zd,seval,push_cast,i,h,p]
theorem c93(l:List St)(hl:l.length<=1000000):call bn 93 [cu 3 (l.map St.v)] H=some (kK 3 (l.map St.v),none):=by
 obtain rfl|⟨x,t,rfl⟩:=yE l
 ·rw[dX,gF]
  show _=some (V.aL,none);refine(av (by conv=>lhs;reduce)).trans ?_;simp only[↓zo,zp,seval];simp(disch:=omega) only[↓zd,seval,push_cast,Ia]
 ·have h:=zY (enc:=St.v) (sz:=3) (fun _=>⟨rfl,rfl⟩) (x::t)
  have p:=dh St.pu (x::t);rw[show kK 3 ((x::t).map St.v)= .sl .own 3 ((x::t).map St.v)from rfl];have i:((x::t).map St.v).isEmpty=false:=rfl;have c:((x::t).map St.v).length<=1000000:=by rw[aG];exact hl
  generalize (x::t).map St.v=els at*;refine(av (by conv=>lhs;reduce)).trans ?_;simp only[↓zo,zp,seval];simp(disch:=omega) only[↓zd,seval,push_cast,i,h,p]
theorem c94(l:List (Int×Bool))(hl:l.length<=1000000):call bn 94 [cu 3 (l.map Qv)] H=some (kK 3 (l.map Qv),none):=by
 obtain rfl|⟨x,t,rfl⟩:=yE l
 ·rw[dX,gF]
  show _=some (V.aL,none);refine(av (by conv=>lhs;reduce)).trans ?_;simp only[↓zo,zp,seval];simp(disch:=omega) only[↓zd,seval,push_cast,Ia]
 ·have h:=zY (enc:=Qv) (sz:=3) (fun _=>⟨rfl,rfl⟩) (x::t)
  have p:=dh Qv.pu (x::t);rw[show kK 3 ((x::t).map Qv)= .sl .own 3 ((x::t).map Qv)from rfl];have i:((x::t).map Qv).isEmpty=false:=rfl;have c:((x::t).map Qv).length<=1000000:=by rw[aG];exact hl
  generalize (x::t).map Qv=els at*;refine(av (by conv=>lhs;reduce)).trans ?_;simp only[↓zo,zp,seval];simp(disch:=omega) only[↓zd,seval,push_cast,i,h,p]
theorem c50(l:List Sp)(hl:l.length<=1000000):call bn 50 [cu 7 (l.map Sp.v)] H=some (kK 7 (l.map Sp.v),none):=by
 obtain rfl|⟨x,t,rfl⟩:=yE l
 ·rw[dX,gF]
  show _=some (V.aL,none);refine(av (by conv=>lhs;reduce)).trans ?_;simp only[↓zo,zp,seval];simp(disch:=omega) only[↓zd,seval,push_cast,Ia]
 ·have h:=zY (enc:=Sp.v) (sz:=7) (fun _=>⟨rfl,rfl⟩) (x::t)
  have p:=dh Sp.pu (x::t);rw[show kK 7 ((x::t).map Sp.v)= .sl .own 7 ((x::t).map Sp.v)from rfl];have i:((x::t).map Sp.v).isEmpty=false:=rfl;have c:((x::t).map Sp.v).length<=1000000:=by rw[aG];exact hl
  generalize (x::t).map Sp.v=els at*;refine(av (by conv=>lhs;reduce)).trans ?_;simp only[↓zo,zp,seval];simp(disch:=omega) only[↓zd,seval,push_cast,i,h,p]
theorem c51(l:List Int)(hl:l.length<=1000000):call bn 51 [cu 2 (l.map Av)] H=some (kK 2 (l.map Av),none):=by
 obtain rfl|⟨x,t,rfl⟩:=yE l
 ·rw[dX,gF]
  show _=some (V.aL,none);refine(av (by conv=>lhs;reduce)).trans ?_;simp only[↓zo,zp,seval];simp(disch:=omega) only[↓zd,seval,push_cast,Ia]
 ·have h:=zY (enc:=Av) (sz:=2) (fun _=>⟨rfl,rfl⟩) (x::t)
  have p:=dh Av.pu (x::t);rw[show kK 2 ((x::t).map Av)= .sl .own 2 ((x::t).map Av)from rfl];have i:((x::t).map Av).isEmpty=false:=rfl;have c:((x::t).map Av).length<=1000000:=by rw[aG];exact hl
  generalize (x::t).map Av=els at*;refine(av (by conv=>lhs;reduce)).trans ?_;simp only[↓zo,zp,seval];simp(disch:=omega) only[↓zd,seval,push_cast,i,h,p]
theorem atx:call bn 159 [.aL] H=some (.aL,none):=by
 refine(av (by conv=>lhs;reduce)).trans ?_;simp only[↓zo,zp,seval];simp(disch:=omega) only[↓zd,seval,push_cast,Ia]
def gD(D:List Row)(sz:Nat)(els:List (List V)):List Row:=if els=[]then D else D++[⟨1,sz,els,false⟩]
def gV(D:List Row)(sz:Nat)(els:List (List V)):V:=if els=[]then .aL else .ref 0 (.g D.length) 1 sz 0 els.length
theorem kI{l:List Row}{r:Row}:dE l l.length r=l++[r]:=by
 induction l with
 |nil=>rfl
 |cons a l c=>simp only[aS,dE,c,aW]
def Ev.vg(e:Ev)(a b:V):List V:=[.i 1,.i e.id,.i e.kd,.i e.lg,.i e.dt,a,b,.i e.ar,.i e.orn,.i e.dy,cu 2 (e.ly.map Lv),.i 0,.i 0]
theorem O6(sz:Nat)(X:List (List V)):(X=[]∧kK sz X= .aL)∨(X≠[]∧kK sz X= .sl .own sz X):=by
 by_cases h:X=[]
 ·exact .inl ⟨h,aX h⟩
 ·exact .inr ⟨h,aP h⟩
theorem BX{D:List Row}{sz:Nat}{els:List (List V)}(h:els=[]):gD D sz els=D:=aX h
theorem Hm{D:List Row}{sz:Nat}{els:List (List V)}(h:els≠[]):gD D sz els=D++[⟨1,sz,els,false⟩]:=aP h
theorem BZ{D:List Row}{sz:Nat}{els:List (List V)}(h:els=[]):gV D sz els= .aL:=aX h
theorem Ho{D:List Row}{sz:Nat}{els:List (List V)}(h:els≠[]):gV D sz els= .ref 0 (.g D.length) 1 sz 0 els.length:=aP h
theorem amV{L:Mem}{e:Ev}(C:e.hs.length<=1000)(B:e.gs.length<=1000)(A:e.ly.length<=1000):call bn 199 [.agg e.v] (L::H)=some (.agg (e.vg (gV L.D 5 (e.hs.map Hd.v)) (gV (gD L.D 5 (e.hs.map Hd.v)) 5 (e.gs.map Gr.v))),some (gD (gD L.D 5 (e.hs.map Hd.v)) 5 (e.gs.map Gr.v))):=by
 have a:=fun H=>atu (H:=H) e.hs (by omega);have b:=fun H=>atv (H:=H) e.gs (by omega);have c:=fun H=>atw (H:=H) e.ly (by omega);unfold Ev.v Ev.vg;generalize e.hs.map Hd.v=X at*;generalize e.gs.map Gr.v=Y at*;generalize e.ly.map Lv=Z at*;have hn:ax L (.g L.D.length)=⟨0,0,[],false⟩:=jH;have u:∀r,(dE L.D L.D.length r).length=L.D.length+1:=fun r=>by rw[kI];simp
 have F:∀r,eP (dE L.D L.D.length r) (L.D.length+1)=⟨0,0,[],false⟩:=fun r=>rA _ (by rw[u];omega);have K:(L.D.length=L.D.length+1)=False:=by simp
 have J:(L.D.length+1=L.D.length)=False:=by simp
 have I:ax L (.g (L.D.length+1))=⟨0,0,[],false⟩:=rA _ (by omega);rcases O6 5 X with⟨l,h⟩|⟨l,h⟩<;>rw[h]at a<;>rcases O6 5 Y with⟨j,h⟩|⟨j,h⟩<;>rw[h]at b
 ·rw[BZ l,BX l,BZ j,BX j]
  clear l j h C B A;refine(av (by conv=>lhs;reduce)).trans ?_;simp only[↓zo,zp,seval];simp(disch:=omega) only[↓zd,seval,push_cast,a,b,c,hn,u,F]
 ·rw[BZ l,BX l,Ho j,Hm j,<-kI]
  clear l j h C B A;refine(av (by conv=>lhs;reduce)).trans ?_;simp only[↓zo,zp,seval];simp(disch:=omega) only[↓zd,seval,push_cast,a,b,c,hn,u,F]
 ·rw[Ho l,Hm l,BZ j,BX j,<-kI]
  clear l j h C B A;refine(av (by conv=>lhs;reduce)).trans ?_;simp only[↓zo,zp,seval];simp(disch:=omega) only[↓zd,seval,push_cast,a,b,c,hn,u,F]
 ·rw[Ho l,Hm l,Ho j,Hm j,<-kI,<-kI,u]
  clear l j h C B A;refine(av (by conv=>lhs;reduce)).trans ?_;simp only[↓zo,zp,seval];simp(disch:=omega) only[↓zd,seval,push_cast,a,b,c,hn,u,F,I,K,J]
def amW(n:Nat)(L:Mem)(v:V):Option (V×Mem):=jJ n L v
theorem mZ{n:Nat}{L:Mem}{s:Ix}{ver sz off len:Nat}:jJ n L (.ref 0 s ver sz off len)=if(ax L s).ver=ver∧0<ver∧off+len<=(ax L s).els.length∧((ax L s).fz||L.ok s)=true∧(ax L s).els.all (fun e=>e.all V.pure)=true then some (.sl .any sz (((ax L s).els.drop off).take len),if(ax L s).fz then L else bu L s ⟨(ax L s).ver,(ax L s).sz,(ax L s).els,true⟩)else amW n L (.ref 0 s ver sz off len):=by
 split
 ·rename_i h
  obtain⟨r,l,j,g,c⟩:=h;cases n<;>simp only[jJ,r,l,j,g,c,Bc,bK]<;>rfl
 ·rfl
theorem uX{n:Nat}{L:Mem}{k:IntKind}{m:Int}:jJ n L (.int k m)=some (.int k m,L):=by cases n<;>rfl
theorem rU{n:Nat}{L:Mem}{m:Bool}:jJ n L (.bool m)=some (.bool m,L):=by cases n<;>rfl
theorem uY{n:Nat}{L:Mem}{m:ByteArray}:jJ n L (.str m)=some (.str m,L):=by cases n<;>rfl
theorem wR{n:Nat}{L:Mem}:jJ n L .aL=some (.aL,L):=by cases n<;>rfl
theorem sH{n sz:Nat}{L:Mem}{els:List (List V)}:jJ n L (cu sz els)=if els.all (fun e=>e.all V.pure)=true then some (cu sz els,L)else amW n L (cu sz els):=by
 split
 ·rename_i h;rw[ahj,aX h]
 ·rfl
theorem Ev.ah6(e:Ev):e.vg (cu 5 (e.hs.map Hd.v)) (cu 5 (e.gs.map Gr.v))=e.v:=rfl
theorem vJ{s:Sc}{m c v e:Nat}{x:Ev}(h:(iJ s m c v)[e]? =some x):∃a b z,s.ms[m]? =some a∧a.cs[c]? =some b∧b.vs[v]? =some z∧z.es[e]? =some x:=by
 unfold iJ at h;cases l:s.ms[m]?with
 |none=>rw[l]at h;cases h
 |some a=>
  rw[l]at h;dsimp only at h;cases j:a.cs[c]?with
  |none=>rw[j]at h;cases h
  |some b=>
   rw[j]at h;dsimp only at h;cases g:b.vs[v]?with
   |none=>rw[g]at h;cases h
   |some z=>rw[g]at h;exact⟨a,b,z,rfl,j,g,h⟩
theorem aty{s:Sc}{m c v e:Nat}{x:Ev}(ok:BS s)(hm:m<=100)(hc:c<=100)(Z:v<=100)(O:(iJ s m c v)[e]? =some x)(h1:x.hs.length<=1000)(h2:x.gs.length<=1000)(h3:x.ly.length<=1000):call bn 138 [.agg s.v,.agg (Pv m c v e)] H=some (.eT [.agg x.v,.i 0],none):=by
 have k:=(au.1 O).1;have hl:=xc (m:=m) (c:=c) (v:=v) ok;have I:=fun H=>amR (H:=H) ok hm hc Z k;have d:=fun H=>adL (H:=H) ok hm hc Z;have a:=fun L H=>amV (H:=H) (L:=L) (e:=x) h1 h2 h3;have s1:=s.sc;have s2:=s.sz.1;have s3:=s.sz.2;have A:=s.tk;have x1:=x.sc;have u:=x.sz.1;have j:=x.sz.2;have x4:=x.tk;have F:=dh Hd.pu x.hs;have C:=dh Gr.pu x.gs;have B:=dh Lv.pu x.ly;have g:((iJ s m c v).map Ev.v)[e]? =some x.v:=by rw[aK,O];rfl
 have lX:(x.hs.map Hd.v).length<=1000:=by rw[aG];exact h1
 have lY:(x.gs.map Gr.v).length<=1000:=by rw[aG];exact h2
 have W:∀(l:List Row)r,(dE l l.length r).length=l.length+1:=fun l r=>by rw[kI];simp
 have T:∀n:Nat,(n=n+1)=False:=fun n=>by simp
 have R:∀n:Nat,(n+1=n)=False:=fun n=>by simp
 rw[<-Ev.ah6 x];have K:V.qZ (x.hs.map Hd.v)=true:=by rw[V.mM];exact F
 have J:V.qZ (x.gs.map Gr.v)=true:=by rw[V.mM];exact C
 have ao:(SK.any !=SK.own)=true:=rfl;have Q:(Ht.start true H).D.length=(Ht.start true H).b:=by cases H<;>rfl
 clear ok k O;unfold Pv at*;generalize x.hs.map Hd.v=X at*;generalize x.gs.map Gr.v=Y at*;unfold Ev.vg at*;refine(av (by conv=>lhs;reduce)).trans ?_;simp only[↓zo,zp,seval];generalize Ht.start true H=U at*;rcases Classical.em (X=[])with hX|hX<;>rcases Classical.em (Y=[])with hY|hY
 ·simp only[BZ hX,BX hX,BZ hY,BX hY]at a
  rw[hX,hY,gF];clear hX hY;simp(disch:=omega) only[↓zd,seval,push_cast,I,d,a,s1,s2,s3,A,g,u,j,x1,x4,B]
 ·simp only[BZ hX,BX hX,Ho hY,Hm hY,<-kI]at a
  rw[hX,gF,jO hY];clear hX hY;simp(disch:=omega) only[↓zd,seval,push_cast,I,d,a,s1,s2,s3,A,g,u,j,x1,x4,B,F,C,Q,lI,yu,rF,wJ,sG,zJ,xf,uX,rU,uY,wR,sH,mZ,W,T,R,aT,K,J,ao]
 ·simp only[Ho hX,Hm hX,BZ hY,BX hY,<-kI]at a
  rw[hY,gF,jO hX];clear hX hY;simp(disch:=omega) only[↓zd,seval,push_cast,I,d,a,s1,s2,s3,A,g,u,j,x1,x4,B,F,C,Q,lI,yu,rF,wJ,sG,zJ,xf,uX,rU,uY,wR,sH,mZ,W,T,R,aT,K,J,ao]
 ·simp only[Ho hX,Hm hX,Ho hY,Hm hY,<-kI]at a
  rw[jO hX,jO hY];clear hX hY;have N:max U.b (U.b+1)=U.b+1:=by omega
  simp(disch:=omega) only[↓zd,seval,push_cast,I,d,a,s1,s2,s3,A,g,u,j,x1,x4,B,F,C,Q,lI,yu,rF,wJ,sG,zJ,xf,uX,rU,uY,wR,sH,mZ,W,T,R,aT,K,J,ao,N]
def Ca(s:Sc):Prop:=∀(i k v e:Nat)(x:Ev),(iJ s i k v)[e]? =some x->x.Db=true->∃m' e' y,qC s i k v e=some (m',e')∧(iJ s m' k v)[e']? =some y∧x.Ay y=true
theorem Ko{s:Sc}{i k v e:Nat}{m:Me}{c:Ce}{z:Vo}{x:Ev}(r:s.ms[i]? =some m)(l:m.cs[k]? =some c)(j:c.vs[v]? =some z)(g:z.es[e]? =some x):(iJ s i k v)[e]? =some x:=by
 unfold iJ;rw[r];dsimp only;rw[l];dsimp only;rw[j];exact g
theorem mX.lens{x:Ev}(o:mX x):x.hs.length<=1000∧x.gs.length<=1000∧x.ly.length<=1000:=by
 refine⟨?_,?_,?_⟩
 ·by_cases h:x.kd=1
  ·have:=(o.hn h).2;omega
  ·rw[(o.bare h).1];simp
 ·have:=o.gn;omega
 ·have:=o.ln;omega
theorem Ns{s:Sc}{i k v e c g:Nat}(h:qC s i k v e=some (c,g)):c<=i+1∧g<=e+1:=by
 unfold qC at h;split at h
 ·injection h with h;injection h with l j;omega
 ·split at h
  ·injection h with h;injection h with l j;omega
  ·cases h
theorem atz{M L:Mem}{q:Nat}{s:Sc}{rule:Int}{lv:V}{i k v e:Nat}{x:Ev}(Y:ax M (.g q)=⟨1,8,[s.v++[.i rule,lv]],false⟩)(Z:ax L (.o 1)=⟨1,1,[[.ptr 0 (.g q) 1 0 0]],false⟩)(ok:BS s)(ev:∀m∈s.ms,∀c∈m.cs,∀v∈c.vs,∀e∈v.es,mX e)(ti:Ca s)(hi:i<=80)(hk:k<=80)(hv:v<=80)(hx:(iJ s i k v)[e]? =some x):call bn 135 [.agg (Pv i k v e),.agg x.v,.ptr 2 (.o 1) 1 0 0] (M::L::H)=some (.bool false,none):=by
 have hS:(Ht.start true (M::L::H)).D=M.D:=rfl;have W:=(au.1 hx).1;have lb:=xc (m:=i) (c:=k) (v:=v) ok;obtain⟨a1,a2,a3,b1,u,r,l⟩:=vJ hx;have O:=ev _ (ah b1) _ (ah u) _ (ah r) _ (ah l);have I:=O.lens;have t:=fun H=>amP (H:=H) x I.1;have x1:=x.sz.1;have K:=x.tk;have J:=x.sc;have x4:=x.sz.2;cases F:x.Db with
 |false=>
  rw[F]at t;clear ti ev ok;unfold Pv;refine(av (by conv=>lhs;reduce)).trans ?_;simp only[↓zo,zp,seval];simp(disch:=omega) only[↓zd,seval,push_cast,t,x1,K,J,x4]
 |true=>
  rw[F]at t;obtain⟨A,B,y,n1,n2,U⟩:=ti i k v e x hx F;have ni:=Ns n1;obtain⟨a1,a2,a3,b1,u,r,l⟩:=vJ n2;have N:=ev _ (ah b1) _ (ah u) _ (ah r) _ (ah l);have j:=N.lens;have C:=fun H=>amS (H:=H) (s:=s) (m:=i) (c:=k) (v:=v) (e:=e) ok (by omega) (by omega) (by omega) W;rw[n1]at C;have c2:=fun H=>aty (H:=H) (s:=s) (m:=A) (c:=k) (v:=v) (e:=B) ok (by omega) (by omega) (by omega) n2 j.1 j.2.1 j.2.2;have c3:=fun H=>atg (H:=H) (x:=x) (y:=y) I.1 j.1;rw[U]at c3;have y1:=y.sz.1;have T:=y.tk;have R:=y.sc;have Q:=y.sz.2;have t1:(s.v++[.i rule,lv]).take 6=s.v:=rfl;have t2:(s.v++[.i rule,lv]).length=8:=rfl;have s2:=s.sz.2;clear ti ev ok n1 n2 b1 u r l a1 a2 a3 O N hx;rw[show Km k v (some (A,B))=[.agg (Pv A k v B),.bool true]from rfl]at C;unfold Pv at*;refine(av (by conv=>lhs;reduce)).trans ?_;simp only[↓zo,zp,seval];generalize Ht.start true (M::L::H)=L0 at*;have X:=l8 Y hS;simp(disch:=omega) only[↓zd,seval,push_cast,t,x1,K,J,x4,Z,X,C,c2,c3,y1,T,R,Q,t1,t2,s2,zK,DK,Ym]
theorem c77{L:Mem}{q:Nat}{s:Sc}{rule:Int}{lv:V}(l:ax L (.g q)=⟨1,8,[s.v++[.i rule,lv]],false⟩)(ok:BS s)(ev:∀m∈s.ms,∀c∈m.cs,∀v∈c.vs,∀e∈v.es,mX e)(ti:Ca s):call bn 77 [.ptr 0 (.g q) 1 0 0] (L::H)=some (.eT [],none):=by
 have c:=fun(M:Mem)(h:M.D=L.D)(u:ax M (.o 1)=⟨1,1,[[.ptr 0 (.g q) 1 0 0]],false⟩)=>Ua (H:=L::H) (L:=M) (q:=q) (f:=135) (caps:=[.ptr 1 (.o 1) 1 0 0]) (s:=s) (rule:=rule) (lv:=lv) (l8 l h) ok (fun i k v e m c z x g1 j r A N hN=>by
  have l1:=(au.1 g1).1;have l2:=(au.1 j).1;have C:=(au.1 r).1;have J:=ok.ms;have I:=ok.cs m (ah g1);have F:=ok.vs m (ah g1) c (ah j);exact atz (l8 l (hN.trans h)) u ok ev ti (by omega) (by omega) (by omega) (Ko g1 j r A))
 have B:=c (bu (Ht.start true (L::H)) (.o 1) ⟨1,1,[[.ptr 0 (.g q) 1 0 0]],false⟩) rfl rfl;clear c ok ev ti;refine(av (by conv=>lhs;reduce)).trans ?_;simp only[↓zo,zp,seval];simp(disch:=omega) only[↓zd,seval,push_cast,B]
theorem atA{m:Me}{i:Int}(A:vI m)(of:O4 m):call bn 150 [.i i,.agg m.v] H=some (.bool false,none):=by
 have x1:=m.sz.1;have T:=m.tk;have R:=m.sc;have x4:=m.sz.2;have B:m.v[17]? =some (.i m.sw):=rfl;have Q:m.v[18]? =some (.i 0):=rfl;have O:m.v[20]? =some (cu 3 (m.tm.map Qv)):=rfl;have c:=fun H=>c37 (H:=H) A.met;have ml:=zW A.met;have sw:=of.sw;have X:=of.tm;have tm:=of.mc;clear A of;refine(av (by conv=>lhs;reduce)).trans ?_;simp only[↓zo,zp,seval];have U:∀b:Bool,b=false∨b=true:=fun b=>by cases b<;>simp
 rcases sw with sw|sw<;>rw[sw]at B
 all_goals
  clear sw;simp(disch:=omega) only[↓zd,seval,push_cast,c,x1,T,R,x4,B,Q,O,BV];refine bI (fun k fr F=>ag fr 31=cu 3 (m.tm.map Qv)∧ag fr 32= .i m.tm.length∧ag fr 33= .i k∧ag fr 7= .bool false∧ag fr 5= .i (kL m.mt)) m.tm.length ?_ ?_ ?_
  ·refine⟨?_,?_,?_,?_,?_⟩
   (all_goals try simp only[↓zg,seval]);all_goals try first|rfl|trivial|(simp only[zr,seval];done)
  ·rintro k fr F W ⟨r,g,u,j,l⟩ next
   obtain rfl:k=0:=by omega
   obtain⟨t,C⟩:∃y,m.tm[0]? =some y:=⟨_,ak W⟩
   have o:=tm t (ah C);have y1:(Qv t).length=3:=rfl;have N:(Qv t).take 3=Qv t:=rfl;have K:(Qv t).all V.scalar=true:=rfl;have J:(Qv t)[0]? =some (.i 0):=rfl;have I:(Qv t)[1]? =some (.i t.1):=rfl;clear tm;rw[Int.natCast_zero]at u;have z:((0:Nat):Int)=0:=rfl;simp(disch:=omega) only[↓zd,seval,push_cast,r,g,u,j,l,C,y1,N,K,J,I,BV,z];refine next _ _ ⟨?_,?_,?_,?_,?_⟩
   (all_goals try simp only[↓zg,seval,r,g,j,l]);all_goals try first|rfl|trivial|(simp only[zr,seval,r,g,j,l];done)
  ·rintro fr F ⟨r,g,u,j,l⟩
   simp(disch:=omega) only[↓zd,seval,push_cast,g,u,j]
theorem c83{L:Mem}{q:Nat}{s:Sc}{rule:Int}{lv:V}(c:ax L (.g q)=⟨1,8,[s.v++[.i rule,lv]],false⟩)(ok:kN s):call bn 83 [.ptr 0 (.g q) 1 0 0] (L::H)=some (.eT [],none):=by
 have l:=ok.ml;have j:=Ee (H:=L::H) (L:=Ht.start true (L::H)) (q:=q) (f:=150) (caps:=[]) (s:=s) (rule:=rule) (lv:=lv) (l8 c rfl) (by omega) (fun i m hm N hN=>atA (ok.me m (ah hm)) (ok.mf m (ah hm)));clear ok;refine(av (by conv=>lhs;reduce)).trans ?_;simp only[↓zo,zp,seval];simp(disch:=omega) only[↓zd,seval,push_cast,j]
theorem adO:oW .and (.int .i64 0) (.int .i64 0)=some (.int .i64 0):=by kernel_rfl
theorem atB{o m:Me}{A B C:Mem}(F:ax A (.o 1)=⟨1,22,[m.v],false⟩):call bn 148 [.agg o.v,.ptr 3 (.o 1) 1 0 0] (C::B::A::H)=some (.bool false,none):=by
 have x1:=m.sz.1;have u:=o.sz.1;have r:=o.sc;have l:m.v[15]? =some (.i 0):=rfl;have j:m.v[16]? =some (.i 0):=rfl;have g:o.v[15]? =some (.i 0):=rfl;have c:o.v[16]? =some (.i 0):=rfl;refine(av (by conv=>lhs;reduce)).trans ?_;simp only[↓zo,zp,seval];simp(disch:=omega) only[↓zd,seval,push_cast,F,x1,u,r,l,j,g,c,adO]
theorem atC{q:Nat}{i:Int}{p:V}(hp:p= .ptr 0 (.g q) 1 0 0):call bn 149 [p,.i 0,.i i] H=some (.bool true,none):=by
 subst hp;refine(av (by conv=>lhs;reduce)).trans ?_;simp only[↓zo,zp,seval];simp(disch:=omega) only[↓zd,seval,push_cast]
theorem ah7{α:Type}{n sz f:Nat}{caps:List V}{enc:α->List V}{p:α->Bool}{l:List α}(hn:bn n=some (XE sz))(hl:l.length<4294967296)(c:∀x,(enc x).length=sz∧∀d,V.bW d (enc x)=enc x)
  (hf:∀x∈l,∀M,call bn f (.agg (enc x)::V.bW 1 caps) (M::H)=some (.bool (p x),none)):call bn n [.sl .any sz (l.map enc),.fn f caps] H=some (.i (idx p l),none):=by
 cases l with
 |nil=>
  refine(av hn).trans ?_;rw[show idx p []= -1 from rfl,dX];unfold XE;simp(disch:=omega) only[↓zd,seval,push_cast,↓ik,uV]
 |cons x l=>exact afN hn hl c hf
theorem ah8{α:Type}{m n sz f:Nat}{caps:List V}{enc:α->List V}{p:α->Bool}{l:List α}(hm:bn m=some (adC n))(hn:bn n=some (XE sz))(hl:l.length<4294967296)(g:∀x,(enc x).length=sz∧∀d,V.bW d (enc x)=enc x)(hc:V.bW 1 (V.bW 1 caps)=V.bW 2 caps)
  (hf:∀x∈l,∀M N,call bn f (.agg (enc x)::V.bW 2 caps) (M::N::H)=some (.bool (p x),none)):call bn m [.sl .any sz (l.map enc),.fn f caps] H=some (.bool (l.any p),none):=by
 refine(av hm).trans ?_;unfold adC;have c:=fun N=>ah7 (H:=N::H) (caps:=V.bW 1 caps) hn hl g (p:=p) (fun x hx M=>by rw[hc];exact hf x hx M N);clear hf;simp(disch:=omega) only[↓zd,seval,push_cast,c,nZ,VJ]
theorem atD{M L:Mem}{q i:Nat}{m:Me}{s:Sc}{rule:Int}{lv:V}(j:ax M (.g q)=⟨1,8,[s.v++[.i rule,lv]],false⟩)(C:ax L (.o 1)=⟨1,1,[[.ptr 0 (.g q) 1 0 0]],false⟩)(ml:s.ms.length<=1000)(r:i<s.ms.length):call bn 147 [.i i,.agg m.v,.ptr 2 (.o 1) 1 0 0] (M::L::H)=some (.bool false,none):=by
 have x1:=m.sz.1;have B:=m.sc;have A:m.v[15]? =some (.i 0):=rfl;have u:m.v[16]? =some (.i 0):=rfl;have F:(s.ms.take i).length<=s.ms.length:=by rw[bf];omega
 have c:=ah8 (H:=bu (Ht.start true (M::L::H)) (.o 1) ⟨1,22,[m.v],false⟩::M::L::H) (m:=55) (n:=98) (sz:=22) (f:=148) (caps:=[.ptr 1 (.o 1) 1 0 0]) (enc:=Me.v) (p:=fun _=>false) (l:=s.ms.take i) rfl rfl (by omega) Me.sz rfl (fun x hx M N=>atB rfl);rw[O5,List.map_take]at c;have d:=fun H i=>atC (H:=H) (q:=q) (i:=i) rfl;have ne:s.ms.map Me.v≠[]:=fun h=>by rw[kC.1 h]at r;exact Nat.not_lt_zero _ r
 have e:=jO (sz:=22) ne;clear ne;unfold Sc.v at j;refine(av (by conv=>lhs;reduce)).trans ?_;simp only[↓zo,zp,seval];simp(disch:=omega) only[↓zd,seval,push_cast,C,j,x1,B,A,u,BV,c,d,e]
theorem c82{L:Mem}{q:Nat}{s:Sc}{rule:Int}{lv:V}(j:ax L (.g q)=⟨1,8,[s.v++[.i rule,lv]],false⟩)(ok:kN s):call bn 82 [.ptr 0 (.g q) 1 0 0] (L::H)=some (.eT [],none):=by
 have u:=ok.ml;have c:=fun(M:Mem)(h:M.D=L.D)(l:ax M (.o 1)=⟨1,1,[[.ptr 0 (.g q) 1 0 0]],false⟩)=>Ee (H:=L::H) (L:=M) (q:=q) (f:=147) (caps:=[.ptr 1 (.o 1) 1 0 0]) (s:=s) (rule:=rule) (lv:=lv) (l8 j h) (by omega) (fun i m hm N hN=>atD (l8 j (hN.trans h)) l (by omega) (au.1 hm).1);have r:=c (bu (Ht.start true (L::H)) (.o 1) ⟨1,1,[[.ptr 0 (.g q) 1 0 0]],false⟩) rfl rfl;clear c ok;refine(av (by conv=>lhs;reduce)).trans ?_;simp only[↓zo,zp,seval];simp(disch:=omega) only[↓zd,seval,push_cast,r]
theorem amX{t:ByteArray}(h:laT t):oW .eql (.str t) (.str ⟨#[]⟩)=some (.bool false):=by
 rcases h with rfl|rfl|rfl<;>kernel_rfl
theorem amY{t:ByteArray}(h:laT t):dN [.str,.int] [.str t,.i 0] [.str ⟨#[]⟩,.i 0]=some false:=by
 rcases h with rfl|rfl|rfl<;>kernel_rfl
theorem atE{x:Ev}{n:Nat}(r:x.ly.length<=1)(c:∀t∈x.ly,laT t):call bn 201 [.agg x.v,.i n] H=some (.bool (decide (x.ly.length<=n)),none):=by
 have x1:=x.sz.1;have j:=x.sc;have g:x.v[10]? =some (cu 2 (x.ly.map Lv)):=rfl;have len:∀t,(Lv t).length=2:=fun t=>rfl;have tk:∀t,(Lv t).take 2=Lv t:=fun t=>rfl;by_cases h:x.ly.length<=n
 ·rw[dW h]
  clear c;refine(av (show bn 201=some adr from by kernel_rfl)).trans ?_;unfold adr;simp(disch:=omega) only[↓zd,seval,push_cast,x1,j,g]
 ·rw[fB h]
  obtain rfl:n=0:=by omega
  obtain⟨t,l⟩:∃y,x.ly[0]? =some y:=⟨_,ak (by omega)⟩
  have e:=amY (c t (ah l));have z:((0:Nat):Int)=0:=rfl;have lv:Lv t=[.str t,.i 0]:=rfl;clear c;refine(av (show bn 201=some adr from by kernel_rfl)).trans ?_;unfold adr;simp(disch:=omega) only[↓zd,seval,push_cast,x1,j,g,l,len,tk,z,lv,e]
theorem atF{L:Mem}{q k v n:Nat}{mp:V}{s:Sc}{rule:Int}{lv:V}(hq:ax L (.g q)=⟨1,8,[s.v++[.i rule,lv]],false⟩)(ok:kN s)(hk:k<mI s.ps)(Qy:k<=100)(hv:v<=100)(hn:n<=100):call bn 140 [.ptr 0 (.g q) 1 0 0,.i k,.i v,.i n,mp] (L::H)=some (.eT [],none):=by
 have xK:=ok.ml;have hS:(Ht.start true (L::H)).D=L.D:=rfl;have bn1:(((0:Nat),Ix.o 4) !=((0:Nat),Ix.o 5))=true:=by decide
 have bn2:(((0:Nat),Ix.o 5) !=((0:Nat),Ix.o 1))=true:=by decide
 unfold Sc.v at hq;refine(av (by conv=>lhs;reduce)).trans ?_;simp only[↓zo,zp,seval];simp(disch:=omega) only[↓zd,seval,push_cast,hq,dS];refine bI (fun i fr R=>ag fr 0= .ptr 0 (.g q) 1 0 0∧ag fr 1= .i k∧ag fr 2= .i v∧ag fr 3= .i n∧ag fr 22=cu 22 (s.ms.map Me.v)∧ag fr 23= .i s.ms.length∧ag fr 24= .i i∧ag fr 10= .ptr 0 (.o 1) 1 0 0∧ag fr 11= .ptr 0 (.o 2) 1 0 0∧(∃t,ax R (.o 1)=⟨1,2,[[.str t,.i 0]],false⟩)∧(∃a b c d e f g,ax R (.o 2)=⟨1,7,[[.i a,.i b,.i c,.i d,.i e,.i f,.i g]],false⟩)) s.ms.length ?_ ?_ ?_
 ·refine⟨?_,?_,?_,?_,?_,?_,?_,?_,?_,⟨⟨#[]⟩,?_⟩,0,0,0,0,0,0,0,?_⟩
  (all_goals try simp only[↓zg,seval]);all_goals try first|rfl|trivial|(simp only[zr,seval];done)
 ·rintro i fr R hi ⟨A,u,r,l,C,B,O,F,K,⟨t,J⟩,a,b,c,d,e,f,g,N⟩ next
  obtain⟨m,hf⟩:∃x,s.ms[i]? =some x:=⟨_,ak hi⟩
  have hcs:=ok.cs m (ah hf);rw[<-hcs]at hk;obtain⟨y,hg⟩:∃x,m.cs[k]? =some x:=⟨_,ak hk⟩
  have U4:=((ok.me m (ah hf)).vn y (ah hg)).2;have lM:=ok.ev m (ah hf) y (ah hg);have W:=ok.short.es m (ah hf) y (ah hg);have azY:=(ok.me m (ah hf)).cn;clear ok hq;have m1:=m.sz.1;have m2:=m.sc;have m3:=m.tk;have m4:m.v[21]? =some (cu 2 (m.cs.map Ce.v)):=rfl;have y1:=y.sz.1;have y2:y.v[1]? =some (cu 2 (y.vs.map Vo.v)):=rfl;cases hz:y.vs[v]?with
  |none=>
   have hzl:=jX.1 hz;clear lM W;simp(disch:=omega) only[↓zd,seval,push_cast,A,u,r,l,C,B,O,hf,m1,m2,m3,m4,hg,y1,y2,dS];refine next _ _ ⟨?_,?_,?_,?_,?_,?_,?_,?_,?_,⟨t,?_⟩,a,b,c,d,e,f,g,?_⟩
   (all_goals try simp only[↓zg,seval,A,u,r,l,C,B,F,K,J,N]);all_goals try first|rfl|trivial|(simp only[zr,seval,A,u,r,l,C,B,F,K,J,N];done)
  |some z=>
   have hzl:=(au.1 hz).1;have z1:=z.sz.1;have z2:z.v[0]? =some (cu 13 (z.es.map Ev.v)):=rfl;have U:=lM z (ah hz);have hzc:=W z (ah hz);clear lM W;simp(disch:=omega) only[↓zd,seval,push_cast,A,u,r,l,C,B,O,hf,m1,m2,m3,m4,hg,y1,y2,hz,z1,z2,dS];refine bI (fun j fr R=>ag fr 0= .ptr 0 (.g q) 1 0 0∧ag fr 1= .i k∧ag fr 2= .i v∧ag fr 3= .i n∧ag fr 22=cu 22 (s.ms.map Me.v)∧ag fr 23= .i s.ms.length∧ag fr 24= .i i∧ag fr 10= .ptr 0 (.o 1) 1 0 0∧ag fr 11= .ptr 0 (.o 2) 1 0 0∧(∃t,ax R (.o 1)=⟨1,2,[[.str t,.i 0]],false⟩)∧(∃a b c d e f g,ax R (.o 2)=⟨1,7,[[.i a,.i b,.i c,.i d,.i e,.i f,.i g]],false⟩)∧ag fr 54=cu 13 (z.es.map Ev.v)∧ag fr 55= .i z.es.length∧ag fr 56= .i j∧ag fr 12= .i i) z.es.length ?_ ?_ ?_
   ·refine⟨?_,?_,?_,?_,?_,?_,?_,?_,?_,⟨t,?_⟩,⟨a,b,c,d,e,f,g,?_⟩,?_,?_,?_,?_⟩
    (all_goals try simp only[↓zg,seval,A,u,r,l,C,B,O,F,K,J,N]);all_goals try first|rfl|trivial|(simp only[zr,seval,A,u,r,l,C,B,O,F,K,J,N];done)
   ·clear A u r l C B O F K J N next m1 m2 m3 m4 y1 y2 z1 z2 a b c d e f g t
    rintro j fr R hj ⟨A,u,r,l,C,B,O,F,K,⟨t,J⟩,⟨a,b,c,d,e,f,g,N⟩,X,I,Q,Y⟩ next
    obtain⟨x,hx⟩:∃x,z.es[j]? =some x:=⟨_,ak hj⟩
    have ox:=U x (ah hx);have x1:=x.sz.1;have x2:=x.tk;have x3:=x.sc;have x4:=x.sz.2;have x6:x.v[10]? =some (cu 2 (x.ly.map Lv)):=rfl;have cc:=fun H=>atE (H:=H) (n:=n) ox.ln ox.ly;have ol:=ox.ln;have T:=ox.ly;clear U ox;by_cases hc:x.ly.length<=n
    ·rw[dW hc]at cc
     clear T;simp(disch:=omega) only[↓zd,seval,push_cast,A,u,r,l,X,I,Q,hx,x1,x2,x3,x4,cc];refine next _ _ ⟨?_,?_,?_,?_,?_,?_,?_,?_,?_,⟨t,?_⟩,⟨a,b,c,d,e,f,g,?_⟩,?_,?_,?_,?_⟩
     (all_goals try simp only[↓zg,seval,A,u,r,l,C,B,O,F,K,J,N,X,I,Y]);all_goals try first|rfl|trivial|(simp only[zr,seval,A,u,r,l,C,B,O,F,K,J,N,X,I,Y];done)
    ·rw[fB hc]at cc
     obtain rfl:n=0:=by omega
     obtain⟨Z,ht⟩:∃y,x.ly[0]? =some y:=⟨_,ak (by omega)⟩
     have e1:=amX (T Z (ah ht));have e2:(Lv Z).length=2:=rfl;have e3:(Lv Z).take 2=[.str Z,.i 0]:=rfl;have zz:((0:Nat):Int)=0:=rfl;have sz0:(⟨#[]⟩:ByteArray).size=0:=rfl;clear T;rw[zz]at l cc;simp(disch:=omega) only[↓zd,seval,push_cast,A,u,r,l,X,I,Q,F,K,Y,J,N,hx,x1,x2,x3,x4,x6,cc,ht,e1,e2,e3,zK,DK,Ym,sz0,bn1,bn2];refine next _ _ ⟨?_,?_,?_,?_,?_,?_,?_,?_,?_,⟨Z,?_⟩,⟨4,0,k,i,v,j,0,?_⟩,?_,?_,?_,?_⟩
     (all_goals try simp only[↓zg,seval,A,u,r,l,C,B,O,F,K,J,N,X,I,Y]);all_goals try first|rfl|trivial|(simp only[zr,seval,A,u,r,l,C,B,O,F,K,J,N,X,I,Y];done)
   ·clear A u r l C B O F K J N m1 m2 m3 m4 y1 y2 z1 z2 a b c d e f g t U
    rintro fr R ⟨A,u,r,l,C,B,O,F,K,⟨t,J⟩,⟨a,b,c,d,e,f,g,N⟩,X,I,Q,Y⟩;simp(disch:=omega) only[↓zd,seval,push_cast,O,I,Q];refine next _ _ ⟨?_,?_,?_,?_,?_,?_,?_,?_,?_,⟨t,?_⟩,a,b,c,d,e,f,g,?_⟩
    (all_goals try simp only[↓zg,seval,A,u,r,l,C,B,F,K,J,N]);all_goals try first|rfl|trivial|(simp only[zr,seval,A,u,r,l,C,B,F,K,J,N];done)
 ·rintro fr R ⟨A,u,r,l,C,B,O,F,K,⟨t,J⟩,a,b,c,d,e,f,g,N⟩
  clear ok;simp(disch:=omega) only[↓zd,seval,push_cast,B,O,F,J]
theorem atI{M L:Mem}{a b c d:Nat}{x:Ev}(l:ax L (.o 1)=⟨1,0,[],false⟩)(j:ax L (.o 2)=⟨1,1,[[.mp 0 (.o 1) 1]],false⟩):call bn 141 [.agg (Pv a b c d),.agg x.v,.ptr 2 (.o 2) 1 0 0] (M::L::H)=some (.bool false,none):=by
 have x1:=x.sz.1;have g:=x.sc;unfold Pv;refine(av (by conv=>lhs;reduce)).trans ?_;simp only[↓zo,zp,seval];simp(disch:=omega) only[↓zd,seval,push_cast,l,j,x1,g,Ar,Bp,dN,oZ,Option.isSome_some]
theorem O7{s:Sc}(ok:kN s):mI s.ps<=6:=by
 obtain⟨m,hm⟩:∃m,m∈s.ms:=by
  have:=ok.ml.1;cases h:s.ms with
  |nil=>rw[h]at this;simp at this
  |cons a l=>exact⟨a,by simp⟩
 rw[<-ok.cs m hm];exact(ok.me m hm).cn
theorem c78{L:Mem}{q:Nat}{s:Sc}{rule:Int}{lv:V}(K:ax L (.g q)=⟨1,8,[s.v++[.i rule,lv]],false⟩)(ok:kN s):call bn 78 [.ptr 0 (.g q) 1 0 0] (L::H)=some (.eT [],none):=by
 have W:=O7 ok;have hS:(Ht.start true (L::H)).D=L.D:=rfl;have t1:(s.v++[.i rule,lv]).take 6=s.v:=rfl;have t2:(s.v++[.i rule,lv]).length=8:=rfl;have s2:=s.sz.2;have d:=fun H=>c21 (H:=H) ok.ps;have U:=fun(M:Mem)(h:M.D=L.D)(k v n:Nat)(R:k<mI s.ps)(j:k<=100)(Y:v<=100)(I:n<=100)=>atF (H:=L::H) (L:=M) (q:=q) (k:=k) (v:=v) (n:=n) (mp:= .mp 1 (.o 1) 1) (l8 K h) ok R j Y I;have T:=fun(M:Mem)(h:M.D=L.D)(R:ax M (.o 1)=⟨1,0,[],false⟩)(j:ax M (.o 2)=⟨1,1,[[.mp 0 (.o 1) 1]],false⟩)=>Ua (H:=L::H) (L:=M) (q:=q) (f:=141) (caps:=[.ptr 1 (.o 2) 1 0 0]) (s:=s) (rule:=rule) (lv:=lv) (l8 K h) ok.short (fun i k v e m c z x g1 g2 g3 g4 N hN=>atI R j);clear ok;refine(av (by conv=>lhs;reduce)).trans ?_;simp only[↓zo,zp,seval];simp(disch:=omega) only[↓zd,seval,push_cast,K,t1,t2,s2,d];refine bI (fun k fr C=>ag fr 0= .ptr 0 (.g q) 1 0 0∧ag fr 13= .i (mI s.ps)∧ag fr 14= .i k∧ag fr 2= .ptr 0 (.o 2) 1 0 0∧C.D=L.D∧ax C (.o 1)=⟨1,0,[],false⟩∧ax C (.o 2)=⟨1,1,[[.mp 0 (.o 1) 1]],false⟩) (mI s.ps) ?_ ?_ ?_
 ·refine⟨?_,?_,?_,?_,?_,?_,?_⟩
  (all_goals try simp only[↓zg,seval]);all_goals try first|rfl|trivial|(simp only[zr,seval];done)
 ·clear K t1 t2 s2 d T hS
  rintro k fr C X ⟨l,r,A,j,F,B,u⟩ next
  simp(disch:=omega) only[↓zd,seval,push_cast,l,r,A];refine bI (fun v fr C=>ag fr 0= .ptr 0 (.g q) 1 0 0∧ag fr 13= .i (mI s.ps)∧ag fr 14= .i k∧ag fr 2= .ptr 0 (.o 2) 1 0 0∧C.D=L.D∧ax C (.o 1)=⟨1,0,[],false⟩∧ax C (.o 2)=⟨1,1,[[.mp 0 (.o 1) 1]],false⟩∧ag fr 4= .i k∧ag fr 17= .i v) 2 ?_ ?_ ?_
  ·refine⟨?_,?_,?_,?_,?_,?_,?_,?_,?_⟩
   (all_goals try simp only[↓zg,seval,l,r,A,j,B,u]);all_goals try first|rfl|trivial|(simp only[zr,seval,l,r,A,j,B,u];done)
   all_goals (first|exact F|skip)
  ·clear l r A j F B u next
   rintro v fr C Z ⟨l,r,A,j,F,B,u,I,J⟩ next
   simp(disch:=omega) only[↓zd,seval,push_cast,l,J];refine bI (fun n fr C=>ag fr 0= .ptr 0 (.g q) 1 0 0∧ag fr 13= .i (mI s.ps)∧ag fr 14= .i k∧ag fr 2= .ptr 0 (.o 2) 1 0 0∧C.D=L.D∧ax C (.o 1)=⟨1,0,[],false⟩∧ax C (.o 2)=⟨1,1,[[.mp 0 (.o 1) 1]],false⟩∧ag fr 4= .i k∧ag fr 17= .i v∧ag fr 5= .i v∧ag fr 20= .i n) 4 ?_ ?_ ?_
   ·refine⟨?_,?_,?_,?_,?_,?_,?_,?_,?_,?_,?_⟩
    (all_goals try simp only[↓zg,seval,l,r,A,j,B,u,I,J]);all_goals try first|rfl|trivial|(simp only[zr,seval,l,r,A,j,B,u,I,J];done)
    all_goals (first|exact F|skip)
   ·clear l r A j F B u I J next
    rintro n fr C hn ⟨l,r,A,j,F,B,u,I,J,Q,O⟩ next
    have c:=U C F k v n X (by omega) (by omega) (by omega);clear U;simp(disch:=omega) only[↓zd,seval,push_cast,l,j,I,Q,O,u,c];refine next _ _ ⟨?_,?_,?_,?_,F,?_,?_,?_,?_,?_,?_⟩
    (all_goals try simp only[↓zg,seval,l,r,A,j,B,u,I,J,Q]);all_goals try first|rfl|trivial|(simp only[zr,seval,l,r,A,j,B,u,I,J,Q];done)
   ·clear l r A j F B u I J
    rintro fr C ⟨l,r,A,j,F,B,u,I,J,Q,O⟩;rw[show((4:Nat):Int)=4 from rfl]at O;simp(disch:=omega) only[↓zd,seval,push_cast,O,J];refine next _ _ ⟨?_,?_,?_,?_,F,?_,?_,?_,?_⟩
    (all_goals try simp only[↓zg,seval,l,r,A,j,B,u,I]);all_goals try first|rfl|trivial|(simp only[zr,seval,l,r,A,j,B,u,I];done)
  ·clear l r A j F B u
   rintro fr C ⟨l,r,A,j,F,B,u,I,J⟩;rw[show((2:Nat):Int)=2 from rfl]at J;simp(disch:=omega) only[↓zd,seval,push_cast,J,A];refine next _ _ ⟨?_,?_,?_,?_,F,?_,?_⟩
   (all_goals try simp only[↓zg,seval,l,r,j,B,u]);all_goals try first|rfl|trivial|(simp only[zr,seval,l,r,j,B,u];done)
 ·clear K t1 t2 s2 d hS U
  rintro fr C ⟨l,r,A,j,F,B,u⟩;have c:=T C F B u;clear T;simp(disch:=omega) only[↓zd,seval,push_cast,l,r,A,j,c]
def pE(m c v:Nat):Nat->List Ev->List (List V×List V)
 |_,[]=>[]
 |n,e::l=>(Pv m c v n,Av e.id)::pE m c v (n+1) l
def pV(m c:Nat):Nat->List Vo->List (List V×List V)
 |_,[]=>[]
 |n,z::l=>pE m c n 0 z.es++pV m c (n+1) l
def pC(m:Nat):Nat->List Ce->List (List V×List V)
 |_,[]=>[]
 |n,c::l=>pV m n 0 c.vs++pC m (n+1) l
def pM:Nat->List Me->List (List V×List V)
 |_,[]=>[]
 |n,m::l=>([.i 3,.i 0,.i 0,.i n,.i 0,.i 0,.i 0],Av m.id)::pC n 0 m.cs++pM (n+1) l
def pT:Nat->List St->List (List V×List V)
 |_,[]=>[]
 |n,x::l=>([.i 2,.i 0,.i n,.i 0,.i 0,.i 0,.i 0],Av x.id)::pT (n+1) l
def pP:Nat->Nat->List Pa->List (List V×List V)
 |_,_,[]=>[]
 |n,st,p::l=>([.i 1,.i n,.i 0,.i 0,.i 0,.i 0,.i 0],Av p.id)::pT st p.ss++pP (n+1) (st+p.ss.length) l
def pS:Nat->List Sp->List (List V×List V)
 |_,[]=>[]
 |n,x::l=>([.i 5,.i 0,.i 0,.i 0,.i 0,.i 0,.i n],Av x.id)::pS (n+1) l
theorem afS{sz:Nat}{els:List (List V)}(h:els.length<=1000000):mR sz (cu sz els)=some els:=by
 unfold cu;split
 ·rename_i h;rw[h];rfl
 ·exact aX ⟨rfl,h⟩
theorem Ef{A:Type}{f:A->List V}{sz:Nat}{l:List A}(h:l.length<=1000):mR sz (cu sz (l.map f))=some (l.map f):=afS (by rw[aG];omega)
theorem adP(m c v:Nat)(l:List Ev):∀n,Ka m c v n (l.map Ev.v)=some (pE m c v n l):=by
 induction l with
 |nil=>intro n;rfl
 |cons e l g=>intro n;show(Ka m c v (n+1) (l.map Ev.v)).map _=_;rw[g];rfl
theorem adQ(m c:Nat)(l:List Vo)(h:∀v∈l,v.es.length<=1000):∀n,Kb m c n (l.map Vo.v)=some (pV m c n l):=by
 induction l with
 |nil=>intro n;rfl
 |cons e l g=>
  intro n;show(mR 13 (cu 13 (e.es.map Ev.v))).bind (fun es=>(Ka m c n 0 es).bind fun a=>(Kb m c (n+1) (l.map Vo.v)).map fun r=>a++r)=_;rw[Ef (h e (by simp)),g fun v j=>h v (by simp[j])];show(Ka m c n 0 (e.es.map Ev.v)).bind _=_;rw[adP];rfl
theorem adR(m:Nat)(l:List Ce)(h:∀c∈l,c.vs.length<=1000∧∀v∈c.vs,v.es.length<=1000):∀n,Kc m n (l.map Ce.v)=some (pC m n l):=by
 induction l with
 |nil=>intro n;rfl
 |cons e l g=>
  intro n;show(mR 2 (cu 2 (e.vs.map Vo.v))).bind (fun es=>(Kb m n 0 es).bind fun a=>(Kc m (n+1) (l.map Ce.v)).map fun r=>a++r)=_;rw[Ef (h e (by simp)).1,g fun v j=>h v (by simp[j])];show(Kb m n 0 (e.vs.map Vo.v)).bind _=_;rw[adQ _ _ _ (h e (by simp)).2];rfl
theorem adS(l:List Me)(h:∀m∈l,m.cs.length<=1000∧∀c∈m.cs,c.vs.length<=1000∧∀v∈c.vs,v.es.length<=1000):∀n,L8 n (l.map Me.v)=some (pM n l):=by
 induction l with
 |nil=>intro n;rfl
 |cons e l g=>
  intro n;show(some (cu 2 (e.cs.map Ce.v))).bind (fun cs=>(mR 2 cs).bind fun cs=>(Kc n 0 cs).bind fun a=>(L8 (n+1) (l.map Me.v)).map fun r=>([V.i 3,.i 0,.i 0,.i (n:Nat),.i 0,.i 0,.i 0],[V.i 1,.i e.id])::a++r)=_;rw[g fun v j=>h v (by simp[j])];show(mR 2 (cu 2 (e.cs.map Ce.v))).bind _=_;rw[Ef (h e (by simp)).1];show(Kc n 0 (e.cs.map Ce.v)).bind _=_;rw[adR _ _ (h e (by simp)).2];rfl
theorem adT(l:List St):∀n,Ke n (l.map St.v)=some (pT n l):=by
 induction l with
 |nil=>intro n;rfl
 |cons e l c=>intro n;show(Ke (n+1) (l.map St.v)).map _=_;rw[c];rfl
theorem adU(l:List Sp):∀n,Ma n (l.map Sp.v)=some (pS n l):=by
 induction l with
 |nil=>intro n;rfl
 |cons e l c=>intro n;show(Ma (n+1) (l.map Sp.v)).map _=_;rw[c];rfl
theorem adV(l:List Pa)(h:∀p∈l,p.ss.length<=1000):∀n st,Kg n st (l.map Pa.v)=some (pP n st l):=by
 induction l with
 |nil=>intro n st;rfl
 |cons e l c=>
  intro n st;show(mR 3 (cu 3 (e.ss.map St.v))).bind (fun ss=>(Ke st ss).bind fun a=>(Kg (n+1) (st+ss.length) (l.map Pa.v)).map fun r=>([V.i 1,.i (n:Nat),.i 0,.i 0,.i 0,.i 0,.i 0],[V.i 1,.i e.id])::a++r)=_;rw[Ef (h e (by simp))];show(Ke st (e.ss.map St.v)).bind _=_;rw[adT];show(Kg (n+1) (st+(e.ss.map St.v).length) (l.map Pa.v)).map _=_;rw[aG,c fun v g=>h v (by simp[g])];rfl
def plS(s:Sc):List (List V×List V):=pP 0 0 s.ps++pM 0 s.ms++pS 0 s.sp
theorem VQ{s:Sc}(ok:kN s):OW s.v=some (plS s):=by
 show(mR 6 (cu 6 (s.ps.map Pa.v))).bind (fun ps=>(mR 22 (cu 22 (s.ms.map Me.v))).bind fun ms=>(mR 7 (cu 7 (s.sp.map Sp.v))).bind fun sp=>(Kg 0 0 ps).bind fun a=>(L8 0 ms).bind fun b=>(Ma 0 sp).map fun c=>a++b++c)=_;have a:=ok.ps.len;have b:=ok.ml;have d:=ok.sp;rw[Ef (by omega),Ef (by omega),Ef (by omega)];show(Kg 0 0 (s.ps.map Pa.v)).bind _=_;rw[adV _ fun p hp=>by have:=(ok.ps.st p hp).2;omega];show(L8 0 (s.ms.map Me.v)).bind _=_;rw[adS _ fun m hm=>⟨by have:=ok.short.cs m hm;omega,fun c hc=>⟨by have:=ok.short.vs m hm c hc;omega,fun v g=>by have:=ok.short.es m hm c hc v g;omega⟩⟩];show(Ma 0 (s.sp.map Sp.v)).map _=_;rw[adU];rfl
def idC(c:Ce):List Int:=c.vs.flatMap fun v=>v.es.map Ev.id
def Mi(m:Me):List Int:=m.id::m.cs.flatMap idC
def idP(p:Pa):List Int:=p.id::p.ss.map St.id
def Kq(s:Sc):List Int:=s.ps.flatMap idP++s.ms.flatMap Mi++s.sp.map Sp.id
theorem amZ(m c v:Nat)(l:List Ev):∀n,(pE m c v n l).map Prod.snd=(l.map Ev.id).map Av:=by
 induction l with
 |nil=>intro n;rfl
 |cons e l g=>intro n;rw[pE,bO,g];rfl
theorem am0(m c:Nat)(l:List Vo):∀n,(pV m c n l).map Prod.snd=(l.flatMap fun v=>v.es.map Ev.id).map Av:=by
 induction l with
 |nil=>intro n;rfl
 |cons e l g=>intro n;rw[pV,aR,g,amZ,bF,aR]
theorem am1(m:Nat)(l:List Ce):∀n,(pC m n l).map Prod.snd=(l.flatMap idC).map Av:=by
 induction l with
 |nil=>intro n;rfl
 |cons e l c=>intro n;rw[pC,aR,c,am0,bF,aR];rfl
theorem afT(l:List Me):∀n,(pM n l).map Prod.snd=(l.flatMap Mi).map Av:=by
 induction l with
 |nil=>intro n;rfl
 |cons e l c=>intro n;rw[pM,aW,bO,aR,c,am1,bF,aR];rfl
theorem am2(l:List St):∀n,(pT n l).map Prod.snd=(l.map St.id).map Av:=by
 induction l with
 |nil=>intro n;rfl
 |cons e l c=>intro n;rw[pT,bO,c];rfl
theorem afU(l:List Sp):∀n,(pS n l).map Prod.snd=(l.map Sp.id).map Av:=by
 induction l with
 |nil=>intro n;rfl
 |cons e l c=>intro n;rw[pS,bO,c];rfl
theorem afV(l:List Pa):∀n st,(pP n st l).map Prod.snd=(l.flatMap idP).map Av:=by
 induction l with
 |nil=>intro n st;rfl
 |cons e l c=>intro n st;rw[pP,aW,bO,aR,c,am2,bF,aR];rfl
theorem am3{n:Int}(h:1<=n∧n<=1073741824):call bn 115 [.agg (Av n)] H=some (.bool true,none):=by
 unfold Av;refine(av (by conv=>lhs;reduce)).trans ?_;simp only[↓zo,zp,seval];simp(disch:=omega) only[↓zd,seval,push_cast,BV]
theorem atJ{s:Sc}{n:Int}(h:s.la=[n]):call bn 116 [.agg s.v,.i 1] H=some (.i n,none):=by
 have s1:=s.sc;have s2:=s.sz.1;have c:s.v[5]? =some (.sl .any 2 [[.i 1,.i n]]):=by show some (cu 2 (s.la.map Av))=_;rw[h];rfl
 refine(av (by conv=>lhs;reduce)).trans ?_;simp only[↓zo,zp,seval];simp(disch:=omega) only[↓zd,seval,push_cast,↓ik,s1,s2,c,uV]
structure Ub(s:Sc)(n:Int):Prop where
 nd:(Kq s).Nodup
 rg:∀i∈Kq s,1<=i∧i<=n
 la:s.la=[n]
 nn:1<=n∧n<=1073741824
theorem aae{n:Int}:∀{l:List Int}{i:Nat},n∉l->oZ (.agg [.int,.int]) (.agg (Av n)) (l.map fun x=>[.agg (Av x),.bool true]) i=some none:=by
 intro l;induction l with
 |nil=>intro i _;rfl
 |cons x l c=>
  intro i h;have e:¬n=x:=fun e=>h (by rw[e];simp);have t:=c (i:=i+1) (fun g=>h (dD _ g));rw[bO,oZ,t];simp[wC,Av,dN,e]
theorem Fq{α β:Type}{f:α->List β}{c:Nat}:∀{l:List α},(∀x∈l,(f x).length<=c)->(l.flatMap f).length<=c*l.length:=by
 intro l;induction l with
 |nil=>intro _;simp
 |cons x l g=>
  intro h;have u:=h x (by simp);have r:=g fun y j=>h y (dD _ j);rw[bF,aF,aS,Nat.mul_succ];omega
theorem VS{s:Sc}(ok:kN s):(Kq s).length<=100000:=by
 have a:(s.ps.flatMap idP).length<=3*s.ps.length:=Fq fun p hp=>by
  have:=(ok.ps.st p hp).2;unfold idP;rw[aS,aG];omega
 have b:(s.ms.flatMap Mi).length<=3000*s.ms.length:=Fq fun m hm=>by
  have c:(m.cs.flatMap idC).length<=256*m.cs.length:=Fq fun c hc=>by
   have d:(c.vs.flatMap fun v=>v.es.map Ev.id).length<=128*c.vs.length:=Fq fun v g=>by
    rw[aG];exact ok.short.es m hm c hc v g
   have:=ok.short.vs m hm c hc;unfold idC;omega
  have:=ok.short.cs m hm;unfold Mi;rw[aS];omega
 have c:=ok.ps.len;have d:=ok.ml;have e:=ok.sp;unfold Kq;rw[aF,aF,aG];omega
theorem atK{s:Sc}(ok:kN s):call bn 114 [.agg s.v] H=some (kK 2 ((Kq s).map Av),none):=by
 refine(Fg (show bn.fn 114=none from rfl)).trans ?_;show((OW s.v).bind fun l=>if l.length<=1000000 then some (kK 2 (l.map Prod.snd))else none).map (fun v=>(v,none))=_;rw[VQ ok];have hp:(plS s).map Prod.snd=(Kq s).map Av:=by rw[plS,aR,aR,afV,afT,afU,Kq,aR,aR]
 have hl:(plS s).length<=1000000:=by
  have:=eU List.length hp;rw[aG,aG]at this;have:=VS ok;omega
 show(if(plS s).length<=1000000 then some (kK 2 ((plS s).map Prod.snd))else none).map (fun v=>(v,none))=_;rw[aX hl,hp];rfl
theorem c69{L:Mem}{q:Nat}{s:Sc}{rule n:Int}{lv:V}(C:ax L (.g q)=⟨1,8,[s.v++[.i rule,lv]],false⟩)(ok:kN s)(id:Ub s n):call bn 69 [.ptr 0 (.g q) 1 0 0] (L::H)=some (.eT [],none):=by
 have hl:=VS ok;have hS:(Ht.start true (L::H)).D=L.D:=rfl;have t1:(s.v++[.i rule,lv]).take 6=s.v:=rfl;have t2:(s.v++[.i rule,lv]).length=8:=rfl;have t3:(s.v++[.i rule,lv])[5]? =some (.sl .any 2 [[.i 1,.i n]]):=by show some (cu 2 (s.la.map Av))=_;rw[id.la];rfl
 have s2:=s.sz.2;have d:=fun H=>atK (H:=H) ok;have d2:=fun H=>atJ (H:=H) id.la;have X:∀x,(Av x).length=2:=fun x=>rfl;have W:∀x,(Av x).take 2=Av x:=fun x=>rfl;have U:∀x,(Av x).all V.scalar=true:=fun x=>rfl;have T:∀x:Int,(Av x)[1]? =some (.i x):=fun x=>rfl;have R:∀x:Int,(Av x)[0]? =some (.i 1):=fun x=>rfl;have Q:∀d x,V.bW d (Av x)=Av x:=fun d x=>rfl;have ko:∀x,Bp (.agg [.int,.int]) (.agg (Av x))=true:=fun x=>by simp[Bp,Av,dN]
 have nn:=id.nn;clear ok;refine(av (show bn 69=some a69 from by kernel_rfl)).trans ?_;unfold a69;generalize Ht.start true (L::H)=L0 at*;have c:=l8 C hS;simp(disch:=omega) only[↓zd,seval,push_cast,c,t1,t2,s2,d];refine bI (fun k fr K=>ag fr 0= .ptr 0 (.g q) 1 0 0∧ag fr 13=cu 2 ((Kq s).map Av)∧ag fr 14= .i (Kq s).length∧ag fr 15= .i k∧K.D=L.D∧∃ver,0<ver∧ag fr 2= .mp 0 (.o 1) ver∧ax K (.o 1)=⟨ver,0,((Kq s).take k).map fun x=>[.agg (Av x),.bool true],false⟩) (Kq s).length ?_ ?_ ?_
 ·refine⟨?_,?_,?_,?_,?_,(ax L0 (.o 1)).ver+1,by omega,?_,?_⟩
  (all_goals try simp only[↓zg,seval,fZ,dX]);all_goals try first|rfl|trivial|(simp only[zr,seval,fZ,dX];done)
  all_goals (first|exact hS|skip)
 ·clear c hS
  rintro k fr K Z ⟨A,B,l,N,F,ver,Y,I,u⟩ next
  have c:=l8 C F;obtain⟨x,hf⟩:∃x,(Kq s)[k]? =some x:=⟨_,ak Z⟩
  have hr:=id.rg x (ah hf);have r:x∉(Kq s).take k:=by
   have O:=id.nd;obtain⟨_,rfl⟩:=au.1 hf;intro zH;obtain⟨j,hj,e⟩:=gP.1 zH;rw[bf]at hj;rw[List.getElem_take]at e;exact(qI.1 O) j k (by omega) Z (by omega) e
  have fi:=fun i=>aae (i:=i) r;have tk:((Kq s).take (k+1)).map (fun x=>[V.agg (Av x),V.bool true])=((Kq s).take k).map (fun x=>[V.agg (Av x),V.bool true])++[[.agg (Av x),.bool true]]:=by
   rw[aY,hf,aR];rfl
  have J:=fun H=>am3 (H:=H) (n:=x) ⟨hr.1,by omega⟩;have cf:∀(M:Mem)(H:List Mem),call bn 111 [.ptr 0 (.g q) 1 0 0,.bool false,.agg (Av x)] (M::H)=some (.eT [],some M.D):=fun M H=>uK;clear id r;generalize ((Kq s).take k).map (fun x=>[V.agg (Av x),V.bool true])=M at*;simp(disch:=omega) only[↓zd,seval,push_cast,A,B,l,N,I,u,c,t1,t2,s2,hf,X,W,U,T,R,Q,ko,J,d2,cf,Ar,Dj,Qo,fi];refine next _ _ ⟨?_,?_,?_,?_,F,ver,Y,?_,?_⟩
  (all_goals try simp only[↓zg,seval,A,B,l,I,u,tk]);all_goals try first|rfl|trivial|(simp only[zr,seval,A,B,l,I,u,tk];done)
 ·rintro fr K ⟨A,B,l,N,F,ver,Y,I,u⟩
  have c:=l8 C F;have J:=fun H=>am3 (H:=H) (n:=n) nn;unfold Av at J;clear id C u d d2;simp(disch:=omega) only[↓zd,seval,push_cast,A,l,N,c,↓ik,t3,uV,J,uK]
theorem ah9(x:Int):call bn 158 [.i x] H=some (.bool false,none):=by
 refine(av (by conv=>lhs;reduce)).trans ?_;simp only[↓zo,zp,seval];simp(disch:=omega) only[↓zd,seval,push_cast]
def zk(x y:Int):Int:=if x<y then-1 else if y<x then 1 else 0
theorem c92(x y:Int):call bn 92 [.i x,.i y] H=some (.i (zk x y),none):=by
 unfold zk;refine(av (by conv=>lhs;reduce)).trans ?_;simp only[↓zo,zp,seval];by_cases h:x<y
 ·rw[aX h]
  simp(disch:=omega) only[↓zd,seval,push_cast,ah9]
 ·rw[aP h]
  by_cases k:y<x
  ·rw[aX k]
   simp(disch:=omega) only[↓zd,seval,push_cast,ah9]
  ·rw[aP k]
   simp(disch:=omega) only[↓zd,seval,push_cast,ah9]
def Uc:List Int->Int
 |[]=>0
 |x::l=>if x=0 then Uc l else x
theorem c91{l:List Int}(hl:l.length<=100):call bn 91 [.sl .any 1 (l.map Iv)] H=some (.i (Uc l),none):=by
 refine(av (by conv=>lhs;reduce)).trans ?_;simp only[↓zo,zp,seval];simp(disch:=omega) only[↓zd,seval,push_cast];refine bI (fun i fr L=>ag fr 6= .sl .any 1 (l.map Iv)∧ag fr 7= .i l.length∧ag fr 8= .i i∧ag fr 3= .i 0∧Uc l=Uc (l.drop i)) l.length ?_ ?_ ?_
 ·refine⟨?_,?_,?_,?_,rfl⟩
  (all_goals try simp only[↓zg,seval,aG]);all_goals try first|rfl|trivial|(simp only[zr,seval,aG];done)
 ·rintro i fr L u ⟨j,c,r,g,ho⟩ next
  obtain⟨x,hf⟩:∃x,l[i]? =some x:=⟨_,ak u⟩
  have hd:l.drop i=x::l.drop (i+1):=by
   obtain⟨_,rfl⟩:=au.1 hf;exact gv u
  rw[hd,Uc]at ho;have y1:(Iv x)[0]? =some (.i x):=rfl;clear hd;by_cases hx:x=0
  ·rw[aX hx]at ho
   simp(disch:=omega) only[↓zd,seval,push_cast,j,c,r,g,hf,y1];refine next _ _ ⟨?_,?_,?_,?_,ho⟩
   (all_goals try simp only[↓zg,seval,j,c,g]);all_goals try first|rfl|trivial|(simp only[zr,seval,j,c,g];done)
  ·rw[aP hx]at ho
   rw[ho];clear next ho
   simp(disch:=omega) only[↓zd,seval,push_cast,j,c,r,g,hf,y1]
 ·rintro fr L ⟨j,c,r,g,ho⟩
  rw[dZ]at ho;rw[ho];clear ho;simp(disch:=omega) only[↓zd,seval,push_cast,c,r,g,Uc]
def Dc(m1 a1 m2 a2:Int):Int:=if zk m1 m2=0 then zk a1 a2 else zk m1 m2
def Pl(m a s v:Int):List V:=[.i m,.i a,.i s,.i v]
theorem Ud(m1 a1 s1 v1 m2 a2 s2 g:Int):call bn 250 [.agg [.i m1,.i a1,.i s1,.i v1],.agg [.i m2,.i a2,.i s2,.i g]] H=some (.i (Dc m1 a1 m2 a2),none):=by
 have c:∀(x y:Int)(H:List Mem),call bn 91 [.sl .any 1 [[.i x],[.i y]]] H=some (.i (if x=0 then y else x),none):=fun x y H=>by
  have:=c91 (H:=H) (l:=[x,y]) (by simp);refine this.trans ?_;unfold Uc Uc Uc;by_cases h:x=0<;>by_cases k:y=0<;>simp[h,k]
 unfold Dc;refine(av (by conv=>lhs;reduce)).trans ?_;simp only[↓zo,zp,seval];simp(disch:=omega) only[↓zd,seval,push_cast,c92,c]
theorem atL{n m:Int}(h:0<=n∧n<=m):call bn 264 [.i n,.i m] H=some (.bool true,none):=by
 refine(av (by conv=>lhs;reduce)).trans ?_;simp only[↓zo,zp,seval];simp(disch:=omega) only[↓zd,seval,push_cast]
structure Perm(m a s v:Int):Prop where
 m:0<=m∧m<=1023
 a:0<=a∧a<=4398046511104
 s:0<=s∧s<=127
 v:0<=v∧v<=1
theorem am4{m a s v:Int}(h:Perm m a s v):call bn 248 [.agg [.i m,.i a,.i s,.i v]] H=some (.bool true,none):=by
 obtain⟨l,j,g,c⟩:=h;refine(av (by conv=>lhs;reduce)).trans ?_;simp only[↓zo,zp,seval];simp(disch:=omega) only[↓zd,seval,push_cast,atL]
def Rv(k:Int):Bool:=decide (k=1)||decide (k=7)
theorem Mj(k:Int):call bn 249 [.i k] H=some (.bool (Rv k),none):=by
 unfold Rv;refine(av (by conv=>lhs;reduce)).trans ?_;simp only[↓zo,zp,seval];by_cases h:k=1
 ·simp(disch:=omega) only[↓zd,seval,push_cast,h]
 ·simp(disch:=omega) only[↓zd,seval,push_cast,h]
def Ue(k:Int):Int:=if k=1 then 1 else if k=2 then 2 else if k=3 then 2 else if k=4 then 4 else if k=5 then 4 else if k=6 then 6 else 7
theorem adW(k:Int):1<=Ue k:=by unfold Ue;(repeat' split)<;>omega
theorem sev{k:Int}(h:1<=k∧k<=7):k=1∨k=2∨k=3∨k=4∨k=5∨k=6∨k=7:=by omega
theorem am5{k:Int}(h:1<=k∧k<=7):call bn 251 [.i k] H=some (.i (Ue k),none):=by
 rcases sev h with rfl|rfl|rfl|rfl|rfl|rfl|rfl<;>rcases H with _|⟨⟨D,O,b⟩,H⟩<;>exact mH 60 (by kernel_rfl)
structure Sn where
 k:Int
 m1:Int
 a1:Int
 m2:Int
 a2:Int
 st:Int
 vo:Int
def Sn.v(x:Sn):List V:=[.i x.k,.i x.m1,.i x.a1,.i x.st,.i x.vo,.i x.m2,.i x.a2,.i x.st,.i x.vo]
structure Rw(x:Sn):Prop where
 k:1<=x.k∧x.k<=7
 f:Perm x.m1 x.a1 x.st x.vo
 t:Perm x.m2 x.a2 x.st x.vo
def Sn.cmp(x:Sn):Int:=Dc x.m1 x.a1 x.m2 x.a2
theorem atM{x:Sn}(ok:Rw x):call bn 203 [.agg x.v] H=some (.i (if 0<=x.cmp then 25 else 0),none):=by
 have k:=ok.k;have a:=fun H=>am4 (H:=H) ok.f;have b:=fun H=>am4 (H:=H) ok.t;have c:=fun H=>Ud (H:=H) x.m1 x.a1 x.st x.vo x.m2 x.a2 x.st x.vo;unfold Sn.v Sn.cmp;generalize Dc x.m1 x.a1 x.m2 x.a2=r at*;clear ok;refine(av (by conv=>lhs;reduce)).trans ?_;simp only[↓zo,zp,seval];cases g:Rv x.k<;>by_cases hr:0<=r
 ·rw[aX hr]
  simp(disch:=omega) only[↓zd,seval,push_cast,a,b,c,Mj,g]
 ·rw[aP hr]
  simp(disch:=omega) only[↓zd,seval,push_cast,a,b,c,Mj,g]
 ·rw[aX hr]
  simp(disch:=omega) only[↓zd,seval,push_cast,a,b,c,Mj,g]
 ·rw[aP hr]
  simp(disch:=omega) only[↓zd,seval,push_cast,a,b,c,Mj,g]
def Sn.grp(x y:Sn):Bool:=decide (Ue x.k=Ue y.k)&&decide (x.st=y.st)&&(!Rv x.k||decide (x.vo=y.vo))
theorem atN{x y:Sn}(ok:Rw x)(g:Rw y):call bn 204 [.agg x.v,.agg y.v] H=some (.bool (x.grp y),none):=by
 have a:=fun H=>am5 (H:=H) ok.k;have b:=fun H=>am5 (H:=H) g.k;have f:=adW x.k;unfold Sn.grp Sn.v;clear ok g;generalize Ue x.k=p at*;generalize Ue y.k=q at*;refine(av (by conv=>lhs;reduce)).trans ?_;simp only[↓zo,zp,seval];by_cases c:p=q
 ·by_cases j:x.st=y.st
  ·cases l:Rv x.k<;>by_cases r:x.vo=y.vo
   ·simp(disch:=omega) only[↓zd,seval,push_cast,a,b,Mj,c,j,r,l]
   ·simp(disch:=omega) only[↓zd,seval,push_cast,a,b,Mj,c,j,r,l]
   ·simp(disch:=omega) only[↓zd,seval,push_cast,a,b,Mj,c,j,r,l]
   ·simp(disch:=omega) only[↓zd,seval,push_cast,a,b,Mj,c,j,r,l]
  ·simp(disch:=omega) only[↓zd,seval,push_cast,a,b,Mj,c,j]
 ·simp(disch:=omega) only[↓zd,seval,push_cast,a,b,Mj,c]
def Sn.apart(x y:Sn):Bool:=decide (Dc x.m2 x.a2 y.m1 y.a1<=0)||decide (Dc y.m2 y.a2 x.m1 x.a1<=0)
def Sn.strict(x y:Sn):Bool:=decide (Dc x.m2 x.a2 y.m1 y.a1<0)||decide (Dc y.m2 y.a2 x.m1 x.a1<0)
def Sn.inside(x y:Sn):Bool:=decide (0<=Dc x.m1 x.a1 y.m1 y.a1)&&decide (Dc x.m2 x.a2 y.m2 y.a2<=0)
theorem am7(x y:Sn):call bn 206 [.agg x.v,.agg y.v] H=some (.bool (x.apart y),none):=by
 unfold Sn.apart Sn.v;generalize hp:Dc x.m2 x.a2 y.m1 y.a1=p;have a:=fun s1 v1 s2 c H=>Ud (H:=H) x.m2 x.a2 s1 v1 y.m1 y.a1 s2 c;rw[hp]at a;have b:=fun s1 v1 s2 c H=>Ud (H:=H) y.m2 y.a2 s1 v1 x.m1 x.a1 s2 c;generalize Dc y.m2 y.a2 x.m1 x.a1=q at*;clear hp;refine(av (by conv=>lhs;reduce)).trans ?_;simp only[↓zo,zp,seval];by_cases h:p<=0
 ·simp(disch:=omega) only[↓zd,seval,push_cast,a,b]
 ·simp(disch:=omega) only[↓zd,seval,push_cast,a,b]
theorem atO(x y:Sn):call bn 208 [.agg x.v,.agg y.v] H=some (.bool (x.strict y),none):=by
 unfold Sn.strict Sn.v;generalize hp:Dc x.m2 x.a2 y.m1 y.a1=p;have a:=fun s1 v1 s2 c H=>Ud (H:=H) x.m2 x.a2 s1 v1 y.m1 y.a1 s2 c;rw[hp]at a;have b:=fun s1 v1 s2 c H=>Ud (H:=H) y.m2 y.a2 s1 v1 x.m1 x.a1 s2 c;generalize Dc y.m2 y.a2 x.m1 x.a1=q at*;clear hp;refine(av (by conv=>lhs;reduce)).trans ?_;simp only[↓zo,zp,seval];by_cases h:p<0
 ·simp(disch:=omega) only[↓zd,seval,push_cast,a,b]
 ·simp(disch:=omega) only[↓zd,seval,push_cast,a,b]
theorem am8(x y:Sn):call bn 252 [.agg x.v,.agg y.v] H=some (.bool (x.inside y),none):=by
 unfold Sn.inside Sn.v;generalize hp:Dc x.m1 x.a1 y.m1 y.a1=p;have a:=fun s1 v1 s2 c H=>Ud (H:=H) x.m1 x.a1 s1 v1 y.m1 y.a1 s2 c;rw[hp]at a;have b:=fun s1 v1 s2 c H=>Ud (H:=H) x.m2 x.a2 s1 v1 y.m2 y.a2 s2 c;generalize Dc x.m2 x.a2 y.m2 y.a2=q at*;clear hp;refine(av (by conv=>lhs;reduce)).trans ?_;simp only[↓zo,zp,seval];by_cases h:0<=p
 ·simp(disch:=omega) only[↓zd,seval,push_cast,a,b]
 ·simp(disch:=omega) only[↓zd,seval,push_cast,a,b]
theorem Sn.sz(x:Sn):x.v.length=9∧∀d,V.bW d x.v=x.v:=⟨rfl,fun _=>rfl⟩
theorem Sn.sc(x:Sn):x.v.all V.scalar=true:=rfl
theorem Sn.tk(x:Sn):x.v.take 9=x.v:=rfl
theorem atP(x y:Sn):call bn 205 [.agg x.v,.agg y.v] H=some (.bool (!x.apart y),none):=by
 have a:=fun H=>am7 (H:=H) x y;have x1:=x.sz;have c:=y.sz;have j:=x.sc;have x4:=y.sc;have x5:=x.tk;have g:=y.tk;refine(av (by conv=>lhs;reduce)).trans ?_;simp only[↓zo,zp,seval];simp(disch:=omega) only[↓zd,seval,push_cast,a,x1.1,x1.2,c.1,c.2,j,x4,x5,g]
theorem atQ(x y:Sn):call bn 207 [.agg x.v,.agg y.v] H=some (.bool (!x.strict y),none):=by
 have a:=fun H=>atO (H:=H) x y;have x1:=x.sz;have c:=y.sz;have j:=x.sc;have x4:=y.sc;have x5:=x.tk;have g:=y.tk;refine(av (by conv=>lhs;reduce)).trans ?_;simp only[↓zo,zp,seval];simp(disch:=omega) only[↓zd,seval,push_cast,a,x1.1,x1.2,c.1,c.2,j,x4,x5,g]
def Sn.O8(x y:Sn):Bool:= !x.apart y&&(x.inside y==y.inside x)
theorem atS(x y:Sn):call bn 209 [.agg x.v,.agg y.v] H=some (.bool (x.O8 y),none):=by
 have a:=fun H=>am7 (H:=H) x y;have b:=fun H=>am8 (H:=H) x y;have c:=fun H=>am8 (H:=H) y x;have x1:=x.sz;have g:=y.sz;have l:=x.sc;have x4:=y.sc;have x5:=x.tk;have j:=y.tk;unfold Sn.O8;refine(av (by conv=>lhs;reduce)).trans ?_;simp only[↓zo,zp,seval];cases h:x.apart y
 ·simp(disch:=omega) only[↓zd,seval,push_cast,a,b,c,h,x1.1,x1.2,g.1,g.2,l,x4,x5,j]
 ·simp(disch:=omega) only[↓zd,seval,push_cast,a,b,c,h,x1.1,x1.2,g.1,g.2,l,x4,x5,j]
def Sn.O9(x y:Sn):Bool:=x.grp y&&(if x.k=1 then x.O8 y else if x.k=2∨x.k=3∨x.k=6 then !x.apart y else !x.strict y)
theorem atT{x y:Sn}(ok:Rw x)(c:Rw y):call bn 143 [.agg x.v,.agg y.v] H=some (.bool (x.O9 y),none):=by
 have a:=fun H=>atN (H:=H) ok c;have B:=fun H=>atP (H:=H) x y;have A:=fun H=>atQ (H:=H) x y;have c3:=fun H=>atS (H:=H) x y;have x1:=x.sz;have g:=y.sz;have l:=x.sc;have x4:=y.sc;have x5:=x.tk;have j:=y.tk;have u:x.v[0]? =some (.i x.k):=rfl;have r:=sev ok.k;clear ok c;unfold Sn.O9;refine(av (by conv=>lhs;reduce)).trans ?_;simp only[↓zo,zp,seval];cases h:x.grp y
 ·rw[h]at a
  clear r;simp(disch:=omega) only[↓zd,seval,push_cast,a,x1.1,x1.2,g.1,g.2,l,x4,x5,j]
 ·rw[h]at a
  generalize x.k=K at*;rcases r with rfl|rfl|rfl|rfl|rfl|rfl|rfl<;>simp(disch:=omega) only[↓zd,seval,push_cast,a,B,A,c3,x1.1,x1.2,g.1,g.2,l,x4,x5,j,u,acH]
theorem Uf{n:Int}{p:List V}:∀{l:List (List V×List V)}{ids:List Int},l.map Prod.snd=ids.map Av->ids.Nodup->(p,Av n)∈l->uW 1 n l=some (.eT [.agg p,.bool true]):=by
 intro l;induction l with
 |nil=>intro ids _ _ h;cases h
 |cons x l u=>
  intro ids c hn hp;cases ids with
  |nil=>simp at c
  |cons k ids=>
   obtain⟨a,b⟩:=x;rw[bO,bO]at c;injection c with r j
   dsimp only at r;subst r;rw[List.nodup_cons]at hn;rw[uW];show(Gh (Av k) 1 n).bind _=_;rw[show Gh (Av k) 1 n=some (decide (k=n))from by simp[Gh,Av]];rcases ed.1 hp with h|h
   ·injection h with g I
    injection I with O F
    injection F with C
    injection C with _ B
    subst B;subst g;simp
   ·have:¬k=n:=by
     rintro rfl;apply hn.1;have g:Av k∈ids.map Av:=by rw[<-j];exact dQ.2 ⟨_,h,rfl⟩
     obtain⟨y,A,e⟩:=dQ.1 g;injection e with Q N
     injection N with K
     injection K with e4 J
     subst J;exact A
    simp only[this,decide_false,bG,bq,bZ];exact u j hn.2 h
theorem am9{m c v:Nat}{x:Ev}:∀{l:List Ev}{n e:Nat},l[e]? =some x->(Pv m c v ((n+e:Nat):Int),Av x.id)∈pE m c v n l:=by
 intro l;induction l with
 |nil=>intro n e h;cases h
 |cons y l g=>
  intro n e h;rw[pE];cases e with
  |zero=>injection h with h;subst h;exact gH ..
  |succ e=>
   have:=g (n:=n+1) (e:=e) h;rw[show n+1+e=n+(e+1) by omega]at this;exact dD _ this
theorem am'{m c:Nat}{z:Vo}{p:List V×List V}:∀{l:List Vo}{n v:Nat},l[v]? =some z->p∈pE m c (n+v) 0 z.es->p∈pV m c n l:=by
 intro l;induction l with
 |nil=>intro n v h;cases h
 |cons y l g=>
  intro n v h hp;rw[pV];cases v with
  |zero=>injection h with h;subst h;exact rq _ hp
  |succ v=>exact Bl _ (g (n:=n+1) (v:=v) h (by rw[show n+1+v=n+(v+1) by omega];exact hp))
theorem ana{m:Nat}{z:Ce}{p:List V×List V}:∀{l:List Ce}{n v:Nat},l[v]? =some z->p∈pV m (n+v) 0 z.vs->p∈pC m n l:=by
 intro l;induction l with
 |nil=>intro n v h;cases h
 |cons y l c=>
  intro n v h hp;rw[pC];cases v with
  |zero=>injection h with h;subst h;exact rq _ hp
  |succ v=>exact Bl _ (c (n:=n+1) (v:=v) h (by rw[show n+1+v=n+(v+1) by omega];exact hp))
theorem anb{z:Me}{p:List V×List V}:∀{l:List Me}{n v:Nat},l[v]? =some z->p∈pC (n+v) 0 z.cs->p∈pM n l:=by
 intro l;induction l with
 |nil=>intro n v h;cases h
 |cons y l c=>
  intro n v h hp;rw[pM,aW];cases v with
  |zero=>injection h with h;subst h;exact dD _ (rq _ hp)
  |succ v=>exact dD _ (Bl _ (c (n:=n+1) (v:=v) h (by rw[show n+1+v=n+(v+1) by omega];exact hp)))
theorem ah'{s:Sc}{i k v e:Nat}{x:Ev}(h:(iJ s i k v)[e]? =some x):(Pv i k v e,Av x.id)∈plS s:=by
 obtain⟨m,c,z,r,l,j,g⟩:=vJ h;have a:=am9 (m:=i) (c:=k) (v:=v) (n:=0) g;rw[dV]at a;have b:=am' (m:=i) (c:=k) (n:=0) j (by rw[dV];exact a);have d:=ana (m:=i) (n:=0) l (by rw[dV];exact b);have f:=anb (n:=0) r (by rw[dV];exact d);exact rq _ (Bl _ f)
theorem aia(s:Sc):(plS s).map Prod.snd=(Kq s).map Av:=by
 rw[plS,aR,aR,afV,afT,afU,Kq,aR,aR]
theorem atU{s:Sc}{n:Int}{i k v e:Nat}{x:Ev}(ok:kN s)(id:Ub s n)(h:(iJ s i k v)[e]? =some x)(hx:1<=x.id):call bn 247 [.agg s.v,.agg (Av x.id)] H=some (.eT [.agg (Pv i k v e),.bool true],none):=by
 refine(Fg (show bn.fn 247=none from rfl)).trans ?_;show(if(1:Int)=0 then none else(OW s.v).bind (uW 1 x.id)).map (fun v=>(v,none))=_;rw[aP (by omega),VQ ok];show(uW 1 x.id (plS s)).map _=_;rw[Uf (aia s) id.nd (ah' h)];rfl
def Fs(s:Sc)(i k v e:Nat):Int:=
 match s.ms[i]?with
 |none=>0
 |some m=>
  match m.cs[k]?with
  |none=>0
  |some c=>
   match c.vs[v]?with
   |none=>0
   |some z=>((kV (z.lens (kL m.mt)))[e]?).getD 0
theorem anc{L:Mem}{q:Nat}{s:Sc}{rule n:Int}{lv:V}{i k v e:Nat}{x:Ev}(U:ax L (.g q)=⟨1,8,[s.v++[.i rule,lv]],false⟩)(ok:kN s)(id:Ub s n)(h:(iJ s i k v)[e]? =some x)(hx:1<=x.id):call bn 202 [.ptr 0 (.g q) 1 0 0,.agg (Av x.id)] (L::H)=some (.eT [.agg (Pl i (Fs s i k v e) k v),.bool true],none):=by
 have c:=fun H=>atU (H:=H) ok id h hx;have hS:(Ht.start true (L::H)).D=L.D:=rfl;have t1:(s.v++[.i rule,lv]).take 6=s.v:=rfl;have t2:(s.v++[.i rule,lv]).length=8:=rfl;have N:(s.v++[.i rule,lv])[3]? =some (cu 22 (s.ms.map Me.v)):=rfl;have s2:=s.sz.2;obtain⟨m,y,z,A,l,u,C⟩:=vJ h;have j:=ok.me m (ah A);have r:=j.vo y (ah l) z (ah u);have d1:=fun H=>c37 (H:=H) j.met;have W:=fun H=>c86 (H:=H) r;have lo:(kV (z.lens (kL m.mt))).length=z.es.length:=by rw[kV,dJ];exact(si r).2.1
 have le:=(au.1 C).1;have Z:=(au.1 A).1;have Y:=(au.1 l).1;have X:=(au.1 u).1;have k1:=ok.ml;have k2:=j.cn;have k3:=(j.vn y (ah l)).2;have k4:=r.Aw;have B:Fs s i k v e=((kV (z.lens (kL m.mt)))[e]?).getD 0:=by
  unfold Fs;rw[A];dsimp only;rw[l];dsimp only;rw[u]
 obtain⟨o,ho⟩:∃o,(kV (z.lens (kL m.mt)))[e]? =some o:=⟨_,ak (by omega)⟩
 rw[ho]at B;rw[B,dU];have m1:=m.sz.1;have m2:=m.tk;have R:=m.sc;have Q:=m.sz.2;have O:m.v[21]? =some (cu 2 (m.cs.map Ce.v)):=rfl;have y1:=y.sz.1;have K:y.v[1]? =some (cu 2 (y.vs.map Vo.v)):=rfl;have J:=z.sz.1;have I:=z.tk;have z4:=z.sz.2;have F:Iv o=[.i o]:=rfl;generalize kV (z.lens (kL m.mt))=on at*;clear ok id j r C B h hx;unfold Av at*;unfold Pv at*;unfold Pl;refine(av (by conv=>lhs;reduce)).trans ?_;simp only[↓zo,zp,seval];generalize Ht.start true (L::H)=L0 at*;have T:=l8 U hS;simp(disch:=omega) only[↓zd,seval,push_cast,T,c,t1,t2,N,s2,A,l,u,m1,m2,R,Q,O,d1,W,y1,K,J,I,z4,ho,F,dS,zK,DK,Ym,show(⟨#[]⟩:ByteArray).size=0 from rfl]
structure xz(s:Sc)(p:Sp)(y:Sn):Prop where
 kd:1<=p.kd∧p.kd<=7
 at_:∃(i e i' e' k v:Nat)(x x':Ev),(iJ s i k v)[e]? =some x∧x.id=p.fr∧(iJ s i' k v)[e']? =some x'∧x'.id=p.to∧y=⟨p.kd,i,Fs s i k v e,i',Fs s i' k v e',k,v⟩
def Bv(b:Bool):List V:=[.bool b]
def Sn.bad(y:Sn):Bool:=decide (0<=y.cmp)
theorem VT{l:List Int}(h:∀n∈l,0<=n∧n<=100000000)(hl:l.length<=1000):∀o∈kV l,0<=o∧o<=100000000000:=by
 intro o ho;obtain⟨i,j,rfl⟩:=vt.1 ho;have:∀k:Nat,0<=(l.take k).sum∧(l.take k).sum<=100000000*k:=by
  intro k;induction k with
  |zero=>simp
  |succ k g=>
   cases c:l[k]?with
   |none=>rw[aY,c];simp;omega
   |some x=>
    have:=h x (ah c);rw[aY,c,kQ];simp only[eQ,sQ,List.sum_nil];omega
 have:=this i;omega
theorem VU{s:Sc}{i k v e:Nat}{x:Ev}(ok:kN s)(h:(iJ s i k v)[e]? =some x):Perm i (Fs s i k v e) k v:=by
 obtain⟨m,y,z,r,g,l,A⟩:=vJ h;have j:=ok.me m (ah r);have c:=j.vo y (ah g) z (ah l);have lo:(kV (z.lens (kL m.mt))).length=z.es.length:=by rw[kV,dJ];exact(si c).2.1
 have le:=(au.1 A).1;have F:=(au.1 r).1;have C:=(au.1 g).1;have B:=(au.1 l).1;have N:=ok.ml;have K:=j.cn;have J:=(j.vn y (ah g)).2;have I:=c.Aw;have u:Fs s i k v e=((kV (z.lens (kL m.mt)))[e]?).getD 0:=by
  unfold Fs;rw[r];dsimp only;rw[g];dsimp only;rw[l]
 obtain⟨o,ho⟩:∃o,(kV (z.lens (kL m.mt)))[e]? =some o:=⟨_,ak (by omega)⟩
 rw[ho,dU]at u;have:=VT (si c).1 (by rw[(si c).2.1];omega) o (ah ho);rw[u];exact⟨by omega,by omega,by omega,by omega⟩
theorem xz.ok{s:Sc}{p:Sp}{y:Sn}(h:xz s p y)(ok:kN s):Rw y:=by
 obtain⟨kd,i,e,l,A,k,v,x,j,g,u,c,r,rfl⟩:=h;exact⟨kd,VU ok g,VU ok c⟩
inductive F2{α β:Type}(R:α->β->Prop):List α->List β->Prop
 |nil:F2 R [] []
 |cons {x:α} {y:β} {l:List α} {m:List β}:R x y->F2 R l m->F2 R (x::l) (y::m)
theorem VW{α β:Type}{R:α->β->Prop}:∀{l:List α}{m:List β},F2 R l m->l.length=m.length∧∀(i:Nat)(x:α),l[i]? =some x->∃y,m[i]? =some y∧R x y:=by
 intro l m h;induction h with
 |nil=>exact⟨rfl,fun i x h=>by cases h⟩
 |cons h _ c=>
  refine⟨by simp[c.1],fun i x hx=> ?_⟩;cases i with
  |zero=>injection hx with hx;subst hx;exact⟨_,rfl,h⟩
  |succ i=>exact c.2 i x hx
theorem ane{L:Mem}{q:Nat}{s:Sc}{rule n:Int}{lv:V}{c:List Sn}(U:ax L (.g q)=⟨1,8,[s.v++[.i rule,lv]],false⟩)(ok:kN s)(id:Ub s n)(hs:F2 (xz s) s.sp c):call bn 142 [.ptr 0 (.g q) 1 0 0] (L::H)=some (.eT [cu 9 (c.map Sn.v),cu 1 (c.map fun y=>Bv y.bad)],none):=by
 have hS:(Ht.start true (L::H)).D=L.D:=rfl;have t3:(s.v++[.i rule,lv])[4]? =some (cu 7 (s.sp.map Sp.v)):=rfl;have hl:=ok.sp;obtain⟨f1,W⟩:=VW hs;have oks:∀(j:Nat)(p:Sp),s.sp[j]? =some p->∃y,c[j]? =some y∧Rw y∧∀(M:Mem)(H:List Mem),M.D=L.D->call bn 202 [.ptr 0 (.g q) 1 0 0,.agg (Av p.fr)] (M::H)=some (.eT [.agg [.i y.m1,.i y.a1,.i y.st,.i y.vo],.bool true],none)∧call bn 202 [.ptr 0 (.g q) 1 0 0,.agg (Av p.to)] (M::H)=some (.eT [.agg [.i y.m2,.i y.a2,.i y.st,.i y.vo],.bool true],none)∧y.k=p.kd:=by
  intro j p hp;obtain⟨y,hy,hR⟩:=W j p hp;refine⟨y,hy,hR.ok ok,fun M H hM=> ?_⟩;obtain⟨kd,i,e,i',e',k,v,x,x',h1,h2,h3,u,rfl⟩:=hR;obtain⟨_,_,_,b1,b2,b3,b4⟩:=vJ h1;obtain⟨_,_,_,d1,d2,d3,d4⟩:=vJ h3;rw[<-h2,<-u];exact⟨anc (l8 U hM) ok id h1 (ok.ev _ (ah b1) _ (ah b2) _ (ah b3) _ (ah b4)).id.1,anc (l8 U hM) ok id h3 (ok.ev _ (ah d1) _ (ah d2) _ (ah d3) _ (ah d4)).id.1,rfl⟩
 clear W hs id ok;refine(av (by conv=>lhs;reduce)).trans ?_;simp only[↓zo,zp,seval];generalize Ht.start true (L::H)=L0 at*;have kM:=l8 U hS;simp(disch:=omega) only[↓zd,seval,push_cast,kM,t3,dS];refine bI (fun j fr l=>ag fr 0= .ptr 0 (.g q) 1 0 0∧ag fr 17=cu 7 (s.sp.map Sp.v)∧ag fr 18= .i s.sp.length∧ag fr 19= .i j∧l.D=L.D∧sF l 5 9 (ag fr 4) ((c.take j).map Sn.v)∧sF l 6 1 (ag fr 5) ((c.take j).map fun y=>Bv y.bad)) s.sp.length ?_ ?_ ?_
 ·refine⟨?_,?_,?_,?_,?_,.inl ⟨by simp,?_⟩,.inl ⟨by simp,?_⟩⟩
  (all_goals try simp only[↓zg,seval]);all_goals try first|rfl|trivial|(simp only[zr,seval];done)
  all_goals (first|exact hS|skip)
 ·clear kM hS t3
  rintro j fr l hj ⟨K,N,r,T,J,u,O⟩ next
  have kM:=l8 U J;obtain⟨p,hf⟩:∃x,s.sp[j]? =some x:=⟨_,ak hj⟩
  obtain⟨y,hy,oy,hc⟩:=oks j p hf;have k1:=fun(M:Mem)H h=>(hc M H h).1
  have k2:=fun(M:Mem)H h=>(hc M H h).2.1
  have yk:=(hc l [] J).2.2;have c1:=fun I F H=>k1 (bu (bu l (.o 1) I) (.o 1) F) H J;have c2:=fun I F r3 C H=>k2 (bu (bu (bu (bu l (.o 1) I) (.o 1) F) (.o 2) r3) (.o 2) C) H J;have cp:=fun H=>atM (H:=H) oy;have tk1:(c.take (j+1)).map Sn.v=(c.take j).map Sn.v++[y.v]:=by rw[aY,hy,aR];rfl
  have tk2:(c.take (j+1)).map (fun y=>Bv y.bad)=(c.take j).map (fun y=>Bv y.bad)++[Bv y.bad]:=by rw[aY,hy,aR];rfl
  rw[tk1,tk2]at next
  have l1:((c.take j).map Sn.v).length<=1000000:=by rw[aG,bf];omega
  have l2:((c.take j).map (fun y=>Bv y.bad)).length<=1000000:=by rw[aG,bf];omega
  obtain⟨v4,e4⟩:∃v4,ag fr 4=v4:=⟨_,rfl⟩
  obtain⟨v5,Q⟩:∃v5,ag fr 5=v5:=⟨_,rfl⟩
  rw[e4]at u;rw[Q]at O;generalize (c.take j).map Sn.v=A at*;generalize (c.take j).map (fun y=>Bv y.bad)=B at*;have ap1:=fun I F r3 C R r6 r7 r8 H=>lN (H:=H) (M:=bu (bu (bu (bu (bu (bu (bu (bu l (.o 1) I) (.o 1) F) (.o 2) r3) (.o 2) C) (.o 3) R) (.o 3) r6) (.o 4) r7) (.o 4) r8) (bytes:=72) (s:=4) u (by simp[ay]) l1 (by omega) (x:=y.v) rfl rfl;have ap2:=fun I F r3 C R r6 r7 r8 r9 H=>lN (H:=H) (M:=bu (bu (bu (bu (bu (bu (bu (bu (bu l (.o 1) I) (.o 1) F) (.o 2) r3) (.o 2) C) (.o 3) R) (.o 3) r6) (.o 4) r7) (.o 4) r8) (.o 5) r9) (bytes:=1) (s:=5) O (by simp[ay]) l2 (by omega) (x:=Bv y.bad) rfl rfl;have f1:∀M,ax M (.o 5)=⟨(ax l (.o 5)).ver+1,9,A++[y.v],false⟩->sF M 5 9 (.ref 0 (.o 5) ((ax l (.o 5)).ver+1) 9 0 (A.length+1)) (A++[y.v]):=fun M e=>mJ (by omega) e;have W:∀M,ax M (.o 6)=⟨(ax l (.o 6)).ver+1,1,B++[Bv y.bad],false⟩->sF M 6 1 (.ref 0 (.o 6) ((ax l (.o 6)).ver+1) 1 0 (B.length+1)) (B++[Bv y.bad]):=fun M e=>mJ (by omega) e;have p1:=p.sz.1;have p2:=p.tk;have p3:=p.sc;have p4:(p.v.drop 3).take 2=Av p.fr:=rfl;have p5:(p.v.drop 5).take 2=Av p.to:=rfl;have p6:p.v[2]? =some (.i y.k):=by rw[yk];rfl
  have Z:∀x,(Av x).length=2:=fun x=>rfl;have Y:∀x,(Av x).all V.scalar=true:=fun x=>rfl;have X:∀d x,V.bW d (Av x)=Av x:=fun d x=>rfl;have yv:[V.i y.k,.i y.m1,.i y.a1,.i y.st,.i y.vo,.i y.m2,.i y.a2,.i y.st,.i y.vo]=y.v:=rfl;clear u O l1 l2 hc oks;by_cases hb:0<=y.cmp
  ·rw[aX hb]at cp
   rw[show y.bad=true from dW hb]at*;unfold Bv at*;unfold Sn.v at*;simp(disch:=omega) only[↓zd,seval,push_cast,K,N,r,T,e4,Q,hf,c1,c2,cp,p1,p2,p3,p4,p5,p6,Z,Y,X,ap1,ap2];refine next _ _ ⟨?_,?_,?_,?_,J,?_,?_⟩
   (all_goals try simp only[↓zg,seval,K,N,r]);all_goals try first|rfl|trivial|(simp only[zr,seval,K,N,r];done)
   all_goals (first|exact f1 _ (by simp[ay])|exact W _ (by simp[ay])|skip)
  ·rw[aP hb]at cp
   rw[show y.bad=false from fB hb]at*;unfold Bv at*;unfold Sn.v at*;simp(disch:=omega) only[↓zd,seval,push_cast,K,N,r,T,e4,Q,hf,c1,c2,cp,p1,p2,p3,p4,p5,p6,Z,Y,X,ap1,ap2];refine next _ _ ⟨?_,?_,?_,?_,J,?_,?_⟩
   (all_goals try simp only[↓zg,seval,K,N,r]);all_goals try first|rfl|trivial|(simp only[zr,seval,K,N,r];done)
   all_goals (first|exact f1 _ (by simp[ay])|exact W _ (by simp[ay])|skip)
 ·rintro fr l ⟨K,N,r,T,J,u,O⟩
  rw[aO (by omega)]at u O;have pA:(c.map Sn.v).all (fun e=>e.all V.pure)=true:=dh (fun _=>rfl) _;have pB:(c.map fun y=>Bv y.bad).all (fun e=>e.all V.pure)=true:=dh (fun _=>rfl) _;clear oks U t3 kM;rcases u with⟨e4,k4⟩|⟨n4,v4,p4,k4,C⟩<;>rcases O with⟨Q,k5⟩|⟨n5,v5,p5,k5,R⟩
  ·rw[e4,Q]
   simp(disch:=omega) only[↓zd,seval,push_cast,r,T,k4,k5];rfl
  ·exact absurd (kC.1 e4) (fun h=>n5 (by rw[h];rfl))
  ·exact absurd (kC.1 Q) (fun h=>n4 (by rw[h];rfl))
  ·rw[jO n4,jO n5]
   generalize c.map Sn.v=A at*;generalize (c.map fun y=>Bv y.bad)=B at*;have qA:V.qZ A=true:=by rw[V.mM];exact pA
   have qB:V.qZ B=true:=by rw[V.mM];exact pB
   have ao:(SK.any !=SK.own)=true:=rfl;simp(disch:=omega) only[↓zd,seval,push_cast,r,T,k4,k5,C,R,p4,p5,pA,pB,qA,qB,ao,lI,yu,rF,wJ,sG,zJ,xf,mZ,aT]
end Go.Proofs.YtnahpjebkgbedaaGreat

/- Part of the proof of ThereAndBack: what the program's functions compute on the abstract machine, and that it answers as the law says. No condition. -/
import Derived.Test.YtnahpjebkgbedaaGreatG
set_option linter.all false
set_option maxRecDepth 100000
set_option maxHeartbeats 16000000
namespace Go.Proofs.YtnahpjebkgbedaaGreat
open Go Go.Ht
variable{H:List Mem}
theorem Ch{A Z:List Row}{q:Nat}(h:q<A.length):eP (A++Z) q=eP A q:=by
 induction A generalizing q with
 |nil=>simp at h
 |cons a A c=>
  cases q with
  |zero=>rfl
  |succ q=>exact c (by simpa using h)
theorem FI{L M:Mem}{c:List V}{v:V}(h:qd L [.agg c]=some ([v],M)):wJ L (.agg c)=some (v,M):=by
 show sG L (.agg c)=_;rw[qd]at h;cases hd:sG L (.agg c)with
 |none=>rw[hd]at h;cases h
 |some r=>
  rw[hd]at h;simp only[qd,bG,aU]at h;injection h with h
  injection h with g j
  injection g with g
  rw[<-g,<-j]
theorem aaS{J:List Mem}{D0:List Row}{s:Sc}{l:List (Int×Int)}{u A qp ver:Nat}(ok:T9 s.ps)(hr:eP D0 u=⟨1,6,[s.v],false⟩)(hl:eP D0 A=⟨1,1,[[.ref 0 (.g qp) ver 2 0 l.length]],false⟩)(B:0<ver)(C:eP D0 qp=⟨ver,2,l.map Iw,false⟩)(hn:l.length=s.ps.length)(F:∀j∈l,wP j.1 j.2=0):FOk J D0 53 [.ptr 0 (.g u) 1 0 0,.ptr 0 (.g A) 1 0 0] (yN s l):=by
 intro M N Z k p I K hp;have up:∀q r,eP D0 q=r->0<r.ver->ax M (.g q)=r:=fun q r h hr=>by
  have:q<D0.length:=by
   rw[<-Nat.not_le];intro c;rw[rA _ c]at h;subst h;exact Nat.lt_irrefl _ hr
  show eP M.D q=r;rw[I,Ch this,h]
 exact c53 ok (by omega) hp (up _ _ hr (by simp)) (up _ _ hl (by simp)) B (up _ _ C B) hn F
def Mt(p:Pa)(j:Int×Int):Pa:={p with ts:=j.1,tn:=j.2}
def Sc.wrt(g:Pa->Int×Int)(s:Sc):Sc:={s with wr:=true,ps:=s.ps.map (fun p=>Mt p (g p)),ms:=s.ms.map (Me.mp (yN s (s.ps.map g)))}
def vY(s:Sc)(p:Pa):Int×Int:=(XU s p).getD (0,0)
def wrR(s:Sc):V:=
 if s.ps.any (fun p=>(XU s p).isNone)then .eT [.agg KM,.i 18]
 else if IY (yN s (s.ps.map (vY s))) s=0 then .eT [.agg (s.wrt (vY s)).v,.i 0]
 else .eT [.agg KM,.i (IY (yN s (s.ps.map (vY s))) s)]
theorem aob{s:Sc}(ok:kN s)(hw:s.wr=true):call bn 25 [.agg s.v] H=some (.eT [.agg s.v,.i 0],none):=by
 have C:=ok.ml;have g:=ok.ps.len;have s1:=s.sz.1;have s2:=s.sz.2;have N:=s.tk;have K:=s.sc;have F:s.v[1]? =some (.bool s.wr):=rfl;rw[hw]at F;have hO:∀i,ax (Ht.start true H) (.o i)=⟨0,0,[],false⟩:=fun i=>jB;have vG:(Ht.start true H).b=(Ht.start true H).D.length:=by cases H<;>rfl
 have We:s.ms≠[]:=by intro h;rw[h]at C;simp at C
 have A:s.ps≠[]:=by intro h;rw[h]at g;simp at g
 refine(av (by conv=>lhs;reduce)).trans ?_;simp only[↓zo,zp,seval];generalize Ht.start true H=c at*;obtain⟨n0,j⟩:∃n0,c.D.length=n0:=⟨_,rfl⟩
 have I:=fun R Q=>c26 (H:=H) (L:=bu (bu c (.o 1) R) (.o 2) Q) ok (by show c.b<=c.D.length;omega);simp only[cz,j]at I;have X:=(yF s n0).1;have W:=(yF s n0).2;have U:=KN s n0;have T:=KO s n0;have J:=fun(M:Mem)(hD:M.D=c.D++Ux s n0)(hb:M.b=c.b)=>FI (CK (s:=s) (vp:=1+s.ps.length) (vm:=1+s.ms.length) (n:=n0) (L:=M) (D0:=c.D) (Z:=[]) A We (by omega) (by omega) j (by omega) (by rw[hD,bz];rfl));have l:=fun O r=>J (bu ⟨c.D++Ux s n0,O,c.b⟩ (.o 2) r) (by rw[cz]) rfl;rw[show lK s (1+s.ps.length) (1+s.ms.length) n0=FV s n0 from rfl]at l;have B:∀M:Mem,wJ M (.int .i64 0)=some (.int .i64 0,M):=fun M=>by simp only[wJ,sG,xf,uX]
 have Y:(FV s n0).all V.pure=false:=by simp only[FV,aZ,V.pure,iW,mh]
 have u:=s.pu;clear ok J;simp(disch:=omega) only[↓zd,seval,push_cast,s1,s2,N,K,F,hO,I,X,W,U,T,l,B,Y,u,lI,yu,rF]
theorem c25{s:Sc}(ok:kN s)(hw:s.wr=false)(hij:∀p∈s.ps,wP (vY s p).1 (vY s p).2=0):call bn 25 [.agg s.v] H=some (wrR s,none):=by
 have xK:=ok.ml;have hpl:=ok.ps.len;have s1:=s.sz.1;have s2:=s.sz.2;have s4:=s.tk;have s5:=s.sc;have s6:s.v[1]? =some (.bool s.wr):=rfl;have s7:s.v[2]? =some (cu 6 (s.ps.map Pa.v)):=rfl;rw[hw]at s6;have hO:∀i,ax (Ht.start true H) (.o i)=⟨0,0,[],false⟩:=fun i=>jB;have vG:(Ht.start true H).b=(Ht.start true H).D.length:=by cases H<;>rfl
 have ai':=fun(H:List Mem)(i:Nat)(p:Pa)(hp:s.ps[i]? =some p)=>c47 (H:=H) (s:=s) (by omega) (fun m hm=>(ok.mf m hm).fi) hp (ok.pa p (ah hp)).iv;refine(av (by conv=>lhs;reduce)).trans ?_;simp only[↓zo,zp,seval];generalize Ht.start true H=U at*;obtain⟨n0,c⟩:∃n0,U.D.length=n0:=⟨_,rfl⟩
 simp(disch:=omega) only[↓zd,seval,push_cast,s1,s2,s4,s5,s6,s7,hO,dS];refine bI (fun i fr M=>ag fr 1= .ptr 0 (.o 1) 1 0 0∧ag fr 2= .ptr 0 (.o 2) 1 0 0∧ag fr 17= .i s.ps.length∧ag fr 18= .i i∧ax M (.o 1)=⟨1,6,[s.v],false⟩∧(∃e,ax M (.o 2)=⟨e,6,[[.str ⟨#[]⟩,.bool false,.aL,.aL,.aL,.aL]],false⟩∧e=1)∧M.b=n0∧(∀p∈s.ps.take i,(XU s p).isNone=false)∧((i=0∧ag fr 4= .aL∧M.D=U.D)∨(0<i∧∃ver,0<ver∧ag fr 4= .ref 0 (.g n0) ver 2 0 i∧M.D=U.D++[⟨ver,2,((s.ps.take i).map (vY s)).map Iw,false⟩]))) s.ps.length ?_ ?_ ?_
 ·refine⟨?_,?_,?_,?_,?_,⟨1,?_,rfl⟩,?_,by simp,.inl ⟨rfl,?_,?_⟩⟩
  (all_goals try simp only[↓zg,seval]);all_goals try first|rfl|trivial|(simp only[zr,seval];done)
  all_goals (first|(rw[<-c];exact vG)|skip)
 ·rintro i fr M hi ⟨K,A,Q,gU,R,⟨e2,u,CZ⟩,o7,gB,hl⟩ next
  subst CZ;obtain⟨p,hp⟩:∃p,s.ps[i]? =some p:=⟨_,ak hi⟩
  have cc:=fun H=>ai' H i p hp;have W:s.ps.take (i+1)=s.ps.take i++[p]:=by rw[aY,hp];rfl
  clear ai';cases ho:XU s p with
  |none=>
   have I:wrR s= .eT [.agg KM,.i 18]:=by
    unfold wrR;rw[aX (fe.2 ⟨p,ah hp,by rw[ho];rfl⟩)]
   rw[I,show KM=[.str ⟨#[]⟩,.bool false,.aL,.aL,.aL,.aL]from rfl];rw[ho]at cc;unfold KD at cc;clear I hl gB next hij ok W
   simp(disch:=omega) only[↓zd,seval,push_cast,K,A,Q,gU,R,u,s1,s2,s4,s5,s6,s7,cc]
  |some j=>
   have hj:vY s p=j:=by unfold vY;rw[ho];rfl
   have j1:(Iw j).length=2:=rfl;have j2:(Iw j).take 2=Iw j:=rfl;have j3:(Iw j).all V.scalar=true:=rfl;have j4:∀d,V.bW d (Iw j)=Iw j:=fun _=>rfl;have j5:(Iw j).all V.qW=true:=rfl;have j6:(Iw j).all V.pure=true:=rfl;have af8:∀q∈s.ps.take (i+1),(XU s q).isNone=false:=by
    rw[W];intro q hq;rcases dx.1 hq with hq|hq
    ·exact gB q hq
    ·rw[dA.1 hq,ho];rfl
   rw[ho]at cc;unfold KD at cc;have pF:((s.ps.take (i+1)).map (vY s)).map Iw=((s.ps.take i).map (vY s)).map Iw++[Iw j]:=by
    rw[W,aR,aR,<-hj];rfl
   have TK:(((s.ps.take i).map (vY s)).map Iw).length=i:=by simp;omega
   clear hij ok W gB ho hj;rcases hl with⟨N,h4,J⟩|⟨N,ver,hv,h4,J⟩
   ·have hn:ax M (.g n0)=⟨0,0,[],false⟩:=by show eP M.D n0=_;rw[J];exact rA _ (by omega)
    have GQ:M.D.length=n0:=by rw[J,c]
    have he:∀r,dE M.D n0 r=U.D++[r]:=fun r=>by rw[J,<-c];exact kI
    have aja:((s.ps.take (i+1)).map (vY s)).map Iw=[Iw j]:=by rw[pF,N];rfl
    simp(disch:=omega) only[↓zd,seval,push_cast,K,A,h4,Q,gU,R,u,s1,s2,s4,s5,s6,s7,cc,j1,j2,j3,j4,j5,j6,hn,GQ];refine next _ _ ⟨?_,?_,?_,?_,?_,⟨1,?_,rfl⟩,?_,af8,.inr ⟨by omega,1,by omega,?_,?_⟩⟩
    (all_goals try simp only[↓zg,seval,K,A,Q,R,u]);all_goals try first|rfl|trivial|(simp only[zr,seval,K,A,Q,R,u];done)
    all_goals (first|done|exact o7|(rw[N];done)|(rw[N];rfl)|(rw[fF,cz,cz,he,aja];done)|skip)
   ·have hq:ax M (.g n0)=⟨ver,2,((s.ps.take i).map (vY s)).map Iw,false⟩:=by show eP M.D n0=_;rw[J];exact jC c
    have he:∀r,dE M.D n0 r=U.D++[r]:=fun r=>by rw[J];exact uN c
    generalize ((s.ps.take i).map (vY s)).map Iw=els at*;have tk:els.take i=els:=aO (by omega);have wb:M.b<=n0:=by omega
    simp(disch:=omega) only[↓zd,seval,push_cast,K,A,h4,Q,gU,R,u,s1,s2,s4,s5,s6,s7,cc,j1,j2,j3,j4,j5,j6,hq,hv,TK,tk];refine next _ _ ⟨?_,?_,?_,?_,?_,⟨1,?_,rfl⟩,?_,af8,.inr ⟨by omega,ver+1,by omega,?_,?_⟩⟩
    (all_goals try simp only[↓zg,seval,K,A,Q,R,u]);all_goals try first|rfl|trivial|(simp only[zr,seval,K,A,Q,R,u];done)
    all_goals (first|done|exact o7|(rw[fF,cz,cz,he,pF];done)|skip)
 ·clear hO vG ai'
  rintro fr M ⟨K,A,Q,gU,R,⟨e2,u,CZ⟩,o7,gB,hl⟩;subst CZ;rcases hl with⟨N,_⟩|⟨_,ver,hv,h4,J⟩
  ·omega
  rw[aT]at gB J;have aoc:s.ps.any (fun p=>(XU s p).isNone)=false:=by
   rw[iN];intro p hp;rw[gB p hp];simp
  unfold wrR;rw[aP (by rw[aoc];simp)];obtain⟨l,Y⟩:∃l,s.ps.map (vY s)=l:=⟨_,rfl⟩
  have Qg:l.length=s.ps.length:=by rw[<-Y,aG]
  have hli:∀j∈l,wP j.1 j.2=0:=by
   rw[<-Y];intro j hj;obtain⟨p,hp,rfl⟩:=dQ.1 hj;exact hij p hp
  unfold Sc.wrt;rw[Y]at J⊢;have hM:M.D.length=n0+1:=by rw[J];simp[c]
  have PD:=fun r=>c28 (H:=H) (L:=bu M (.o 4) r) (s:=s) (qp:=n0) (ver:=ver) (n:=s.ps.length) (by show M.b<=M.D.length;omega);simp only[cz,hM]at PD;obtain⟨D1,ng⟩:∃D1,M.D++[⟨1,6,[s.v],false⟩,⟨1,1,[[.ref 0 (.g n0) ver 2 0 s.ps.length]],false⟩]=D1:=⟨_,rfl⟩
  rw[ng]at PD;have AJ:D1=U.D++(⟨ver,2,l.map Iw,false⟩::⟨1,6,[s.v],false⟩::⟨1,1,[[.ref 0 (.g n0) ver 2 0 s.ps.length]],false⟩::[]):=by rw[<-ng,J];simp
  have zI:D1.length=n0+3:=by rw[AJ];simp[c]
  have fk:∀HH,FOk HH D1 53 [.ptr 0 (.g (n0+1)) 1 0 0,.ptr 0 (.g (n0+1+1)) 1 0 0] (yN s l):=fun HH=>by
   refine aaS (qp:=n0) (ver:=ver) ok.ps ?_ ?_ hv ?_ Qg hli
   ·rw[AJ,show U.D++(⟨ver,2,l.map Iw,false⟩::⟨1,6,[s.v],false⟩::⟨1,1,[[.ref 0 (.g n0) ver 2 0 s.ps.length]],false⟩::[])=(U.D++[⟨ver,2,l.map Iw,false⟩])++⟨1,6,[s.v],false⟩::[⟨1,1,[[.ref 0 (.g n0) ver 2 0 s.ps.length]],false⟩]from by simp]
    exact jC (by simp[c])
   ·rw[Qg,AJ,show U.D++(⟨ver,2,l.map Iw,false⟩::⟨1,6,[s.v],false⟩::⟨1,1,[[.ref 0 (.g n0) ver 2 0 s.ps.length]],false⟩::[])=(U.D++[⟨ver,2,l.map Iw,false⟩,⟨1,6,[s.v],false⟩])++⟨1,1,[[.ref 0 (.g n0) ver 2 0 s.ps.length]],false⟩::[]from by simp]
    exact jC (by simp[c])
   ·rw[AJ];exact jC c
  have AY:=fun O=>c27 (H:=H) (L:=⟨D1,O,M.b⟩) (F:=yN s l) ok (by show M.b<=D1.length;omega) (fk _) rfl;dsimp only at AY;rw[zI]at AY;clear fk;have z6:zK [[.str ⟨#[]⟩,.bool false,.aL,.aL,.aL,.aL]] [.str ⟨#[]⟩,.bool false,.aL,.aL,.aL,.aL]=true:=rfl;unfold rpR at AY;by_cases N:IY (yN s l) s=0
  ·rw[aX N]at AY⊢
   have q1:=(yF s (n0+3)).1;have q2:=(yF s (n0+3)).2;have q3:=KN s (n0+3);have q4:=KO s (n0+3);have q5:∀v:V,(FV s (n0+3)).take 1++[v]++(FV s (n0+3)).drop 2=[.str iB,v,.ref 0 (.g (n0+3)) (1+s.ps.length) 6 0 s.ps.length,.ref 0 (.g (n0+3+1)) (1+s.ms.length) 22 0 s.ms.length,cu 7 (s.sp.map Sp.v),cu 2 (s.la.map Av)]:=fun _=>rfl;simp(disch:=omega) only[↓zd,seval,push_cast,K,A,h4,Q,gU,R,u,s1,s2,s4,s5,PD,AY,jZ,iZ,q1,q2,q3,q4,q5,z6,zI];obtain⟨w,hww,I⟩:∃w,(ax M (.o 4)).ver+1=w∧0<w:=⟨_,rfl,by omega⟩
   rw[hww];obtain⟨s2,E8⟩:∃s2:Sc,(⟨true,s.ps.map (fun p=>Mt p (vY s p)),s.ms.map (Me.mp (yN s l)),s.sp,s.la⟩:Sc)=s2:=⟨_,rfl⟩
   rw[E8];have hcl:([.str iB,.bool true,.ref 0 (.g (n0+3)) (1+s.ps.length) 6 0 s.ps.length,.ref 0 (.g (n0+3+1)) (1+s.ms.length) 22 0 s.ms.length,cu 7 (s.sp.map Sp.v),cu 2 (s.la.map Av)]:List V)=lK s2 (1+s.ps.length) (1+s.ms.length) (n0+3):=by
    rw[<-E8];unfold lK;dsimp only;rw[List.length_map,List.length_map]
   have g1:(lK s2 (1+s.ps.length) (1+s.ms.length) (n0+3)).length=6:=rfl;have g2:∀d,V.bW d (lK s2 (1+s.ps.length) (1+s.ms.length) (n0+3))=lK s2 (1+s.ps.length) (1+s.ms.length) (n0+3):=fun d=>by rw[<-hcl];simp only[V.bW,V.shift,nZ]
   have g3:(lK s2 (1+s.ps.length) (1+s.ms.length) (n0+3)).take 6=lK s2 (1+s.ps.length) (1+s.ms.length) (n0+3):=rfl;have g4:(lK s2 (1+s.ps.length) (1+s.ms.length) (n0+3)).all V.scalar=true:=by rw[<-hcl];simp only[aZ,cB,gq,mO,bR]
   have g5:(lK s2 (1+s.ps.length) (1+s.ms.length) (n0+3))[2]? =some (.ref 0 (.g (n0+3)) (1+s.ps.length) 6 0 s.ps.length):=by rw[<-hcl];rfl
   rw[hcl];have RQ:s2.ps=s.ps.map (fun p=>Mt p (vY s p)):=by rw[<-E8]
   have PC:s2.ms=s.ms.map (Me.mp (yN s l)):=by rw[<-E8]
   have Nk:El s2 (1+s.ps.length) (1+s.ms.length) (n0+3)=⟨1+s.ps.length,6,(s.ps.map (fun p=>Mt p (vY s p))).map Pa.v,false⟩::zw (n0+3+2) s::(s.ms.map (Me.mp (yN s l))).flatMap (rM false false):=by
    unfold El zw;rw[RQ,PC,KP (aaP (yN s l)) (fun m=>by rw[NC (yN s l)])]
   have hrp:rpD (yN s l) s (n0+3)=sI s::(zw (n0+3+2) s::(s.ms.map (Me.mp (yN s l))).flatMap (rM false false)++[lJ 0]):=by
    unfold rpD;rw[N];rfl
   have We:s2.ms≠[]:=by rw[PC];intro h;have:=eU List.length h;simp at this;rw[this]at xK;simp at xK
   have hpn:s2.ps≠[]:=by rw[RQ];intro h;have:=eU List.length h;simp at this;rw[this]at hpl;simp at hpl
   rw[hrp];generalize zw (n0+3+2) s::(s.ms.map (Me.mp (yN s l))).flatMap (rM false false)=LF at*;have kM:eP D1 n0=⟨ver,2,l.map Iw,false⟩:=by rw[AJ];exact jC c
   clear AY PD hrp q1 q2 q3 q4 q5 aoc;refine bI (fun k fr M=>ag fr 2= .ptr 0 (.o 2) 1 0 0∧ag fr 4= .ref 0 (.g n0) ver 2 0 s.ps.length∧ag fr 8= .ptr 0 (.o 4) w 0 0∧ag fr 51= .i s.ps.length∧ag fr 52= .i k∧ax M (.o 2)=⟨1,6,[[.str ⟨#[]⟩,.bool false,.aL,.aL,.aL,.aL]],false⟩∧ax M (.o 4)=⟨w,6,[lK s2 (1+s.ps.length) (1+s.ms.length) (n0+3)],false⟩∧M.b=n0∧M.D=D1++(⟨1+s.ps.length,6,(s.ps.take k).map (fun p=>(Mt p (vY s p)).v)++(s.ps.drop k).map Pa.v,false⟩::(LF++[lJ 0]))) s.ps.length ?_ ?_ ?_
   ·refine⟨?_,?_,?_,?_,?_,?_,?_,?_,?_⟩
    (all_goals try simp only[↓zg,seval,A,h4,u]);all_goals try first|rfl|trivial|(simp only[zr,seval,A,h4,u];done)
    all_goals (first|done|exact o7|skip)
   ·rintro k lV T hk ⟨i2,i4,i8,C,i52,XY,B,ib,iD⟩ next
    obtain⟨p,hp⟩:∃p,s.ps[k]? =some p:=⟨_,ak hk⟩
    obtain⟨j,hj⟩:∃j,l[k]? =some j:=⟨_,ak (by omega)⟩
    have hjp:vY s p=j:=by
     rw[<-Y,aK,hp]at hj;injection hj
    obtain⟨sp1,sp2⟩:=KJ (g:=fun p=>(Mt p (vY s p)).v) (g':=Pa.v) hp;rw[<-sp2]at next
    have sl:((s.ps.take k).map (fun p=>(Mt p (vY s p)).v)++(s.ps.drop k).map Pa.v).length=s.ps.length:=by simp;omega
    generalize (s.ps.take k).map (fun p=>(Mt p (vY s p)).v)++(s.ps.drop k).map Pa.v=X at*;have rn:ax T (.g n0)=⟨ver,2,l.map Iw,false⟩:=by
     show eP T.D n0=_;rw[iD,Ch (by omega),kM]
    have rm:ax T (.g (n0+3))=⟨1+s.ps.length,6,X,false⟩:=by
     show eP T.D _=_;rw[iD];exact jC zI
    have qw:∀r,dE T.D (n0+3) r=D1++(r::(LF++[lJ 0])):=fun r=>by rw[iD];exact uN zI
    have wb:T.b<=n0+3:=by omega
    have p1:=p.sz.1;have p3:p.v.take 3++Iw j++p.v.drop 5=(Mt p (vY s p)).v:=by rw[hjp];rfl
    have j1:(Iw j).length=2:=rfl;have j2:(Iw j).take 2=Iw j:=rfl;have j3:(Iw j).all V.scalar=true:=rfl;have j4:∀d,V.bW d (Iw j)=Iw j:=fun _=>rfl;have j5:(Iw j).all V.qW=true:=rfl;generalize (Mt p (vY s p)).v=pw at*;clear hij ok Nk sp2 hpn We gB;simp(disch:=omega) only[↓zd,seval,push_cast,i2,i4,i8,C,i52,XY,B,g1,g5,rn,rm,hp,hj,sp1,sl,p1,p3,j1,j2,j3,j4,j5,I,hv];refine next _ _ ⟨?_,?_,?_,?_,?_,?_,?_,?_,?_⟩
    (all_goals try simp only[↓zg,seval,i2,i4,i8,C,XY,B]);all_goals try first|rfl|trivial|(simp only[zr,seval,i2,i4,i8,C,XY,B];done)
    all_goals (first|done|exact ib|(rw[fF,qw];done)|skip)
    all_goals trace_state
   ·rintro lV T ⟨i2,i4,i8,C,i52,XY,B,ib,iD⟩
    rw[aT,dZ,dX,bz]at iD;have iD':T.D=D1++El s2 (1+s.ps.length) (1+s.ms.length) (n0+3)++[lJ 0]:=by rw[iD,Nk,jy];simp only[aC,aW];rfl
    have Uz:=fun r=>FI (CK (s:=s2) (vp:=1+s.ps.length) (vm:=1+s.ms.length) (n:=n0+3) (L:=bu T (.o 2) r) (D0:=D1) (Z:=[lJ 0]) hpn We (by omega) (by omega) zI (by show T.b<=_;omega) (by rw[cz];exact iD'));have fz3:∀M:Mem,wJ M (.int .i64 0)=some (.int .i64 0,M):=fun M=>by simp only[wJ,sG,xf,uX]
    have np:(lK s2 (1+s.ps.length) (1+s.ms.length) (n0+3)).all V.pure=false:=by simp only[lK,aZ,V.pure,iW,mh]
    have vpu:=s2.pu;have vsh:=s2.sz.2;clear hij ok Nk hpn We gB iD iD';simp(disch:=omega) only[↓zd,seval,push_cast,i2,i4,i8,C,i52,XY,B,g1,g2,g3,g4,g5,I,Uz,np,vpu,vsh,lI,yu,rF,fz3]
    trace_state
  ·rw[aP N]at AY⊢
   generalize IY (yN s l) s=e at*;unfold KM at*;simp(disch:=omega) only[↓zd,seval,push_cast,K,A,h4,Q,gU,R,u,s1,s2,s4,s5,PD,AY,jZ,iZ,N,z6]
   trace_state
theorem c6{s:Sc}{t:List V}{e:Int}(A:∀H,call bn 19 [.agg s.v] H=some (.bool true,none))(c:∀H,call bn 25 [.agg s.v] H=some (.eT [.agg t,.i e],none))(t1:t.length=6)(t2:∀d,V.bW d t=t)(l:t.take 6=t)(j:t.all V.scalar=true)(g:t.all V.pure=true):call bn 6 [.agg s.v] H=some (.eT [.agg t,.i e],none):=by
 have s1:=s.sz.1;have s2:=s.sz.2;have u:=s.tk;have r:=s.sc;refine(av (by conv=>lhs;reduce)).trans ?_;simp only[↓zo,zp,seval];simp(disch:=omega) only[↓zd,seval,push_cast,s1,s2,u,r,A,c,t1,t2,l,j,g]
def LB(p:Pa):Int×Int:=(-p.ts,-p.tn)
def Sc.snd(s:Sc):Sc:={s with wr:=false,ms:=s.ms.map (Me.mp (yN s (s.ps.map LB)))}
theorem c7{s:Sc}(ok:kN s)(hw:s.wr=true)(hvd:∀H,call bn 19 [.agg s.v] H=some (.bool true,none))(K:IY (yN s (s.ps.map LB)) s=0):call bn 7 [.agg s.v] H=some (.eT [.agg s.snd.v,.i 0],none):=by
 have xK:=ok.ml;have hpl:=ok.ps.len;have s1:=s.sz.1;have s2:=s.sz.2;have s4:=s.tk;have s5:=s.sc;have s6:s.v[1]? =some (.bool s.wr):=rfl;have s7:s.v[2]? =some (cu 6 (s.ps.map Pa.v)):=rfl;rw[hw]at s6;have hO:∀i,ax (Ht.start true H) (.o i)=⟨0,0,[],false⟩:=fun i=>jB;have vG:(Ht.start true H).b=(Ht.start true H).D.length:=by cases H<;>rfl
 have hij:∀p∈s.ps,wP p.ts p.tn=0:=fun p hp=>(ok.pa p hp).iv;refine(av (by conv=>lhs;reduce)).trans ?_;simp only[↓zo,zp,seval];generalize Ht.start true H=B at*;obtain⟨n0,c⟩:∃n0,B.D.length=n0:=⟨_,rfl⟩
 simp(disch:=omega) only[↓zd,seval,push_cast,s1,s2,s4,s5,s6,s7,hO,hvd,dS];refine bI (fun i fr M=>ag fr 1= .ptr 0 (.o 1) 1 0 0∧ag fr 2= .ptr 0 (.o 2) 1 0 0∧ag fr 19=cu 6 (s.ps.map Pa.v)∧ag fr 20= .i s.ps.length∧ag fr 21= .i i∧ax M (.o 1)=⟨1,6,[s.v],false⟩∧ax M (.o 2)=⟨1,6,[[.str ⟨#[]⟩,.bool false,.aL,.aL,.aL,.aL]],false⟩∧M.b=n0∧((i=0∧ag fr 4= .aL∧M.D=B.D)∨(0<i∧∃ver,0<ver∧ag fr 4= .ref 0 (.g n0) ver 2 0 i∧M.D=B.D++[⟨ver,2,((s.ps.take i).map LB).map Iw,false⟩]))) s.ps.length ?_ ?_ ?_
 ·refine⟨?_,?_,?_,?_,?_,?_,?_,?_,.inl ⟨rfl,?_,?_⟩⟩
  (all_goals try simp only[↓zg,seval]);all_goals try first|rfl|trivial|(simp only[zr,seval];done)
  all_goals (first|(rw[<-c];exact vG)|skip)
 ·rintro i fr M hi ⟨Q,N,I,C,oH,R,J,o7,hl⟩ next
  obtain⟨p,hp⟩:∃p,s.ps[i]? =some p:=⟨_,ak hi⟩
  have W:s.ps.take (i+1)=s.ps.take i++[p]:=by rw[aY,hp];rfl
  have ui:(s.ps.map Pa.v)[i]? =some p.v:=by rw[aK,hp];rfl
  have p1:=p.sz.1;have p2:=p.sc;have p3:p.v[3]? =some (.i p.ts):=rfl;have p4:p.v[4]? =some (.i p.tn):=rfl;have p5:=p.sz.2;have p6:=p.tk;have pi:=jN.1 (hij p (ah hp));have w1:IntKind.i64.wrap (0-p.ts)=0-p.ts:=FU (by omega);have w2:IntKind.i64.wrap (0-p.tn)=0-p.tn:=FU (by omega);have pF:((s.ps.take (i+1)).map LB).map Iw=((s.ps.take i).map LB).map Iw++[[.i (0-p.ts),.i (0-p.tn)]]:=by
   rw[W,aR,aR];simp[LB,Iw]
  have TK:(((s.ps.take i).map LB).map Iw).length=i:=by simp;omega
  clear hij ok W K pi;rcases hl with⟨h0,h4,A⟩|⟨h0,ver,hv,h4,A⟩
  ·have hn:ax M (.g n0)=⟨0,0,[],false⟩:=by show eP M.D n0=_;rw[A];exact rA _ (by omega)
   have GQ:M.D.length=n0:=by rw[A,c]
   have K:∀r,dE M.D n0 r=B.D++[r]:=fun r=>by rw[A,<-c];exact kI
   have aja:((s.ps.take (i+1)).map LB).map Iw=[[.i (0-p.ts),.i (0-p.tn)]]:=by rw[pF,h0];rfl
   simp(disch:=omega) only[↓zd,seval,push_cast,Q,N,h4,I,C,oH,R,J,s1,s2,s4,s5,s6,s7,hp,ui,p1,p2,p3,p4,p5,p6,w1,w2,hn,GQ];refine next _ _ ⟨?_,?_,?_,?_,?_,?_,?_,?_,.inr ⟨by omega,1,by omega,?_,?_⟩⟩
   (all_goals try simp only[↓zg,seval,Q,N,I,C,R,J]);all_goals try first|rfl|trivial|(simp only[zr,seval,Q,N,I,C,R,J];done)
   all_goals (first|done|exact o7|(rw[h0];done)|(rw[h0];rfl)|(simp only[fF,cz,K,aja];done)|skip)
   all_goals trace_state
  ·have hq:ax M (.g n0)=⟨ver,2,((s.ps.take i).map LB).map Iw,false⟩:=by show eP M.D n0=_;rw[A];exact jC c
   have K:∀r,dE M.D n0 r=B.D++[r]:=fun r=>by rw[A];exact uN c
   generalize ((s.ps.take i).map LB).map Iw=els at*;have tk:els.take i=els:=aO (by omega);have wb:M.b<=n0:=by omega
   simp(disch:=omega) only[↓zd,seval,push_cast,Q,N,h4,I,C,oH,R,J,s1,s2,s4,s5,s6,s7,hp,ui,p1,p2,p3,p4,p5,p6,w1,w2,hq,hv,TK,tk];refine next _ _ ⟨?_,?_,?_,?_,?_,?_,?_,?_,.inr ⟨by omega,ver+1,by omega,?_,?_⟩⟩
   (all_goals try simp only[↓zg,seval,Q,N,I,C,R,J]);all_goals try first|rfl|trivial|(simp only[zr,seval,Q,N,I,C,R,J];done)
   all_goals (first|done|exact o7|(simp only[fF,cz,K,pF];done)|skip)
   all_goals trace_state
 ·clear hO vG
  rintro fr M ⟨Q,N,I,C,oH,R,J,o7,hl⟩;rcases hl with⟨h0,_⟩|⟨_,ver,hv,h4,A⟩
  ·omega
  rw[aT]at A;obtain⟨l,T⟩:∃l,s.ps.map LB=l:=⟨_,rfl⟩
  have Qg:l.length=s.ps.length:=by rw[<-T,aG]
  have hli:∀j∈l,wP j.1 j.2=0:=by
   rw[<-T];intro j hj;obtain⟨p,hp,rfl⟩:=dQ.1 hj;have pi:=jN.1 (hij p hp);exact jN.2 (by unfold LB;dsimp only;omega)
  unfold Sc.snd;rw[T]at A K⊢;have hM:M.D.length=n0+1:=by rw[A];simp[c]
  have PD:=fun r=>c28 (H:=H) (L:=bu M (.o 4) r) (s:=s) (qp:=n0) (ver:=ver) (n:=s.ps.length) (by show M.b<=M.D.length;omega);simp only[cz,hM]at PD;obtain⟨D1,ng⟩:∃D1,M.D++[⟨1,6,[s.v],false⟩,⟨1,1,[[.ref 0 (.g n0) ver 2 0 s.ps.length]],false⟩]=D1:=⟨_,rfl⟩
  rw[ng]at PD;have AJ:D1=B.D++(⟨ver,2,l.map Iw,false⟩::⟨1,6,[s.v],false⟩::⟨1,1,[[.ref 0 (.g n0) ver 2 0 s.ps.length]],false⟩::[]):=by rw[<-ng,A];simp
  have zI:D1.length=n0+3:=by rw[AJ];simp[c]
  have fk:∀HH,FOk HH D1 53 [.ptr 0 (.g (n0+1)) 1 0 0,.ptr 0 (.g (n0+1+1)) 1 0 0] (yN s l):=fun HH=>by
   refine aaS (qp:=n0) (ver:=ver) ok.ps ?_ ?_ hv ?_ Qg hli
   ·rw[AJ,show B.D++(⟨ver,2,l.map Iw,false⟩::⟨1,6,[s.v],false⟩::⟨1,1,[[.ref 0 (.g n0) ver 2 0 s.ps.length]],false⟩::[])=(B.D++[⟨ver,2,l.map Iw,false⟩])++⟨1,6,[s.v],false⟩::[⟨1,1,[[.ref 0 (.g n0) ver 2 0 s.ps.length]],false⟩]from by simp]
    exact jC (by simp[c])
   ·rw[Qg,AJ,show B.D++(⟨ver,2,l.map Iw,false⟩::⟨1,6,[s.v],false⟩::⟨1,1,[[.ref 0 (.g n0) ver 2 0 s.ps.length]],false⟩::[])=(B.D++[⟨ver,2,l.map Iw,false⟩,⟨1,6,[s.v],false⟩])++⟨1,1,[[.ref 0 (.g n0) ver 2 0 s.ps.length]],false⟩::[]from by simp]
    exact jC (by simp[c])
   ·rw[AJ];exact jC c
  have U:=fun O=>c27 (H:=H) (L:=⟨D1,O,M.b⟩) (F:=yN s l) ok (by show M.b<=D1.length;omega) (fk _) rfl;dsimp only at U;rw[zI]at U;clear fk;have z6:zK [[.str ⟨#[]⟩,.bool false,.aL,.aL,.aL,.aL]] [.str ⟨#[]⟩,.bool false,.aL,.aL,.aL,.aL]=true:=rfl;unfold rpR at U;rw[aX K]at U;have q1:=(yF s (n0+3)).1;have q2:=(yF s (n0+3)).2;have q3:=KN s (n0+3);have q4:=KO s (n0+3);obtain⟨w,hww,hw0⟩:∃w,(ax M (.o 4)).ver+1=w∧0<w:=⟨_,rfl,by omega⟩
  obtain⟨u,E8⟩:∃u:Sc,(⟨false,s.ps,s.ms.map (Me.mp (yN s l)),s.sp,s.la⟩:Sc)=u:=⟨_,rfl⟩
  rw[E8];have q5:(FV s (n0+3)).take 1++[.bool false]++(FV s (n0+3)).drop 2=lK u (1+s.ps.length) (1+s.ms.length) (n0+3):=by
   rw[<-E8];unfold lK;dsimp only;rw[List.length_map];rfl
  have g1:(lK u (1+s.ps.length) (1+s.ms.length) (n0+3)).length=6:=rfl;have g2:∀d,V.bW d (lK u (1+s.ps.length) (1+s.ms.length) (n0+3))=lK u (1+s.ps.length) (1+s.ms.length) (n0+3):=fun d=>by simp only[lK,V.bW,V.shift,nZ]
  have g3:(lK u (1+s.ps.length) (1+s.ms.length) (n0+3)).take 6=lK u (1+s.ps.length) (1+s.ms.length) (n0+3):=rfl;have g4:(lK u (1+s.ps.length) (1+s.ms.length) (n0+3)).all V.scalar=true:=by simp only[lK,aZ,cB,gq,mO,bR]
  have RQ:u.ps=s.ps:=by rw[<-E8]
  have PC:u.ms=s.ms.map (Me.mp (yN s l)):=by rw[<-E8]
  have Nk:El u (1+s.ps.length) (1+s.ms.length) (n0+3)=sI s::zw (n0+3+2) s::(s.ms.map (Me.mp (yN s l))).flatMap (rM false false):=by
   unfold El zw sI;rw[RQ,PC,KP (aaP (yN s l)) (fun m=>by rw[NC (yN s l)])]
  have X:D1++rpD (yN s l) s (n0+3)=D1++El u (1+s.ps.length) (1+s.ms.length) (n0+3)++[lJ 0]:=by
   rw[Nk];unfold rpD;rw[K];simp only[aC,aW]
  rw[X]at U;have We:u.ms≠[]:=by rw[PC];intro h;have:=eU List.length h;simp at this;rw[this]at xK;simp at xK
  have Y:u.ps≠[]:=by rw[RQ];intro h;have:=eU List.length h;simp at this;rw[this]at hpl;simp at hpl
  have fz:=fun M(iD:M.D=D1++El u (1+s.ps.length) (1+s.ms.length) (n0+3)++[lJ 0])(ib:M.b=n0)=>FI (CK (s:=u) (vp:=1+s.ps.length) (vm:=1+s.ms.length) (n:=n0+3) (L:=M) (D0:=D1) (Z:=[lJ 0]) Y We (by omega) (by omega) zI (by omega) iD);have Uz:=fun O r1 r2 r=>fz (bu (bu (bu ⟨D1++El u (1+s.ps.length) (1+s.ms.length) (n0+3)++[lJ 0],O,M.b⟩ (.o 4) r1) (.o 4) r2) (.o 2) r) (by simp only[cz]) o7;have fz3:∀M:Mem,wJ M (.int .i64 0)=some (.int .i64 0,M):=fun M=>by simp only[wJ,sG,xf,uX]
  have np:(lK u (1+s.ps.length) (1+s.ms.length) (n0+3)).all V.pure=false:=by simp only[lK,aZ,V.pure,iW,mh]
  have vpu:=u.pu;have vsh:=u.sz.2;generalize D1++El u (1+s.ps.length) (1+s.ms.length) (n0+3)++[lJ 0]=DD at*;clear ok Nk Y We X fz;simp(disch:=omega) only[↓zd,seval,push_cast,Q,N,h4,I,C,oH,R,J,s1,s2,s4,s5,PD,U,jZ,iZ,q1,q2,q3,q4,q5,z6,zI,hww,hw0,g1,g2,g3,g4,Uz,np,vpu,vsh,lI,yu,rF,fz3]
  trace_state
def Nt.up(n:Int)(x:Nt):Nt:={x with n:=x.n+n}
inductive ajb(s:Sc)(a n:Int):Prop where
 |bad (h:wP a n≠0) (c:∀H,call bn 9 [.agg s.v,.agg [.i a,.i n]] H=some (.eT [.agg KM,.agg [.i 0,.i 0],.i 2],none))
 |no (c:∀H,call bn 9 [.agg s.v,.agg [.i a,.i n]] H=some (.eT [.agg KM,.agg [.i 0,.i 0],.i 18],none))
 |yes (t bk:Sc) (j j':Int×Int) (c:∀H,call bn 9 [.agg s.v,.agg [.i a,.i n]] H=some (.eT [.agg t.v,.agg (Iw j),.i 0],none)) (d:∀H,call bn 5 [.agg t.v] H=some (.eT [cu 9 (((gN s).map (Nt.up n)).map Nt.v),.i 0],none)) (hj:j.2=n) (hi:wP j.1 j.2=0) (e:∀H,call bn 9 [.agg t.v,.agg [.i (0-j.1),.i (0-j.2)]] H=some (.eT [.agg bk.v,.agg (Iw j'),.i 0],none)) (f:∀H,call bn 8 [.agg bk.v,.agg s.v] H=some (.bool true,none)) (hl:bk.ms.length=s.ms.length) (hk:∀(i:Nat)(m m':Me),bk.ms[i]? =some m->s.ms[i]? =some m'->m.fi=m'.fi) (hb:∀x∈gN s,-1000<=x.n∧x.n<=1000) (hn:(gN s).length<=1000000) (hm:s.ms.length<=1000)
inductive aod(s:Sc):Prop where
 |no (c:∀H,call bn 6 [.agg s.v] H=some (.eT [.agg KM,.i 18],none))
 |yes (up bk:Sc) (c:∀H,call bn 6 [.agg s.v] H=some (.eT [.agg up.v,.i 0],none)) (d:∀H,call bn 7 [.agg up.v] H=some (.eT [.agg bk.v,.i 0],none)) (e:∀H,call bn 8 [.agg s.v,.agg up.v] H=some (.bool true,none)) (f:∀H,call bn 8 [.agg s.v,.agg bk.v] H=some (.bool true,none))
theorem w3{fr:List V}{M:Mem}{s:Sc}{a n:Int}(tr:ajb s a n)(Z:ag fr 3= .ptr 0 (.o 2) 1 0 0)(Y:ag fr 5= .ptr 0 (.o 3) 1 0 0)(X:ag fr 6=cu 9 ((gN s).map Nt.v))(jc:ax M (.o 2)=⟨1,2,[[.i a,.i n]],false⟩)(ji:ax M (.o 3)=⟨1,6,[s.v],false⟩):G bn H true [.tmp 4] [.code r3] fr M=some (.bool true,none):=by
 unfold r3;have s1:=s.sz.1;have s2:=s.sz.2;have s4:=s.tk;have s5:=s.sc;have aoe:=fun H=>c10 (H:=H) a n;obtain⟨h,c⟩|⟨c⟩|⟨t,Q,j,R,c,d,hj,hi,e,f,hl,hk,hb,hn,hm⟩:=tr
 ·generalize wP a n=e at*
  unfold KM at c;simp(disch:=omega) only[↓zd,seval,push_cast,Z,Y,X,jc,ji,s1,s2,s4,s5,c,aoe,h]
 ·unfold KM at c
  simp(disch:=omega) only[↓zd,seval,push_cast,Z,Y,X,jc,ji,s1,s2,s4,s5,c]
 ·have hi':=jN.1 hi
  have t1:=t.sz.1;have t2:=t.sz.2;have t4:=t.tk;have t5:=t.sc;have b1:=Q.sz.1;have b2:=Q.sz.2;have b4:=Q.tk;have b5:=Q.sc;have j1:(Iw j).length=2:=rfl;have j2:(Iw j).take 2=Iw j:=rfl;have j3:(Iw j).all V.scalar=true:=rfl;have j4:∀d,V.bW d (Iw j)=Iw j:=fun _=>rfl;have j5:(Iw j)[1]? =some (.i n):=by rw[<-hj];rfl
  have k1:(Iw R).length=2:=rfl;have k2:(Iw R).take 2=Iw R:=rfl;have k3:(Iw R).all V.scalar=true:=rfl;have k4:∀d,V.bW d (Iw R)=Iw R:=fun _=>rfl;have O:∀H,call bn 11 [.agg (Iw j)] H=some (.eT [.agg [.i (0-j.1),.i (0-j.2)],.i 0],none):=fun H=>c11 (H:=H) hi;have s8:s.v[3]? =some (cu 22 (s.ms.map Me.v)):=rfl;have b8:Q.v[3]? =some (cu 22 (Q.ms.map Me.v)):=rfl;generalize gN s=N at*;generalize hbv:Q.v=bv at*;generalize hsv:s.v=sv at*;generalize t.v=tv at*;generalize hjv:Iw j=jv at*;generalize Iw R=kv at*;simp(disch:=omega) only[↓zd,seval,push_cast,Z,Y,X,jc,ji,s1,s2,s4,s5,c,d,t1,t2,t4,t5,j1,j2,j3,j4,j5,dS];refine bI (fun i fr M=>ag fr 3= .ptr 0 (.o 2) 1 0 0∧ag fr 5= .ptr 0 (.o 3) 1 0 0∧ag fr 6=cu 9 (N.map Nt.v)∧(∃v1,ag fr 12= .ptr 0 (.o 6) v1 0 0∧0<v1∧ax M (.o 6)=⟨v1,6,[tv],false⟩)∧(∃v1,ag fr 13= .ptr 0 (.o 7) v1 0 0∧0<v1∧ax M (.o 7)=⟨v1,2,[jv],false⟩)∧ag fr 14=cu 9 ((N.map (Nt.up n)).map Nt.v)∧ag fr 16= .i i∧ax M (.o 2)=⟨1,2,[[.i a,.i n]],false⟩∧ax M (.o 3)=⟨1,6,[sv],false⟩) N.length ?_ ?_ ?_
  ·refine⟨?_,?_,?_,⟨(ax M (.o 6)).ver+1,?_,by omega,?_⟩,⟨(ax M (.o 7)).ver+1,?_,by omega,?_⟩,?_,?_,?_,?_⟩
   (all_goals try simp only[↓zg,seval,Z,Y,X,jc,ji]);all_goals try first|rfl|trivial|(simp only[zr,seval,Z,Y,X,jc,ji];done)
  ·rintro i lV M1 hi1 ⟨T,K,i6,⟨v1,B,W,r⟩,⟨v2,A,U,l⟩,u,C,XY,g⟩ next
   obtain⟨x,hx⟩:∃x,N[i]? =some x:=⟨_,ak hi1⟩
   have bx:=hb x (ah hx);have x1:=x.sz.1;have x2:=x.sz.2;have x3:=x.sc;have x4:=x.tk;have x5:x.v[2]? =some (.i x.n):=rfl;have x6:x.v.take 2++[.i (x.n+n)]++x.v.drop 3=(x.up n).v:=rfl;have y1:=(x.up n).sz.1;have y2:=(x.up n).sz.2;have y3:=(x.up n).sc;have y4:=(x.up n).tk;have y5:=af7 (x.up n);have hy:(N.map (Nt.up n))[i]? =some (x.up n):=by rw[aK,hx];rfl
   clear hb hk hi c d e f O aoe Z Y X;simp(disch:=omega) only[↓zd,seval,push_cast,T,K,i6,B,r,A,l,u,C,XY,g,hx,hy,x1,x2,x3,x4,x5,x6,y1,y2,y3,y4,y5,dS];refine next _ _ ⟨?_,?_,?_,⟨v1,?_,W,?_⟩,⟨v2,?_,U,?_⟩,?_,?_,?_,?_⟩
   (all_goals try simp only[↓zg,seval,T,K,i6,B,r,A,l,u,XY,g]);all_goals try first|rfl|trivial|(simp only[zr,seval,T,K,i6,B,r,A,l,u,XY,g];done)
  ·rintro lV M1 ⟨T,K,i6,⟨v1,B,W,r⟩,⟨v2,A,U,l⟩,u,C,XY,g⟩
   have e':=fun H=>e H;generalize (0-j.1)=n1 at*;generalize (0-j.2)=n2 at*;clear hb Z Y X c d;simp(disch:=omega) only[↓zd,seval,push_cast,T,K,i6,B,r,A,l,u,C,XY,g,W,U,s1,s2,s4,s5,s8,b1,b2,b4,b5,b8,t1,t2,t4,t5,j1,j2,j3,j4,k1,k2,k3,k4,O,e,f,hl,dS];obtain⟨w0,hw0,hwp⟩:∃w0,(ax M1 (.o 10)).ver+1=w0∧0<w0:=⟨_,rfl,by omega⟩
   rw[hw0];refine bI (fun i fr M=>(∃w,ag fr 20= .ptr 0 (.o 10) w 0 0∧0<w∧ax M (.o 10)=⟨w,6,[bv],false⟩)∧ag fr 5= .ptr 0 (.o 3) 1 0 0∧ag fr 23= .i i∧ax M (.o 3)=⟨1,6,[sv],false⟩) s.ms.length ?_ ?_ ?_
   ·refine⟨⟨w0,?_,hwp,?_⟩,?_,?_,?_⟩
    (all_goals try simp only[↓zg,seval,K,g]);all_goals try first|rfl|trivial|(simp only[zr,seval,K,g];done)
   ·clear T K i6 B A u C XY g r l
    rintro i fr M hi2 ⟨⟨w,I,hw,J⟩,g5,g23,F⟩ next
    obtain⟨m,hm1⟩:∃m,Q.ms[i]? =some m:=⟨_,ak (by omega)⟩
    obtain⟨m',hm2⟩:∃m',s.ms[i]? =some m':=⟨_,ak hi2⟩
    have hf:=hk i m m' hm1 hm2;have m1:=m.sz.1;have m2:m.v[11]? =some (.i m.fi):=rfl;have m3:=m'.sz.1;have m4:m'.v[11]? =some (.i m'.fi):=rfl;rw[<-hf]at m4;clear hk hi O e e' f;simp(disch:=omega) only[↓zd,seval,push_cast,I,J,hw,g5,g23,F,hm1,hm2,m1,m2,m3,m4,b8,s8,b1,s1,dS,hl];refine next _ _ ⟨⟨w,?_,hw,?_⟩,?_,?_,?_⟩
    (all_goals try simp only[↓zg,seval,I,J,g5,F]);all_goals try first|rfl|trivial|(simp only[zr,seval,I,J,g5,F];done)
   ·clear T K i6 B A u C XY g r l
    rintro fr M ⟨⟨w,I,hw,J⟩,g5,g23,F⟩;clear hk hi O e e' f;simp(disch:=omega) only[↓zd,seval,push_cast,I,J,hw,g5,g23,F,b8,s8,b1,s1,dS,hl]
theorem c3{w:List V}{s:Sc}{a n:Int}(J:∀H,call bn 4 [.agg w] H=some (.agg s.v,none))(w1:w.length=4)(u:∀d,V.bW d w=w)(g:w.all V.scalar=true)(r:w.take 4=w)(I:∀H,call bn 5 [.agg s.v] H=some (.eT [cu 9 ((gN s).map Nt.v),.i 0],none))(wr:aod s)(l:ajb s a n):call bn 3 [.agg w,.agg [.i a,.i n]] H=some (.bool true,none):=by
 have s1:=s.sz.1;have s2:=s.sz.2;have B:=s.tk;have A:=s.sc;have C:=fun(fr:List V)(M:Mem)=>w3 (H:=H) (fr:=fr) (M:=M) l;have F:∀i,ax (Ht.start true H) (.o i)=⟨0,0,[],false⟩:=fun i=>jB;refine(av (show bn 3=some a3 from by kernel_rfl)).trans ?_;unfold a3;generalize Ht.start true H=T at*;obtain⟨c⟩|⟨up,j,c,d,e,f⟩:=wr
 ·unfold KM at c
  simp(disch:=omega) only[↓zd,seval,push_cast,s1,s2,B,A,w1,u,g,r,F,J,I,c];refine C _ _ ?_ ?_ ?_ ?_ ?_;(all_goals try simp only[↓zg,seval]);all_goals try first|rfl|trivial|(simp only[zr,seval];done)
 ·have t1:=up.sz.1
  have t2:=up.sz.2;have N:=up.tk;have K:=up.sc;have b1:=j.sz.1;have R:=j.sz.2;have Q:=j.tk;have O:=j.sc;simp(disch:=omega) only[↓zd,seval,push_cast,s1,s2,B,A,w1,u,g,r,F,J,I,c,d,e,f,t1,t2,N,K,b1,R,Q,O];refine C _ _ ?_ ?_ ?_ ?_ ?_;(all_goals try simp only[↓zg,seval]);all_goals try first|rfl|trivial|(simp only[zr,seval];done)
def kF(k:Nat):Row:=⟨1,1,[[.i k]],false⟩
theorem c12{L:Mem}{q k:Nat}(hr:ax L (.g q)=kF k)(B:L.b<=q)(A:k<=1000000000):call bn 12 [.ptr 0 (.g q) 1 0 0] (L::H)=some (.agg [.i 1,.i (k+1:Nat)],some (dE L.D q (kF (k+1)))):=by
 have r:ax (Ht.start false (L::H)) (.g q)=⟨1,1,[[.i k]],false⟩:=hr;have j:(Ht.start false (L::H)).b=L.b:=rfl;have c:(Ht.start false (L::H)).D=L.D:=rfl;have hc:((k+1:Nat):Int)=(k:Int)+1:=by omega
 unfold kF;rw[hc];refine(av (by conv=>lhs;reduce)).trans ?_;simp only[↓zo,zp,seval];generalize Ht.start false (L::H)=l at*;have u:l.b<=q:=by omega
 simp(disch:=omega) only[↓zd,seval,push_cast,r,j,c]
def smp(n:Int)(fl:Bool):Option P3:=((Iu n).find? fun p=>decide (p.al=0)).or ((Iu n).find? fun p=>decide (p.al=if fl then-1 else 1))
theorem aen:(List.range 39).all (fun k=>[true,false].all fun fl=>((smp ((48:Int)+(k:Nat)) fl).map fun p=>decide (p.e=0)&&decide (p.n=(48:Int)+(k:Nat))).getD false)=true:=by kernel_rfl
theorem ajf{n:Int}{fl:Bool}(h:48<=n∧n<=86):∃p,smp n fl=some p∧p.e=0∧p.n=n:=by
 have a:=aV.1 aen (n-48).toNat (nU.2 (by omega));have a2:=aV.1 a fl (by cases fl<;>simp);have e:(48:Int)+((n-48).toNat:Nat)=n:=by omega
 rw[e]at a2;cases hs:smp n fl with
 |none=>rw[hs]at a2;cases a2
 |some p=>
  rw[hs]at a2;simp only[aU,dU,aH,bN]at a2;exact⟨p,rfl,a2.1,a2.2⟩
theorem auQ{cX:eu}(qG:cX=sb 169 39){fr:List V}{M:Mem}{d:Int}{l:List P3}{K:List KI}{R:Option (V×Option (List Row))}(h4:ag fr 4= .ptr 0 (.o 1) 1 0 0)(h6:ag fr 30=cu 3 (l.map P3.v))(iQ:ag fr 10= .i d)(Dw:ag fr 31= .i l.length)(N:ag fr 32= .i 0)(hl:l.length<=100)(Z:ax M (.o 1)=⟨1,3,[[.i 0,.i 0,.i 0]],false⟩)
  (c:∀p,l.find? (fun p=>decide (p.al=d))=some p->R=some (.eT [.agg p.v,.i 0],none))
  (done:l.find? (fun p=>decide (p.al=d))=none->∀fr' B,(∀j,j<12∨(13<=j∧j<=29)->ag fr' j=ag fr j)->ax B (.o 1)=⟨1,3,[[.i 0,.i 0,.i 0]],false⟩->G bn H true [.cell 4 true 3,.tmp 5] K fr' B=R):
  G bn H true [.cell 4 true 3,.tmp 5] (.code (.loop cX):: .blk 2::K) fr M=R:=by
 subst qG;conv in sb _ _=>reduce
 simp only[↓zo,zp,seval];refine bI (fun i fr' B=>(∀j,j<12∨(13<=j∧j<=31)->ag fr' j=ag fr j)∧ag fr' 32= .i i∧ax B (.o 1)=⟨1,3,[[.i 0,.i 0,.i 0]],false⟩∧l.find? (fun p=>decide (p.al=d))=(l.drop i).find? (fun p=>decide (p.al=d))) l.length ⟨fun j _=>rfl,N,Z,by rw[dH]⟩ ?_ ?_
 ·clear done N Z
  rintro i lV M1 hi ⟨u,r,A,hf⟩ next
  have I:=u 4 (by omega);have J:=u 30 (by omega);have C:=u 10 (by omega);have g:=u 31 (by omega);rw[h4]at I;rw[h6]at J;rw[iQ]at C;rw[Dw]at g;obtain⟨p,hp⟩:∃p,l[i]? =some p:=⟨_,ak hi⟩
  rw[kE hp,List.find?_cons]at hf;have X:p.v.length=3:=rfl;have W:p.v.take 3=p.v:=rfl;have U:p.v.all V.scalar=true:=rfl;have T:p.v[1]? =some (.i p.al):=rfl;have Q:p.v.all V.pure=true:=rfl;have O:∀d,V.bW d p.v=p.v:=fun _=>rfl;by_cases hd:p.al=d
  ·rw[dW hd]at hf
   have wZ:=c p hf;rw[wZ];clear next hf c u
   simp(disch:=omega) only[↓zd,seval,push_cast,I,J,C,g,r,A,hp,X,W,U,T,Q,O,hd]
  ·rw[fB hd]at hf
   have F:(p.al=d)=False:=ru hd;clear c;simp(disch:=omega) only[↓zd,seval,push_cast,I,J,C,g,r,A,hp,X,W,U,T,Q,O,F];refine next _ _ ⟨?_,?_,?_,hf⟩
   ·intro j Y
    simp(disch:=omega) only[bU,bY];exact u j Y
   ·(all_goals try simp only[↓zg,seval]);all_goals try first|rfl|trivial|(simp only[zr,seval];done)
   ·(all_goals try simp only[↓zg,seval,A]);all_goals try first|rfl|trivial|(simp only[zr,seval,A];done)
 ·rintro lV M1 ⟨u,r,A,hf⟩
  have g:=u 31 (by omega);rw[Dw]at g;rw[dZ]at hf;have dn:=done hf;clear done c hf;simp(disch:=omega) only[↓zd,seval,push_cast,g,r];refine dn _ _ ?_ A;intro j Y;simp(disch:=omega) only[bU,bY];exact u j (by omega)
theorem aoi{n:Int}{fl:Bool}{p:P3}(h:0<=n∧n<=127)(hs:smp n fl=some p):call bn 169 [.i n,.bool fl] H=some (.eT [.agg p.v,.i 0],none):=by
 have c:=fun H=>ani (H:=H) h;have Qg:=Uj h;have T:∀i,ax (Ht.start true H) (.o i)=⟨0,0,[],false⟩:=fun i=>jB;have hd:∃d:Int,(if fl then-1 else 1)=d:=⟨_,rfl⟩
 obtain⟨d,hd⟩:=hd;unfold smp at hs;rw[hd]at hs;refine(av (by conv=>lhs;reduce)).trans ?_;simp only[↓zo,zp,seval];generalize Ht.start true H=L0 at*;generalize Iu n=l at*;clear h;have eL:sb 169 25=_:=(by conv=>lhs;reduce);simp only[↓zo,zp,seval]at eL;have J:∀fr M,ag fr 4= .ptr 0 (.o 1) 1 0 0->ag fr 6=cu 3 (l.map P3.v)->ag fr 24= .sl .any 1 [[.i 0],[.i d]]->ag fr 25= .i 2->ag fr 26= .i 0->ax M (.o 1)=⟨1,3,[[.i 0,.i 0,.i 0]],false⟩->G bn H true [.cell 4 true 3,.tmp 5] (.code (.loop (sb 169 25)):: .blk 0::[.code (cS (cR [oO 43 (.build [(.int .i64 0),(.int .i64 0),(.int .i64 0)] []),oS 3 4 43,oI 5 18]) .ret)]) fr M=some (.eT [.agg p.v,.i 0],none):=by
  intro fr M r j C B A F;rw[eL];refine bI (fun i fr M=>ag fr 4= .ptr 0 (.o 1) 1 0 0∧ag fr 6=cu 3 (l.map P3.v)∧ag fr 24= .sl .any 1 [[.i 0],[.i d]]∧ag fr 25= .i 2∧ag fr 26= .i i∧ax M (.o 1)=⟨1,3,[[.i 0,.i 0,.i 0]],false⟩∧(1<=i->l.find? (fun p=>decide (p.al=0))=none)∧(2<=i->l.find? (fun p=>decide (p.al=d))=none)) 2 ⟨r,j,C,B,A,F,by omega,by omega⟩ ?_ ?_
  ·clear r j C B A F
   rintro i fr M hi ⟨r,j,C,B,A,F,g,Q⟩ next
   obtain⟨e,Y,u⟩:∃e:Int,([[.i 0],[.i d]]:List (List V))[i]? =some [.i e]∧e=if i=0 then 0 else d:=by
    rcases i with _|_|i
    ·exact⟨0,rfl,rfl⟩
    ·exact⟨d,rfl,rfl⟩
    ·omega
   have Z:([[.i 0],[.i d]]:List (List V)).length=2:=rfl;generalize ([[.i 0],[.i d]]:List (List V))=ar at*;clear T c;simp(disch:=omega) only[↓zd,seval,push_cast,r,j,C,B,A,F,Y,Z,dS];refine auQ (by kernel_rfl) (d:=e) (l:=l) ?_ ?_ ?_ ?_ ?_ (by omega) ?_ ?_ ?_
   ·simp only[↓zg,seval,r]
   ·simp only[↓zg,seval,j]
   ·simp only[↓zg,seval]
   ·simp only[↓zg,seval,j]
   ·simp only[↓zg,seval]
   ·exact F
   ·intro q O
    rcases Nat.eq_zero_or_pos i with h0|h0
    ·rw[aX h0]at u
     rw[<-u,O]at hs;injection hs with hs;rw[hs]
    ·rw[aP (by omega)]at u
     rw[g h0,<-u,O]at hs;injection hs with hs;rw[hs]
   ·intro O fr' M' I X
    have W:ag fr' 4= .ptr 0 (.o 1) 1 0 0:=by rw[I 4 (by omega)];simp only[↓zg,seval,r]
    have U:ag fr' 6=cu 3 (l.map P3.v):=by rw[I 6 (by omega)];simp only[↓zg,seval,j]
    have N:ag fr' 24= .sl .any 1 ar:=by rw[I 24 (by omega)];simp only[↓zg,seval,C]
    have K:ag fr' 25= .i 2:=by rw[I 25 (by omega)];simp only[↓zg,seval,B]
    have R:ag fr' 26= .i i:=by rw[I 26 (by omega)];simp only[↓zg,seval,A]
    clear I r j C B A F;simp(disch:=omega) only[↓zd,seval,push_cast,R];refine next _ _ ⟨?_,?_,?_,?_,?_,X,?_,?_⟩
    (all_goals try simp only[↓zg,seval,W,U,N,K]);all_goals try first|rfl|trivial|(simp only[zr,seval,W,U,N,K];done)
    all_goals (first|done|(intro h1;by_cases h0:i=0<;>first|omega|(rw[aX h0]at u;rw[<-u];exact O)|exact g (by omega))|(intro h1;rw[aP (by omega)]at u;rw[<-u];exact O)|skip)
  ·rintro fr M ⟨r,j,C,B,A,F,g,Q⟩
   rw[g (by omega),Q (by omega)]at hs;cases hs
 cases fl with
 |true=>
  rw[aX rfl]at hd;subst hd;clear hs;simp(disch:=omega) only[↓zd,seval,push_cast,T,c];refine J _ _ ?_ ?_ ?_ ?_ ?_ ?_;(all_goals try simp only[↓zg,seval]);all_goals try first|rfl|trivial|(simp only[zr,seval];done)
 |false=>
  rw[aP (by simp)]at hd;subst hd;clear hs;simp(disch:=omega) only[↓zd,seval,push_cast,T,c];refine J _ _ ?_ ?_ ?_ ?_ ?_ ?_;(all_goals try simp only[↓zg,seval]);all_goals try first|rfl|trivial|(simp only[zr,seval];done)
structure It where
 kd:Int
 vl:Int
 pt:Int
 mo:Int
 ti:Bool
 ma:Int
def It.v(x:It):List V:=[.int .u8 x.kd,.int .u8 x.vl,.int .u8 x.pt,.int .u8 x.mo,.bool x.ti,.int .u16 x.ma]
structure tQ(x:It):Prop where
 kd:0<=x.kd∧x.kd<=255
 vl:0<=x.vl∧x.vl<=255
 pt:0<=x.pt∧x.pt<=255
 mo:0<=x.mo∧x.mo<=255
 ma:0<=x.ma∧x.ma<=65535
theorem It.sz(x:It):x.v.length=6∧∀d,V.bW d x.v=x.v:=⟨rfl,fun _=>rfl⟩
theorem It.tk(x:It):x.v.take 6=x.v:=rfl
theorem It.sc(x:It):x.v.all V.scalar=true:=rfl
theorem It.pu(x:It):x.v.all V.pure=true:=rfl
def It.n1(x:It):Int:=48+x.pt%30
def It.n2(x:It):Int:=48+x.pt%30+1+(x.mo/2)%9
def Qm(n fi:Int):P3:=(smp n (decide (fi<0))).getD ⟨0,0,0⟩
def P3.hd(p:P3)(ti:Bool)(sh:Int):Hd:=⟨p.st,p.al,p.oc,ti,sh⟩
def It.hs(x:It)(fi:Int):List Hd:=(Qm x.n1 fi).hd x.ti 0::if x.mo%2=1 then[(Qm x.n2 fi).hd (x.ti&&decide (x.mo%4=1)) (x.mo/32%3)]else[]
theorem KQ{n fi:Int}(h:48<=n∧n<=86):smp n (decide (fi<0))=some (Qm n fi)∧(Qm n fi).e=0∧(Qm n fi).n=n:=by
 obtain⟨p,j,g,c⟩:=ajf (fl:=decide (fi<0)) h;unfold Qm;rw[j];exact⟨rfl,g,c⟩
theorem auR{L:Mem}{x:It}{fi:Int}(ok:tQ x)(hb:L.b<=L.D.length):call bn 107 [.agg x.v,.i fi] (L::H)=some (yL true L.D.length (x.hs fi),some (L.D++wH true false (x.hs fi))):=by
 obtain⟨o1,o2,T,c,Z⟩:=ok;have O:(Ht.start false (L::H)).D=L.D:=rfl;have Q:(Ht.start false (L::H)).b=L.b:=rfl;have hn:ax (Ht.start false (L::H)) (.g L.D.length)=⟨0,0,[],false⟩:=jH (L:=L);have x1:=x.sz.1;have A:=x.sz.2;have x4:=x.tk;have x5:=x.sc;have B:x.v[2]? =some (.int .u8 x.pt):=rfl;have v3:x.v[3]? =some (.int .u8 x.mo):=rfl;have v4:x.v[4]? =some (.bool x.ti):=rfl;have b1:48<=x.n1∧x.n1<=86:=by unfold It.n1;omega
 have U:48<=x.n2∧x.n2<=86:=by unfold It.n2;omega
 have u:=fun H=>aoi (H:=H) (n:=x.n1) (by omega) (KQ (fi:=fi) b1).1;have l:=fun H=>aoi (H:=H) (n:=x.n2) (by omega) (KQ (fi:=fi) U).1;have t1:x.pt.tmod 30=x.pt%30:=dP T.1;have t2:x.mo.tmod 2=x.mo%2:=dP c.1;have K:x.mo.tdiv 2=x.mo/2:=jM c.1;have J:(x.mo/2).tmod 9=x.mo/2%9:=dP (by omega);have I:x.mo.tmod 4=x.mo%4:=dP c.1;have F:x.mo.tdiv 32=x.mo/32:=jM c.1;have C:(x.mo/32).tmod 3=x.mo/32%3:=dP (by omega);have n1:48+x.pt%30=x.n1:=rfl;have n2:x.n1+1+x.mo/2%9=x.n2:=rfl;have N:∀r,dE L.D L.D.length r=L.D++[r]:=fun r=>kI;have R:∀r j,dE (L.D++[r]) L.D.length j=L.D++[j]:=fun r j=>pq;unfold It.hs;generalize Qm x.n1 fi=Y at*;generalize Qm x.n2 fi=X at*;unfold P3.v at u l;refine(av (by conv=>lhs;reduce)).trans ?_;simp only[↓zo,zp,seval];generalize Ht.start false (L::H)=L0 at*;by_cases hm:x.mo%2=1
 ·rw[aX hm]
  generalize x.ti=ti at*;cases ti;all_goals simp(disch:=omega) only[↓zd,seval,push_cast,O,Q,hn,x1,A,x4,x5,B,v3,v4,u,l,t1,t2,K,J,I,F,C,n1,n2,N,R,hm,yL,wH]
  all_goals rfl
 ·rw[aP hm]
  have W:(x.mo%2=1)=False:=ru hm;simp(disch:=omega) only[↓zd,seval,push_cast,O,Q,hn,x1,A,x4,x5,B,v3,v4,u,l,t1,t2,K,J,I,F,C,n1,n2,N,R,W,yL,wH];rfl
def grV(x:It)(p0:P3):List (List V):=if x.ma%17=4 then[[.i p0.st,.i p0.al,.i p0.oc,.i 3,.bool (decide (x.ma%2=0))]]else[]
theorem aoj{cX:eu}(U:cX=sb 66 47){fr:List V}{M:Mem}{x:It}{p0:P3}{n nh:Nat}{hs:List Hd}{id lg dt a b c:Int}{LY:List (List V)}(ok:tQ x)(N:ag fr 5= .ptr 0 (.o 1) 1 0 0)(K:ag fr 8= .ptr 0 (.o 3) 1 0 0)(h9:ag fr 9= .ptr 0 (.o 4) 1 0 0)(Q:ax M (.o 1)=⟨1,6,[x.v],false⟩)(I:ax M (.o 3)=⟨1,13,[[.i 0,.i 0,.i 0,.i 0,.i 0,.aL,.aL,.i 0,.i 0,.i 0,.aL,.i 0,.i 0]],false⟩)(F:ax M (.o 4)=⟨1,13,[[.i 1,.i id,.i 1,.i lg,.i dt,.ref 0 (.g n) nh 5 0 nh,.aL,.i a,.i b,.i c,cu 2 LY,.i 0,.i 0]],false⟩)(T:0<nh)(J:ax M (.g n)=⟨nh,5,hs.map Hd.v,false⟩)(O:hs[0]? =some (p0.hd x.ti 0)):
  G bn H false [.cell 8 true 13] [.code cX] fr M=some (.agg [.i 1,.i id,.i 1,.i lg,.i dt,.ref 0 (.g n) nh 5 0 nh,cu 5 (grV x p0),.i a,.i b,.i c,cu 2 LY,.i 0,.i 0],some M.D):=by
 subst U;conv in sb _ _=>reduce
 simp only[↓zo,zp,seval];obtain⟨Z,Y,X,W,C⟩:=ok;have x1:=x.sz.1;have r:=x.sz.2;have x5:=x.sc;have u:x.v[5]? =some (.int .u16 x.ma):=rfl;have g1:(p0.hd x.ti 0).v.length=5:=rfl;have R:(p0.hd x.ti 0).v.take 3=[.i p0.st,.i p0.al,.i p0.oc]:=rfl;have B:x.ma.tmod 17=x.ma%17:=dP C.1;have A:x.ma.tmod 2=x.ma%2:=dP C.1;unfold grV;by_cases j:x.ma%17=4
 ·rw[aX j]
  simp(disch:=omega) only[↓zd,seval,push_cast,N,K,h9,Q,I,F,T,J,O,x1,r,x5,u,g1,R,B,A,j];rfl
 ·rw[aP j]
  have l:(x.ma%17=4)=False:=ru j;simp(disch:=omega) only[↓zd,seval,push_cast,N,K,h9,Q,I,F,T,J,O,x1,r,x5,u,g1,R,B,A,l];rfl
def zB(n:Int):ByteArray:=if n=0 then⟨#[108,97]⟩else if n=1 then⟨#[115,111,108]⟩else⟨#[97]⟩
theorem aok{cX:eu}(X:cX=sb 66 41){fr:List V}{M:Mem}{x:It}{p0:P3}{n nh:Nat}{hs:List Hd}{id lg dt a b c:Int}(ok:tQ x)(A:ag fr 5= .ptr 0 (.o 1) 1 0 0)(u:ag fr 8= .ptr 0 (.o 3) 1 0 0)(h9:ag fr 9= .ptr 0 (.o 4) 1 0 0)(B:ax M (.o 1)=⟨1,6,[x.v],false⟩)(l:ax M (.o 3)=⟨1,13,[[.i 0,.i 0,.i 0,.i 0,.i 0,.aL,.aL,.i 0,.i 0,.i 0,.aL,.i 0,.i 0]],false⟩)(F:ax M (.o 4)=⟨1,13,[[.i 1,.i id,.i 1,.i lg,.i dt,.ref 0 (.g n) nh 5 0 nh,.aL,.i a,.i b,.i c,.aL,.i 0,.i 0]],false⟩)(Q:0<nh)(r:ax M (.g n)=⟨nh,5,hs.map Hd.v,false⟩)(O:hs[0]? =some (p0.hd x.ti 0)):
  G bn H false [.cell 8 true 13] [.code cX] fr M=some (.agg [.i 1,.i id,.i 1,.i lg,.i dt,.ref 0 (.g n) nh 5 0 nh,cu 5 (grV x p0),.i a,.i b,.i c,cu 2 ((if x.ma%7=2 then[zB (x.ma/7%3)]else[]).map Lv),.i 0,.i 0],some M.D):=by
 subst X;conv in sb _ _=>reduce
 simp only[↓zo,zp,seval];have N:=ok.ma;have x1:=x.sz.1;have J:x.v[5]? =some (.int .u16 x.ma):=rfl;have K:x.ma.tmod 7=x.ma%7:=dP N.1;have W:x.ma.tdiv 7=x.ma/7:=jM N.1;have U:(x.ma/7).tmod 3=x.ma/7%3:=dP (by omega);have T:IntKind.u16.wrap (x.ma/7)=x.ma/7:=by
  show(x.ma/7%65536)=x.ma/7;omega
 have R:0<=x.ma/7%3:=by omega
 have Y:([[.str ⟨#[108,97]⟩],[.str ⟨#[115,111,108]⟩],[.str ⟨#[97]⟩]]:List (List V))[(x.ma/7%3).toNat]? =some [.str (zB (x.ma/7%3))]:=by
  have:x.ma/7%3=0∨x.ma/7%3=1∨x.ma/7%3=2:=by omega
  rcases this with h|h|h<;>rw[h]<;>rfl
 have C:sb 66 47=_:=(by conv=>lhs;reduce);simp only[↓zo,zp,seval]at C;rw[<-C];by_cases j:x.ma%7=2
 ·rw[aX j]
  simp(disch:=omega) only[↓zd,seval,push_cast,A,u,h9,B,l,F,x1,J,K,W,U,T,R,Y,j];refine(aoj (by kernel_rfl) (x:=x) (p0:=p0) (n:=n) (nh:=nh) (hs:=hs) (id:=id) (lg:=lg) (dt:=dt) (a:=a) (b:=b) (c:=c) (LY:=[Lv (zB (x.ma/7%3))]) ok ?_ ?_ ?_ ?_ ?_ ?_ Q ?_ O).trans ?_;(all_goals try simp only[↓zg,seval,A,u,h9,B,l,r]);all_goals try first|rfl|trivial|(simp only[zr,seval,A,u,h9,B,l,r];done)
  all_goals (first|done|exact r|(rw[cz];rfl)|(rw[ay,aX rfl];rfl)|skip)
 ·rw[aP j]
  have I:(x.ma%7=2)=False:=ru j;simp(disch:=omega) only[↓zd,seval,push_cast,A,u,h9,B,l,F,x1,J,K,I];refine(aoj (by kernel_rfl) (x:=x) (p0:=p0) (n:=n) (nh:=nh) (hs:=hs) (id:=id) (lg:=lg) (dt:=dt) (a:=a) (b:=b) (c:=c) (LY:=[]) ok ?_ ?_ ?_ ?_ ?_ ?_ Q ?_ O).trans ?_;(all_goals try simp only[↓zg,seval,A,u,h9,B,l,F,r]);all_goals try first|rfl|trivial|(simp only[zr,seval,A,u,h9,B,l,F,r];done)
  all_goals (first|done|exact r|skip)
theorem aol{cX:eu}(U:cX=sb 66 35){fr:List V}{M:Mem}{x:It}{p0:P3}{n nh:Nat}{hs:List Hd}{id lg dt a c:Int}(ok:tQ x)(A:ag fr 5= .ptr 0 (.o 1) 1 0 0)(u:ag fr 8= .ptr 0 (.o 3) 1 0 0)(h9:ag fr 9= .ptr 0 (.o 4) 1 0 0)(B:ax M (.o 1)=⟨1,6,[x.v],false⟩)(l:ax M (.o 3)=⟨1,13,[[.i 0,.i 0,.i 0,.i 0,.i 0,.aL,.aL,.i 0,.i 0,.i 0,.aL,.i 0,.i 0]],false⟩)(j:ax M (.o 4)=⟨1,13,[[.i 1,.i id,.i 1,.i lg,.i dt,.ref 0 (.g n) nh 5 0 nh,.aL,.i a,.i 0,.i c,.aL,.i 0,.i 0]],false⟩)(T:0<nh)(r:ax M (.g n)=⟨nh,5,hs.map Hd.v,false⟩)(R:hs[0]? =some (p0.hd x.ti 0)):
  G bn H false [.cell 8 true 13] [.code cX] fr M=some (.agg [.i 1,.i id,.i 1,.i lg,.i dt,.ref 0 (.g n) nh 5 0 nh,cu 5 (grV x p0),.i a,.i (if x.ma%13=5 then 1+x.ma/13%4 else 0),.i (c),cu 2 ((if x.ma%7=2 then[zB (x.ma/7%3)]else[]).map Lv),.i 0,.i 0],some M.D):=by
 subst U;conv in sb _ _=>reduce
 simp only[↓zo,zp,seval];have Q:=ok.ma;have x1:=x.sz.1;have J:x.v[5]? =some (.int .u16 x.ma):=rfl;have O:x.ma.tmod 13=x.ma%13:=dP Q.1;have N:x.ma.tdiv 13=x.ma/13:=jM Q.1;have K:(x.ma/13).tmod 4=x.ma/13%4:=dP (by omega);have C:IntKind.u16.wrap (x.ma/13)=x.ma/13:=by
  show(x.ma/13%65536)=x.ma/13;omega
 have F:sb 66 41=_:=(by conv=>lhs;reduce);simp only[↓zo,zp,seval]at F;rw[<-F];by_cases hc:x.ma%13=5
 ·rw[aX hc]
  simp(disch:=omega) only[↓zd,seval,push_cast,A,u,h9,B,l,j,x1,J,O,N,K,C,hc];refine(aok (by kernel_rfl) (x:=x) (p0:=p0) (n:=n) (nh:=nh) (hs:=hs) (id:=id) (lg:=lg) (dt:=dt) (a:=a) (b:=(1+x.ma/13%4)) (c:=c) ok ?_ ?_ ?_ ?_ ?_ ?_ T ?_ R).trans ?_;(all_goals try simp only[↓zg,seval,A,u,h9,B,l,j,r]);all_goals try first|rfl|trivial|(simp only[zr,seval,A,u,h9,B,l,j,r];done)
  all_goals (first|done|exact r|(rw[cz];rfl)|(rw[ay,aX rfl];rfl)|skip)
 ·rw[aP hc]
  have I:(x.ma%13=5)=False:=ru hc;simp(disch:=omega) only[↓zd,seval,push_cast,A,u,h9,B,l,j,x1,J,O,N,K,C,I];refine(aok (by kernel_rfl) (x:=x) (p0:=p0) (n:=n) (nh:=nh) (hs:=hs) (id:=id) (lg:=lg) (dt:=dt) (a:=a) (b:=0) (c:=c) ok ?_ ?_ ?_ ?_ ?_ ?_ T ?_ R).trans ?_;(all_goals try simp only[↓zg,seval,A,u,h9,B,l,j,r]);all_goals try first|rfl|trivial|(simp only[zr,seval,A,u,h9,B,l,j,r];done)
  all_goals (first|done|exact r|(rw[cz];rfl)|(rw[ay,aX rfl];rfl)|skip)
theorem auU{cX:eu}(U:cX=sb 66 29){fr:List V}{M:Mem}{x:It}{p0:P3}{n nh:Nat}{hs:List Hd}{id lg dt a:Int}(ok:tQ x)(A:ag fr 5= .ptr 0 (.o 1) 1 0 0)(u:ag fr 8= .ptr 0 (.o 3) 1 0 0)(h9:ag fr 9= .ptr 0 (.o 4) 1 0 0)(B:ax M (.o 1)=⟨1,6,[x.v],false⟩)(l:ax M (.o 3)=⟨1,13,[[.i 0,.i 0,.i 0,.i 0,.i 0,.aL,.aL,.i 0,.i 0,.i 0,.aL,.i 0,.i 0]],false⟩)(j:ax M (.o 4)=⟨1,13,[[.i 1,.i id,.i 1,.i lg,.i dt,.ref 0 (.g n) nh 5 0 nh,.aL,.i a,.i 0,.i 0,.aL,.i 0,.i 0]],false⟩)(T:0<nh)(r:ax M (.g n)=⟨nh,5,hs.map Hd.v,false⟩)(R:hs[0]? =some (p0.hd x.ti 0)):
  G bn H false [.cell 8 true 13] [.code cX] fr M=some (.agg [.i 1,.i id,.i 1,.i lg,.i dt,.ref 0 (.g n) nh 5 0 nh,cu 5 (grV x p0),.i a,.i (if x.ma%13=5 then 1+x.ma/13%4 else 0),.i (if x.ma%11=3 then 1+x.ma/11%9 else 0),cu 2 ((if x.ma%7=2 then[zB (x.ma/7%3)]else[]).map Lv),.i 0,.i 0],some M.D):=by
 subst U;conv in sb _ _=>reduce
 simp only[↓zo,zp,seval];have Q:=ok.ma;have x1:=x.sz.1;have J:x.v[5]? =some (.int .u16 x.ma):=rfl;have O:x.ma.tmod 11=x.ma%11:=dP Q.1;have N:x.ma.tdiv 11=x.ma/11:=jM Q.1;have K:(x.ma/11).tmod 9=x.ma/11%9:=dP (by omega);have C:IntKind.u16.wrap (x.ma/11)=x.ma/11:=by
  show(x.ma/11%65536)=x.ma/11;omega
 have F:sb 66 35=_:=(by conv=>lhs;reduce);simp only[↓zo,zp,seval]at F;rw[<-F];by_cases hc:x.ma%11=3
 ·rw[aX hc]
  simp(disch:=omega) only[↓zd,seval,push_cast,A,u,h9,B,l,j,x1,J,O,N,K,C,hc];refine(aol (by kernel_rfl) (x:=x) (p0:=p0) (n:=n) (nh:=nh) (hs:=hs) (id:=id) (lg:=lg) (dt:=dt) (a:=a) (c:=(1+x.ma/11%9)) ok ?_ ?_ ?_ ?_ ?_ ?_ T ?_ R).trans ?_;(all_goals try simp only[↓zg,seval,A,u,h9,B,l,j,r]);all_goals try first|rfl|trivial|(simp only[zr,seval,A,u,h9,B,l,j,r];done)
  all_goals (first|done|exact r|(rw[cz];rfl)|(rw[ay,aX rfl];rfl)|skip)
 ·rw[aP hc]
  have I:(x.ma%11=3)=False:=ru hc;simp(disch:=omega) only[↓zd,seval,push_cast,A,u,h9,B,l,j,x1,J,O,N,K,C,I];refine(aol (by kernel_rfl) (x:=x) (p0:=p0) (n:=n) (nh:=nh) (hs:=hs) (id:=id) (lg:=lg) (dt:=dt) (a:=a) (c:=0) ok ?_ ?_ ?_ ?_ ?_ ?_ T ?_ R).trans ?_;(all_goals try simp only[↓zg,seval,A,u,h9,B,l,j,r]);all_goals try first|rfl|trivial|(simp only[zr,seval,A,u,h9,B,l,j,r];done)
  all_goals (first|done|exact r|(rw[cz];rfl)|(rw[ay,aX rfl];rfl)|skip)
def It.gs(x:It)(fi:Int):List Gr:=if x.ma%17=4 then[⟨(Qm x.n1 fi).st,(Qm x.n1 fi).al,(Qm x.n1 fi).oc,3,decide (x.ma%2=0)⟩]else[]
def It.KR(x:It)(id lg dt fi:Int):Ev:=
 if x.kd%8=5 then⟨id,2,lg,dt,[],[],0,0,0,[]⟩
 else if x.kd%8=7 then⟨id,4,lg,dt,[],[],0,0,0,[]⟩
 else⟨id,1,lg,dt,x.hs fi,x.gs fi,x.ma%4,if x.ma%13=5 then 1+x.ma/13%4 else 0,if x.ma%11=3 then 1+x.ma/11%9 else 0,if x.ma%7=2 then[zB (x.ma/7%3)]else[]⟩
theorem It.aon(x:It)(fi:Int):∃t,x.hs fi=(Qm x.n1 fi).hd x.ti 0::t∧t.length<=1:=by
 unfold It.hs;split
 ·exact⟨_,rfl,by simp⟩
 ·exact⟨_,rfl,by simp⟩
theorem c66{L:Mem}{x:It}{q k:Nat}{lg dt fi:Int}(ok:tQ x)(hr:ax L (.g q)=kF k)(hq:L.b<=q)(hk:k<=1000000)(hb:L.b<=L.D.length):call bn 66 [.ptr 0 (.g q) 1 0 0,.agg x.v,.agg [.i lg,.i dt],.i fi] (L::H)=some (.agg (sE true L.D.length (x.KR (k+1:Nat) lg dt fi)),some (dE L.D q (kF (k+1))++rE true false (x.KR (k+1:Nat) lg dt fi))):=by
 have lq:q<L.D.length:=gX hr (by simp[kF]);have C:(Ht.start false (L::H)).D=L.D:=rfl;have K:(Ht.start false (L::H)).b=L.b:=rfl;have hO:∀i,ax (Ht.start false (L::H)) (.o i)=⟨0,0,[],false⟩:=fun i=>jB;obtain⟨D1,ng⟩:∃D1,dE L.D q (kF (k+1))=D1:=⟨_,rfl⟩
 have zI:D1.length=L.D.length:=by rw[<-ng,fw];omega
 rw[ng];refine(av (by conv=>lhs;reduce)).trans ?_;simp only[↓zo,zp,seval];have B:sb 66 29=_:=(by conv=>lhs;reduce);simp only[↓zo,zp,seval]at B;rw[<-B];generalize Ht.start false (L::H)=J at*;have R:=fun r1 r2 r3 r4=>c12 (H:=L::H) (L:=bu (bu (bu (bu J (.o 1) r1) (.o 2) r2) (.o 3) r3) (.o 4) r4) (q:=q) (k:=k) (by show eP J.D q=_;rw[C];exact hr) (by show J.b<=q;omega) (by omega);simp only[cz,C,ng]at R;have I:=fun O r=>auR (H:=L::H) (L:=bu ⟨D1,O,J.b⟩ (.o 4) r) (x:=x) (fi:=fi) ok (by show J.b<=D1.length;omega);simp only[cz,zI,K]at I;obtain⟨o1,o2,o3,o4,c⟩:=ok;have x1:=x.sz.1;have T:=x.sz.2;have x4:=x.tk;have x5:=x.sc;have Z:x.v[0]? =some (.int .u8 x.kd):=rfl;have Y:x.v[5]? =some (.int .u16 x.ma):=rfl;have t1:x.kd.tmod 8=x.kd%8:=dP o1.1;have u:zK [[.i 0,.i 0,.i 0,.i 0,.i 0,.aL,.aL,.i 0,.i 0,.i 0,.aL,.i 0,.i 0]] [.i 0,.i 0,.i 0,.i 0,.i 0,.aL,.aL,.i 0,.i 0,.i 0,.aL,.i 0,.i 0]=true:=rfl;generalize Yo:((k+1:Nat):Int)=id at*;generalize k+1=k1 at*;by_cases F:x.kd%8=5
 ·have l:x.KR id lg dt fi=⟨id,2,lg,dt,[],[],0,0,0,[]⟩:=by unfold It.KR;rw[aX F]
  rw[l];clear l;unfold sE rE wH De yL Fz Ev.vg;simp(disch:=omega) only[↓zd,seval,push_cast,C,K,hO,x1,T,x4,x5,Z,Y,t1,R,I,u,jZ,iZ,F];rfl
 ·by_cases N:x.kd%8=7
  ·have l:x.KR id lg dt fi=⟨id,4,lg,dt,[],[],0,0,0,[]⟩:=by unfold It.KR;rw[aP F,aX N]
   rw[l];clear l;unfold sE rE wH De yL Fz Ev.vg;simp(disch:=omega) only[↓zd,seval,push_cast,C,K,hO,x1,T,x4,x5,Z,Y,t1,R,I,u,jZ,iZ,N];rfl
  ·have l:x.KR id lg dt fi=⟨id,1,lg,dt,x.hs fi,x.gs fi,x.ma%4,if x.ma%13=5 then 1+x.ma/13%4 else 0,if x.ma%11=3 then 1+x.ma/11%9 else 0,if x.ma%7=2 then[zB (x.ma/7%3)]else[]⟩:=by unfold It.KR;rw[aP F,aP N]
   rw[l];clear l;obtain⟨t,A,htl⟩:=x.aon fi;obtain⟨nh,j⟩:∃nh,(x.hs fi).length=nh:=⟨_,rfl⟩
   have Wh:0<nh:=by rw[<-j,A];simp
   have e1:yL true L.D.length (x.hs fi)= .ref 0 (.g L.D.length) nh 5 0 nh:=by
    unfold yL;rw[aP (by rw[A];simp),aX rfl,j]
   have e2:wH true false (x.hs fi)=[⟨nh,5,(x.hs fi).map Hd.v,false⟩]:=by
    unfold wH;rw[aP (by rw[A];simp),aX rfl,j]
   rw[e1,e2]at I;have e3:sE true L.D.length (⟨id,1,lg,dt,x.hs fi,x.gs fi,x.ma%4,if x.ma%13=5 then 1+x.ma/13%4 else 0,if x.ma%11=3 then 1+x.ma/11%9 else 0,if x.ma%7=2 then[zB (x.ma/7%3)]else[]⟩:Ev)=[.i 1,.i id,.i 1,.i lg,.i dt,.ref 0 (.g L.D.length) nh 5 0 nh,cu 5 ((x.gs fi).map Gr.v),.i (x.ma%4),.i (if x.ma%13=5 then 1+x.ma/13%4 else 0),.i (if x.ma%11=3 then 1+x.ma/11%9 else 0),cu 2 ((if x.ma%7=2 then[zB (x.ma/7%3)]else[]).map Lv),.i 0,.i 0]:=by
    unfold sE Fz Ev.vg;dsimp only;rw[e1];rfl
   have e4:rE true false (⟨id,1,lg,dt,x.hs fi,x.gs fi,x.ma%4,if x.ma%13=5 then 1+x.ma/13%4 else 0,if x.ma%11=3 then 1+x.ma/11%9 else 0,if x.ma%7=2 then[zB (x.ma/7%3)]else[]⟩:Ev)=[⟨nh,5,(x.hs fi).map Hd.v,false⟩]:=by
    unfold rE De;dsimp only;rw[e2];rfl
   rw[e3,e4];have hg:∀O b,ax (⟨D1++[⟨nh,5,(x.hs fi).map Hd.v,false⟩],O,b⟩:Mem) (.g L.D.length)=⟨nh,5,(x.hs fi).map Hd.v,false⟩:=fun O b=>jC zI;have h0:(x.hs fi)[0]? =some ((Qm x.n1 fi).hd x.ti 0):=by rw[A];rfl
   unfold It.gs;generalize Qm x.n1 fi=p0 at*;have g1:(p0.hd x.ti 0).v.length=5:=rfl;have g2:(p0.hd x.ti 0).v.take 3=[.i p0.st,.i p0.al,.i p0.oc]:=rfl;have u1:x.ma.tmod 4=x.ma%4:=dP c.1;have u2:x.ma.tmod 11=x.ma%11:=dP c.1;have u3:x.ma.tdiv 11=x.ma/11:=jM c.1;have u4:(x.ma/11).tmod 9=x.ma/11%9:=dP (by omega);have u5:x.ma.tmod 13=x.ma%13:=dP c.1;have u6:x.ma.tdiv 13=x.ma/13:=jM c.1;have u7:(x.ma/13).tmod 4=x.ma/13%4:=dP (by omega);have u8:x.ma.tmod 7=x.ma%7:=dP c.1;have u9:x.ma.tdiv 7=x.ma/7:=jM c.1;have ua:(x.ma/7).tmod 3=x.ma/7%3:=dP (by omega);have ub:x.ma.tmod 17=x.ma%17:=dP c.1;have uc:x.ma.tmod 2=x.ma%2:=dP c.1;have U:∀m:Int,0<=m∧m<=65535->IntKind.u16.wrap m=m:=fun m h=>by
    show(m%65536)=m;omega
   have w7:=U (x.ma/7) (by omega);have X:=U (x.ma/11) (by omega);have W:=U (x.ma/13) (by omega);have wp:0<=x.ma/7%3:=by omega
   have hw:([[.str ⟨#[108,97]⟩],[.str ⟨#[115,111,108]⟩],[.str ⟨#[97]⟩]]:List (List V))[(x.ma/7%3).toNat]? =some [.str (zB (x.ma/7%3))]:=by
    have:x.ma/7%3=0∨x.ma/7%3=1∨x.ma/7%3=2:=by omega
    rcases this with h|h|h<;>rw[h]<;>rfl
   clear e1 e2 e3 e4 A htl j;generalize (x.hs fi)=hs at*;simp(disch:=omega) only[↓zd,seval,push_cast,C,K,hO,x1,T,x4,x5,Z,Y,t1,R,I,u,jZ,iZ,F,N,hg,h0,Wh,g1,g2,u1,u2,u3,u4,u5,u6,u7,u8,u9,ua,ub,uc,hw,w7,X,W,wp];refine(auU (by kernel_rfl) (x:=x) (p0:=p0) (n:=L.D.length) (nh:=nh) (hs:=hs) (id:=id) (lg:=lg) (dt:=dt) (a:=x.ma%4) ⟨o1,o2,o3,o4,c⟩ ?_ ?_ ?_ ?_ ?_ ?_ Wh ?_ h0).trans ?_;(all_goals try simp only[↓zg,seval]);all_goals try first|rfl|trivial|(simp only[zr,seval];done)
   all_goals (first|done|exact hg _ _|(rw[ay,aX rfl];rfl)|skip)
   simp only[cz];unfold grV;by_cases Q:x.ma%17=4
   ·rw[aX Q,aX Q];rfl
   ·rw[aP Q,aP Q];rfl
def uO:List (Int×Int):=(List.range 40).map fun i=>(((i/4:Nat):Int)-1,((3-i%4:Nat):Int))
theorem auW:OX=uO.map Iw:=by kernel_rfl
theorem auX:call bn 108 [] H=some (.sl .any 2 (uO.map Iw),none):=by
 rw[<-auW];exact(Fg (show bn.fn 108=none from rfl)).trans rfl
def xC:List Int:=uO.map fun p=>tk p.1 p.2/945
theorem aeo:∀p∈uO,(-1<=p.1∧p.1<=8)∧0<=p.2∧p.2<=3:=by decide
theorem aaW:(uO.all fun p=>decide (0<tk p.1 p.2/945)&&decide (tk p.1 p.2/945<=10000)&&decide (0<=tk p.1 p.2))=true:=by kernel_rfl
def IZ(t:List Int)(n:Nat):Int->List Int->Int
 |b,[]=>b
 |b,u::l=>IZ t n (if u<=n∧0<=t.getD (n-u.toNat) 0∧(b<0∨t.getD (n-u.toNat) 0+1<b)then t.getD (n-u.toNat) 0+1 else b) l
def xM:Nat->List Int
 |0=>[0]
 |n+1=>xM n++[IZ (xM n) (n+1) (-1) xC]
theorem sj(n:Nat):(xM n).length=n+1:=by
 induction n with
 |zero=>rfl
 |succ n c=>rw[xM,aF,c];rfl
theorem auY{cX:eu}(qG:cX=sb 67 26){fr:List V}{M:Mem}{K:List KI}{R:Option (V×Option (List Row))}{lv:V}(W:ag fr 30= .i 40)(Du:ag fr 29=cu 2 (uO.map Iw))(U:ag fr 5= .aL)(Y:ag fr 31= .i 0)
  (done:∀fr' r,(∀j,j<5∨(8<=j∧j<=30)->ag fr' j=ag fr j)->sF r 3 1 (ag fr' 5) (xC.map fun u=>[.i u])->ax r (.o 1)=ax M (.o 1)->G bn H true [.tmp 2,.tmp 3] K fr' r=R):
  G bn H true [.tmp 2,.tmp 3] (.code (.loop cX):: .blk 1::K) fr M=R:=by
 subst qG;conv in sb _ _=>reduce
 simp only[↓zo,zp,seval];refine bI (fun i fr' r=>(∀j,j<5∨(8<=j∧j<=30)->ag fr' j=ag fr j)∧ag fr' 31= .i i∧sF r 3 1 (ag fr' 5) ((xC.take i).map fun u=>[.i u])∧ax r (.o 1)=ax M (.o 1)) 40 ⟨fun j _=>rfl,Y,.inl ⟨rfl,U⟩,rfl⟩ ?_ ?_
 ·clear done Y U
  rintro i lV X hi ⟨l,g,I,F⟩ next
  have C:=l 30 (by omega);have B:=l 29 (by omega);rw[W]at C;rw[Du]at B;have hvl:uO.length=40:=rfl;have I1:xC.length=40:=rfl;obtain⟨p,hp⟩:∃p,uO[i]? =some p:=⟨_,ak (by omega)⟩
  have Q:xC[i]? =some (tk p.1 p.2/945):=by unfold xC;rw[aK,hp];rfl
  have J:=aeo p (ah hp);have N:=aV.1 aaW p (ah hp);simp only[aH,bN]at N;have c:=fun H=>amF (H:=H) J.1 J.2;have q:(tk p.1 p.2).tdiv 945=tk p.1 p.2/945:=jM N.2;have Z:IntKind.i64.wrap (tk p.1 p.2/945)=tk p.1 p.2/945:=FU (by omega);have A:(xC.take (i+1)).map (fun u=>[V.i u])=(xC.take i).map (fun u=>[V.i u])++[[.i (tk p.1 p.2/945)]]:=by rw[aY,Q,aR];rfl
  have TK:((xC.take i).map fun u=>[V.i u]).length=i:=by simp;omega
  have O:(uO.map Iw)[i]? =some (Iw p):=by rw[aK,hp];rfl
  rw[A]at next
  have ap:=fun r1 r2 H=>lN (H:=H) (M:=bu (bu X (.o 2) r1) (.o 2) r2) (bytes:=8) I (by simp[ay]) (by omega) (by omega) (x:=[.i (tk p.1 p.2/945)]) rfl rfl;generalize (xC.take i).map (fun u=>[V.i u])=els at*;generalize tk p.1 p.2/945=u at*;generalize tk p.1 p.2=t at*;have j1:(Iw p).length=2:=rfl;have j2:(Iw p).take 2=Iw p:=rfl;have j3:(Iw p).all V.scalar=true:=rfl;have j4:∀d,V.bW d (Iw p)=Iw p:=fun _=>rfl;change∀H,call bn 106 [.agg (Iw p)] H=_ at c;generalize Iw p=pv at*;generalize (uO.map Iw)=vs at*;clear I1 Q A J N hp I;simp(disch:=omega) only[↓zd,seval,push_cast,g,C,B,O,j1,j2,j3,j4,c,q,Z,ap];refine next _ _ ⟨?_,?_,?_,?_⟩
  ·intro j T
   simp(disch:=omega) only[bU,bY];exact l j T
  ·(all_goals try simp only[↓zg,seval]);all_goals try first|rfl|trivial|(simp only[zr,seval];done)
  ·simp only[↓zg,seval]
   exact mJ (by omega) (by rw[ay,aX rfl])
  ·(all_goals try simp only[↓zg,seval,F]);all_goals try first|rfl|trivial|(simp only[zr,seval,F];done)
   all_goals trace_state
 ·rintro lV X ⟨l,g,I,F⟩
  have C:=l 30 (by omega);rw[W]at C;have dn:=done;clear done;simp(disch:=omega) only[↓zd,seval,push_cast,g,C];refine dn _ _ ?_ ?_ F
  ·intro j T
   simp(disch:=omega) only[bU,bY];exact l j (by omega)
  ·simp only[↓zg,seval]
   exact I
def yh(t:List Int):List (List V):=t.map fun x=>[.i x]
theorem Af(t:List Int):(yh t).length=t.length:=aG _
def Mx(M:Mem)(lv:V)(t:List Int):Prop:=lv= .sl .full 1 (yh t)∨∃ver,0<ver∧lv= .ref 0 (.o 5) ver 1 0 t.length∧ax M (.o 5)=⟨ver,1,yh t,false⟩
theorem auZ{cX:eu}(qG:cX=sb 67 60){fr:List V}{M:Mem}{K:List KI}{R:Option (V×Option (List Row))}{t us:List Int}{N ver w:Nat}{lv:V}(hN:t.length=N)(ht:∀x∈t,-1<=x∧x<=100000)(hu:∀u∈us,0<u∧u<=10000)(I1:us.length<=100)(hNb:N<=100000)
  (h8:ag fr 8= .ptr 0 (.o 4) w 0 0)(h9:ag fr 9= .i N)(iQ:ag fr 10= .i (-1))(Fp:ag fr 48= .ref 0 (.o 3) ver 1 0 us.length)(CB:ag fr 49= .i us.length)(Z5:ag fr 50= .i 0)(Y:0<ver)(X:0<w)
  (W:ax M (.o 3)=⟨ver,1,yh us,false⟩)(U:ax M (.o 4)=⟨w,1,[[lv]],false⟩)(hT:Mx M lv t)
  (done:∀fr',(∀j,j<10∨(13<=j∧j<=49)->ag fr' j=ag fr j)->ag fr' 10= .i (IZ t N (-1) us)->G bn H true [.tmp 2,.tmp 3] K fr' M=R):
  G bn H true [.tmp 2,.tmp 3] (.code (.loop cX):: .blk 5::K) fr M=R:=by
 subst qG;conv in sb _ _=>reduce
 simp only[↓zo,zp,seval];unfold Mx at hT;refine bI (fun i fr' M'=>M'=M∧(∀j,j<10∨(13<=j∧j<=49)->ag fr' j=ag fr j)∧ag fr' 50= .i i∧∃b:Int,ag fr' 10= .i b∧-1<=b∧b<=100001∧IZ t N (-1) us=IZ t N b (us.drop i)) us.length ⟨rfl,fun j _=>rfl,Z5,-1,iQ,by omega,by omega,by rw[dH]⟩ ?_ ?_
 ·clear done Z5 iQ
  rintro i lV M1 hi ⟨rfl,C,g,b,c,o7,hb2,hbs⟩ next
  have T:=C 8 (by omega);have Q:=C 9 (by omega);have r:=C 48 (by omega);have I:=C 49 (by omega);rw[h8]at T;rw[h9]at Q;rw[Fp]at r;rw[CB]at I;clear h8 h9 Fp CB;obtain⟨u,Z⟩:∃u,us[i]? =some u:=⟨_,ak hi⟩
  have hui:=hu u (ah Z);have GA:(yh us)[i]? =some [.i u]:=by unfold yh;rw[aK,Z];rfl
  have A:=Af us;rw[kE Z]at hbs;rw[IZ]at hbs;clear hu Z;generalize yh us=UE at*;generalize us.drop (i+1)=dr at*;generalize us.length=ul at*;by_cases J:u<=N
  ·have hi2:((N:Int)-u).toNat=N-u.toNat:=by omega
   obtain⟨x,hx⟩:∃x,t[N-u.toNat]? =some x:=⟨_,ak (by omega)⟩
   have hxb:=ht x (ah hx);have hxg:t.getD (N-u.toNat) 0=x:=by rw[fA,hx];rfl
   rw[hxg]at hbs;have Ig:(yh t)[((N:Int)-u).toNat]? =some [.i x]:=by rw[hi2];unfold yh;rw[aK,hx];rfl
   have hlt:=Af t;generalize yh t=TE at*;have LZ:TE.length=N:=by omega
   rw[hN]at hT;have X0:0<=(N:Int)-u:=by omega
   have TI:(N:Int)-u<N:=by omega
   clear hx hxg ht hi2;by_cases l:0<=x
   ·by_cases Yt:b<0∨x+1<b
    ·rw[aX ⟨J,l,Yt⟩]at hbs
     by_cases AV:b<0
     ·rcases hT with rfl|⟨PE,F,rfl,IX⟩
      ·simp(disch:=omega) only[↓zd,seval,push_cast,T,Q,r,I,g,c,W,U,GA,A,Ig,LZ,X0,TI,hN,J,Y,X,l,AV]
       refine next _ _ ⟨rfl,?_,?_,x+1,?_,by omega,by omega,hbs⟩
       ·intro j B
        simp(disch:=omega) only[bU,bY];exact C j B
       ·(all_goals try simp only[↓zg,seval]);all_goals try first|rfl|trivial|(simp only[zr,seval];done)
       ·(all_goals try simp only[↓zg,seval,c]);all_goals try first|rfl|trivial|(simp only[zr,seval,c];done)
      ·simp(disch:=omega) only[↓zd,seval,push_cast,T,Q,r,I,g,c,W,U,GA,A,Ig,LZ,X0,TI,hN,J,Y,X,IX,F,l,AV]
       refine next _ _ ⟨rfl,?_,?_,x+1,?_,by omega,by omega,hbs⟩
       ·intro j B
        simp(disch:=omega) only[bU,bY];exact C j B
       ·(all_goals try simp only[↓zg,seval]);all_goals try first|rfl|trivial|(simp only[zr,seval];done)
       ·(all_goals try simp only[↓zg,seval,c]);all_goals try first|rfl|trivial|(simp only[zr,seval,c];done)
     ·have O:x+1<b:=by omega
      rcases hT with rfl|⟨PE,F,rfl,IX⟩
      ·simp(disch:=omega) only[↓zd,seval,push_cast,T,Q,r,I,g,c,W,U,GA,A,Ig,LZ,X0,TI,hN,J,Y,X,l,AV,O]
       refine next _ _ ⟨rfl,?_,?_,x+1,?_,by omega,by omega,hbs⟩
       ·intro j B
        simp(disch:=omega) only[bU,bY];exact C j B
       ·(all_goals try simp only[↓zg,seval]);all_goals try first|rfl|trivial|(simp only[zr,seval];done)
       ·(all_goals try simp only[↓zg,seval,c]);all_goals try first|rfl|trivial|(simp only[zr,seval,c];done)
      ·simp(disch:=omega) only[↓zd,seval,push_cast,T,Q,r,I,g,c,W,U,GA,A,Ig,LZ,X0,TI,hN,J,Y,X,IX,F,l,AV,O]
       refine next _ _ ⟨rfl,?_,?_,x+1,?_,by omega,by omega,hbs⟩
       ·intro j B
        simp(disch:=omega) only[bU,bY];exact C j B
       ·(all_goals try simp only[↓zg,seval]);all_goals try first|rfl|trivial|(simp only[zr,seval];done)
       ·(all_goals try simp only[↓zg,seval,c]);all_goals try first|rfl|trivial|(simp only[zr,seval,c];done)
    ·rw[aP (fun h=>Yt h.2.2)]at hbs
     have AV:¬b<0:=fun h=>Yt (.inl h);have O:¬x+1<b:=fun h=>Yt (.inr h);rcases hT with rfl|⟨PE,F,rfl,IX⟩
     ·simp(disch:=omega) only[↓zd,seval,push_cast,T,Q,r,I,g,c,W,U,GA,A,Ig,LZ,X0,TI,hN,J,Y,X,l,AV,O]
      refine next _ _ ⟨rfl,?_,?_,b,?_,by omega,by omega,hbs⟩
      ·intro j B
       simp(disch:=omega) only[bU,bY];exact C j B
      ·(all_goals try simp only[↓zg,seval]);all_goals try first|rfl|trivial|(simp only[zr,seval];done)
      ·(all_goals try simp only[↓zg,seval,c]);all_goals try first|rfl|trivial|(simp only[zr,seval,c];done)
     ·simp(disch:=omega) only[↓zd,seval,push_cast,T,Q,r,I,g,c,W,U,GA,A,Ig,LZ,X0,TI,hN,J,Y,X,IX,F,l,AV,O]
      refine next _ _ ⟨rfl,?_,?_,b,?_,by omega,by omega,hbs⟩
      ·intro j B
       simp(disch:=omega) only[bU,bY];exact C j B
      ·(all_goals try simp only[↓zg,seval]);all_goals try first|rfl|trivial|(simp only[zr,seval];done)
      ·(all_goals try simp only[↓zg,seval,c]);all_goals try first|rfl|trivial|(simp only[zr,seval,c];done)
   ·rw[aP (fun h=>l h.2.1)]at hbs
    rcases hT with rfl|⟨PE,F,rfl,IX⟩
    ·simp(disch:=omega) only[↓zd,seval,push_cast,T,Q,r,I,g,c,W,U,GA,A,Ig,LZ,X0,TI,hN,J,Y,X,l]
     refine next _ _ ⟨rfl,?_,?_,b,?_,by omega,by omega,hbs⟩
     ·intro j B
      simp(disch:=omega) only[bU,bY];exact C j B
     ·(all_goals try simp only[↓zg,seval]);all_goals try first|rfl|trivial|(simp only[zr,seval];done)
     ·(all_goals try simp only[↓zg,seval,c]);all_goals try first|rfl|trivial|(simp only[zr,seval,c];done)
    ·simp(disch:=omega) only[↓zd,seval,push_cast,T,Q,r,I,g,c,W,U,GA,A,Ig,LZ,X0,TI,hN,J,Y,X,IX,F,l]
     refine next _ _ ⟨rfl,?_,?_,b,?_,by omega,by omega,hbs⟩
     ·intro j B
      simp(disch:=omega) only[bU,bY];exact C j B
     ·(all_goals try simp only[↓zg,seval]);all_goals try first|rfl|trivial|(simp only[zr,seval];done)
     ·(all_goals try simp only[↓zg,seval,c]);all_goals try first|rfl|trivial|(simp only[zr,seval,c];done)
  ·rw[aP (fun h=>J h.1)]at hbs
   simp(disch:=omega) only[↓zd,seval,push_cast,T,Q,r,I,g,c,W,U,GA,A,hN,J,Y,X];refine next _ _ ⟨rfl,?_,?_,b,?_,by omega,by omega,hbs⟩
   ·intro j B
    simp(disch:=omega) only[bU,bY];exact C j B
   ·(all_goals try simp only[↓zg,seval]);all_goals try first|rfl|trivial|(simp only[zr,seval];done)
   ·(all_goals try simp only[↓zg,seval,c]);all_goals try first|rfl|trivial|(simp only[zr,seval,c];done)
 ·rintro lV M1 ⟨rfl,C,g,b,c,o7,hb2,hbs⟩
  have I:=C 49 (by omega);rw[CB]at I;rw[dZ,IZ]at hbs;have dn:=done;clear done;simp(disch:=omega) only[↓zd,seval,push_cast,I,g];refine dn _ ?_ ?_
  ·intro j B
   simp(disch:=omega) only[bU,bY];exact C j B
  ·(all_goals try simp only[↓zg,seval,c,hbs]);all_goals try first|rfl|trivial|(simp only[zr,seval,c,hbs];done)
theorem ajg{t:List Int}{n:Nat}{m:Int}(hm:0<=m)(l:∀x∈t,-1<=x∧x<=m):∀(us:List Int)(b:Int),-1<=b->b<=m+1->-1<=IZ t n b us∧IZ t n b us<=m+1:=by
 intro us;induction us with
 |nil=>intro b g c;exact⟨g,c⟩
 |cons u us j=>
  intro b g c;rw[IZ];have hx: -1<=t.getD (n-u.toNat) 0∧t.getD (n-u.toNat) 0<=m:=by
   rw[fA];cases h:t[n-u.toNat]?with
   |none=>simp;omega
   |some x=>exact l x (ah h)
  split
  ·exact j _ (by omega) (by omega)
  ·exact j _ g c
theorem UA(n:Nat):∀x∈xM n,-1<=x∧x<=n:=by
 induction n with
 |zero=>intro x hx;simp[xM]at hx;subst hx;omega
 |succ n c=>
  intro x hx;rw[xM]at hx;rcases dx.1 hx with hx|hx
  ·have:=c x hx;omega
  ·rw[dA.1 hx]
   have:=ajg (n:=n+1) (m:=(n:Int)) (by omega) c xC (-1) (by omega) (by omega);omega
theorem NF:∀u∈xC,0<u∧u<=10000:=by
 intro u g;obtain⟨p,hp,rfl⟩:=dQ.1 g;have c:=aV.1 aaW p hp;simp only[aH,bN]at c;exact⟨c.1.1,c.1.2⟩
theorem Dy:xC.length=40:=rfl
theorem au0{cX:eu}(qG:cX=sb 67 45){fr:List V}{M:Mem}{K:List KI}{R:Option (V×Option (List Row))}{N ver v1 w:Nat}(hNb:N<=90000)
  (h1:ag fr 1= .ptr 0 (.o 1) v1 0 0)(h5:ag fr 5= .ref 0 (.o 3) ver 1 0 40)(h8:ag fr 8= .ptr 0 (.o 4) w 0 0)(h9:ag fr 9= .i 1)(hv:0<ver)(F:0<v1)(Q:0<w)
  (gG:ax M (.o 1)=⟨v1,1,[[.i N]],false⟩)(ji:ax M (.o 3)=⟨ver,1,yh xC,false⟩)(nk:ax M (.o 4)=⟨w,1,[[.sl .full 1 (yh (xM 0))]],false⟩)
  (done:∀fr' r lv,(∀j,j<9∨(13<=j∧j<=42)->ag fr' j=ag fr j)->ax r (.o 1)=⟨v1,1,[[.i N]],false⟩->ax r (.o 3)=⟨ver,1,yh xC,false⟩->ax r (.o 4)=⟨w,1,[[lv]],false⟩->Mx r lv (xM N)->G bn H true [.tmp 2,.tmp 3] K fr' r=R):
  G bn H true [.tmp 2,.tmp 3] (.code (.loop cX):: .blk 3::K) fr M=R:=by
 subst qG;conv in sb _ _=>reduce
 simp only[↓zo,zp,seval];refine bI (fun i fr' r=>(∀j,j<9∨(13<=j∧j<=42)->ag fr' j=ag fr j)∧ag fr' 9= .i (i+1:Nat)∧ax r (.o 1)=⟨v1,1,[[.i N]],false⟩∧ax r (.o 3)=⟨ver,1,yh xC,false⟩∧∃lv,ax r (.o 4)=⟨w,1,[[lv]],false⟩∧Mx r lv (xM i)) N ⟨fun j _=>rfl,h9,gG,ji,_,nk,.inl rfl⟩ ?_ ?_
 ·clear done h9 gG ji nk
  rintro i lV Y hi ⟨u,J,c,g,lv,l,I⟩ next
  have g1:=u 1 (by omega);have g5:=u 5 (by omega);have O:=u 8 (by omega);rw[h1]at g1;rw[h5]at g5;rw[h8]at O;have A:((i+1:Nat):Int)<=N:=by omega
  have i1:((i+1:Nat):Int)+1=((i+1+1:Nat):Int):=by omega
  generalize U:i+1=n at*;simp(disch:=omega) only[↓zd,seval,push_cast,g1,g5,O,J,c,F,A];refine auZ (by kernel_rfl) (t:=xM i) (us:=xC) (N:=n) (ver:=ver) (w:=w) (lv:=lv) (by rw[sj];omega) (fun x hx=>by have:=UA i x hx;omega) NF (by rw[Dy];omega) (by omega) ?_ ?_ ?_ ?_ ?_ ?_ hv Q g l I ?_
  ·simp only[↓zg,Nat.reduceEqDiff,reduceCtorEq,↓reduceIte,O]
  ·simp only[↓zg,Nat.reduceEqDiff,reduceCtorEq,↓reduceIte,J]
  ·simp only[↓zg,Nat.reduceEqDiff,reduceCtorEq,↓reduceIte]
  ·simp only[↓zg,Nat.reduceEqDiff,reduceCtorEq,↓reduceIte,Dy]
  ·simp only[↓zg,Nat.reduceEqDiff,reduceCtorEq,↓reduceIte,Dy]
   rfl
  ·simp only[↓zg,Nat.reduceEqDiff,reduceCtorEq,↓reduceIte]
  intro fr' C Z;have k1:ag fr' 1= .ptr 0 (.o 1) v1 0 0:=by rw[C 1 (by omega)];simp only[↓zg,Nat.reduceEqDiff,reduceCtorEq,↓reduceIte,g1]
  have k8:ag fr' 8= .ptr 0 (.o 4) w 0 0:=by rw[C 8 (by omega)];simp only[↓zg,Nat.reduceEqDiff,reduceCtorEq,↓reduceIte,O]
  have k9:ag fr' 9= .i n:=by rw[C 9 (by omega)];simp only[↓zg,Nat.reduceEqDiff,reduceCtorEq,↓reduceIte,J]
  have kk:∀j,j<9∨(13<=j∧j<=42)->ag fr' j=ag fr j:=by
   intro j B;rw[C j (by omega)];simp(disch:=omega) only[bU,bY];exact u j B
  have RJ:yh (xM i)++[[.i (IZ (xM i) n (-1) xC)]]=yh (xM n):=by
   rw[<-U,xM];unfold yh;rw[aR];rfl
  have He:(yh (xM i)).length=n:=by rw[Af,sj];omega
  have X:(xM i).length=n:=by rw[sj];omega
  have W:(xM n).length=n+1:=by rw[sj]
  clear C u;have gB:((yh (xM i)++[[V.i (IZ (xM i) n (-1) xC)]]).all fun e=>decide (e.length=1∧e.all V.scalar=true))=true:=by rw[RJ];unfold yh;rw[vk];exact aV.2 fun x _=>by simp[V.scalar]
  unfold Mx at*;rw[<-RJ]at next
  rw[W]at next
  rw[X]at I;generalize yh (xM i)=T0 at*;generalize IZ (xM i) n (-1) xC=b at*;generalize yh xC=UU at*;rcases I with rfl|⟨PE,T,rfl,IX⟩
  ·simp(disch:=omega) only[↓zd,seval,push_cast,k1,k8,k9,Z,c,g,l,Q,He,gB]
   refine next _ _ ⟨?_,?_,?_,?_,.ref 0 (.o 5) ((ax Y (.o 5)).ver+1) 1 0 (n+1),?_,.inr ⟨(ax Y (.o 5)).ver+1,by omega,rfl,?_⟩⟩
   ·intro j B
    simp(disch:=omega) only[bU,bY];exact kk j B
   ·(all_goals try simp only[↓zg,Nat.reduceEqDiff,reduceCtorEq,↓reduceIte]);all_goals try first|rfl|trivial|(simp only[zr,Nat.reduceEqDiff,reduceCtorEq,↓reduceIte];done)
   ·(all_goals try simp only[↓zg,Nat.reduceEqDiff,reduceCtorEq,↓reduceIte,c]);all_goals try first|rfl|trivial|(simp only[zr,Nat.reduceEqDiff,reduceCtorEq,↓reduceIte,c];done)
   ·(all_goals try simp only[↓zg,Nat.reduceEqDiff,reduceCtorEq,↓reduceIte,g]);all_goals try first|rfl|trivial|(simp only[zr,Nat.reduceEqDiff,reduceCtorEq,↓reduceIte,g];done)
   ·(all_goals try simp only[↓zg,Nat.reduceEqDiff,reduceCtorEq,↓reduceIte]);all_goals try first|rfl|trivial|(simp only[zr,Nat.reduceEqDiff,reduceCtorEq,↓reduceIte];done)
   ·(all_goals try simp only[↓zg,Nat.reduceEqDiff,reduceCtorEq,↓reduceIte]);all_goals try first|rfl|trivial|(simp only[zr,Nat.reduceEqDiff,reduceCtorEq,↓reduceIte];done)
  ·have tk:T0.take n=T0:=aO (by omega)
   simp(disch:=omega) only[↓zd,seval,push_cast,k1,k8,k9,Z,c,g,l,Q,T,IX,He,tk,gB];refine next _ _ ⟨?_,?_,?_,?_,.ref 0 (.o 5) (PE+1) 1 0 (n+1),?_,.inr ⟨PE+1,by omega,rfl,?_⟩⟩
   ·intro j B
    simp(disch:=omega) only[bU,bY];exact kk j B
   ·(all_goals try simp only[↓zg,Nat.reduceEqDiff,reduceCtorEq,↓reduceIte]);all_goals try first|rfl|trivial|(simp only[zr,Nat.reduceEqDiff,reduceCtorEq,↓reduceIte];done)
   ·(all_goals try simp only[↓zg,Nat.reduceEqDiff,reduceCtorEq,↓reduceIte,c]);all_goals try first|rfl|trivial|(simp only[zr,Nat.reduceEqDiff,reduceCtorEq,↓reduceIte,c];done)
   ·(all_goals try simp only[↓zg,Nat.reduceEqDiff,reduceCtorEq,↓reduceIte,g]);all_goals try first|rfl|trivial|(simp only[zr,Nat.reduceEqDiff,reduceCtorEq,↓reduceIte,g];done)
   ·(all_goals try simp only[↓zg,Nat.reduceEqDiff,reduceCtorEq,↓reduceIte]);all_goals try first|rfl|trivial|(simp only[zr,Nat.reduceEqDiff,reduceCtorEq,↓reduceIte];done)
   ·(all_goals try simp only[↓zg,Nat.reduceEqDiff,reduceCtorEq,↓reduceIte]);all_goals try first|rfl|trivial|(simp only[zr,Nat.reduceEqDiff,reduceCtorEq,↓reduceIte];done)
 ·rintro lV Y ⟨u,J,c,g,lv,l,I⟩
  have g1:=u 1 (by omega);rw[h1]at g1;have A:¬((N+1:Nat):Int)<=N:=by omega
  have dn:=done;clear done;simp(disch:=omega) only[↓zd,seval,push_cast,g1,J,c,F,A];refine dn _ _ lv ?_ c g l I;intro j B;simp(disch:=omega) only[bU,bY];exact u j B
def En(n:Nat):Int:=(xM n).getD n 0
theorem yj{n:Nat}:∀{m:Nat},n<=m->(xM m)[n]? =some (En n):=by
 intro m;induction m with
 |zero=>
  intro h;obtain rfl:n=0:=by omega
  rfl
 |succ m c=>
  intro h;by_cases hn:n<=m
  ·rw[xM,jW (by rw[sj];omega),c hn]
  ·obtain rfl:n=m+1:=by omega
   unfold En;rw[fA];have:(m+1)<(xM (m+1)).length:=by rw[sj];omega
   rw[ak this];rfl
def IA(n:Nat)(u:Int):Bool:=decide (u<=n)&&decide (En (n-u.toNat)=En n-1)
theorem au3{A B M:Mem}{N n v1 w:Nat}{u:Int}{lv:V}(hn:n<=N)(hu:0<u∧u<=10000)(hNb:N<=90000)(Z:0<v1)(hw:0<w)(C:ax M (.o 1)=⟨v1,1,[[.i n]],false⟩)(l:ax M (.o 4)=⟨w,1,[[lv]],false⟩)(I:Mx M lv (xM N)):call bn 110 [.i u,.ptr 2 (.o 1) v1 0 0,.ptr 2 (.o 4) w 0 0] (A::M::H)=some (.bool (IA n u),none):=by
 have c:(yh (xM N)).length=N+1:=by rw[Af,sj]
 have W:(xM N).length=N+1:=by rw[sj]
 have F:(yh (xM N))[((n:Int)).toNat]? =some [.i (En n)]:=by rw[vO];unfold yh;rw[aK,yj hn];rfl
 have g:(yh (xM N))[n]? =some [.i (En n)]:=by unfold yh;rw[aK,yj hn];rfl
 have X:=UA N (En n) (ah (yj hn));unfold Mx at I;rw[W]at I;unfold IA;have n0:(0:Int)<=n:=by omega
 have n1:(n:Int)<(N+1:Nat):=by omega
 by_cases j:u<=n
 ·have Q:((n:Int)-u).toNat=n-u.toNat:=by omega
  have hx:(yh (xM N))[((n:Int)-u).toNat]? =some [.i (En (n-u.toNat))]:=by rw[Q];unfold yh;rw[aK,yj (by omega)];rfl
  have Y:=UA N (En (n-u.toNat)) (ah (yj (by omega)));have J:0<=(n:Int)-u:=by omega
  have K:(n:Int)-u<(N+1:Nat):=by omega
  generalize yh (xM N)=T at*;generalize En (n-u.toNat)=x at*;generalize En n=y at*;generalize N+1=N1 at*;rw[dW j,l9];by_cases r:x=y-1
  ·rw[dW r]
   rcases I with rfl|⟨ver,O,rfl,R⟩
   ·refine(av (by conv=>lhs;reduce)).trans ?_;simp only[↓zo,zp,seval]
    simp(disch:=omega) only[↓zd,seval,push_cast,C,l,j,hx,F,g,c,J,K,n0,n1,r]
   ·refine(av (by conv=>lhs;reduce)).trans ?_;simp only[↓zo,zp,seval]
    simp(disch:=omega) only[↓zd,seval,push_cast,C,l,j,hx,F,g,c,J,K,n0,n1,O,R,r]
  ·rw[fB r]
   have U:(x=y-1)=False:=ru r;rcases I with rfl|⟨ver,O,rfl,R⟩
   ·refine(av (by conv=>lhs;reduce)).trans ?_;simp only[↓zo,zp,seval]
    simp(disch:=omega) only[↓zd,seval,push_cast,C,l,j,hx,F,g,c,J,K,n0,n1,U]
   ·refine(av (by conv=>lhs;reduce)).trans ?_;simp only[↓zo,zp,seval]
    simp(disch:=omega) only[↓zd,seval,push_cast,C,l,j,hx,F,g,c,J,K,n0,n1,O,R,U]
 ·rw[fB j,iW]
  refine(av (by conv=>lhs;reduce)).trans ?_;simp only[↓zo,zp,seval];simp(disch:=omega) only[↓zd,seval,push_cast,C,l,j]
theorem au4{M:Mem}{us:List Int}{ver f:Nat}{caps:List V}{p:Int->Bool}(I:0<ver)(J:ax M (.o 3)=⟨ver,1,yh us,false⟩)(hl:us.length<=1000)(hc:V.scalar (.fn f caps)=true)(hp:∀A:Mem,∀u∈us,call bn f (.i u::V.bW 1 caps) (A::M::H)=some (.bool (p u),none)):call bn 109 [.ref 1 (.o 3) ver 1 0 us.length,.fn f caps] (M::H)=some (.i (match us.findIdx? p with|some i=>(i:Int)|none=> -1),none):=by
 have l:=Af us;refine(av (by conv=>lhs;reduce)).trans ?_;simp only[↓zo,zp,seval];generalize Ht.start true (M::H)=O at*;simp(disch:=omega) only[↓zd,seval,push_cast];refine bI (fun i fr L=>ag fr 0= .ref 1 (.o 3) ver 1 0 us.length∧ag fr 1= .fn f caps∧ag fr 7= .i us.length∧ag fr 8= .i i∧us.findIdx? p=((us.drop i).findIdx? p).map (·+i)) us.length ?_ ?_ ?_
 ·refine⟨?_,?_,?_,?_,by simp⟩
  (all_goals try simp only[↓zg,seval]);all_goals try first|rfl|trivial|(simp only[zr,seval];done)
 ·rintro i fr L K ⟨j,g,c,B,hf⟩ next
  obtain⟨u,F⟩:∃u,us[i]? =some u:=⟨_,ak K⟩
  have C:=hp L u (ah F);have hx:(yh us)[i]? =some [.i u]:=by unfold yh;rw[aK,F];rfl
  rw[kE F,List.findIdx?_cons]at hf;generalize yh us=N at*;cases r:p u with
  |true=>
   rw[r]at C;rw[aX r]at hf;rw[hf];clear next hf hp
   simp(disch:=omega) only[↓zd,seval,push_cast,j,g,c,B,J,hx,l,C,I]
  |false=>
   rw[r]at C;rw[aP (by rw[r];simp)]at hf;clear hp;simp(disch:=omega) only[↓zd,seval,push_cast,j,g,c,B,J,hx,l,C,I];refine next _ _ ⟨?_,?_,?_,?_,?_⟩
   (all_goals try simp only[↓zg,seval,j,g,c]);all_goals try first|rfl|trivial|(simp only[zr,seval,j,g,c];done)
   all_goals (first|done|(rw[hf,Option.map_map];congr 1;funext k;simp only[Function.comp];omega)|skip)
 ·rintro fr L ⟨j,g,c,B,hf⟩
  rw[dZ]at hf;rw[hf];clear hp;simp(disch:=omega) only[↓zd,seval,push_cast,j,g,c,B];rfl
theorem aa0{t:List Int}{n:Nat}:∀(us:List Int)(b:Int),IZ t n b us=b∨∃u∈us,u<=n∧0<=t.getD (n-u.toNat) 0∧IZ t n b us=t.getD (n-u.toNat) 0+1:=by
 intro us;induction us with
 |nil=>intro b;exact .inl rfl
 |cons u us r=>
  intro b;rw[IZ];split
  ·next h=>
   rcases r (t.getD (n-u.toNat) 0+1)with c|⟨v,g,c,l,j⟩
   ·exact .inr ⟨u,by simp,h.1,h.2.1,c⟩
   ·exact .inr ⟨v,by simp[g],c,l,j⟩
  ·rcases r b with c|⟨v,g,c,l,j⟩
   ·exact .inl c
   ·exact .inr ⟨v,by simp[g],c,l,j⟩
theorem aa1{t:List Int}{n:Nat}:∀(us:List Int)(b:Int),0<=b->0<=IZ t n b us∧IZ t n b us<=b:=by
 intro us;induction us with
 |nil=>intro b h;exact⟨h,Int.le_refl _⟩
 |cons u us c=>
  intro b g;rw[IZ];split
  ·next h=>have:=c (t.getD (n-u.toNat) 0+1) (by omega);omega
  ·exact c b g
theorem ajh{t:List Int}{n:Nat}{u:Int}(g:u<=n)(l:0<=t.getD (n-u.toNat) 0):∀(us:List Int)(b:Int),u∈us->0<=IZ t n b us∧IZ t n b us<=t.getD (n-u.toNat) 0+1:=by
 intro us;induction us with
 |nil=>intro b h;cases h
 |cons v us j=>
  intro b h;rcases ed.1 h with rfl|h
  ·rw[IZ]
   split
   ·exact aa1 us _ (by omega)
   ·next hc=>
    have:0<=b∧b<=t.getD (n-u.toNat) 0+1:=by
     by_cases r:b<0
     ·exact absurd ⟨g,l,.inl r⟩ hc
     ·by_cases c:t.getD (n-u.toNat) 0+1<b
      ·exact absurd ⟨g,l,.inr c⟩ hc
      ·omega
    have:=aa1 (t:=t) (n:=n) us b (by omega);omega
  ·rw[IZ]
   split
   ·exact j _ h
   ·exact j _ h
theorem Wi{n m:Nat}(h:n<=m):(xM m).getD n 0=En n:=by rw[fA,yj h];rfl
theorem Wj(n:Nat):En (n+1)=IZ (xM n) (n+1) (-1) xC:=by
 have h:=yj (n:=n+1) (m:=n+1) (aJ _);rw[xM,jb (by rw[sj];omega),sj,Bj]at h;exact(iL h).symm
theorem Wl{n:Nat}(hn:0<n)(h:0<=En n):∃u∈xC,IA n u=true∧1<=En n:=by
 obtain⟨m,rfl⟩:∃m,n=m+1:=⟨n-1,by omega⟩
 rw[Wj]at h;rcases aa0 (t:=xM m) (n:=m+1) xC (-1)with l|⟨u,g,l,j,c⟩
 ·omega
 ·have r:=NF u g
  have e:(xM m).getD (m+1-u.toNat) 0=En (m+1-u.toNat):=Wi (by omega);rw[e]at j c;refine⟨u,g,?_,?_⟩
  ·unfold IA
   rw[Wj,c];simp;omega
  ·rw[Wj,c];omega
theorem aji{n:Nat}{u:Int}(c:u∈xC)(h:0<=En n):0<=En (n+u.toNat)∧En (n+u.toNat)<=En n+1:=by
 have g:=NF u c;obtain⟨m,hm⟩:∃m,n+u.toNat=m+1:=⟨n+u.toNat-1,by omega⟩
 rw[hm,Wj];have e:(xM m).getD (m+1-u.toNat) 0=En n:=by rw[Wi (by omega)];congr 1;omega
 have:=ajh (t:=xM m) (n:=m+1) (u:=u) (by omega) (by rw[e];exact h) xC (-1) c;rw[e]at this;exact this
theorem ajj:(64:Int)∈xC:=by decide
theorem PG(q:Nat):0<=En (64*q)∧En (64*q)<=q:=by
 induction q with
 |zero=>exact⟨by decide,by decide⟩
 |succ q c=>
  have:=aji ajj c.1;have e:64*q+(64:Int).toNat=64*(q+1):=by simp;omega
  rw[e]at this;omega
def Lp:Nat->Nat->List (Int×Int)
 |0,_=>[]
 |f+1,n=>if n=0 then[]else match xC.findIdx? (IA n)with
  |some i=>uO.getD i (0,0)::Lp f (n-(xC.getD i 0).toNat)
  |none=>[]
theorem aeq:cu 2 (uO.map Iw)= .sl .any 2 (uO.map Iw):=jO (by decide)
theorem aa2{i:Nat}{u:Int}(h:xC[i]? =some u):∃p,uO[i]? =some p:=by
 have hl:uO.length=40:=rfl;obtain⟨c,_⟩:=au.1 h;exact⟨_,ak (by rw[Dy]at c;omega)⟩
theorem au5{cX:eu}(qG:cX=sb 67 91){fr:List V}{M:Mem}{K:List KI}{R:Option (V×Option (List Row))}{N ver v1 w:Nat}{lv:V}(hNb:N<=90000)(hv:0<ver)(J:0<v1)(hw:0<w)(GQ:0<=En N)(zI:En N<=1000)
  (h1:ag fr 1= .ptr 0 (.o 1) v1 0 0)(h4:ag fr 4= .sl .any 2 (uO.map Iw))(h5:ag fr 5= .ref 0 (.o 3) ver 1 0 40)(h8:ag fr 8= .ptr 0 (.o 4) w 0 0)(o8:ag fr 13= .aL)
  (O:ax M (.o 1)=⟨v1,1,[[.i N]],false⟩)(I:ax M (.o 3)=⟨ver,1,yh xC,false⟩)(F:ax M (.o 4)=⟨w,1,[[lv]],false⟩)(X:Mx M lv (xM N))
  (done:∀fr' r,(∀j,j<13->ag fr' j=ag fr j)->sF r 6 2 (ag fr' 13) ((Lp N N).map Iw)->G bn H true [.tmp 2,.tmp 3] K fr' r=R):
  G bn H true [.tmp 2,.tmp 3] (.code (.loop cX):: .blk 7::K) fr M=R:=by
 subst qG;conv in sb _ _=>reduce
 simp only[↓zo,zp,seval];refine qQ (fun n fr' r=>(∀j,j<13->ag fr' j=ag fr j)∧ax r (.o 1)=⟨v1,1,[[.i n]],false⟩∧ax r (.o 3)=⟨ver,1,yh xC,false⟩∧ax r (.o 4)=⟨w,1,[[lv]],false⟩∧Mx r lv (xM N)∧n<=N∧0<=En n∧∃g f,n<=f∧sF r 6 2 (ag fr' 13) (g.map Iw)∧g++Lp f n=Lp N N∧(g.length:Int)+En n<=1000) N ⟨fun j _=>rfl,O,I,F,X,aJ _,GQ,[],N,aJ _,.inl ⟨rfl,o8⟩,rfl,by simpa using zI⟩ ?_;clear O I F X o8;rintro n lV M1 ⟨Q,O,I,F,X,hnN,TK,g,f,hnf,hA,l,Ou⟩ next
 have g1:=Q 1 (by omega);have g4:=Q 4 (by omega);have g5:=Q 5 (by omega);have g8:=Q 8 (by omega);rw[h1]at g1;rw[h4]at g4;rw[h5]at g5;rw[h8]at g8;by_cases U:n=0
 ·subst U
  have hd0:Lp f 0=[]:=by cases f<;>rfl
  rw[hd0,bz]at l;rw[l]at hA;have dn:=done;clear next done
  have i0:((0:Nat):Int)=0:=rfl;rw[i0]at O;simp(disch:=omega) only[↓zd,seval,go_sem,g1,O,J];refine dn _ _ ?_ ?_
  ·intro j hj
   simp(disch:=omega) only[bU,bY];exact Q j hj
  ·simp only[↓zg,Nat.reduceEqDiff,reduceCtorEq,↓reduceIte]
   exact hA
 ·obtain⟨u0,T,W,au6⟩:=Wl (by omega:0<n) TK
  obtain⟨i,hi⟩:∃i,xC.findIdx? (IA n)=some i:=by
   cases h:xC.findIdx? (IA n)with
   |some i=>exact⟨i,rfl⟩
   |none=>
    rw[List.findIdx?_eq_none_iff]at h;have:=h u0 T;rw[W]at this;cases this
  obtain⟨Y,V3,_⟩:=List.findIdx?_eq_some_iff_getElem.1 hi;obtain⟨u,C⟩:∃u,xC[i]? =some u:=⟨_,ak Y⟩
  have Z:xC[i]=u:=by rw[ak Y]at C;injection C
  rw[Z]at V3;obtain⟨p,hp⟩:=aa2 C;have ub:=NF u (ah C);unfold IA at V3;simp only[aH,bN]at V3;obtain⟨f',rfl⟩:∃f',f=f'+1:=⟨f-1,by omega⟩
  have Wm:Lp (f'+1) n=p::Lp f' (n-u.toNat):=by
   rw[Lp,aP U,hi];dsimp only;rw[fA,hp,fA,C];rfl
  rw[Wm]at l;have c:=au4 (H:=H) (M:=M1) (us:=xC) (f:=110) (caps:=[.ptr 1 (.o 1) v1 0 0,.ptr 1 (.o 4) w 0 0]) (p:=IA n) hv I (by rw[Dy];omega) rfl (fun A u C=>au3 (B:=M1) hnN (NF u C) hNb J hw O F X);rw[hi,Dy]at c;dsimp only at c;have hx:(yh xC)[i]? =some [.i u]:=by unfold yh;rw[aK,C];rfl
  have hle:(yh xC).length=40:=by rw[Af,Dy]
  have hpv:(uO.map Iw)[i]? =some (Iw p):=by rw[aK,hp];rfl
  have aBt:i<40:=by rw[Dy]at Y;exact Y
  have aoq:(i:Int)<40:=by omega
  have Q3:(n:Int)-u=((n-u.toNat:Nat):Int):=by omega
  have aa4:(0:Int)<n:=by omega
  have j1:(Iw p).length=2:=rfl;have j2:(Iw p).take 2=Iw p:=rfl;have j3:(Iw p).all V.scalar=true:=rfl;have j4:∀d,V.bW d (Iw p)=Iw p:=fun _=>rfl;have j6:(Iw p).all V.pure=true:=rfl;have ap:=fun H=>lN (H:=H) (M:=M1) (bytes:=16) hA rfl (by rw[aG];omega) (by omega) (x:=Iw p) rfl rfl;have nx:=fun fr' r(a:∀j,j<13->ag fr' j=ag fr j)b1 b3 b4 bT bA=>next (n-u.toNat) fr' r (by omega) ⟨a,b1,b3,b4,bT,by omega,by omega,g++[p],f',by omega,bA,by rw[aC];exact l,by rw[aF,List.length_singleton];omega⟩
  rw[aR]at nx;generalize yh xC=UU at*;generalize uO.map Iw=VV at*;clear next done l Wm T W
  simp(disch:=omega) only[↓zd,seval,go_sem,g1,g4,g5,g8,O,I,F,J,hv,aa4,c,hpv,hx,hle,aoq,Q3,j1,j2,j3,j4,j6,ap];refine nx _ _ ?_ ?_ ?_ ?_ ?_ ?_
  ·intro j hj
   simp(disch:=omega) only[bU,bY];exact Q j hj
  ·(all_goals try simp only[↓zg,Nat.reduceEqDiff,reduceCtorEq,↓reduceIte]);all_goals try first|rfl|trivial|(simp only[zr,Nat.reduceEqDiff,reduceCtorEq,↓reduceIte];done)
  ·(all_goals try simp only[↓zg,Nat.reduceEqDiff,reduceCtorEq,↓reduceIte,I]);all_goals try first|rfl|trivial|(simp only[zr,Nat.reduceEqDiff,reduceCtorEq,↓reduceIte,I];done)
  ·(all_goals try simp only[↓zg,Nat.reduceEqDiff,reduceCtorEq,↓reduceIte,F]);all_goals try first|rfl|trivial|(simp only[zr,Nat.reduceEqDiff,reduceCtorEq,↓reduceIte,F];done)
  ·rcases X with h|⟨PE,a,b,c⟩
   ·exact .inl h
   ·refine .inr ⟨PE,a,b,?_⟩
    (all_goals try simp only[↓zg,Nat.reduceEqDiff,reduceCtorEq,↓reduceIte,c]);all_goals try first|rfl|trivial|(simp only[zr,Nat.reduceEqDiff,reduceCtorEq,↓reduceIte,c];done)
  ·simp only[↓zg,Nat.reduceEqDiff,reduceCtorEq,↓reduceIte]
   rw[<-aG (f:=Iw)];exact mJ (by omega) (by simp[ay])
theorem c67{q:Nat}(hq:q<=32):call bn 67 [.i (60480*q:Nat)] H=some (.eT [kK 2 ((Lp (64*q) (64*q)).map Iw),.i 0],none):=by
 have hO:∀i,ax (Ht.start true H) (.o i)=⟨0,0,[],false⟩:=fun i=>jB;have hl:=PG q;have t1:((60480*q:Nat):Int).tmod 945=0:=by rw[dP (by omega)];omega
 have t2:((60480*q:Nat):Int).tdiv 945=((64*q:Nat):Int):=by rw[jM (by omega)];omega
 have b1:0<=((60480*q:Nat):Int)∧((60480*q:Nat):Int)<=1935360:=by omega
 have hc:=fun H=>auX (H:=H);refine(av (by conv=>lhs;reduce)).trans ?_;simp only[↓zo,zp,seval];generalize Ht.start true H=L0 at*;have hqq:64*q<=2048:=by omega
 generalize ((60480*q:Nat):Int)=left at*;generalize 64*q=N at*;have Q:(uO.map Iw).length=40:=rfl;simp(disch:=omega) only[↓zd,seval,go_sem,hO,hc,t1,t2,Q];refine auY (by kernel_rfl) (lv:= .aL) ?_ ?_ ?_ ?_ ?_
 ·simp only[↓zg,Nat.reduceEqDiff,reduceCtorEq,↓reduceIte]
 ·simp only[↓zg,Nat.reduceEqDiff,reduceCtorEq,↓reduceIte]
  exact aeq.symm
 ·simp only[↓zg,Nat.reduceEqDiff,reduceCtorEq,↓reduceIte]
 ·simp only[↓zg,Nat.reduceEqDiff,reduceCtorEq,↓reduceIte]
 intro fr M J hA hR;have g1:ag fr 1= .ptr 0 (.o 1) 1 0 0:=by rw[J 1 (by omega)];simp only[↓zg,Nat.reduceEqDiff,reduceCtorEq,↓reduceIte]
 have W:ag fr 4= .sl .any 2 (uO.map Iw):=by rw[J 4 (by omega)];simp only[↓zg,Nat.reduceEqDiff,reduceCtorEq,↓reduceIte]
 have g2:ag fr 2= .aL:=by rw[J 2 (by omega)];simp only[↓zg,Nat.reduceEqDiff,reduceCtorEq,↓reduceIte]
 have gG:ax M (.o 1)=⟨1,1,[[.i N]],false⟩:=by rw[hR];(all_goals try simp only[↓zg,Nat.reduceEqDiff,reduceCtorEq,↓reduceIte]);all_goals try first|rfl|trivial|(simp only[zr,Nat.reduceEqDiff,reduceCtorEq,↓reduceIte];done)
 clear J hR;rcases hA with⟨h,_⟩|⟨_,ver,hv,u,F⟩
 ·exact absurd (eU List.length h) (by rw[aG,Dy];simp)
 rw[aG,Dy]at u;have UB:ax M (.o 3)=⟨ver,1,yh xC,false⟩:=F;clear F;simp(disch:=omega) only[↓zd,seval,go_sem,g1,W,u];obtain⟨w,hw,g⟩:∃w,(ax M (.o 4)).ver+1=w∧0<w:=⟨_,rfl,by omega⟩
 rw[hw];refine au0 (by kernel_rfl) (N:=N) (ver:=ver) (v1:=1) (w:=w) (by omega) ?_ ?_ ?_ ?_ hv (by omega) g ?_ ?_ ?_ ?_
 ·simp only[↓zg,Nat.reduceEqDiff,reduceCtorEq,↓reduceIte,g1]
 ·simp only[↓zg,Nat.reduceEqDiff,reduceCtorEq,↓reduceIte,u]
 ·simp only[↓zg,Nat.reduceEqDiff,reduceCtorEq,↓reduceIte]
 ·simp only[↓zg,Nat.reduceEqDiff,reduceCtorEq,↓reduceIte]
 ·(all_goals try simp only[↓zg,Nat.reduceEqDiff,reduceCtorEq,↓reduceIte,gG]);all_goals try first|rfl|trivial|(simp only[zr,Nat.reduceEqDiff,reduceCtorEq,↓reduceIte,gG];done)
 ·(all_goals try simp only[↓zg,Nat.reduceEqDiff,reduceCtorEq,↓reduceIte,UB]);all_goals try first|rfl|trivial|(simp only[zr,Nat.reduceEqDiff,reduceCtorEq,↓reduceIte,UB];done)
 ·rw[ay,aX rfl];rfl
 intro fr2 M2 lv r l O c I;have C:ag fr2 1= .ptr 0 (.o 1) 1 0 0:=by rw[r 1 (by omega)];simp only[↓zg,Nat.reduceEqDiff,reduceCtorEq,↓reduceIte,g1]
 have Z:ag fr2 4= .sl .any 2 (uO.map Iw):=by rw[r 4 (by omega)];simp only[↓zg,Nat.reduceEqDiff,reduceCtorEq,↓reduceIte,W]
 have B:ag fr2 5= .ref 0 (.o 3) ver 1 0 40:=by rw[r 5 (by omega)];simp only[↓zg,Nat.reduceEqDiff,reduceCtorEq,↓reduceIte,u]
 have A:ag fr2 8= .ptr 0 (.o 4) w 0 0:=by rw[r 8 (by omega)];simp only[↓zg,Nat.reduceEqDiff,reduceCtorEq,↓reduceIte]
 clear r g1 W g2 u;have hx:(yh (xM N))[N]? =some [.i (En N)]:=by unfold yh;rw[aK,yj (aJ _)];rfl
 have j:(yh (xM N)).length=N+1:=by rw[Af,sj]
 have wI:(xM N).length=N+1:=sj N;have n1:(N:Int)<(N+1:Nat):=by omega
 have n0:(0:Int)<=N:=by omega
 have nl:¬En N<0:=by omega
 have eL:sb 67 91=_:=(by conv=>lhs;reduce);simp only[↓zo,zp,seval]at eL;have fin:∀fr' Y,ag fr' 1= .ptr 0 (.o 1) 1 0 0->ag fr' 4= .sl .any 2 (uO.map Iw)->ag fr' 5= .ref 0 (.o 3) ver 1 0 40->ag fr' 8= .ptr 0 (.o 4) w 0 0->ag fr' 13= .aL->Y=M2->G bn H true [.tmp 2,.tmp 3] (.code (.loop (sb 67 91)):: .blk 7::[.code (cS (cR [oM 116 13,oM 2 116,oI 3 0]) .ret)]) fr' Y=some (.eT [kK 2 ((Lp N N).map Iw),.i 0],none):=by
  intro fr' Y e1 e4 e5 e8 X hM;subst hM;refine au5 (by kernel_rfl) (N:=N) (ver:=ver) (v1:=1) (w:=w) (lv:=lv) (by omega) hv (by omega) g hl.1 (by omega) e1 e4 e5 e8 X l O c I ?_;intro SA M3 vL U;have pu:((Lp N N).map Iw).all (fun e=>e.all V.pure)=true:=by rw[vk];exact aV.2 fun x _=>rfl
  rcases U with⟨h,K⟩|⟨fP,v3,T,K,F⟩
  ·rw[h]
   simp(disch:=omega) only[↓zd,seval,go_sem,K];rfl
  ·have hl3:((Lp N N).map Iw).length=(Lp N N).length:=aG _
   unfold kK;rw[aP fP];simp(disch:=omega) only[↓zd,seval,go_sem,K,F,T,lI,yu,pu]
 unfold Mx at I;rw[wI]at I;rcases I with h|⟨PE,R,h,IX⟩
 ·rw[h]at c
  simp(disch:=omega) only[↓zd,seval,go_sem,C,B,A,l,c,g,hx,n0,n1,j,nl];refine fin _ _ ?_ ?_ ?_ ?_ ?_ rfl;all_goals simp only[↓zg,Nat.reduceEqDiff,reduceCtorEq,↓reduceIte,C,Z,B,A]
 ·rw[h]at c
  simp(disch:=omega) only[↓zd,seval,go_sem,C,B,A,l,c,g,hx,n0,n1,j,nl,IX,R];refine fin _ _ ?_ ?_ ?_ ?_ ?_ rfl;all_goals simp only[↓zg,Nat.reduceEqDiff,reduceCtorEq,↓reduceIte,C,Z,B,A]
theorem ajk:(uO.all fun p=>decide (tk p.1 p.2=945*(tk p.1 p.2/945)))=true:=by kernel_rfl
theorem KS:∀(f n:Nat),n<=f->0<=En n->(∀p∈Lp f n,p∈uO)∧((Lp f n).map fun p=>tk p.1 p.2).sum=945*(n:Int)∧((Lp f n).length:Int)=En n:=by
 intro f;induction f with
 |zero=>
  intro n hn h;obtain rfl:n=0:=by omega
  exact⟨fun p hp=>(by cases hp),rfl,rfl⟩
 |succ f J=>
  intro n hn h;by_cases l:n=0
  ·subst l
   exact⟨fun p hp=>(by cases hp),rfl,rfl⟩
  ·obtain⟨u0,A,B,K⟩:=Wl (by omega:0<n) h
   obtain⟨i,F⟩:∃i,xC.findIdx? (IA n)=some i:=by
    cases h:xC.findIdx? (IA n)with
    |some i=>exact⟨i,rfl⟩
    |none=>
     rw[List.findIdx?_eq_none_iff]at h;have:=h u0 A;rw[B]at this;cases this
   obtain⟨I,C,_⟩:=List.findIdx?_eq_some_iff_getElem.1 F;obtain⟨u,j⟩:∃u,xC[i]? =some u:=⟨_,ak I⟩
   have r:xC[i]=u:=by rw[ak I]at j;injection j
   rw[r]at C;obtain⟨p,hp⟩:=aa2 j;have Q:=NF u (ah j);unfold IA at C;simp only[aH,bN]at C;have O:Lp (f+1) n=p::Lp f (n-u.toNat):=by
    rw[Lp,aP l,F];dsimp only;rw[fA,hp,fA,j];rfl
   have N:u=tk p.1 p.2/945:=by
    have:xC[i]? =some (tk p.1 p.2/945):=by unfold xC;rw[aK,hp];rfl
    rw[j]at this;injection this
   have g:=aV.1 ajk p (ah hp);simp only[bN]at g;rw[<-N]at g;obtain⟨a,b,c⟩:=J (n-u.toNat) (by omega) (by omega);rw[O];refine⟨?_,?_,?_⟩
   ·intro q hq
    rcases ed.1 hq with rfl|hq
    ·exact ah hp
    ·exact a q hq
   ·rw[bO,sQ,b,g]
    omega
   ·rw[aS]
    omega
end Go.Proofs.YtnahpjebkgbedaaGreat

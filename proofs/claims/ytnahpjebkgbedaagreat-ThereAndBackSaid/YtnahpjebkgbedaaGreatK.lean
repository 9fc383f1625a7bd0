/- Part of the proof of ThereAndBack: what the program's functions compute on the abstract machine, and that it answers as the law says. No condition. -/
import Derived.Test.YtnahpjebkgbedaaGreatJ
set_option linter.all false
set_option maxRecDepth 100000
set_option maxHeartbeats 16000000
namespace Go.Proofs.YtnahpjebkgbedaaGreat
open Go Go.Ht
variable{H:List Mem}
def mkR(f:Int)(i:Nat)(m:Me):Me:={m with rs:=decide (f%8=1)&&decide (0<i)}
def X9(f:Int)(m:Me):Me:=if f/8%8=1 then{m with re:=2+f/64%2}else m
def mkW(f:Int)(m:Me):Me:=if f%16=9 then{m with sw:=60}else m
def xD(f:Int)(i:Nat)(m:Me):Me:=mkW f (X9 f (mkR f i m))
def Ai(bs:List Ba)(ms:List Me):List Me:=ms.mapIdx fun i m=>xD ((bs[i]?.map Ba.fl).getD 0) i m
theorem avy{cX:eu}(I:cX=sb 16 31){fr:List V}{M:Mem}{K:List KI}{T:Option (V×Option (List Row))}{f:Int}{i vm:Nat}{m:Me}{P Q:List (List V)}(hf:0<=f∧f<=255)(g:P.length=i)(O:i<=1000)(A:ag fr 7= .ptr 0 (.o 4) vm i 0)(u:ag fr 8= .int .u8 f)(Cc:0<vm)(r:ax M (.o 4)=⟨vm,22,P++m.v::Q,false⟩)
  (done:∀fr' l,(∀m,m<9->ag fr' m=ag fr m)->(∀n,n≠4->ax l (.o n)=ax M (.o n))->ax l (.o 4)=⟨vm,22,P++(mkW f m).v::Q,false⟩->G bn H true [.cell 4 true 6] K fr' l=T):
  G bn H true [.cell 4 true 6] (.code cX::K) fr M=T:=by
 subst I;conv in sb _ _=>reduce
 simp only[↓zo,zp,seval];have t1:f.tmod 16=f%16:=dP hf.1;have C:=zh (B:=Q) (z:=m.v) g;have F:=fun y=>zi (B:=Q) (z:=m.v) (x:=y) g;have j:∀y,P++[y]++Q=P++y::Q:=fun y=>by simp
 have c:i<(P++m.v::Q).length:=by rw[aF,aS,g];omega
 unfold mkW at done;have m1:=m.sz.1;by_cases h:f%16=9
 ·rw[aX h]at done
  have J:m.v.take 17++[V.i 60]++m.v.drop 18=({m with sw:=60}:Me).v:=rfl;generalize ({m with sw:=60}:Me).v=N at*;generalize m.v=mv at*;simp(disch:=omega) only[↓zd,seval,push_cast,A,u,t1,h,Cc,r,C,F,j,c,m1,J];refine done _ _ (fun m hm=> ?_) (fun n hn=> ?_) ?_
  ·simp(disch:=omega) only[bU,bY]
  ·rw[ay,aP (by simp;omega)]
  ·rw[ay,aX rfl]
 ·rw[aP h]at done
  have R:(f%16=9)=False:=ru h;simp(disch:=omega) only[↓zd,seval,push_cast,A,u,t1,R];refine done _ _ (fun m hm=> ?_) (fun n hn=>rfl) r;simp(disch:=omega) only[bU,bY]
theorem avA{cX:eu}(N:cX=sb 16 26){fr:List V}{M:Mem}{K:List KI}{T:Option (V×Option (List Row))}{f:Int}{i vm:Nat}{m:Me}{P Q:List (List V)}(hf:0<=f∧f<=255)(g:P.length=i)(U:i<=1000)(F:ag fr 7= .ptr 0 (.o 4) vm i 0)(C:ag fr 8= .int .u8 f)(Cc:0<vm)(A:ax M (.o 4)=⟨vm,22,P++m.v::Q,false⟩)
  (done:∀fr' l,(∀m,m<9->ag fr' m=ag fr m)->(∀n,n≠4->ax l (.o n)=ax M (.o n))->ax l (.o 4)=⟨vm,22,P++(X9 f m).v::Q,false⟩->G bn H true [.cell 4 true 6] K fr' l=T):
  G bn H true [.cell 4 true 6] (.code cX::K) fr M=T:=by
 subst N;conv in sb _ _=>reduce
 simp only[↓zo,zp,seval];have t1:f.tdiv 8=f/8:=jM hf.1;have t2:(f/8).tmod 8=f/8%8:=dP (by omega);have u:f.tdiv 64=f/64:=jM hf.1;have r:(f/64).tmod 2=f/64%2:=dP (by omega);have I:=zh (B:=Q) (z:=m.v) g;have J:=fun y=>zi (B:=Q) (z:=m.v) (x:=y) g;have j:∀y,P++[y]++Q=P++y::Q:=fun y=>by simp
 have c:i<(P++m.v::Q).length:=by rw[aF,aS,g];omega
 unfold X9 at done;have m1:=m.sz.1;by_cases h:f/8%8=1
 ·rw[aX h]at done
  have O:m.v.take 13++[V.i (2+f/64%2)]++m.v.drop 14=({m with re:=2+f/64%2}:Me).v:=rfl;generalize ({m with re:=2+f/64%2}:Me).v=R at*;generalize m.v=mv at*;simp(disch:=omega) only[↓zd,seval,push_cast,F,C,t1,t2,u,r,h,Cc,A,I,J,j,c,m1,O];refine done _ _ (fun m hm=> ?_) (fun n hn=> ?_) ?_
  ·simp(disch:=omega) only[bU,bY]
  ·rw[ay,aP (by simp;omega)]
  ·rw[ay,aX rfl]
 ·rw[aP h]at done
  have W:(f/8%8=1)=False:=ru h;simp(disch:=omega) only[↓zd,seval,push_cast,F,C,t1,t2,u,r,W];refine done _ _ (fun m hm=> ?_) (fun n hn=>rfl) A;simp(disch:=omega) only[bU,bY]
theorem FJ(bs:List Ba)(ms:List Me):(Ai bs ms).length=ms.length:=dJ ..
theorem l16{cX:eu}(qG:cX=sb 16 11){fr:List V}{M:Mem}{K:List KI}{T:Option (V×Option (List Row))}{bs:List Ba}{ms:List Me}{vm:Nat}{wr:Bool}{PV x4 x5:V}(ok:∀b∈bs,yG b)(hl:bs.length=ms.length)(xK:ms.length<=1000)(J:V.shift 0 PV=PV)
  (U:ag fr 1=cu 5 (bs.map Ba.v))(h5:ag fr 5= .ptr 0 (.o 3) 1 0 0)(h6:ag fr 6= .i 0)(Cc:0<vm)(ji:ax M (.o 3)=⟨1,6,[[.str iB,.bool wr,PV,.ref 0 (.o 4) vm 22 0 ms.length,x4,x5]],false⟩)(nk:ax M (.o 4)=⟨vm,22,ms.map Me.v,false⟩)
  (done:∀fr' g,(∀m,m<6->ag fr' m=ag fr m)->(∀n,n≠4->ax g (.o n)=ax M (.o n))->ax g (.o 4)=⟨vm,22,(Ai bs ms).map Me.v,false⟩->G bn H true [.cell 4 true 6] K fr' g=T):
  G bn H true [.cell 4 true 6] (.code (.loop cX):: .blk 0::K) fr M=T:=by
 subst qG;conv in sb _ _=>reduce
 simp only[↓zo,zp,seval];have l:(bs.map Ba.v).length=bs.length:=aG _;refine bI (fun i fr' g=>(∀m,m<6->ag fr' m=ag fr m)∧ag fr' 6= .i i∧(∀n,n≠4->ax g (.o n)=ax M (.o n))∧ax g (.o 4)=⟨vm,22,((Ai bs ms).take i).map Me.v++(ms.drop i).map Me.v,false⟩) bs.length ⟨fun m _=>rfl,h6,fun n _=>rfl,by rw[nk];rfl⟩ ?_ ?_
 ·clear done h6 nk
  rintro i lV M1 hi ⟨F,Q,O,C⟩ next
  have g1:=(F 1 (by omega)).trans U;have g5:=(F 5 (by omega)).trans h5;have R3:=(O 3 (by omega)).trans ji;clear U h5 ji;obtain⟨b,hb⟩:∃b,bs[i]? =some b:=⟨_,ak hi⟩
  obtain⟨m,hm⟩:∃m,ms[i]? =some m:=⟨_,ak (by omega)⟩
  have Y:(Ai bs ms).take (i+1)=(Ai bs ms).take i++[xD ((bs[i]?.map Ba.fl).getD 0) i m]:=kZ hm;rw[hb]at Y;change _=_++[xD b.fl i m]at Y;have hf:=(ok b (ah hb)).fl;have N:(((Ai bs ms).take i).map Me.v).length=i:=by rw[aG,bf,FJ];omega
  have hdl:((ms.drop (i+1)).map Me.v).length=ms.length-(i+1):=by rw[aG,eY]
  rw[Y,aR,aC]at next
  rw[kE hm,bO]at C;change∀fr' g,(_∧_∧_∧ax g (.o 4)=⟨vm,22,_++(xD b.fl i m).v::_,false⟩)->_ at next
  generalize ((Ai bs ms).take i).map Me.v=Pv at*;generalize (ms.drop (i+1)).map Me.v=Qv at*;have c:(Pv++m.v::Qv).length=ms.length:=by rw[aF,aS,N,hdl];omega
  have b1:=b.sz.1;have b3:b.v[2]? =some (.int .u8 b.fl):=rfl;have I:(bs.map Ba.v)[i]? =some b.v:=by rw[aK,hb];rfl
  have t1:b.fl.tmod 8=b.fl%8:=dP hf.1;have Z:=zh (B:=Qv) (z:=m.v) N;have qw:=fun y=>zi (B:=Qv) (z:=m.v) (x:=y) N;have A:∀y,Pv++[y]++Qv=Pv++y::Qv:=fun y=>by simp
  have He:i<(Pv++m.v::Qv).length:=by omega
  have m1:=m.sz.1;have q1:∀r:Bool,m.v.take 12++[V.bool r]++m.v.drop 13=({m with rs:=r}:Me).v:=fun r=>rfl;have eL:sb 16 11=_:=(by conv=>lhs;reduce);simp only[↓zo,zp,seval]at eL;have fin:∀fr2 X,(∀m,m<7->ag fr2 m=ag lV m)->(∀n,n≠4->ax X (.o n)=ax M1 (.o n))->ag fr2 7= .ptr 0 (.o 4) vm i 0->ag fr2 8= .int .u8 b.fl->ax X (.o 4)=⟨vm,22,Pv++(mkR b.fl i m).v::Qv,false⟩->G bn H true [.cell 4 true 6] (.code (sb 16 26):: .code (sb 16 31):: .blk 1:: .code (cR [oM 19 6,oK 20 .add 19 1,oM 6 20]):: .code (.loop (sb 16 11)):: .blk 0::K) fr2 X=T:=by
   intro fr2 X a1 a2 a3 a4 a5;rw[eL];have i8:i<=1000:=by omega
   refine avA (by kernel_rfl) (f:=b.fl) (i:=i) (vm:=vm) hf N i8 a3 a4 Cc a5 fun SA M3 W c2 c3=> ?_;refine avy (by kernel_rfl) (f:=b.fl) (i:=i) (vm:=vm) hf N i8 ((W 7 (by omega)).trans a3) ((W 8 (by omega)).trans a4) Cc c3 fun fr4 M4 d1 d2 d3=> ?_;have k6:ag fr4 6= .i i:=(d1 6 (by omega)).trans ((W 6 (by omega)).trans ((a1 6 (by omega)).trans Q));clear a3 a4 a5 Z qw A q1 c3;simp(disch:=omega) only[↓zd,seval,push_cast,k6];refine next _ _ ⟨fun m hm=> ?_,?_,fun n hn=> ?_,d3⟩
   ·rw[<-F m hm,<-a1 m (by omega),<-W m (by omega),<-d1 m (by omega)]
    simp(disch:=omega) only[bU,bY]
   ·simp only[↓zg,seval]
    rfl
   ·rw[d2 n hn,c2 n hn,a2 n hn,O n hn]
  have hS2:sb 16 26=_:=(by conv=>lhs;reduce);simp only[↓zo,zp,seval]at hS2;have u:sb 16 31=_:=(by conv=>lhs;reduce);simp only[↓zo,zp,seval]at u;rw[eL]at fin;rw[<-hS2,<-u]at fin⊢;clear next hS2 u eL O
  generalize iB=T0 at*;generalize bs.map Ba.v=Bv at*;generalize hmv:m.v=mv at*;unfold mkR at fin;by_cases R:b.fl%8=1
  ·rw[dW R,l9]at fin
   have j:=q1 (decide (0<i));generalize ({m with rs:=decide (0<i)}:Me).v=mv' at*;have hd:decide ((0:Int)<(i:Int))=decide (0<i):=by simp
   simp(disch:=omega) only[↓zd,seval,push_cast,g1,g5,Q,R3,C,l,I,b1,b3,t1,R,Cc,Z,qw,A,He,c,m1,j,hd,J];refine fin _ _ (fun m hm=> ?_) (fun n hn=> ?_) ?_ ?_ ?_
   ·simp(disch:=omega) only[bU,bY]
   ·rw[ay,aP (by simp;omega)]
   ·simp only[↓zg,seval]
   ·simp only[↓zg,seval]
   ·rw[ay,aX rfl]
  ·rw[fB R,iW]at fin
   have h8':(b.fl%8=1)=False:=ru R;have j:=q1 false;generalize ({m with rs:=false}:Me).v=mv' at*;simp(disch:=omega) only[↓zd,seval,push_cast,g1,g5,Q,R3,C,l,I,b1,b3,t1,h8',Cc,Z,qw,A,He,c,m1,j,J];refine fin _ _ (fun m hm=> ?_) (fun n hn=> ?_) ?_ ?_ ?_
   ·simp(disch:=omega) only[bU,bY]
   ·rw[ay,aP (by simp;omega)]
   ·simp only[↓zg,seval]
   ·simp only[↓zg,seval]
   ·rw[ay,aX rfl]
 ·rintro lV M1 ⟨F,Q,O,C⟩
  have g1:=(F 1 (by omega)).trans U;rw[hl,<-FJ bs ms,aT,FJ,dZ,dX,bz]at C;have d:=fun fr' h=>done fr' M1 h O C;clear done C U;generalize bs.map Ba.v=Bv at*;simp(disch:=omega) only[↓zd,seval,push_cast,g1,Q,l];refine d _ fun m hm=> ?_;rw[<-F m hm];simp(disch:=omega) only[bU,bY]
def Sc.Ai(bs:List Ba)(s:Sc):Sc:={s with ms:=Go.Proofs.YtnahpjebkgbedaaGreat.Ai bs s.ms,la:=[1048576]}
theorem c16{s:Sc}{bs:List Ba}{n:Int}(ok:∀b∈bs,yG b)(hl:bs.length=s.ms.length)(xK:1<=s.ms.length∧s.ms.length<=1000)(w:LA (s.Ai bs) n []):
  call bn 16 [.agg s.v,cu 5 (bs.map Ba.v)] H=some (.agg (if lu (s.Ai bs) []=true then s.Ai bs else s).v,none):=by
 have hO:∀i,ax (Ht.start true H) (.o i)=⟨0,0,[],false⟩:=fun i=>jB;have s1:=s.sz.1;have s2:=s.sz.2;have O:=s.tk;have s5:=s.sc;have s6:=s.pu;have N:s.v[3]? =some (cu 22 (s.ms.map Me.v)):=rfl;have g:(s.ms.map Me.v).length=s.ms.length:=aG _;have fP:s.ms.map Me.v≠[]:=fun h=>by rw[h]at g;simp at g;omega
 have C:(s.ms.map Me.v).isEmpty=false:=by cases h:s.ms.map Me.v with|nil=>exact absurd h fP|cons a l=>rfl
 have gB:((s.ms.map Me.v).all fun e=>decide (e.length=22∧e.all V.scalar=true))=true:=zY (enc:=Me.v) (fun m=>⟨m.sz.1,m.sc⟩) _;have K:=dh Me.pu (s.Ai bs).ms;have A:s.v.take 3=[.str iB,.bool s.wr,cu 6 (s.ps.map Pa.v)]:=rfl;have B:s.v.drop 4=[cu 7 (s.sp.map Sp.v),cu 2 (s.la.map Av)]:=rfl;have Yq:(Go.Proofs.YtnahpjebkgbedaaGreat.Ai bs s.ms).length=s.ms.length:=FJ _ _;obtain⟨bv,F⟩:∃bv,cu 5 (bs.map Ba.v)=bv:=⟨_,rfl⟩
 rw[F];refine(av (by conv=>lhs;reduce)).trans ?_;simp only[↓zo,zp,seval];generalize Ht.start true H=L0 at*;generalize Y:s.ms.map Me.v=mv at*;generalize avD:s.v=sv at*;simp(disch:=omega) only[↓zd,seval,push_cast,hO,s1,s2,O,s5,N,g,C,gB,fq,qg,lZ,A,B];refine l16 (by kernel_rfl) (bs:=bs) (ms:=s.ms) (vm:=1) (wr:=s.wr) (PV:=cu 6 (s.ps.map Pa.v)) (x4:=cu 7 (s.sp.map Sp.v)) (x5:=cu 2 (s.la.map Av)) ok hl xK.2 nZ ?_ ?_ ?_ (by omega) ?_ ?_ ?_
 ·simp only[↓zg,seval]
  exact F.symm
 ·simp only[↓zg,seval]
 ·simp only[↓zg,seval]
  all_goals rfl
 ·simp only[ay,bK]
 ·simp only[ay,reduceCtorEq,Ix.o.injEq,Nat.reduceEqDiff,↓reduceIte,Y]
 ·intro W M1 I j R4
  have k2:ag W 2= .ptr 0 (.o 1) 1 0 0:=(I 2 (by omega)).trans (by simp only[↓zg,seval]);have k4:ag W 4= .ptr 0 (.o 2) 1 0 0:=(I 4 (by omega)).trans (by simp only[↓zg,seval]);have k5:ag W 5= .ptr 0 (.o 3) 1 0 0:=(I 5 (by omega)).trans (by simp only[↓zg,seval]);have R:=j 1 (by omega);have Q:=j 2 (by omega);have r3:=j 3 (by omega);simp only[ay,reduceCtorEq,Ix.o.injEq,Nat.reduceEqDiff,↓reduceIte,eZ,fJ,fK]at R Q r3;clear I j gB C fP B A;have tv:(s.Ai bs).v=[.str iB,.bool s.wr,cu 6 (s.ps.map Pa.v),cu 22 ((Go.Proofs.YtnahpjebkgbedaaGreat.Ai bs s.ms).map Me.v),cu 7 (s.sp.map Sp.v),.sl .any 2 [[.i 1,.i 1048576]]]:=rfl;have AX:((Go.Proofs.YtnahpjebkgbedaaGreat.Ai bs s.ms).map Me.v).length=s.ms.length:=by rw[aG,Yq]
  have PL:(Go.Proofs.YtnahpjebkgbedaaGreat.Ai bs s.ms).map Me.v≠[]:=fun h=>by rw[h]at AX;simp at AX;omega
  change ((Go.Proofs.YtnahpjebkgbedaaGreat.Ai bs s.ms).map Me.v).all (fun e=>e.all V.pure)=true at K;rw[jO PL]at tv;generalize (Go.Proofs.YtnahpjebkgbedaaGreat.Ai bs s.ms).map Me.v=X at*;have U:=dh Pa.pu s.ps;have T:=dh Sp.pu s.sp;have J:∀(M:Mem)(b:Bool),ax M (.o 4)=⟨1,22,X,b⟩->qd M [.agg [.str iB,.bool s.wr,cu 6 (s.ps.map Pa.v),.ref 0 (.o 4) 1 22 0 s.ms.length,cu 7 (s.sp.map Sp.v),.sl .any 2 [[.i 1,.i 1048576]]]]=some ([.agg (s.Ai bs).v],if b then M else bu M (.o 4) ⟨1,22,X,true⟩):=by
   intro M b j;have e1:∀M:Mem,jJ 8 M (.sl .any 2 [[.i 1,.i 1048576]])=some (.sl .any 2 [[.i 1,.i 1048576]],M):=fun M=>Gy 8 M _ rfl;have avE:s.ms.length=X.length:=AX.symm;rw[tv];simp only[qd,sG,zJ,xf,rU,uY,sH,U,T,bK,bG,aU,mZ,j,K,avE,e1];cases b<;>simp[Mem.ok,j]
  obtain⟨els,c,Z⟩:=c18 (H:=bu (bu M1 (.o 3) ⟨1,6,[[.str iB,.bool s.wr,cu 6 (s.ps.map Pa.v),.ref 0 (.o 4) 1 22 0 s.ms.length,cu 7 (s.sp.map Sp.v),.sl .any 2 [[.i 1,.i 1048576]]]],false⟩) (.o 4) ⟨1,22,X,true⟩::H) w;have u:=J (bu M1 (.o 3) ⟨1,6,[[.str iB,.bool s.wr,cu 6 (s.ps.map Pa.v),.ref 0 (.o 4) 1 22 0 s.ms.length,cu 7 (s.sp.map Sp.v),.sl .any 2 [[.i 1,.i 1048576]]]],false⟩) false (by rw[ay,aP (by simp)];exact R4);rw[aP (by simp)]at u;generalize lu (s.Ai bs) []=avF at*;have t1:=(s.Ai bs).sz.1;have t2:=(s.Ai bs).sz.2;have t3:=(s.Ai bs).pu;cases avF with
  |true=>
   rw[aX rfl];generalize (s.Ai bs).v=tw at*;obtain rfl:els=[]:=List.isEmpty_iff.1 Z;rw[gF]at c;have np:([.str iB,.bool s.wr,cu 6 (s.ps.map Pa.v),.ref 0 (.o 4) 1 22 0 s.ms.length,cu 7 (s.sp.map Sp.v),.sl .any 2 [[.i 1,.i 1048576]]]:List V).all V.pure=false:=by simp only[aZ,V.pure,iW,mh]
   have fz2:=fun r r'=>FI ((J (bu (bu (bu M1 (.o 3) r) (.o 4) ⟨1,22,X,true⟩) (.o 2) r') true (by simp only[ay,reduceCtorEq,Ix.o.injEq,Nat.reduceEqDiff,↓reduceIte])).trans (by rw[aX rfl]));clear w tv U T K J O s6 N;generalize iB=T0 at*;simp(disch:=omega) only[↓zd,seval,push_cast,k2,k4,k5,R,Q,r3,R4,c,u,fz2,np,t1,t2,t3,lI,yu,rF]
  |false=>
   rw[aP (by simp)];generalize (s.Ai bs).v=tw at*;have Md:els≠[]:=fun h=>by rw[h]at Z;cases Z
   have ajI:((els.length:Int)=0)=False:=by simp;exact Md
   clear w tv U T K J N;generalize iB=T0 at*;simp(disch:=omega) only[↓zd,seval,push_cast,k2,k4,k5,R,Q,r3,R4,c,u,ajI,s1,s2,O,s5,s6,t1,t2,t3,lI,yu,rF];rw[avD]
def ajJ(x:Int)(k0:Nat)(j:Nat):St:=⟨(k0+j+1:Nat),1+x/64%4*j⟩
def Bh(x:Int):Nat:=(x/32%2).toNat+1
def sN(x:Int)(k0 n:Nat):List St:=(List.range n).map (ajJ x k0)
theorem UK{x:Int}{k0 n:Nat}:sN x k0 (n+1)=sN x k0 n++[ajJ x k0 n]:=by
 unfold sN;rw[gK,aR];rfl
theorem l4s{cX:eu}(qG:cX=sb 4 36){fr:List V}{M:Mem}{K:List KI}{T:Option (V×Option (List Row))}{D1:List Row}{q b0 k0 n0 v4:Nat}{x a0 a1 a3 a4:Int}{a2:ByteArray}(hx:0<=x∧x<=255)
  (h3:ag fr 3= .ptr 0 (.g q) 1 0 0)(h5:ag fr 5= .i n0)(N:ag fr 7= .int .u8 x)(Z:ag fr 8= .ptr 0 (.o 4) v4 0 0)(h9:ag fr 9= .i 0)
  (F:ax M (.o 4)=⟨v4,6,[[.i a0,.i a1,.str a2,.i a3,.i a4,.aL]],false⟩)(YA:0<v4)(r:M.D=kD D1 q k0 [])(u:M.b=b0)(hq:q<D1.length)(hb:b0<=q)(hk:k0<=900000)(hn0:n0<=1000)
  (done:∀fr' l x1,(∀m,m<9∧m≠5->ag fr' m=ag fr m)->ag fr' 5= .i (n0+Bh x:Nat)->(∀n,n∉[4,5]->ax l (.o n)=ax M (.o n))->ax l (.o 4)=⟨v4,6,[[.i a0,.i a1,.str a2,.i a3,.i a4,x1]],false⟩->sF l 5 3 x1 ((sN x k0 (Bh x)).map St.v)->l.b=b0->l.D=kD D1 q (k0+Bh x) []->G bn H true [.cell 2 true 6] K fr' l=T):
  G bn H true [.cell 2 true 6] (.code (.loop cX):: .blk 2::K) fr M=T:=by
 subst qG;conv in sb _ _=>reduce
 simp only[↓zo,zp,seval];have t1:x.tdiv 32=x/32:=jM hx.1;have t2:(x/32).tmod 2=x/32%2:=dP (by omega);have t3:x.tdiv 64=x/64:=jM hx.1;have t4:(x/64).tmod 4=x/64%4:=dP (by omega);have hn:Bh x<=2:=by unfold Bh;omega
 refine bI (fun j fr' l=>(∀m,m<9∧m≠5->ag fr' m=ag fr m)∧ag fr' 5= .i (n0+j:Nat)∧ag fr' 9= .i j∧(∀n,n∉[4,5]->ax l (.o n)=ax M (.o n))∧l.b=b0∧l.D=kD D1 q (k0+j) []∧∃x1,ax l (.o 4)=⟨v4,6,[[.i a0,.i a1,.str a2,.i a3,.i a4,x1]],false⟩∧sF l 5 3 x1 ((sN x k0 j).map St.v)) (Bh x) ⟨fun m _=>rfl,h5,h9,fun n _=>rfl,u,r,.aL,F,.inl ⟨rfl,rfl⟩⟩ ?_ ?_
 ·clear done F r u h5 h9
  rintro j lV C hj ⟨B,U,Q,J,u,r,x1,F,A⟩ next
  have g3:=(B 3 (by omega)).trans h3;have R:=(B 7 (by omega)).trans N;have g8:=(B 8 (by omega)).trans Z;clear h3 N Z;rw[UK,aR]at next
  change∀fr' l,(_∧_∧_∧_∧_∧l.D=kD D1 q (k0+j+1) []∧∃x1,_∧sF l 5 3 x1 (_++[[.i 1,.i (k0+j+1:Nat),.i (1+x/64%4*j)]]))->_ at next
  have hX:((sN x k0 j).map St.v).length<=1000000:=by
   rw[aG];unfold sN;rw[aG,Jd];omega
  generalize (sN x k0 j).map St.v=X at*;have I:(j:Int)<=x/32%2:=by unfold Bh at hj;omega
  have hj2:j<=1:=by omega
  have c:=fun H=>ajt (H:=H) (L:=C) hq hb (k:=k0+j) (by omega) r u;have Y:0<=x/64%4*(j:Int)∧x/64%4*(j:Int)<=3:=by
   have h0:j=0∨j=1:=by omega
   rcases h0 with h|h<;>rw[h]
   ·simp
   ·simp only[Int.natCast_one,Int.mul_one];omega
  have aCe:0<=(n0+j:Nat)∧(n0+j:Nat)<=2000:=by omega
  generalize hid:((k0+j+1:Nat):Int)=id at*;generalize hnj:n0+j=nj at*;have W:n0+(j+1)=nj+1:=by omega
  rw[W]at next
  have ap:=fun D H=>lN (H:=H) (M:=⟨D,C.O,C.b⟩) (bytes:=24) (s:=4) A rfl hX (by omega) (x:=[.i 1,.i id,.i (1+x/64%4*j)]) rfl rfl;have f1:∀M,ax M (.o 5)=⟨(ax C (.o 5)).ver+1,3,X++[[.i 1,.i id,.i (1+x/64%4*j)]],false⟩->sF M 5 3 (.ref 0 (.o 5) ((ax C (.o 5)).ver+1) 3 0 (X.length+1)) (X++[[.i 1,.i id,.i (1+x/64%4*j)]]):=fun M h=>mJ (by omega) h;have sx:=Ah A;clear A r;generalize kD D1 q (k0+j+1) []=D' at*;simp(disch:=omega) only[↓zd,seval,push_cast,g3,U,R,g8,Q,F,YA,t1,t2,t3,t4,c,sx,ap];refine next _ _ ⟨fun m hm=> ?_,?_,?_,fun n hn=> ?_,?_,?_,_,?_,f1 _ ?_⟩
  ·rw[<-B m hm]
   simp(disch:=omega) only[bU,bY]
  ·simp only[↓zg,seval]
   rfl
  ·simp only[↓zg,seval]
   rfl
  ·rw[<-J n hn]
   have n4:(4=n)=False:=by simp;rintro rfl;simp at hn
   have n5:(5=n)=False:=by simp;rintro rfl;simp at hn
   simp only[ay,dM,Ix.o.injEq,n4,n5,bZ]
  ·simp only[eG]
   exact u
  ·simp only[cz]
  ·simp only[ay,dM,reduceCtorEq,Ix.o.injEq,Nat.reduceEqDiff,↓reduceIte]
  ·simp only[ay,dM,reduceCtorEq,Ix.o.injEq,Nat.reduceEqDiff,↓reduceIte]
 ·rintro lV C ⟨B,U,Q,J,u,r,x1,F,A⟩
  have R:=(B 7 (by omega)).trans N;have I:¬((Bh x:Nat):Int)<=x/32%2:=by unfold Bh;omega
  have hns:((Bh x:Nat):Int)<=2:=by omega
  have d:=fun fr' h h'=>done fr' C x1 h h' J F A u r;clear done A r;generalize ((Bh x:Nat):Int)=z9 at*;simp(disch:=omega) only[↓zd,seval,push_cast,R,Q,t1,t2];refine d _ (fun m hm=> ?_) ?_
  ·rw[<-B m hm]
   simp(disch:=omega) only[bU,bY]
  ·simp only[↓zg,seval,U]
def AO(n:Int):ByteArray:=if n=0 then⟨#[70,108,117,116,101]⟩else if n=1 then⟨#[67,108,97,114,105,110,101,116]⟩else if n=2 then⟨#[80,105,97,110,111]⟩else⟨#[86,105,111,108,97]⟩
def K6(x:Int)(k:Nat):Pa:=⟨(k+1:Nat),AO (x%4),Yu (x/4%6),VH (x/4%6),sN x (k+1) (Bh x)⟩
def Cj(st:List Pa×Nat)(x:Int):List Pa×Nat:=(st.1++[K6 x st.2],st.2+1+Bh x)
def rh(xs:List Int):List Pa×Nat:=xs.foldl Cj ([],0)
def Uv(x:Int):List V:=[.int .u8 x]
def qH(ps:List Int):List Int:=if ps=[]then[0]else ps.take 3
theorem PN(a:List Pa)(p:Pa):mI (a++[p])=mI a+p.ss.length:=by
 unfold mI;simp
theorem NN(xs:List Int)(i:Nat)(x:Int)(h:xs[i]? =some x):rh (xs.take (i+1))=Cj (rh (xs.take i)) x:=by
 unfold rh;rw[aY,h,eQ,kG];rfl
theorem UL:∀(xs:List Int),(rh xs).1.length=xs.length∧(rh xs).2<=3*xs.length∧mI (rh xs).1<=2*xs.length:=by
 have h:∀(xs:List Int)(st:List Pa×Nat),(xs.foldl Cj st).1.length=st.1.length+xs.length∧(xs.foldl Cj st).2<=st.2+3*xs.length∧mI (xs.foldl Cj st).1<=mI st.1+2*xs.length:=by
  intro xs;induction xs with
  |nil=>intro st;exact⟨rfl,aJ _,aJ _⟩
  |cons x xs c=>
   intro st;have:=c (Cj st x);have hn:Bh x<=2:=by unfold Bh;omega
   have l:(Cj st x).1.length=st.1.length+1:=by unfold Cj;simp
   have j:(Cj st x).2=st.2+1+Bh x:=rfl;have g:mI (Cj st x).1=mI st.1+Bh x:=by
    unfold Cj;rw[PN];simp[K6,sN]
   rw[jG,aS];omega
 intro xs;have:=h xs ([],0);unfold rh;exact⟨by simpa using this.1,by simpa using this.2.1,by simpa[mI]using this.2.2⟩
theorem PO{ps:List Int}(h:∀x∈ps,0<=x∧x<=255):(1<=(qH ps).length∧(qH ps).length<=3)∧∀x∈qH ps,0<=x∧x<=255:=by
 unfold qH;split
 ·simp
 ·rename_i c
  have:=dB.2 c;refine⟨?_,fun x hx=>h x (fH hx)⟩;rw[bf];omega
theorem l4p{cX:eu}(qG:cX=sb 4 13){fr:List V}{M:Mem}{K:List KI}{T:Option (V×Option (List Row))}{D1:List Row}{q b0:Nat}{ps:List Int}{wr zy:Bool}{wt:List V}(hps:∀x∈ps,0<=x∧x<=255)(hpl:ps.length<=9223372036854775807)(R:wt.length=3)
  (h1:ag fr 1= .ptr 0 (.o 1) 1 0 0)(h3:ag fr 3= .ptr 0 (.g q) 1 0 0)(h4:ag fr 4= .ptr 0 (.o 3) 1 0 0)(h5:ag fr 5= .i 0)(h6:ag fr 6= .i 0)
  (gG:ax M (.o 1)=⟨1,4,[AL zy 1 (ps.map Uv)::wt],false⟩)(I:ax M (.o 3)=⟨1,6,[[.str iB,.bool wr,.aL,.aL,.aL,.aL]],false⟩)(c:M.D=kD D1 q 0 [])(Q:M.b=b0)(hq:q<D1.length)(hb:b0<=q)
  (done:∀fr' j x1,(∀m,m<5->ag fr' m=ag fr m)->ag fr' 5= .i (mI (rh (qH ps)).1:Nat)->(∀n,n∈[1,2,7]->ax j (.o n)=ax M (.o n))->ax j (.o 3)=⟨1,6,[[.str iB,.bool wr,x1,.aL,.aL,.aL]],false⟩->sF j 6 6 x1 ((rh (qH ps)).1.map Pa.v)->j.b=b0->j.D=kD D1 q (rh (qH ps)).2 []->G bn H true [.cell 2 true 6] K fr' j=T):
  G bn H true [.cell 2 true 6] (.code (.loop cX):: .blk 0::K) fr M=T:=by
 subst qG;conv in sb _ _=>reduce
 simp only[↓zo,zp,seval];obtain⟨hxl,hxb⟩:=PO hps;have Ya:(ps.map Uv).length=ps.length:=aG _;refine bI (fun i fr' j=>(∀m,m<5->ag fr' m=ag fr m)∧ag fr' 5= .i (mI (rh ((qH ps).take i)).1:Nat)∧ag fr' 6= .i i∧(∀n,n∈[1,2,7]->ax j (.o n)=ax M (.o n))∧j.b=b0∧j.D=kD D1 q (rh ((qH ps).take i)).2 []∧∃x1,ax j (.o 3)=⟨1,6,[[.str iB,.bool wr,x1,.aL,.aL,.aL]],false⟩∧sF j 6 6 x1 ((rh ((qH ps).take i)).1.map Pa.v)) (qH ps).length ⟨fun m _=>rfl,h5,h6,fun n _=>rfl,Q,c,.aL,I,.inl ⟨rfl,rfl⟩⟩ ?_ ?_
 ·clear done I c Q h5 h6
  rintro i lV Z J ⟨u,F,l,O,Q,c,x1,I,A⟩ next
  have g1:=(u 1 (by omega)).trans h1;have g3:=(u 3 (by omega)).trans h3;have g4:=(u 4 (by omega)).trans h4;have C:=(O 1 (by simp)).trans gG;clear h1 h3 h4 gG;obtain⟨x,hx⟩:∃x,(qH ps)[i]? =some x:=⟨_,ak J⟩
  have bx:=hxb x (ah hx);have hb3:=UL ((qH ps).take i);rw[bf,eH (xN J)]at hb3;rw[NN _ _ _ hx]at next
  generalize rh ((qH ps).take i)=st at*;obtain⟨pl,k⟩:=st;unfold Cj at next
  rw[PN]at next
  dsimp only at F c A hb3 next
  have t1:x.tmod 4=x%4:=dP bx.1;have t2:x.tdiv 4=x/4:=jM bx.1;have aoP:=fun H=>c13 (H:=H) (n:=x/4) (by omega);have Mw:=fun r H=>ajt (H:=H) (L:=bu Z (.o 4) r) hq hb (k:=k) (by omega) (by rw[cz];exact c) (by rw[eG];exact Q);have hnm:([[.str ⟨#[70,108,117,116,101]⟩],[.str ⟨#[67,108,97,114,105,110,101,116]⟩],[.str ⟨#[80,105,97,110,111]⟩],[.str ⟨#[86,105,111,108,97]⟩]]:List (List V))[(x%4).toNat]? =some [.str (AO (x%4))]:=by
   have:x%4=0∨x%4=1∨x%4=2∨x%4=3:=by omega
   rcases this with h|h|h|h<;>rw[h]<;>rfl
  have hx4:0<=x%4:=by omega
  have z6:zK [[.i 0,.i 0,.str ⟨#[]⟩,.i 0,.i 0,.aL]] [.i 0,.i 0,.str ⟨#[]⟩,.i 0,.i 0,.aL]=true:=rfl;have sx:=Ah A;have hss:(K6 x k).ss.length=Bh x:=by simp[K6,sN]
  have hsn:Bh x<=2:=by unfold Bh;omega
  rw[hss]at next
  have eL:sb 4 13=_:=(by conv=>lhs;reduce);simp only[↓zo,zp,seval]at eL;have eI:sb 4 36=_:=(by conv=>lhs;reduce);simp only[↓zo,zp,seval]at eI;have hPS:sb 4 48=_:=(by conv=>lhs;reduce);simp only[↓zo,zp,seval]at hPS;have hRG:sb 4 29=_:=(by conv=>lhs;reduce);simp only[↓zo,zp,seval]at hRG;have fin:∀fr2 W v4,(∀m,m<9->m≠7->m≠8->ag fr2 m=ag lV m)->ag fr2 7= .int .u8 x->ag fr2 8= .ptr 0 (.o 4) v4 0 0->ag fr2 9= .i 0->(∀n,n≠4->ax W (.o n)=ax Z (.o n))->0<v4->ax W (.o 4)=⟨v4,6,[[.i 1,.i (k+1:Nat),.str (AO (x%4)),.i (Yu (x/4%6)),.i (VH (x/4%6)),.aL]],false⟩->W.b=b0->W.D=kD D1 q (k+1) []->G bn H true [.cell 2 true 6] (.code (.loop (sb 4 36)):: .blk 2:: .code (sb 4 48):: .blk 1:: .code (cR [oM 37 6,oK 38 .add 37 1,oM 6 38]):: .code (.loop (sb 4 13)):: .blk 0::K) fr2 W=T:=by
   intro fr2 W v4 a1 a7 a8 a9 aM YA aR4 aB aD;rw[eL,hPS];refine l4s (by kernel_rfl) (D1:=D1) (q:=q) (b0:=b0) (k0:=k+1) (n0:=mI pl) (v4:=v4) (x:=x) (a0:=1) (a1:=(k+1:Nat)) (a2:=AO (x%4)) (a3:=Yu (x/4%6)) (a4:=VH (x/4%6)) bx ((a1 3 (by omega) (by omega) (by omega)).trans g3) ((a1 5 (by omega) (by omega) (by omega)).trans F) a7 a8 a9 aR4 YA aD aB hq hb (by omega) (by omega) fun SA M3 x2 b1 b5 bM bR4 A2 bB bD=> ?_;have k4:ag SA 4= .ptr 0 (.o 3) 1 0 0:=(b1 4 (by omega)).trans ((a1 4 (by omega) (by omega) (by omega)).trans g4);have k6:ag SA 6= .i i:=(b1 6 (by omega)).trans ((a1 6 (by omega) (by omega) (by omega)).trans l);have k8:ag SA 8= .ptr 0 (.o 4) v4 0 0:=(b1 8 (by omega)).trans a8;have m3:ax M3 (.o 3)=_:=(bM 3 (by simp)).trans ((aM 3 (by omega)).trans I);have A':=qz A ((bM 6 (by simp)).trans (aM 6 (by omega)));have hX:(pl.map Pa.v).length<=1000000:=by rw[aG];omega
   have N:((sN x (k+1) (Bh x)).map St.v).length=Bh x:=by simp[sN]
   have aoQ:(sN x (k+1) (Bh x)).map St.v≠[]:=fun h=>by
    rw[h]at N;unfold Bh at N;simp at N
   have gl:((sN x (k+1) (Bh x)).map St.v).all (fun e=>e.all V.gL)=true:=KF (enc:=St.v) (fun _=>rfl) _;have hpv:(K6 x k).v=[.i 1,.i (k+1:Nat),.str (AO (x%4)),.i (Yu (x/4%6)),.i (VH (x/4%6)),.sl .any 3 ((sN x (k+1) (Bh x)).map St.v)]:=by
    unfold Pa.v K6;dsimp only;rw[jO aoQ]
   rw[aR,bO,dX,hpv]at next
   generalize (sN x (k+1) (Bh x)).map St.v=Y at*;rcases A2 with⟨h,_⟩|⟨_,ver,hv,rfl,h5⟩
   ·exact absurd h aoQ
   generalize pl.map Pa.v=X at*;generalize ((k+1:Nat):Int)=id at*;have ap:=fun r H=>lN (H:=H) (M:=bu M3 (.o 5) r) (bytes:=72) (s:=5) A' (by rw[ay,aP (by simp)]) hX (by omega) (x:=[.i 1,.i id,.str (AO (x%4)),.i (Yu (x/4%6)),.i (VH (x/4%6)),.sl .any 3 Y]) rfl rfl;have f1:∀M,ax M (.o 6)=⟨(ax M3 (.o 6)).ver+1,6,X++[[.i 1,.i id,.str (AO (x%4)),.i (Yu (x/4%6)),.i (VH (x/4%6)),.sl .any 3 Y]],false⟩->sF M 6 6 (.ref 0 (.o 6) ((ax M3 (.o 6)).ver+1) 6 0 (X.length+1)) (X++[[.i 1,.i id,.str (AO (x%4)),.i (Yu (x/4%6)),.i (VH (x/4%6)),.sl .any 3 Y]]):=fun M h=>mJ (by omega) h;have g6':[V.i 1,.i id,.str (AO (x%4)),.i (Yu (x/4%6)),.i (VH (x/4%6)),.sl .any 3 Y].all V.gL=true:=rfl;have frm:∀m,m<5->ag SA m=ag fr m:=fun m hm=>(b1 m (by omega)).trans ((a1 m (by omega) (by omega) (by omega)).trans (u m hm));have rn:∀n,n∈[1,2,7]->ax M3 (.o n)=ax M (.o n):=fun n hn=>(bM n (by intro h;simp at hn h;omega)).trans ((aM n (by rintro rfl;simp at hn)).trans (O n hn));clear A A' c Mw aoP hnm aM a1 aD F a7 a9 a8;generalize AO (x%4)=nm at*;generalize Yu (x/4%6)=ts at*;generalize VH (x/4%6)=tn at*;generalize hT0:iB=T0 at*;simp(disch:=omega) only[↓zd,seval,push_cast,k4,k6,k8,m3,bR4,YA,h5,hv,qg,jR,kJ,tO,uM,zt,Px,Ad,g6',lZ,gl,dH,aT,sx,ap];refine next _ _ ⟨fun m hm=> ?_,?_,?_,fun n hn=> ?_,?_,?_,_,?_,f1 _ ?_⟩
   ·rw[<-frm m hm]
    simp(disch:=omega) only[bU,bY]
   ·simp only[↓zg,seval,b5]
   ·simp only[↓zg,seval]
    rfl
   ·rw[<-rn n hn]
    have n3:(3=n)=False:=by simp at hn;simp;omega
    have n5:(5=n)=False:=by simp at hn;simp;omega
    have n6:(6=n)=False:=by simp at hn;simp;omega
    simp only[ay,Ix.o.injEq,n3,n5,n6,bZ]
   ·simp only[eG]
    exact bB
   ·simp only[cz]
    exact bD
   ·simp only[ay,reduceCtorEq,Ix.o.injEq,Nat.reduceEqDiff,↓reduceIte]
   ·simp only[ay,reduceCtorEq,Ix.o.injEq,Nat.reduceEqDiff,↓reduceIte]
  rw[eL]at fin;have B:∀fr2,(∀m,m<7->ag fr2 m=ag lV m)->ag fr2 7= .int .u8 x->G bn H true [.cell 2 true 6] (.code (sb 4 29):: .blk 1:: .code (cR [oM 37 6,oK 38 .add 37 1,oM 6 38]):: .code (.loop (sb 4 13)):: .blk 0::K) fr2 Z=T:=by
   intro fr2 a1 a7;rw[eL,hRG];have g3':=(a1 3 (by omega)).trans g3;rw[<-hPS,<-eI]at fin⊢;clear next hPS eI hRG eL O c
   generalize ((k+1:Nat):Int)=id at*;generalize kD D1 q (k+1) []=D' at*;simp(disch:=omega) only[↓zd,seval,push_cast,g3',a7,t1,t2,Mw,aoP,hnm,hx4,z6,jZ,iZ];refine fin _ _ ((ax Z (.o 4)).ver+1) (fun m hm h7 h8=> ?_) ?_ ?_ ?_ (fun n hn=> ?_) (jA _) ?_ ?_ ?_
   ·rw[<-a1 m (by omega)]
    simp(disch:=omega) only[bU,bY]
   ·simp only[↓zg,seval,a7]
   ·simp only[↓zg,seval]
   ·simp only[↓zg,seval]
    all_goals rfl
   ·have n4:(4=n)=False:=by simp;omega
    simp only[ay,dM,Ix.o.injEq,n4,bZ]
   ·simp only[ay,bK]
   ·simp only[eG]
    exact Q
   ·simp only[cz]
  rw[eL]at B;rw[<-hRG]at B⊢;clear fin next hRG hPS eI eL O c
  by_cases hp:ps=[]
  ·have hx0:x=0:=by
    subst hp;unfold qH at hx;rw[aX rfl]at hx;cases i with
    |zero=>simpa using hx.symm
    |succ i=>simp at hx
   have hi0:((i:Int)=0)=True:=by
    subst hp;unfold qH at J;rw[aX rfl]at J;simp at J;simp;omega
   rw[hp,dX]at C;simp(disch:=omega) only[↓zd,seval,push_cast,kW,uB,nK,g1,l,C,R,hi0];refine B _ (fun m hm=> ?_) ?_
   ·simp(disch:=omega) only[bU,bY]
   ·simp only[↓zg,seval]
    rw[hx0]
  ·have LQ:qH ps=ps.take 3:=by unfold qH;rw[aP hp]
   rw[LQ]at hx J;rw[bf]at J;rw[GK,aX (by omega)]at hx;have hux:(ps.map Uv)[i]? =some [.int .u8 x]:=by rw[aK,hx];rfl
   have UG:0<ps.length:=dB.2 hp;have hi3:i<3:=by omega
   have hip:i<ps.length:=by omega
   generalize ps.map Uv=U at*;simp(disch:=omega) only[↓zd,seval,push_cast,kW,uB,nK,g1,l,C,R,Ya,hux,UG];refine B _ (fun m hm=> ?_) ?_
   ·simp(disch:=omega) only[bU,bY]
   ·simp only[↓zg,seval]
    all_goals rfl
 ·rintro lV Z ⟨u,F,l,O,Q,c,x1,I,A⟩
  have g1:=(u 1 (by omega)).trans h1;have C:=(O 1 (by simp)).trans gG;rw[aT]at F c A;have d:=fun fr' h h'=>done fr' Z x1 h h' O I A Q c;clear done A c gG I;by_cases hp:ps=[]
  ·have avJ:(qH ps).length=1:=by rw[hp];rfl
   rw[avJ]at l;rw[hp,dX]at C;simp(disch:=omega) only[↓zd,seval,push_cast,kW,uB,nK,g1,l,C,R];refine d _ (fun m hm=> ?_) ?_
   ·rw[<-u m hm]
    simp(disch:=omega) only[bU,bY]
   ·simp only[↓zg,seval,F]
  ·have UG:0<ps.length:=dB.2 hp
   have LQ:(qH ps).length=min 3 ps.length:=by unfold qH;rw[aP hp,bf]
   generalize ps.map Uv=U at*;rcases jq ps.length 3 with h3'|h3'
   ·rw[LQ,Nat.min_eq_right (by omega)]at l
    have GQ:((ps.length:Int)=0)=False:=by simp;exact hp
    simp(disch:=omega) only[↓zd,seval,push_cast,kW,uB,nK,g1,l,C,R,Ya,GQ];refine d _ (fun m hm=> ?_) ?_
    ·rw[<-u m hm]
     simp(disch:=omega) only[bU,bY]
    ·simp only[↓zg,seval,F]
   ·rw[LQ,eH h3']at l
    rcases jq 3 ps.length with h4'|h4'
    ·simp(disch:=omega) only[↓zd,seval,push_cast,kW,uB,nK,g1,l,C,R,Ya]
     refine d _ (fun m hm=> ?_) ?_
     ·rw[<-u m hm]
      simp(disch:=omega) only[bU,bY]
     ·simp only[↓zg,seval,F]
    ·simp(disch:=omega) only[↓zd,seval,push_cast,kW,uB,nK,g1,l,C,R,Ya]
     refine d _ (fun m hm=> ?_) ?_
     ·rw[<-u m hm]
      simp(disch:=omega) only[bU,bY]
     ·simp only[↓zg,seval,F]
def K7(N:Nat)(st:List Me×Nat)(b:Ba):List Me×Nat:=(st.1++[X6 b st.2 N],GC b st.2 N)
def wX(N:Nat)(bs:List Ba)(k:Nat):List Me×Nat:=bs.foldl (K7 N) ([],k)
theorem NP(N:Nat)(bs:List Ba)(k i:Nat)(b:Ba)(h:bs[i]? =some b):wX N (bs.take (i+1)) k=K7 N (wX N (bs.take i) k) b:=by
 unfold wX;rw[aY,h,eQ,kG];rfl
theorem ajK{b:Ba}(ok:yG b)(k N:Nat):k<=GC b k N∧GC b k N<=k+1+114*N:=by
 have:=ok.mt;obtain⟨u,c,g⟩:=UI (k:=b.mt%5) (by unfold Fj;omega);unfold GC;rw[g];have:=PK (fi:=b.fi) ok (k:=k+1) c N;omega
theorem PQ{bs:List Ba}(ok:∀b∈bs,yG b)(k N:Nat):(wX N bs k).1.length=bs.length∧k<=(wX N bs k).2∧(wX N bs k).2<=k+(1+114*N)*bs.length:=by
 have h:∀(bs:List Ba)(st:List Me×Nat),(∀b∈bs,yG b)->(bs.foldl (K7 N) st).1.length=st.1.length+bs.length∧st.2<=(bs.foldl (K7 N) st).2∧(bs.foldl (K7 N) st).2<=st.2+(1+114*N)*bs.length:=by
  intro bs;induction bs with
  |nil=>intro st _;exact⟨rfl,aJ _,aJ _⟩
  |cons b bs c=>
   intro st ok;have:=c (K7 N st b) (fun y g=>ok y (dD _ g));have j:=ajK (ok b (gH ..)) st.2 N;have r:(K7 N st b).1.length=st.1.length+1:=by unfold K7;simp
   have l:(K7 N st b).2=GC b st.2 N:=rfl;rw[jG,aS,Nat.mul_succ];omega
 have:=h bs ([],k) ok;unfold wX;simpa using this
theorem avK{D1 R:List Row}{q b0 k n:Nat}{b:Ba}(ok:yG b)(l:q<D1.length)(A:b0<=q)(r:k<=600000)(c:1<=n)(hn:n<=10){L:Mem}(j:L.D=kD D1 q k R)(B:L.b=b0):
  call bn 14 [.ptr 0 (.g q) 1 0 0,.agg b.v,.i n] (L::H)=some (.agg (sM true (D1.length+R.length) (X6 b k n)),some (kD D1 q (GC b k n) (R++rM true false (X6 b k n)))):=by
 have u:ax L (.g q)=kF k:=by
  show eP L.D q=_;rw[j];exact UH l
 have hl:L.D.length=D1.length+R.length:=by rw[j,abb l]
 rw[c14 ok u (by omega) r c hn,hl,j];unfold kD;rw[KT (by rw[fw];omega),iq,aC]
theorem l4m{cX:eu}(qG:cX=sb 4 63){fr:List V}{M:Mem}{K:List KI}{T:Option (V×Option (List Row))}{D1:List Row}{q b0 k N:Nat}{bs:List Ba}{wr:Bool}{P6:V}(ok:∀b∈bs,yG b)(hbl:bs.length<=6)(hN:1<=N∧N<=6)(Z:V.shift 0 P6=P6)
  (h3:ag fr 3= .ptr 0 (.g q) 1 0 0)(h4:ag fr 4= .ptr 0 (.o 3) 1 0 0)(h5:ag fr 5= .i N)(W:ag fr 10=cu 5 (bs.map Ba.v))(jg:ag fr 11= .i 0)
  (B:ax M (.o 3)=⟨1,6,[[.str iB,.bool wr,P6,.aL,.aL,.aL]],false⟩)(l:M.D=kD D1 q k [])(F:M.b=b0)(hq:q<D1.length)(hb:b0<=q)(hk:k<=1000)
  (done:∀fr' j x1,(∀m,m<11->ag fr' m=ag fr m)->(∀n,n∈[1,2,6]->ax j (.o n)=ax M (.o n))->ax j (.o 3)=⟨1,6,[[.str iB,.bool wr,P6,x1,.aL,.aL]],false⟩->sF j 7 22 x1 (gY (sM true) (rM true false) D1.length (wX N bs k).1)->j.b=b0->j.D=kD D1 q (wX N bs k).2 ((wX N bs k).1.flatMap (rM true false))->G bn H true [.cell 2 true 6] K fr' j=T):
  G bn H true [.cell 2 true 6] (.code (.loop cX):: .blk 4::K) fr M=T:=by
 subst qG;conv in sb _ _=>reduce
 simp only[↓zo,zp,seval];have Ya:(bs.map Ba.v).length=bs.length:=aG _;refine bI (fun i fr' j=>(∀m,m<11->ag fr' m=ag fr m)∧ag fr' 11= .i i∧(∀n,n∈[1,2,6]->ax j (.o n)=ax M (.o n))∧j.b=b0∧j.D=kD D1 q (wX N (bs.take i) k).2 ((wX N (bs.take i) k).1.flatMap (rM true false))∧∃x1,ax j (.o 3)=⟨1,6,[[.str iB,.bool wr,P6,x1,.aL,.aL]],false⟩∧sF j 7 22 x1 (gY (sM true) (rM true false) D1.length (wX N (bs.take i) k).1)) bs.length ⟨fun m _=>rfl,jg,fun n _=>rfl,F,l,.aL,B,.inl ⟨rfl,rfl⟩⟩ ?_ ?_
 ·clear done B l F jg
  rintro i lV I hi ⟨r,Q,hM,F,l,x1,B,A⟩ next
  have g3:=(r 3 (by omega)).trans h3;have g4:=(r 4 (by omega)).trans h4;have g5:=(r 5 (by omega)).trans h5;have R:=(r 10 (by omega)).trans W;clear h3 h4 h5 W;obtain⟨b,C⟩:∃x,bs[i]? =some x:=⟨_,ak hi⟩
  have U:=ok b (ah C);have J:=PQ (bs:=bs.take i) (fun y hy=>ok y (fH hy)) k N;rw[bf,eH (xN hi)]at J;rw[NP _ _ _ _ _ C]at next
  generalize wX N (bs.take i) k=st at*;obtain⟨ms,u⟩:=st;unfold K7 at next
  dsimp only at l A J next
  have Yo:u<=600000:=by
   have:(1+114*N)*i<=(1+114*6)*6:=H9 (by omega) (by omega);omega
  have c:=fun H=>avK (H:=H) (L:=I) U hq hb Yo hN.1 (by omega) l F;have ajw:gY (sM true) (rM true false) D1.length (ms++[X6 b u N])=gY (sM true) (rM true false) D1.length ms++[sM true (D1.length+(ms.flatMap (rM true false)).length) (X6 b u N)]:=by rw[FB];rfl
  have hDn:(ms++[X6 b u N]).flatMap (rM true false)=ms.flatMap (rM true false)++rM true false (X6 b u N):=by rw[bH];simp
  rw[ajw,hDn]at next
  have hX:(gY (sM true) (rM true false) D1.length ms).length<=1000000:=by rw[fE];omega
  generalize X6 b u N=m at*;have e1:=(zq true (D1.length+(ms.flatMap (rM true false)).length) m).1;have e2:=aaC true (D1.length+(ms.flatMap (rM true false)).length) m;have e3:=aaB true (D1.length+(ms.flatMap (rM true false)).length) m;have e4:=aaA true (D1.length+(ms.flatMap (rM true false)).length) m;have sh:=fun L=>V7 L true (D1.length+(ms.flatMap (rM true false)).length) m;generalize sM true (D1.length+(ms.flatMap (rM true false)).length) m=E at*;generalize gY (sM true) (rM true false) D1.length ms=X at*;generalize kD D1 q (GC b u N) (ms.flatMap (rM true false)++rM true false m)=D' at*;have ap:=fun D H=>lN (H:=H) (M:=⟨D,I.O,I.b⟩) (bytes:=216) (s:=6) A rfl hX (by omega) (x:=E) e1 e3;have f1:∀M,ax M (.o 7)=⟨(ax I (.o 7)).ver+1,22,X++[E],false⟩->sF M 7 22 (.ref 0 (.o 7) ((ax I (.o 7)).ver+1) 22 0 (X.length+1)) (X++[E]):=fun M h=>mJ (by omega) h;have sx:=Ah A;have b1:=b.sz.1;have b2:=b.sz.2;have b3:=b.tk;have b4:=b.sc;have Y:(bs.map Ba.v)[i]? =some b.v:=by rw[aK,C];rfl
  clear A l;generalize bs.map Ba.v=Bv at*;generalize b.v=bv at*;generalize hT0:iB=T0 at*;simp(disch:=omega) only[↓zd,seval,push_cast,g3,g4,g5,R,Q,B,Ya,Y,b1,b2,b3,b4,c,qg,jR,sh,lZ,e1,e2,e3,e4,sx,ap,Z];refine next _ _ ⟨fun m hm=> ?_,?_,fun n hn=> ?_,?_,?_,_,?_,f1 _ ?_⟩
  ·rw[<-r m hm]
   simp(disch:=omega) only[bU,bY]
  ·simp only[↓zg,seval]
   rfl
  ·rw[<-hM n hn]
   have n3:(3=n)=False:=by simp at hn;simp;omega
   have n7:(7=n)=False:=by simp at hn;simp;omega
   simp only[ay,dM,Ix.o.injEq,n3,n7,bZ]
  ·simp only[eG]
   exact F
  ·simp only[cz]
  ·simp only[ay,dM,reduceCtorEq,Ix.o.injEq,Nat.reduceEqDiff,↓reduceIte]
  ·simp only[ay,dM,reduceCtorEq,Ix.o.injEq,Nat.reduceEqDiff,↓reduceIte]
 ·rintro lV I ⟨r,Q,hM,F,l,x1,B,A⟩
  have R:=(r 10 (by omega)).trans W;rw[aT]at l A;have d:=fun fr' h=>done fr' I x1 h hM B A F l;clear done A l B;generalize bs.map Ba.v=Bv at*;simp(disch:=omega) only[↓zd,seval,push_cast,R,Q,Ya];refine d _ fun m hm=> ?_;rw[<-r m hm];simp(disch:=omega) only[bU,bY]
structure Ln where
 kd:Int
 vo:Int
 fr:Int
 to:Int
def Ln.v(x:Ln):List V:=[.int .u8 x.kd,.int .u8 x.vo,.int .u8 x.fr,.int .u8 x.to]
structure PR(x:Ln):Prop where
 kd:0<=x.kd∧x.kd<=255
 vo:0<=x.vo∧x.vo<=255
 fr:0<=x.fr∧x.fr<=255
 to:0<=x.to∧x.to<=255
theorem Ln.sz(x:Ln):x.v.length=4∧∀d,V.bW d x.v=x.v:=⟨rfl,fun _=>rfl⟩
theorem Ln.tk(x:Ln):x.v.take 4=x.v:=rfl
theorem Ln.sc(x:Ln):x.v.all V.scalar=true:=rfl
noncomputable def Dz(t:Sc):Bool:= @decide (∃n ig,LA t n ig∧lu t ig=true) (Classical.propDecidable _)
theorem aew{sz:Nat}{a b:List (List V)}(h:cu sz a=cu sz b):a.isEmpty=b.isEmpty:=by
 cases a with
 |nil=>cases b with
  |nil=>rfl
  |cons x l=>rw[gF,jO (by simp)]at h;cases h
 |cons x l=>cases b with
  |nil=>rw[gF,jO (by simp)]at h;cases h
  |cons y m=>rfl
theorem R6{t:Sc}{n:Int}{g:List Sn}(w:LA t n g):Dz t=lu t g:=by
 unfold Dz;by_cases h:lu t g=true
 ·rw[h]
  exact @dW _ (Classical.propDecidable _) ⟨n,g,w,h⟩
 ·rw[eq_false_of_ne_true h]
  refine @fB _ (Classical.propDecidable _) ?_;rintro⟨A,r,w',l⟩;obtain⟨els,c,j⟩:=c18 (H:=[]) w;obtain⟨els',c',u⟩:=c18 (H:=[]) w';rw[c]at c';injection c' with c'
  injection c' with c' _
  have:=aew c';rw[j,u,l]at this;exact h this
theorem avN{t:Sc}{n:Int}{g:List Sn}(w:LA t n g):∃els,call bn 18 [.agg t.v] H=some (cu 3 els,none)∧els.isEmpty=Dz t:=by
 obtain⟨els,c,j⟩:=c18 (H:=H) w;exact⟨els,c,by rw[j,R6 w]⟩
def su(s:Sc)(x:V):List V:=[.str iB,.bool s.wr,cu 6 (s.ps.map Pa.v),cu 22 (s.ms.map Me.v),x,cu 2 (s.la.map Av)]
theorem agk(s:Sc):su s (cu 7 (s.sp.map Sp.v))=s.v:=rfl
theorem f4{cX:eu}(qG:cX=sb 4 107){fr:List V}{M:Mem}{K:List KI}{T:Option (V×Option (List Row))}{t:Sc}{x0:V}{s:Sc}{a b:Nat}{v9 ver:Nat}{ix:Ix}(EW:V.shift 0 x0=x0)
  (N:a≠b->∃n ig,LA t n ig)(O:t.sp≠[])(I:ix≠.o 3)(F:ix≠.o 9)(Q:M.ok ix=true)
  (W:ag fr 4= .ptr 0 (.o 3) 1 0 0)(J:ag fr 16= .i a)(Z:ag fr 17= .i b)(Y:ag fr 18= .ptr 0 (.o 9) v9 0 0)(A:0<v9)(hv:0<ver)
  (ji:ax M (.o 3)=⟨1,6,[su s x0],false⟩)(B:ax M (.o 9)=⟨v9,6,[su t (.ref 0 ix ver 7 0 t.sp.length)],false⟩)(U:ax M ix=⟨ver,7,t.sp.map Sp.v,false⟩)
  (d1:a≠b->Dz t=true->∀fr' l,(∀m,m<16->ag fr' m=ag fr m)->l=bu (bu M ix ⟨ver,7,t.sp.map Sp.v,true⟩) (.o 3) ⟨1,6,[su t (.ref 0 ix ver 7 0 t.sp.length)],false⟩->G bn H true [.cell 2 true 6] K fr' l=T)
  (C:¬(a≠b∧Dz t=true)->∀fr' l,(∀m,m<16->ag fr' m=ag fr m)->(l=M∨l=bu M ix ⟨ver,7,t.sp.map Sp.v,true⟩)->G bn H true [.cell 2 true 6] K fr' l=T):
  G bn H true [.cell 2 true 6] (.code cX::K) fr M=T:=by
 subst qG;conv in sb _ _=>reduce
 simp only[↓zo,zp,seval];have p1:=dh Pa.pu t.ps;have p2:=dh Me.pu t.ms;have p3:=dh Av.pu t.la;have p4:=dh Sp.pu t.sp;have AX:(t.sp.map Sp.v).length=t.sp.length:=aG _;have fP:t.sp.map Sp.v≠[]:=by simpa using O
 have fz:qd M [.agg (su t (.ref 0 ix ver 7 0 t.sp.length))]=some ([.agg t.v],bu M ix ⟨ver,7,t.sp.map Sp.v,true⟩):=by
  rw[<-agk t,jO fP];unfold su;generalize t.sp.map Sp.v=X at*;simp only[qd,sG,zJ,xf,rU,uY,sH,p1,p2,p3,bK,bG,aU,mZ,U,p4,AX,Q,hv];simp[<-AX]
 have t1:=t.sz.1;have t2:=t.sz.2;have u1:(su t (.ref 0 ix ver 7 0 t.sp.length)).length=6:=rfl;have u2:(su t (.ref 0 ix ver 7 0 t.sp.length)).take 6=su t (.ref 0 ix ver 7 0 t.sp.length):=rfl;have u3:(su t (.ref 0 ix ver 7 0 t.sp.length)).all V.scalar=true:=by
  have hx:V.scalar (.ref 0 ix ver 7 0 t.sp.length)=true:=rfl;simp only[su,aZ,cB,gq,mO,hx,bR]
 have u4:V.bW 0 (su t (.ref 0 ix ver 7 0 t.sp.length))=su t (.ref 0 ix ver 7 0 t.sp.length):=by
  have hx:V.shift 0 (.ref 0 ix ver 7 0 t.sp.length)= .ref 0 ix ver 7 0 t.sp.length:=by cases ix<;>rfl
  simp only[su,V.bW,hx,nZ];rfl
 have w1:(su s x0).length=6:=rfl;have w2:(su s x0).drop 6=[]:=rfl;have hg:Dz t=Dz t:=rfl;have n3:(ix= .o 3)=False:=ru I;have n9:(ix= .o 9)=False:=ru F;have u:(Ix.o 3=ix)=False:=ru (fun h=>I h.symm);have r:(Ix.o 9=ix)=False:=ru (fun h=>F h.symm);by_cases g:a=b
 ·have d:=C (by rintro⟨h,_⟩;exact h g)
  have j:((a:Int)=(b:Int))=True:=by simp;omega
  clear d1 C fz N;have avP:(a:Int)=(b:Int):=by omega
  rw[avP]at J;simp(disch:=omega) only[↓zd,seval,push_cast,W,J,Z,Y];refine d _ _ (fun m hm=> ?_) (Or.inl rfl);simp(disch:=omega) only[bU,bY]
 ·obtain⟨n,ig,w⟩:=N g
  have j:((a:Int)=(b:Int))=False:=by simp;omega
  obtain⟨els,c,R⟩:=avN (H:=bu M ix ⟨ver,7,t.sp.map Sp.v,true⟩::H) w;clear N w;generalize Dz t=gd at*;generalize t.v=tv at*;generalize su t (.ref 0 ix ver 7 0 t.sp.length)=tc at*;generalize su s x0=sc at*;generalize t.sp.map Sp.v=X at*;cases gd with
  |true=>
   have d:=d1 g rfl;obtain rfl:els=[]:=List.isEmpty_iff.1 R;rw[gF]at c;clear d1 C;simp(disch:=omega) only[↓zd,seval,push_cast,W,J,Z,Y,j,B,ji,A,fz,c,t1,t2,u1,u2,u3,u4,w1,w2,n3,n9,u,r];refine d _ _ (fun m hm=> ?_) rfl;simp(disch:=omega) only[bU,bY]
  |false=>
   have d:=C (by rintro⟨_,h⟩;cases h);have Md:els≠[]:=fun h=>by rw[h]at R;cases R
   have ajI:((els.length:Int)=0)=False:=by simp;exact Md
   clear d1 C;simp(disch:=omega) only[↓zd,seval,push_cast,W,J,Z,Y,j,B,ji,A,fz,c,t1,t2,u1,u2,u3,u4,w1,w2,n3,n9,u,r,ajI];refine d _ _ (fun m hm=> ?_) (Or.inr rfl);simp(disch:=omega) only[bU,bY]
def jOf(ids:List (List Int))(x:Ln):Nat:=(x.vo%(ids.length:Int)).toNat
def kU(ids:List (List Int))(x:Ln):List Int:=(ids[jOf ids x]?).getD []
def wh(own:List Int)(n:Int):Nat:=(n%(own.length:Int)).toNat
def SE(x:Ln)(own:List Int)(k:Nat):Sp:=⟨(k+1:Nat),1+x.kd%7,(own[min (wh own x.fr) (wh own x.to)]?).getD 0,(own[max (wh own x.fr) (wh own x.to)]?).getD 0⟩
def lL(x:Ln)(own:List Int)(s:Sc)(k:Nat):Sc:={s with sp:=s.sp++[SE x own k],la:=[((k+1:Nat):Int)]}
noncomputable def Ck(ids:List (List Int))(st:Sc×Nat)(x:Ln):Sc×Nat:=
 if 1<(kU ids x).length then
  (if wh (kU ids x) x.fr≠wh (kU ids x) x.to∧Dz (lL x (kU ids x) st.1 st.2)=true then lL x (kU ids x) st.1 st.2 else st.1,st.2+1)
 else st
def SpV(M:Mem)(q:Nat)(v:V)(sp:List Sp):Prop:=(sp=[]∧v= .aL)∨(sp≠[]∧∃ix ver,v= .ref 0 ix ver 7 0 sp.length∧0<ver∧ax M ix=⟨ver,7,sp.map Sp.v,true⟩∧(ix= .o 10∨∃n,ix= .g n∧n≠q∧n<M.D.length))
structure LI(M:Mem)(q b0:Nat)(s:Sc)(k:Nat)(x0:V):Prop where
 b:M.b=b0
 k:ax M (.g q)=kF k
 l:q<M.D.length
 R3:ax M (.o 3)=⟨1,6,[su s x0],false⟩
 S:SpV M q x0 s.sp
theorem PS{own:List Int}{n:Int}(h:1<own.length):wh own n<own.length∧((wh own n:Nat):Int)=n%(own.length:Int):=by
 unfold wh;have g:=Int.emod_nonneg n (b:=(own.length:Int)) (by omega);have c:=Int.emod_lt_of_pos n (b:=(own.length:Int)) (by omega);omega
theorem e4{cX:eu}(qG:cX=sb 4 99){fr:List V}{M:Mem}{K:List KI}{T:Option (V×Option (List Row))}{s:Sc}{k q b0 v8:Nat}{x0:V}{x:Ln}{own:List Int}(ok:PR x)(hown:1<own.length)(hol:own.length<=100000)(hsl:s.sp.length<=1000)(hb:b0<=q)(hk:k<=900000)
  (hw:wh own x.fr≠wh own x.to->∃n ig,LA (lL x own s k) n ig)(I:LI M q b0 s k x0)
  (h3:ag fr 3= .ptr 0 (.g q) 1 0 0)(h4:ag fr 4= .ptr 0 (.o 3) 1 0 0)(oh:ag fr 14= .ptr 0 (.o 8) v8 0 0)(tJ:ag fr 15=cu 2 (own.map Av))(hv8:0<v8)(hR8:ax M (.o 8)=⟨v8,4,[x.v],false⟩)
  (done:∀fr' A x1 s',(∀m,m<14->ag fr' m=ag fr m)->(∀n,n∈[1,2]->ax A (.o n)=ax M (.o n))->s'=(if wh own x.fr≠wh own x.to∧Dz (lL x own s k)=true then lL x own s k else s)->LI A q b0 s' (k+1) x1->G bn H true [.cell 2 true 6] K fr' A=T):
  G bn H true [.cell 2 true 6] (.code cX::K) fr M=T:=by
 subst qG;conv in sb _ _=>reduce
 simp only[↓zo,zp,seval];obtain⟨al,ai⟩:=PS (n:=x.fr) hown;obtain⟨bl,bi⟩:=PS (n:=x.to) hown;obtain⟨Ib,Ik,Il,r,IS⟩:=I;have t1:x.fr.tmod (own.length:Int)=((wh own x.fr:Nat):Int):=by rw[dP ok.fr.1,ai]
 have t2:x.to.tmod (own.length:Int)=((wh own x.to:Nat):Int):=by rw[dP ok.to.1,bi]
 have t3:x.kd.tmod 7=x.kd%7:=dP ok.kd.1;have kdb:=ok.kd;have x1:=x.sz.1;have v0:x.v[0]? =some (.int .u8 x.kd):=rfl;have v2:x.v[2]? =some (.int .u8 x.fr):=rfl;have v3:x.v[3]? =some (.int .u8 x.to):=rfl;have W:lL x own s k={s with sp:=s.sp++[SE x own k],la:=[((k+1:Nat):Int)]}:=rfl;have hcv:∀y,su (lL x own s k) y=[.str iB,.bool s.wr,cu 6 (s.ps.map Pa.v),cu 22 (s.ms.map Me.v),y,.sl .any 2 [[.i 1,.i (k+1:Nat)]]]:=fun y=>rfl;have Yb:(lL x own s k).sp.map Sp.v=s.sp.map Sp.v++[(SE x own k).v]:=by rw[W];simp
 have Y:(lL x own s k).sp.length=s.sp.length+1:=by rw[W];simp
 have aeA:(lL x own s k).sp≠[]:=by rw[W];simp
 have hlv:(SE x own k).v=[.i 1,.i (k+1:Nat),.i (1+x.kd%7),.i 1,.i (SE x own k).fr,.i 1,.i (SE x own k).to]:=rfl;have dG:own[min (wh own x.fr) (wh own x.to)]? =some (SE x own k).fr:=by
  unfold SE;rw[ak (by omega)];rfl
 have hto:own[max (wh own x.fr) (wh own x.to)]? =some (SE x own k).to:=by
  unfold SE;rw[ak (by omega)];rfl
 have hfv:(own.map Av)[min (wh own x.fr) (wh own x.to)]? =some [.i 1,.i (SE x own k).fr]:=by rw[aK,dG];rfl
 have htv:(own.map Av)[max (wh own x.fr) (wh own x.to)]? =some [.i 1,.i (SE x own k).to]:=by rw[aK,hto];rfl
 have ajM:(own.map Av).length=own.length:=aG _;have fin:=fun fr M v9 ver ix aex aey hok h4 l7 gM gU hv9 hv ji hR9 hRx d1 d2=>f4 (cX:=sb 4 107) rfl (H:=H) (K:=K) (T:=T) (fr:=fr) (M:=M) (t:=lL x own s k) (x0:=x0) (s:=s) (a:=wh own x.fr) (b:=wh own x.to) (v9:=v9) (ver:=ver) (ix:=ix) (by rcases IS with⟨_,rfl⟩|⟨_,ix,_,rfl,_⟩<;>first|rfl|(cases ix<;>rfl)) hw aeA aex aey hok h4 l7 gM gU hv9 hv ji hR9 hRx d1 d2;have s1:∀y,(su s y).length=6:=fun _=>rfl;have s2:∀y,V.scalar y=true->(su s y).all V.scalar=true:=fun y hy=>by simp only[su,aZ,cB,gq,mO,hy,bR]
 have s4:∀y,(su s y)[4]? =some y:=fun _=>rfl;have s5:∀y,(su s y).take 6=su s y:=fun _=>rfl;have s6:∀y z,(su s y).take 4++[z]++(su s y).drop 5=su s z:=fun _ _=>rfl;have s7:∀y,(su s y).take 5++[.sl .any 2 [[.i 1,.i (k+1:Nat)]]]++(su s y).drop 6=su (lL x own s k) y:=fun y=>rfl;have s8:∀y,V.shift 0 y=y->V.bW 0 (su s y)=su s y:=fun y hy=>by
  simp only[su,V.bW,hy,nZ];rfl
 have okf:=ok.fr;have okt:=ok.to;have k1:ax M (.g q)=⟨1,1,[[.i k]],false⟩:=Ik;have We:(if((wh own x.to:Nat):Int)<((wh own x.fr:Nat):Int)then((wh own x.to:Nat):Int)else((wh own x.fr:Nat):Int))=((min (wh own x.fr) (wh own x.to):Nat):Int):=by split<;>omega
 have hmx:(if((wh own x.to:Nat):Int)>((wh own x.fr:Nat):Int)then((wh own x.to:Nat):Int)else((wh own x.fr:Nat):Int))=((max (wh own x.fr) (wh own x.to):Nat):Int):=by split<;>omega
 have hDl:(dE M.D q (kF (k+1))).length=M.D.length:=by rw[fw];omega
 have U:∀O b,ax (⟨dE M.D q (kF (k+1)),O,b⟩:Mem) (.g q)=⟨1,1,[[.i (k+1:Nat)]],false⟩:=fun O b=>by
  show eP (dE M.D q _) q=_;rw[cK,aX rfl];rfl
 have hF:sb 4 107=_:=(by conv=>lhs;reduce);simp only[↓zo,zp,seval]at hF;rw[<-hF];rw[hlv]at Yb;clear hF hlv W hcv dG hto ai bi;rcases IS with⟨EW,rfl⟩|⟨ajN,ix,ver,rfl,kH,B,RJ⟩
 ·have c:=fun r1 r2 H=>c12 (H:=H) (L:=bu (bu M (.o 9) r1) (.o 9) r2) (q:=q) (k:=k) (by simp only[ay,reduceCtorEq,bZ];exact Ik) (by simp only[eG];omega) (by omega)
  simp only[cz]at c;have EB:=s2 .aL rfl;have Q:=s8 .aL rfl;have R:=s7 (.ref 0 (.o 10) ((ax M (.o 10)).ver+1) 7 0 1);rw[EW]at Yb Y;generalize dE M.D q (kF (k+1))=D' at*;generalize hid:((k+1:Nat):Int)=id at*;generalize min (wh own x.fr) (wh own x.to)=mn at*;generalize max (wh own x.fr) (wh own x.to)=mx at*;generalize own.map Av=ov at*;generalize aeB:su s=SP at*;generalize Z:su (lL x own s k)=SC at*;generalize x.v=xv at*;simp(disch:=omega) only[↓zd,seval,push_cast,h3,h4,oh,tJ,hR8,hv8,x1,v0,v2,v3,t1,t2,t3,ajM,r,s1,EB,Q,s4,s5,s6,R,c,hfv,htv,We,hmx,U,fq];have u:kF (k+1)=⟨1,1,[[.i id]],false⟩:=by rw[<-hid];rfl
  refine fin _ _ ((ax M (.o 9)).ver+1) ((ax M (.o 10)).ver+1) (.o 10) (by simp) (by simp) ?_ ?_ ?_ ?_ ?_ (jA _) (jA _) ?_ ?_ ?_ ?_ ?_
  ·simp only[ams,ay,reduceCtorEq,Ix.o.injEq,Nat.reduceEqDiff,↓reduceIte,nT]
  ·simp only[↓zg,seval,h4]
  ·simp only[↓zg,seval]
  ·simp only[↓zg,seval]
  ·simp only[↓zg,seval]
  ·simp only[ay,dM,reduceCtorEq,Ix.o.injEq,Nat.reduceEqDiff,↓reduceIte,r]
  ·simp only[ay,dM,reduceCtorEq,Ix.o.injEq,Nat.reduceEqDiff,↓reduceIte]
   rw[Y];rfl
  ·simp only[ay,dM,reduceCtorEq,Ix.o.injEq,Nat.reduceEqDiff,↓reduceIte]
   rw[Yb];rfl
  ·intro N hg fr' A C j
   refine done fr' A (.ref 0 (.o 10) ((ax M (.o 10)).ver+1) 7 0 (lL x own s k).sp.length) (lL x own s k) (fun m hm=> ?_) (fun n hn=> ?_) (by rw[aX ⟨N,hg⟩]) ⟨?_,?_,?_,?_,.inr ⟨aeA,.o 10,(ax M (.o 10)).ver+1,rfl,jA _,?_,.inl rfl⟩⟩
   ·rw[C m (by omega)]
    simp(disch:=omega) only[bU,bY]
   ·rw[j]
    have n3:(3=n)=False:=by simp at hn;simp;omega
    have F:(9=n)=False:=by simp at hn;simp;omega
    have n10:(10=n)=False:=by simp at hn;simp;omega
    simp only[ay,dM,Ix.o.injEq,n3,F,n10,bZ]
   ·rw[j];simp only[eG];exact Ib
   ·rw[j,u];simp only[ay,reduceCtorEq,bZ];exact U _ _
   ·rw[j];simp only[cz];omega
   ·rw[j,Z];simp only[ay,bK]
   ·rw[j];simp only[ay,reduceCtorEq,Ix.o.injEq,Nat.reduceEqDiff,↓reduceIte]
  ·intro J fr' A C j
   refine done fr' A .aL s (fun m hm=> ?_) (fun n hn=> ?_) (by rw[aP J]) ⟨?_,?_,?_,?_,.inl ⟨EW,rfl⟩⟩
   ·rw[C m (by omega)]
    simp(disch:=omega) only[bU,bY]
   ·have F:(9=n)=False:=by simp at hn;simp;omega
    have n10:(10=n)=False:=by simp at hn;simp;omega
    rcases j with rfl|rfl<;>simp only[ay,dM,Ix.o.injEq,F,n10,bZ]
   ·rcases j with rfl|rfl<;>(simp only[eG];exact Ib)
   ·rw[u];rcases j with rfl|rfl<;>(simp only[ay,reduceCtorEq,bZ];exact U _ _)
   ·rcases j with rfl|rfl<;>(simp only[cz];omega)
   ·rw[aeB];rcases j with rfl|rfl<;>simp only[ay,dM,reduceCtorEq,Ix.o.injEq,Nat.reduceEqDiff,↓reduceIte,r]
 ·have nl:M.D.length=M.D.length:=rfl
  obtain⟨n1,CE⟩:∃n1,M.D.length=n1:=⟨_,rfl⟩
  have AX:(s.sp.map Sp.v).length=s.sp.length:=aG _;have PL:s.sp.map Sp.v≠[]:=by simpa using ajN
  have hXi:(s.sp.map Sp.v).isEmpty=false:=by cases h:s.sp.map Sp.v with|nil=>exact absurd h PL|cons a l=>rfl
  have gB:((s.sp.map Sp.v).all fun e=>decide (e.length=7∧(e.all V.scalar&&e.all V.qW)=true))=true:=by
   rw[vk,aV];intro y _;exact dW (show((Sp.v y).length=7∧((Sp.v y).all V.scalar&&(Sp.v y).all V.qW)=true)from⟨rfl,rfl⟩)
  have hX0:(s.sp.map Sp.v).map (V.bW 0)=s.sp.map Sp.v:=by rw[jy];exact sS fun y _=>rfl
  have EA:(n1=q)=False:=by simp;omega
  have Qi:(q=n1)=False:=by simp;omega
  have hnr:ax M (.g n1)=⟨0,0,[],false⟩:=by rw[<-CE];exact jH
  have c:=fun r1 r2 H=>c12 (H:=H) (L:=bu (bu (bu M (.o 9) r1) (.o 9) r2) (.g n1) ⟨1,7,s.sp.map Sp.v,false⟩) (q:=q) (k:=k) (by simp only[ay,reduceCtorEq,bZ,Ix.g.injEq,EA];exact Ik) (by simp only[eG];omega) (by omega);simp only[cz,fF]at c;have EB:=s2 (.ref 0 ix ver 7 0 s.sp.length) rfl;have Q:=s8 (.ref 0 ix ver 7 0 s.sp.length) (by cases ix<;>rfl);have R:=s7 (.ref 0 (.g n1) (1+1) 7 0 (s.sp.length+1));obtain⟨X,hX⟩:∃X,s.sp.map Sp.v=X:=⟨_,rfl⟩
  rw[hX]at AX PL hXi gB hX0 c B Yb;have Yc:∀O b,ax (⟨dE (dE M.D n1 ⟨1,7,X,false⟩) q (kF (k+1)),O,b⟩:Mem) (.g q)=⟨1,1,[[.i (k+1:Nat)]],false⟩:=fun O b=>by
   show eP (dE _ q _) q=_;rw[cK,aX rfl];rfl
  have aoU:∀O b,ax (⟨dE (dE M.D n1 ⟨1,7,X,false⟩) q (kF (k+1)),O,b⟩:Mem) (.g n1)=⟨1,7,X,false⟩:=fun O b=>by
   show eP (dE _ q _) n1=_;rw[cK,aP (by simpa using Qi),cK,aX rfl]
  have aCs:(dE (dE M.D n1 ⟨1,7,X,false⟩) q (kF (k+1))).length=n1+1:=by rw[fw,fw];omega
  have AV:M.b<=n1:=by omega
  have avU:∀n2,ix= .g n2->n2≠q->n2<M.D.length->∀O b,ax (⟨dE (dE M.D n1 ⟨1,7,X,false⟩) q (kF (k+1)),O,b⟩:Mem) (.g n2)=⟨ver,7,X,true⟩:=fun n2 h1 h2 h3 O b=>by
   show eP (dE _ q _) n2=_;rw[cK,aP (fun h=>h2 h.symm),cK,aP (by omega),<-B,h1];rfl
  have Md:∀r1 r2 H,wB (bu (bu M (.o 9) r1) (.o 9) r2::H) (.ref 0 ix ver 7 0 s.sp.length)=some X:=by
   intro r1 r2 H;have h9:Ix.o 9≠ix:=by rcases RJ with rfl|⟨n,rfl,_⟩<;>simp
   have hr:iH (bu (bu M (.o 9) r1) (.o 9) r2::H) 0 ix=⟨ver,7,X,true⟩:=by
    show ax (bu (bu M (.o 9) r1) (.o 9) r2) ix=_;rw[ay,aP h9,ay,aP h9];exact B
   unfold wB;dsimp only;rw[hr];dsimp only;rw[aX ⟨rfl,kH,by omega⟩,dH,<-AX,aT,hX0]
  generalize dE (dE M.D n1 ⟨1,7,X,false⟩) q (kF (k+1))=D' at*;generalize hid:((k+1:Nat):Int)=id at*;generalize min (wh own x.fr) (wh own x.to)=mn at*;generalize max (wh own x.fr) (wh own x.to)=mx at*;generalize own.map Av=ov at*;generalize aeB:su s=SP at*;generalize Z:su (lL x own s k)=SC at*;generalize x.v=xv at*;clear U hDl nl;have hp8:(((0:Nat),Ix.o 8)=(0,Ix.g n1))=False:=by simp
  have htX:X.take s.sp.length=X:=by rw[<-AX,aT]
  have u:kF (k+1)=⟨1,1,[[.i id]],false⟩:=by rw[<-hid];rfl
  rcases RJ with rfl|⟨n2,rfl,Nr,avV⟩
  ·simp(disch:=omega) only[↓zd,seval,push_cast,h3,h4,oh,tJ,hR8,hv8,x1,v0,v2,v3,t1,t2,t3,ajM,r,s1,EB,Q,s4,s5,s6,R,c,hfv,htv,We,hmx,Yc,aoU,fq,B,kH,AX,hXi,gB,hnr,CE,EA,Qi,AV,dH,aT,Md,hp8,htX]
   refine fin _ _ ((ax M (.o 9)).ver+1) 2 (.g n1) (by simp) (by simp) ?_ ?_ ?_ ?_ ?_ (jA _) (jA _) ?_ ?_ ?_ ?_ ?_
   ·have ajP:decide (M.b<=n1)=true:=dW AV
    simp only[Xz,ay,eG,reduceCtorEq,Ix.g.injEq,bK,bZ,nT,ajP,bR]
   ·simp only[↓zg,seval,h4]
   ·simp only[↓zg,seval]
   ·simp only[↓zg,seval]
   ·simp only[↓zg,seval]
   ·simp only[ay,dM,reduceCtorEq,Ix.o.injEq,Nat.reduceEqDiff,↓reduceIte,r]
   ·simp only[ay,dM,reduceCtorEq,Ix.o.injEq,Nat.reduceEqDiff,↓reduceIte]
    rw[Y]
   ·simp only[ay,reduceCtorEq,bK,bZ]
    rw[Yb]
   ·intro N hg fr' A C j
    refine done fr' A (.ref 0 (.g n1) 2 7 0 (lL x own s k).sp.length) (lL x own s k) (fun m hm=> ?_) (fun n hn=> ?_) (by rw[aX ⟨N,hg⟩]) ⟨?_,?_,?_,?_,.inr ⟨aeA,.g n1,2,rfl,jA _,?_,.inr ⟨n1,rfl,by omega,?_⟩⟩⟩
    ·rw[C m (by omega)]
     simp(disch:=omega) only[bU,bY]
    ·rw[j]
     have n3:(3=n)=False:=by simp at hn;simp;omega
     have F:(9=n)=False:=by simp at hn;simp;omega
     simp only[ay,dM,Ix.o.injEq,reduceCtorEq,n3,F,bZ]
    ·rw[j];simp only[eG];exact Ib
    ·rw[j,u];simp only[ay,reduceCtorEq,Ix.g.injEq,EA,bZ];exact Yc _ _
    ·rw[j];simp only[cz,fF,fw];omega
    ·rw[j,Z];simp only[ay,bK]
    ·rw[j];simp only[ay,reduceCtorEq,Ix.g.injEq,bK,bZ]
    ·rw[j];simp only[cz,fF,fw];omega
   ·intro J fr' A C j
    have avW:n1≠q:=by omega
    refine done fr' A (.ref 0 (.o 10) ver 7 0 s.sp.length) s (fun m hm=> ?_) (fun n hn=> ?_) (by rw[aP J]) ⟨?_,?_,?_,?_,.inr ⟨ajN,(.o 10),ver,rfl,kH,?_,.inl rfl⟩⟩
    ·rw[C m (by omega)]
     simp(disch:=omega) only[bU,bY]
    ·have F:(9=n)=False:=by simp at hn;simp;omega
     rcases j with rfl|rfl<;>simp only[ay,dM,Ix.o.injEq,reduceCtorEq,F,bZ]
    ·rcases j with rfl|rfl<;>(simp only[eG];exact Ib)
    ·rw[u];rcases j with rfl|rfl<;>(simp only[ay,reduceCtorEq,Ix.g.injEq,EA,bZ];exact Yc _ _)
    ·rcases j with rfl|rfl<;>(simp only[cz,fF,fw];omega)
    ·rw[aeB];rcases j with rfl|rfl<;>simp only[ay,dM,reduceCtorEq,Ix.o.injEq,Nat.reduceEqDiff,↓reduceIte,r]
    ·rw[hX];rcases j with rfl|rfl<;>simp only[ay,dM,reduceCtorEq,Ix.o.injEq,Nat.reduceEqDiff,↓reduceIte,B]
  ·have avX:(n1=n2)=False:=by simp;omega
   simp(disch:=omega) only[↓zd,seval,push_cast,h3,h4,oh,tJ,hR8,hv8,x1,v0,v2,v3,t1,t2,t3,ajM,r,s1,EB,Q,s4,s5,s6,R,c,hfv,htv,We,hmx,Yc,aoU,fq,B,kH,AX,hXi,gB,hnr,CE,EA,Qi,AV,dH,aT,Md,hp8,htX];refine fin _ _ ((ax M (.o 9)).ver+1) 2 (.g n1) (by simp) (by simp) ?_ ?_ ?_ ?_ ?_ (jA _) (jA _) ?_ ?_ ?_ ?_ ?_
   ·have ajP:decide (M.b<=n1)=true:=dW AV
    simp only[Xz,ay,eG,reduceCtorEq,Ix.g.injEq,bK,bZ,nT,ajP,bR]
   ·simp only[↓zg,seval,h4]
   ·simp only[↓zg,seval]
   ·simp only[↓zg,seval]
   ·simp only[↓zg,seval]
   ·simp only[ay,dM,reduceCtorEq,Ix.o.injEq,Nat.reduceEqDiff,↓reduceIte,r]
   ·simp only[ay,dM,reduceCtorEq,Ix.o.injEq,Nat.reduceEqDiff,↓reduceIte]
    rw[Y]
   ·simp only[ay,reduceCtorEq,bK,bZ]
    rw[Yb]
   ·intro N hg fr' A C j
    refine done fr' A (.ref 0 (.g n1) 2 7 0 (lL x own s k).sp.length) (lL x own s k) (fun m hm=> ?_) (fun n hn=> ?_) (by rw[aX ⟨N,hg⟩]) ⟨?_,?_,?_,?_,.inr ⟨aeA,.g n1,2,rfl,jA _,?_,.inr ⟨n1,rfl,by omega,?_⟩⟩⟩
    ·rw[C m (by omega)]
     simp(disch:=omega) only[bU,bY]
    ·rw[j]
     have n3:(3=n)=False:=by simp at hn;simp;omega
     have F:(9=n)=False:=by simp at hn;simp;omega
     simp only[ay,dM,Ix.o.injEq,reduceCtorEq,n3,F,bZ]
    ·rw[j];simp only[eG];exact Ib
    ·rw[j,u];simp only[ay,reduceCtorEq,Ix.g.injEq,EA,bZ];exact Yc _ _
    ·rw[j];simp only[cz,fF,fw];omega
    ·rw[j,Z];simp only[ay,bK]
    ·rw[j];simp only[ay,reduceCtorEq,Ix.g.injEq,bK,bZ]
    ·rw[j];simp only[cz,fF,fw];omega
   ·intro J fr' A C j
    have avW:n1≠q:=by omega
    refine done fr' A (.ref 0 (.g n2) ver 7 0 s.sp.length) s (fun m hm=> ?_) (fun n hn=> ?_) (by rw[aP J]) ⟨?_,?_,?_,?_,.inr ⟨ajN,(.g n2),ver,rfl,kH,?_,.inr ⟨n2,rfl,Nr,by rcases j with rfl|rfl<;>(simp only[cz,fF,fw];omega)⟩⟩⟩
    ·rw[C m (by omega)]
     simp(disch:=omega) only[bU,bY]
    ·have F:(9=n)=False:=by simp at hn;simp;omega
     rcases j with rfl|rfl<;>simp only[ay,dM,Ix.o.injEq,reduceCtorEq,F,bZ]
    ·rcases j with rfl|rfl<;>(simp only[eG];exact Ib)
    ·rw[u];rcases j with rfl|rfl<;>(simp only[ay,reduceCtorEq,Ix.g.injEq,EA,bZ];exact Yc _ _)
    ·rcases j with rfl|rfl<;>(simp only[cz,fF,fw];omega)
    ·rw[aeB];rcases j with rfl|rfl<;>simp only[ay,dM,reduceCtorEq,Ix.o.injEq,Nat.reduceEqDiff,↓reduceIte,r]
    ·rw[hX];rcases j with rfl|rfl<;>(simp only[ay,reduceCtorEq,Ix.g.injEq,avX,bZ];exact avU n2 rfl Nr avV _ _)
noncomputable def R8(ids:List (List Int))(ls:List Ln)(s:Sc)(k:Nat):Sc×Nat:=(ls.take 6).foldl (Ck ids) (s,k)
structure LnP(ids:List (List Int))(P:Nat->Sc->Nat->Prop):Prop where
 b:∀i s k,P i s k->s.sp.length<=1000∧k<=900000
 w:∀i s k x,i<6->P i s k->PR x->1<(kU ids x).length->wh (kU ids x) x.fr≠wh (kU ids x) x.to->∃n ig,LA (lL x (kU ids x) s k) n ig
 n:∀i s k x,i<6->P i s k->PR x->P (i+1) (Ck ids (s,k) x).1 (Ck ids (s,k) x).2
theorem LI.aoV{M g:Mem}{q b0:Nat}{s:Sc}{k:Nat}{x0:V}(h:LI M q b0 s k x0)(r:g.b=M.b)(l:g.D=M.D)(hr:∀ix,ix≠.o 8->ax g ix=ax M ix):LI g q b0 s k x0:=by
 obtain⟨C,B,A,u,j⟩:=h;refine⟨r.trans C,(hr _ (by simp)).trans B,by rw[l];exact A,(hr _ (by simp)).trans u,?_⟩;rcases j with j|⟨a,ix,ver,b,c,d,e⟩
 ·exact .inl j
 ·refine .inr ⟨a,ix,ver,b,c,?_,?_⟩
  ·rw[hr ix ?_,d]
   rcases e with rfl|⟨n,rfl,_⟩<;>simp
  ·rw[l];exact e
theorem l4l{cX:eu}(qG:cX=sb 4 84){fr:List V}{M:Mem}{K:List KI}{T:Option (V×Option (List Row))}{ls:List Ln}{ids:List (List Int)}{P:Nat->Sc->Nat->Prop}{q b0 k0:Nat}{s0:Sc}{x0 w0 w1 w3:V}{zl:Bool}(hP:LnP ids P)(N:P 0 s0 k0)(ok:∀x∈ls,PR x)(Qg:ls.length<=9223372036854775807)(hid:1<=ids.length∧ids.length<=1000)(He:∀l∈ids,l.length<=100000)(hb:b0<=q)
  (h1:ag fr 1= .ptr 0 (.o 1) 1 0 0)(h3:ag fr 3= .ptr 0 (.g q) 1 0 0)(h4:ag fr 4= .ptr 0 (.o 3) 1 0 0)(lT:ag fr 12=cu 1 (ids.map K4))(o8:ag fr 13= .i 0)
  (gG:ax M (.o 1)=⟨1,4,[[w0,w1,AL zl 4 (ls.map Ln.v),w3]],false⟩)(I:LI M q b0 s0 k0 x0)
  (done:∀fr' J x1,(∀m,m<13->ag fr' m=ag fr m)->(∀n,n∈[1,2]->ax J (.o n)=ax M (.o n))->LI J q b0 (R8 ids ls s0 k0).1 (R8 ids ls s0 k0).2 x1->P (ls.take 6).length (R8 ids ls s0 k0).1 (R8 ids ls s0 k0).2->G bn H true [.cell 2 true 6] K fr' J=T):
  G bn H true [.cell 2 true 6] (.code (.loop cX):: .blk 6::K) fr M=T:=by
 subst qG;conv in sb _ _=>reduce
 simp only[↓zo,zp,seval];have Ya:(ls.map Ln.v).length=ls.length:=aG _;refine bI (fun i fr' J=>(∀m,m<13->ag fr' m=ag fr m)∧ag fr' 13= .i i∧(∀n,n∈[1,2]->ax J (.o n)=ax M (.o n))∧P i ((ls.take i).foldl (Ck ids) (s0,k0)).1 ((ls.take i).foldl (Ck ids) (s0,k0)).2∧∃x1,LI J q b0 ((ls.take i).foldl (Ck ids) (s0,k0)).1 ((ls.take i).foldl (Ck ids) (s0,k0)).2 x1) (ls.take 6).length ⟨fun m _=>rfl,o8,fun n _=>rfl,N,x0,I⟩ ?_ ?_
 ·clear done I N o8
  rintro i lV M1 hi ⟨C,c,O,r,x1,I⟩ next
  rw[bf]at hi;have g1:=(C 1 (by omega)).trans h1;have g3:=(C 3 (by omega)).trans h3;have g4:=(C 4 (by omega)).trans h4;have Yy:=(C 12 (by omega)).trans lT;have B:=(O 1 (by simp)).trans gG;clear h1 h3 h4 lT gG;obtain⟨x,hx⟩:∃x,ls[i]? =some x:=⟨_,ak (by omega)⟩
  have FW:=ok x (ah hx);rw[aY,hx,eQ,kG]at next
  change∀fr' J,(_∧_∧_∧P (i+1) (Ck ids _ x).1 (Ck ids _ x).2∧∃x1,LI J q b0 (Ck ids _ x).1 (Ck ids _ x).2 x1)->_ at next
  generalize (ls.take i).foldl (Ck ids) (s0,k0)=st at*;obtain⟨s,k⟩:=st;dsimp only at r I;have hi6:i<6:=by omega
  obtain⟨hsl,hk⟩:=hP.b i s k r;have A:=hP.n i s k x hi6 r FW;have hw:=hP.w i s k x hi6 r FW;have aCu:i<ls.length:=by omega
  have jl:jOf ids x<ids.length∧((jOf ids x:Nat):Int)=x.vo%(ids.length:Int):=by
   unfold jOf;have h1:=Int.emod_nonneg x.vo (b:=(ids.length:Int)) (by omega);have h2:=Int.emod_lt_of_pos x.vo (b:=(ids.length:Int)) (by omega);omega
  have ho:ids[jOf ids x]? =some (kU ids x):=by
   unfold kU;rw[ak jl.1];rfl
  have hol:=He _ (ah ho);have hov:(ids.map K4)[jOf ids x]? =some [cu 2 ((kU ids x).map Av)]:=by rw[aK,ho];rfl
  have hIl:(ids.map K4).length=ids.length:=aG _;have t1:x.vo.tmod (ids.length:Int)=((jOf ids x:Nat):Int):=by rw[dP FW.vo.1,jl.2]
  have okv:=FW.vo;have W:=x.sz.1;have U:=x.sz.2;have R:=x.tk;have Q:=x.sc;have v1:x.v[1]? =some (.int .u8 x.vo):=rfl;have Y:(ls.map Ln.v)[i]? =some x.v:=by rw[aK,hx];rfl
  have GQ:(ids.length:Int)≠0:=by omega
  have hOl:((kU ids x).map Av).length=(kU ids x).length:=aG _;have fin:=fun j fr M v8(hI:LI M q b0 s k x1)h3 h4 oh tJ hv8 hR8 done=>e4 (cX:=sb 4 99) rfl (H:=H) (K:= .blk 7:: .code (cR [oM 135 13,oK 136 .add 135 1,oM 13 136]):: .code (.loop (sb 4 84)):: .blk 6::K) (T:=T) (fr:=fr) (M:=M) (s:=s) (k:=k) (q:=q) (b0:=b0) (v8:=v8) (x0:=x1) (x:=x) (own:=kU ids x) FW j hol hsl hb hk (hw j) hI h3 h4 oh tJ hv8 hR8 done;have hRG:sb 4 99=_:=(by conv=>lhs;reduce);simp only[↓zo,zp,seval]at hRG;have eL:sb 4 84=_:=(by conv=>lhs;reduce);simp only[↓zo,zp,seval]at eL;rw[eL]at fin;rw[<-hRG]at fin next⊢
  unfold Ck at A next
  dsimp only at A next
  clear hRG eL hw He ok;generalize hLV:ls.map Ln.v=Lv at*;generalize ids.map K4=Iv at*;by_cases j:1<(kU ids x).length
  ·rw[aX j]at A next
   have xB:=fin j;clear fin;generalize hxx:x.v=xv at*;generalize hjj:jOf ids x=jj at*;have u:(1:Int)<((kU ids x).length:Int):=by omega
   simp(disch:=omega) only[↓zd,seval,push_cast,kW,uB,nK,g1,g3,g4,Yy,c,B,Ya,Y,W,U,R,Q,v1,hIl,hov,t1,GQ,hOl,u,dS];have F:∀B X,LI (bu (bu M1 (.o 8) B) (.o 8) X) q b0 s k x1:=fun B X=>I.aoV (by simp only[eG]) (by simp only[cz]) (fun ix h=>by rw[ay,aP (fun e=>h e.symm),ay,aP (fun e=>h e.symm)]);refine xB _ _ ((ax M1 (.o 8)).ver+1) (F _ _) ?_ ?_ ?_ ?_ (jA _) ?_ ?_
   ·simp only[↓zg,seval,g3]
   ·simp only[↓zg,seval,g4]
   ·simp only[↓zg,seval]
   ·simp only[↓zg,seval]
   ·simp only[ay,bK]
   ·intro fr2 M2 x2 s' gI NK hs' I2
    have k13:ag fr2 13= .i i:=(gI 13 (by omega)).trans (by simp only[↓zg,seval,c]);have frm:∀m,m<13->ag fr2 m=ag fr m:=fun m hm=>by
     rw[gI m (by omega),<-C m hm];simp(disch:=omega) only[bU,bY]
    have rn:∀n,n∈[1,2]->ax M2 (.o n)=ax M (.o n):=fun n hn=>by
     rw[NK n hn,<-O n hn];have n8:(8=n)=False:=by simp at hn;simp;omega
     simp only[ay,Ix.o.injEq,n8,bZ]
    subst hs';clear gI C xB I F;simp(disch:=omega) only[↓zd,seval,push_cast,k13];refine next _ _ ⟨fun m hm=> ?_,?_,rn,A,x2,I2⟩
    ·rw[<-frm m hm]
     simp(disch:=omega) only[bU,bY]
    ·simp only[↓zg,seval]
     rfl
  ·rw[aP j]at A next
   clear fin;have F:∀B X,LI (bu (bu M1 (.o 8) B) (.o 8) X) q b0 s k x1:=fun B X=>I.aoV (by simp only[eG]) (by simp only[cz]) (fun ix h=>by rw[ay,aP (fun e=>h e.symm),ay,aP (fun e=>h e.symm)]);generalize hxx:x.v=xv at*;generalize hjj:jOf ids x=jj at*;have u:¬(1:Int)<((kU ids x).length:Int):=by omega
   simp(disch:=omega) only[↓zd,seval,push_cast,kW,uB,nK,g1,g3,g4,Yy,c,B,Ya,Y,W,U,R,Q,v1,hIl,hov,t1,GQ,hOl,u,dS];refine next _ _ ⟨fun m hm=> ?_,?_,fun n hn=> ?_,A,x1,F _ _⟩
   ·rw[<-C m hm]
    simp(disch:=omega) only[bU,bY]
   ·simp only[↓zg,seval]
    rfl
   ·rw[<-O n hn]
    have n8:(8=n)=False:=by simp at hn;simp;omega
    simp only[ay,Ix.o.injEq,n8,bZ]
 ·rintro lV M1 ⟨C,c,O,r,x1,I⟩
  have g1:=(C 1 (by omega)).trans h1;have B:=(O 1 (by simp)).trans gG;have Z:(ls.take (ls.take 6).length)=ls.take 6:=by rw[bf,<-nQ,aO (i:=ls.length) (by omega)]
  rw[Z]at r I;rw[bf]at c;have d:=fun fr' h=>done fr' M1 x1 h O I r;clear done I r gG N hP He;generalize ls.map Ln.v=Lv at*;rcases jq ls.length 6 with h6|h6
  ·rw[Nat.min_eq_right (by omega)]at c
   simp(disch:=omega) only[↓zd,seval,push_cast,kW,nK,g1,c,B,Ya];refine d _ fun m hm=> ?_;rw[<-C m hm];simp(disch:=omega) only[bU,bY]
  ·rw[eH h6]at c
   rcases jq 6 ls.length with h7|h7
   ·simp(disch:=omega) only[↓zd,seval,push_cast,kW,nK,g1,c,B,Ya]
    refine d _ fun m hm=> ?_;rw[<-C m hm];simp(disch:=omega) only[bU,bY]
   ·simp(disch:=omega) only[↓zd,seval,push_cast,kW,nK,g1,c,B,Ya]
    refine d _ fun m hm=> ?_;rw[<-C m hm];simp(disch:=omega) only[bU,bY]
theorem Ba.pu(b:Ba):b.v.all V.pure=true:=by
 have c:∀l:Bool×List It,(Lw l).all V.pure=true:=fun l=>by simp only[Lw,aZ,cB,Wn,dh It.pu,bR]
 show(true&&(true&&(true&&(true&&(V.pure (AL b.zv 1 (b.vs.map Lw))&&true)))))=true;rw[Wn,dh c];rfl
theorem abx{m sz ver:Nat}{L L':Mem}{q:Nat}{els els':List (List V)}(hr:ax L (.o q)=⟨ver,sz,els,false⟩)(r:ax L' (.o q)=⟨ver,sz,els,false⟩)(l:0<ver)(h:rD (jJ m) L els=some (els',L'))(hl:els'.length=els.length)(hp:els'.all (fun e=>e.all V.pure)=true):
  jJ (m+1) L (.ref 0 (.o q) ver sz 0 els.length)=some (.sl .any sz els',bu L' (.o q) ⟨ver,sz,els',true⟩):=by
 by_cases c:els.all (fun e=>e.all V.pure)=true
 ·have:=Eh (m:=m) (L:=L) c
  rw[this]at h;injection h with h;injection h with A u
  subst A;subst u;simp[jJ,hr,l,c,Mem.ok]
 ·have j:(false||L.ok (.o q))=true:=by simp[Mem.ok,hr]
  have g:(false||L'.ok (.o q))=true:=by simp[Mem.ok,r]
  have B:(List.drop 0 els').take els.length=els':=by rw[dH];exact aO (by omega)
  simp only[jJ,hr];rw[aX ⟨trivial,l,by omega,j⟩,aP c,h];simp only[bG,r];rw[aX ⟨hp,trivial,trivial,g⟩,B];rfl
theorem aby{M:Mem}{ps:List Pa}{ms:List Me}{wr:Bool}{vp vm n:Nat}{A Z:List Row}{j:V}(F:ps≠[])(Vf:ms≠[])(l:ax M (.o 6)=⟨vp,6,ps.map Pa.v,false⟩)(U:ax M (.o 7)=⟨vm,22,gY (sM true) (rM true false) n ms,false⟩)(B:0<vp)(Cc:0<vm)(hA:A.length=n)(hb:M.b<=n)(hD:M.D=A++ms.flatMap (rM true false)++Z)(I:∀L,jJ 8 L j=some (j,L))(J:∀cs,j≠.agg cs):
  ∃u:Mem,qd M [.agg [.str iB,.bool wr,.ref 0 (.o 6) vp 6 0 ps.length,.ref 0 (.o 7) vm 22 0 ms.length,.aL,.aL],j]=some ([.agg (⟨wr,ps,ms,[],[]⟩:Sc).v,j],u)∧u.b=M.b∧u.D=A++ms.flatMap (rM true true)++Z∧∀k,k≠6->k≠7->ax u (.o k)=ax M (.o k):=by
 subst hA;have W:=dh Pa.pu ps;have K:(ps.map Pa.v).length=ps.length:=aG _;have R:ps.map Pa.v≠[]:=by simpa using F
 have N:(ms.map Me.v).length=ms.length:=aG _;have Q:ms.map Me.v≠[]:=by simpa using Vf
 have r:(gY (sM true) (rM true false) A.length ms).length=ms.length:=fE _ _;obtain⟨g,c⟩:∃g,bu M (.o 6) ⟨vp,6,ps.map Pa.v,true⟩=g:=⟨_,rfl⟩
 have Y:g.D=A++ms.flatMap (rM true false)++Z:=by rw[<-c,cz];exact hD
 have X:g.b<=A.length:=by rw[<-c,eG];exact hb
 have f1:=zn (V4 true false) (Pp true false true) (Pp true false false) ms g A Z Y X;have T:=abx (m:=7) (q:=7) (L:=g) (ver:=vm) (sz:=22) (by rw[<-c,ay,aP (by simp)];exact U) (by show ax g (.o 7)=_;rw[<-c,ay,aP (by simp)];exact U) Cc f1 (by rw[N,r]) (dh Me.pu ms);rw[r]at T;have f3:jJ 8 M (.ref 0 (.o 6) vp 6 0 ps.length)=some (.sl .any 6 (ps.map Pa.v),g):=by
  rw[mZ,aX ⟨by rw[l],B,by rw[l];simp,by rw[l];simp[Mem.ok,l],by rw[l];exact W⟩,l];simp only[dH,<-K,aT,bq,bZ,c]
 have C:(⟨wr,ps,ms,[],[]⟩:Sc).v=[.str iB,.bool wr,.sl .any 6 (ps.map Pa.v),.sl .any 22 (ms.map Me.v),.aL,.aL]:=by
  show[_,_,cu 6 (ps.map Pa.v),cu 22 (ms.map Me.v),_,_]=_;rw[jO R,jO Q];rfl
 have hbd:∀L,sG L j=some (j,L):=fun L=>by
  unfold sG;split
  ·rename_i cs h;exact absurd rfl (J _)
  ·exact I L
 refine⟨bu ⟨A++ms.flatMap (rM true true)++Z,g.O,g.b⟩ (.o 7) ⟨vm,22,ms.map Me.v,true⟩,?_,?_,?_,?_⟩
 ·rw[C]
  simp only[qd,hbd,bG,aU];simp only[sG,zJ,xf,uY,rU,wR,f3,T,bG,aU]
 ·simp only[eG];rw[<-c,eG]
 ·simp only[cz]
 ·intro k h6 h7
  rw[ay,aP (by simp;omega)];show ax g (.o k)=_;rw[<-c,ay,aP (by simp;omega)]
structure Wd where
 zp:Bool
 ps:List Int
 zb:Bool
 bs:List Ba
 zl:Bool
 ls:List Ln
 wr:Bool
def Wd.v(w:Wd):List V:=[AL w.zp 1 (w.ps.map Uv),AL w.zb 5 (w.bs.map Ba.v),AL w.zl 4 (w.ls.map Ln.v),.bool w.wr]
structure Aj(w:Wd):Prop where
 ps:∀x∈w.ps,0<=x∧x<=255
 pl:w.ps.length<=9223372036854775807
 bs:∀b∈w.bs,yG b
 bl:w.bs.length<=9223372036854775807
 ls:∀x∈w.ls,PR x
 ll:w.ls.length<=9223372036854775807
theorem Wd.sz(w:Wd):w.v.length=4∧∀d,V.bW d w.v=w.v:=⟨rfl,fun d=>by simp only[Wd.v,V.bW,V.shift,nK]⟩
theorem Wd.tk(w:Wd):w.v.take 4=w.v:=rfl
theorem Wd.sc(w:Wd):w.v.all V.scalar=true:=by simp only[Wd.v,aZ,cB,NH,mO,bR]
def baZ:Ba:=⟨0,0,0,0,false,[]⟩
def Wd.bx(w:Wd):List Ba:=if w.bs=[]then[baZ]else w.bs.take 6
def Wd.p(w:Wd):List Pa×Nat:=rh (qH w.ps)
def Wd.n(w:Wd):Nat:=mI w.p.1
def Wd.m(w:Wd):List Me×Nat:=wX w.n w.bx w.p.2
def Wd.s1(w:Wd):Sc:=⟨w.wr,w.p.1,pI w.m.1,[],[]⟩
def Wd.s2(w:Wd):Sc:=if lu (w.s1.Ai w.bx) []=true then w.s1.Ai w.bx else w.s1
noncomputable def Wd.s3(w:Wd):Sc×Nat:=R8 (pJ w.s2.ms w.n) w.ls w.s2 w.m.2
noncomputable def Wd.YD(w:Wd):Sc:={w.s3.1 with la:=[(w.s3.2:Int)]}
theorem R9{w:Wd}(ok:Aj w):(1<=w.bx.length∧w.bx.length<=6)∧∀b∈w.bx,yG b:=by
 unfold Wd.bx;split
 ·refine⟨by simp,fun b c=> ?_⟩
  obtain rfl:b=baZ:=by simpa using c
  exact⟨by decide,by decide,by decide,by decide,fun l hl=>(by cases hl),by decide⟩
 ·rename_i h
  have:=dB.2 h;exact⟨by rw[bf];omega,fun b c=>ok.bs b (fH c)⟩
theorem z4{cX:eu}(qG:cX=sb 4 114){fr:List V}{M:Mem}{s:Sc}{k q b0:Nat}{x0:V}(hk:k<=1000000)(h2:ag fr 2= .ptr 0 (.o 2) 1 0 0)(h3:ag fr 3= .ptr 0 (.g q) 1 0 0)(h4:ag fr 4= .ptr 0 (.o 3) 1 0 0)(jc:ax M (.o 2)=⟨1,6,[[.str ⟨#[]⟩,.bool false,.aL,.aL,.aL,.aL]],false⟩)(I:LI M q b0 s k x0):
  G bn H true [.cell 2 true 6] [.code cX] fr M=some (.agg ({s with la:=[(k:Int)]}:Sc).v,none):=by
 subst qG;conv in sb _ _=>reduce
 simp only[↓zo,zp,seval];obtain⟨h5,h6,h7,h8,h9⟩:=I;have Z:ax M (.g q)=⟨1,1,[[.i k]],false⟩:=h6;have s1:∀y:V,(su s y).length=6:=fun _=>rfl;have Y:∀y:V,(su s y).take 5++[.sl .any 2 [[.i 1,.i k]]]++(su s y).drop 6=su {s with la:=[(k:Int)]} y:=fun y=>rfl;have u:∀(t:Sc)(y:V),V.shift 0 y=y->V.bW 0 (su t y)=su t y:=fun t y O=>by
  simp only[su,V.bW,O,nZ];rfl
 have t1:∀y:V,(su {s with la:=[(k:Int)]} y).length=6:=fun _=>rfl;have t2:∀y:V,(su {s with la:=[(k:Int)]} y).take 6=su {s with la:=[(k:Int)]} y:=fun _=>rfl;have W:∀y,V.scalar y=true->(su {s with la:=[(k:Int)]} y).all V.scalar=true:=fun y O=>by simp only[su,aZ,cB,gq,mO,O,bR]
 have N:=dh Pa.pu s.ps;have K:=dh Me.pu s.ms;have J:=dh Sp.pu s.sp;have A:su {s with la:=[(k:Int)]} (cu 7 (s.sp.map Sp.v))=({s with la:=[(k:Int)]}:Sc).v:=rfl;rcases h9 with⟨hs,rfl⟩|⟨hs,ix,ver,rfl,kH,T,RJ⟩
 ·have c:({s with la:=[(k:Int)]}:Sc).v=su {s with la:=[(k:Int)]} .aL:=by
   rw[<-A,hs];rfl
  have pu:(su {s with la:=[(k:Int)]} .aL).all V.pure=true:=by rw[<-c];exact Sc.pu _
  rw[c];have j:=W .aL rfl;have l:=u {s with la:=[(k:Int)]} .aL rfl;generalize Q:su s=SP at*;generalize R:su {s with la:=[(k:Int)]}=SC at*;clear A c N K J u;simp(disch:=omega) only[↓zd,seval,push_cast,h2,h3,h4,jc,h8,Z,s1,Y,l,t1,t2,j,pu,lI,yu]
 ·have AX:(s.sp.map Sp.v).length=s.sp.length:=aG _
  have PL:s.sp.map Sp.v≠[]:=by simpa using hs
  have c:({s with la:=[(k:Int)]}:Sc).v=su {s with la:=[(k:Int)]} (.sl .any 7 (s.sp.map Sp.v)):=by
   rw[<-A,jO PL]
  have fz:∀B:Mem,ax B ix=⟨ver,7,s.sp.map Sp.v,true⟩->qd B [.agg (su {s with la:=[(k:Int)]} (.ref 0 ix ver 7 0 s.sp.length))]=some ([.agg ({s with la:=[(k:Int)]}:Sc).v],B):=by
   intro B hM;have e1:∀M:Mem,jJ 8 M (cu 2 (List.map Av [(k:Int)]))=some (cu 2 (List.map Av [(k:Int)]),M):=fun M=>Gy 8 M _ (by rw[se];rfl);rw[c];unfold su;generalize s.sp.map Sp.v=X at*;simp only[qd,sG,zJ,xf,rU,uY,sH,N,K,bK,bG,aU,mZ,hM,J,kH,e1];simp[<-AX]
  have np:(su {s with la:=[(k:Int)]} (.ref 0 ix ver 7 0 s.sp.length)).all V.pure=false:=by simp only[su,aZ,V.pure,iW,mh]
  have j:=W (.ref 0 ix ver 7 0 s.sp.length) rfl;have l:=u {s with la:=[(k:Int)]} (.ref 0 ix ver 7 0 s.sp.length) (by cases ix<;>rfl);have n3:Ix.o 3≠ix:=by rcases RJ with rfl|⟨n,rfl,_⟩<;>simp
  have n2:Ix.o 2≠ix:=by rcases RJ with rfl|⟨n,rfl,_⟩<;>simp
  have U:=fun r r'=>FI (fz (bu (bu M (.o 3) r) (.o 2) r') (by rw[ay,aP n2,ay,aP n3];exact T));have F:({s with la:=[(k:Int)]}:Sc).v.all V.pure=true:=Sc.pu _;have C:=(Sc.sz ({s with la:=[(k:Int)]}:Sc)).2;clear fz A c N K J u;generalize ({s with la:=[(k:Int)]}:Sc).v=tv at*;generalize Q:su s=SP at*;generalize R:su {s with la:=[(k:Int)]}=SC at*;simp(disch:=omega) only[↓zd,seval,push_cast,h2,h3,h4,jc,h8,Z,s1,Y,l,t1,t2,j,np,U,F,C,lI,yu,rF]
structure aoW(w:Wd)(P:Nat->Sc->Nat->Prop):Prop where
 w1:LA (w.s1.Ai w.bx) 1048576 []
 me:abv w.s2
 lp:LnP (pJ w.s2.ms w.n) P
 p0:P 0 w.s2 w.m.2
 il:∀l∈pJ w.s2.ms w.n,l.length<=100000
 hN:∀m∈w.m.1,m.cs.length=w.n
 vl:∀m∈w.m.1,∀c∈m.cs,c.vs.length<=1000
 ne:∀m∈w.m.1,∀c∈m.cs,∀v∈c.vs,v.es≠[]
 el:∀m∈w.m.1,∀c∈m.cs,∀v∈c.vs,v.es.length<=1000
 hl:∀e∈RY w.m.1,e.hs.length<=1000
theorem I9{α:Type}{sk:Nat->α->List V}{r:α->List Row}(l:List α):∀(f:Nat->α->α),(∀i a n,sk n (f i a)=sk n a)->(∀i a,(r (f i a)).length=(r a).length)->∀n,gY sk r n (l.mapIdx f)=gY sk r n l:=by
 induction l with
 |nil=>intro f _ _ n;rfl
 |cons a l j=>
  intro f g c n;rw[kX];simp only[gY,g,c];rw[j (fun i=>f (i+1)) (fun i=>g (i+1)) (fun i=>c (i+1))]
theorem aeD(n:Nat)(nx:Option Ev)(e:Ev):sE true n (vZ nx e)=sE true n e:=by
 have c:yL true n (vZ nx e).hs=yL true n e.hs:=by
  unfold yL vZ;dsimp only;by_cases h:e.hs=[]
  ·rw[h];rfl
  ·rw[aP h,aP (by simpa using h),aG]
 unfold sE;rw[c];rfl
theorem aeE(n:Nat)(ms:List Me)(i c v:Nat)(vo:Vo):sV true n (tT ms i c v vo)=sV true n vo:=by
 unfold sV;rw[show(tT ms i c v vo).es=vo.es.mapIdx fun x e=>vZ (UJ ms i c v x) e from rfl,I9 vo.es (fun x e=>vZ (UJ ms i c v x) e) (fun i a n=>aeD n _ a) (fun i a=>abq _ a)];rfl
theorem aeF(n:Nat)(ms:List Me)(i c:Nat)(g:Ce):sC true n (yH ms i c g)=sC true n g:=by
 unfold sC;rw[show(yH ms i c g).vs=g.vs.mapIdx fun v vo=>tT ms i c v vo from rfl,I9 g.vs (fun v vo=>tT ms i c v vo) (fun v a n=>aeE n ms i c v a) (fun v a=>KZ ms i c v a)]
theorem ajQ(ms:List Me)(i:Nat)(m:Me):(rM true false (yI ms i m)).length=(rM true false m).length:=by
 rw[abm,abm];exact R5 ms i m
theorem ajR(ms:List Me)(i c:Nat)(g:Ce):(rC true false (yH ms i c g)).length=(rC true false g).length:=by
 rw[abk,abk];exact K3 ms i c g
theorem aeG(n:Nat)(ms:List Me)(i:Nat)(m:Me):sM true n (yI ms i m)=sM true n m:=by
 unfold sM;rw[show(yI ms i m).cs=m.cs.mapIdx fun c g=>yH ms i c g from rfl,I9 m.cs (fun c g=>yH ms i c g) (fun c a n=>aeF n ms i c a) (fun c a=>ajR ms i c a)];rfl
theorem aeH(n:Nat)(ms:List Me):gY (sM true) (rM true false) n (pI ms)=gY (sM true) (rM true false) n ms:=I9 ms (fun i m=>yI ms i m) (fun i a n=>aeG n ms i a) (fun i a=>ajQ ms i a) n
theorem abz(xs:List Int):xs.length<=mI (rh xs).1:=by
 have h:∀(xs:List Int)(st:List Pa×Nat),mI st.1+xs.length<=mI (xs.foldl Cj st).1:=by
  intro xs;induction xs with
  |nil=>intro st;exact aJ _
  |cons x xs c=>
   intro st;have:=c (Cj st x);have g:mI (Cj st x).1=mI st.1+Bh x:=by
    unfold Cj;rw[PN];simp[K6,sN]
   have hn:1<=Bh x:=by unfold Bh;omega
   rw[jG,aS];omega
 have:=h xs ([],0);unfold rh;simpa[mI]using this
theorem c4{w:Wd}{P:Nat->Sc->Nat->Prop}(ok:Aj w)(l:aoW w P):call bn 4 [.agg w.v] H=some (.agg w.YD.v,none):=by
 have hO:∀i,ax (Ht.start true H) (.o i)=⟨0,0,[],false⟩:=fun i=>jB;have hB0:(Ht.start true H).b=(Ht.start true H).D.length:=by cases H<;>rfl
 have w1:=w.sz.1;have w2:=w.sz.2;have w3:=w.tk;have w4:=w.sc;have v3:w.v[3]? =some (.bool w.wr):=rfl;obtain⟨Uh,K⟩:=R9 ok;have W:=UL (qH w.ps);have hxl:=(PO ok.ps).1;refine(av (by conv=>lhs;reduce)).trans ?_;simp only[↓zo,zp,seval];generalize Ht.start true H=c at*;have wL:ax c (.g c.D.length)=⟨0,0,[],false⟩:=jH;obtain⟨q,hq⟩:∃q,c.D.length=q:=⟨_,rfl⟩
 rw[hq]at wL hB0;have he:∀r,dE c.D q r=c.D++[r]:=fun r=>by rw[<-hq];exact kI
 have CZ:∀r r',dE (c.D++[r]) q r'=c.D++[r']:=fun r r'=>by rw[<-hq];exact pq
 have T:w.v=[AL w.zp 1 (w.ps.map Uv),AL w.zb 5 (w.bs.map Ba.v),AL w.zl 4 (w.ls.map Ln.v),.bool w.wr]:=rfl;generalize hwt:w.v=wv at*;simp(disch:=omega) only[↓zd,seval,push_cast,hO,w1,w2,w3,w4,v3,fq,wL,hq];have Y:c.D++[kF 0]=kD (c.D++[kF 0]) q 0 []:=by
  unfold kD;rw[CZ,bz]
 have lq:q<(c.D++[kF 0]).length:=by rw[aF,hq];simp
 refine l4p (by kernel_rfl) (zy:=w.zp) (D1:=c.D++[kF 0]) (q:=q) (b0:=q) (ps:=w.ps) (wr:=w.wr) (wt:=[AL w.zb 5 (w.bs.map Ba.v),AL w.zl 4 (w.ls.map Ln.v),.bool w.wr]) ok.ps ok.pl rfl ?_ ?_ ?_ ?_ ?_ ?_ ?_ ?_ ?_ lq (aJ _) ?_
 ·simp only[↓zg,seval]
 ·simp only[↓zg,seval]
 ·simp only[↓zg,seval]
 ·simp only[↓zg,seval]
  all_goals rfl
 ·simp only[↓zg,seval]
  all_goals rfl
 ·simp only[ay,reduceCtorEq,Ix.o.injEq,Nat.reduceEqDiff,↓reduceIte,eZ,fJ,fK]
  rw[T]
 ·simp only[ay,bK]
  rfl
 ·simp only[cz,fF]
  rw[<-Y];exact he _
 ·simp only[eG]
  exact hB0
 ·intro lV M1 x6 dG h5 hM ji A6 hB1 ng
  have k1:ag lV 1= .ptr 0 (.o 1) 1 0 0:=(dG 1 (by omega)).trans (by simp only[↓zg,seval]);have k2:ag lV 2= .ptr 0 (.o 2) 1 0 0:=(dG 2 (by omega)).trans (by simp only[↓zg,seval]);have k3:ag lV 3= .ptr 0 (.g q) 1 0 0:=(dG 3 (by omega)).trans (by simp only[↓zg,seval]);have k4:ag lV 4= .ptr 0 (.o 3) 1 0 0:=(dG 4 (by omega)).trans (by simp only[↓zg,seval]);have R:=hM 1 (by simp);have r2:=hM 2 (by simp);simp only[ay,reduceCtorEq,Ix.o.injEq,Nat.reduceEqDiff,↓reduceIte,eZ,fJ,fK]at R r2;clear dG hM he CZ wL hO;change ag lV 5= .i (w.n:Nat)at h5;have hn6:w.n<=6:=by
   have:w.n=mI (rh (qH w.ps)).1:=rfl;omega
  have CE:1<=w.n:=by
   have:=abz (qH w.ps);show 1<=mI (rh (qH w.ps)).1;omega
  have Q6:sb 4 73=_:=(by conv=>lhs;reduce);simp only[↓zo,zp,seval]at Q6;have j:∀fr2,(∀m,m<10->ag fr2 m=ag lV m)->ag fr2 10=cu 5 (w.bx.map Ba.v)->ag fr2 11= .i 0->G bn H true [.cell 2 true 6] (.code (.loop (sb 4 63)):: .blk 4:: .code (sb 4 73)::[]) fr2 M1=some (.agg w.YD.v,none):=by
   intro fr2 Q iQ jg;rw[Q6];have j1:=(Q 1 (by omega)).trans k1;have j2:=(Q 2 (by omega)).trans k2;refine l4m (by kernel_rfl) (D1:=c.D++[kF 0]) (q:=q) (b0:=q) (k:=w.p.2) (N:=w.n) (bs:=w.bx) (wr:=w.wr) (P6:=x6) K Uh.2 ⟨CE,hn6⟩ (Ah A6) ((Q 3 (by omega)).trans k3) ((Q 4 (by omega)).trans k4) ((Q 5 (by omega)).trans h5) iQ jg ji ng hB1 lq (aJ _) (by show(rh (qH w.ps)).2<=1000;omega) ?_;intro SA B x7 vL I Yd A7 hB3 hD3;have m1:ag SA 1= .ptr 0 (.o 1) 1 0 0:=(vL 1 (by omega)).trans j1;have m2:ag SA 2= .ptr 0 (.o 2) 1 0 0:=(vL 2 (by omega)).trans j2;have m3:ag SA 3= .ptr 0 (.g q) 1 0 0:=(vL 3 (by omega)).trans ((Q 3 (by omega)).trans k3);have m4:ag SA 4= .ptr 0 (.o 3) 1 0 0:=(vL 4 (by omega)).trans ((Q 4 (by omega)).trans k4);have m10:ag SA 10=cu 5 (w.bx.map Ba.v):=(vL 10 (by omega)).trans iQ;have A6':=qz A6 (I 6 (by simp));have u1:=(I 1 (by simp)).trans R;have u2:=(I 2 (by simp)).trans r2;clear vL Q I iQ jg j1 j2 A6;change sF B 7 22 x7 (gY (sM true) (rM true false) (c.D++[kF 0]).length w.m.1)at A7;change B.D=kD (c.D++[kF 0]) q w.m.2 (w.m.1.flatMap (rM true false))at hD3;change sF B 6 6 x6 (w.p.1.map Pa.v)at A6';have hpl:w.p.1.length=(qH w.ps).length:=W.1;have xK:w.m.1.length=w.bx.length:=(PQ (bs:=w.bx) K w.p.2 w.n).1;have aoX:w.p.1≠[]:=fun h=>by rw[h]at hpl;simp at hpl;omega
   have aoY:w.m.1≠[]:=fun h=>by rw[h]at xK;simp at xK;omega
   rcases A6' with⟨h,_⟩|⟨_,vp,hvp,rfl,h6⟩
   ·exact absurd (kC.1 h) aoX
   rcases A7 with⟨h,_⟩|⟨_,vm,Cc,rfl,h7⟩
   ·have:=eU List.length h
    rw[fE]at this;exact absurd (eF.1 this) aoY
   rw[fE]at Yd;rw[aG]at Yd;obtain⟨n,hn⟩:∃n,(c.D++[kF 0]).length=n:=⟨_,rfl⟩
   have hA:(dE (c.D++[kF 0]) q (kF w.m.2)).length=n:=by rw[fw];omega
   rw[hn]at h7;have aoZ:B.D=dE (c.D++[kF 0]) q (kF w.m.2)++w.m.1.flatMap (rM true false)++[]:=by rw[hD3,bz];rfl
   have hAq:eP (dE (c.D++[kF 0]) q (kF w.m.2)) q=kF w.m.2:=by rw[cK,aX rfl]
   have U:UnS B w.m.1 n vm vp w.p.1.length w.n w.wr:=⟨Yd,h7,Cc,by omega,l.hN,by omega,l.vl,l.ne,l.el,l.hl⟩
   have ajS:=c15 (H:=H) (Z:=[]) U (by omega) hA aoZ;obtain⟨A,hAe⟩:∃A,dE (c.D++[kF 0]) q (kF w.m.2)=A:=⟨_,rfl⟩
   rw[hAe]at ajS hA hAq;have C:(pI w.m.1).length=w.m.1.length:=dJ ..;have ao0:pI w.m.1≠[]:=fun h=>by rw[h]at C;exact aoY (eF.1 C.symm)
   have Sy:=aeH n w.m.1;rw[<-Sy]at h7;rw[<-C]at Yd;have bpu:∀L,jJ 8 L (cu 5 (w.bx.map Ba.v))=some (cu 5 (w.bx.map Ba.v),L):=fun L=>by rw[sH,aX (dh Ba.pu w.bx)]
   have bna:∀cs,cu 5 (w.bx.map Ba.v)≠.agg cs:=fun cs=>by
    rcases yE w.bx with h|⟨a,t,h⟩<;>rw[h]
    ·intro h;cases h
    ·rw[jO (by simp)];intro h;cases h
   obtain⟨M5,fz,hB5,hD5,F⟩:=aby (M:=⟨A++(pI w.m.1).flatMap (rM true false)++[],B.O,B.b⟩) (ps:=w.p.1) (ms:=pI w.m.1) (wr:=w.wr) (vp:=vp) (vm:=vm) (n:=n) (A:=A) (Z:=[]) aoX ao0 h6 h7 hvp Cc hA (by show B.b<=n;omega) rfl bpu bna;have awg:(⟨w.wr,w.p.1,pI w.m.1,[],[]⟩:Sc)=w.s1:=rfl;rw[awg,bz]at fz;simp only[bz]at ajS;have ao1:=fun H=>c16 (H:=H) (s:=w.s1) (bs:=w.bx) (n:=1048576) K (xK.symm.trans C.symm) (by show 1<=(pI w.m.1).length∧(pI w.m.1).length<=1000;omega) l.w1;change∀H,call bn 16 [.agg w.s1.v,cu 5 (w.bx.map Ba.v)] H=some (.agg w.s2.v,none)at ao1;have awh:w.s2.ps=w.p.1:=by unfold Wd.s2;split<;>rfl
   have ao2:w.s2.sp=[]:=by unfold Wd.s2;split<;>rfl
   have awi:mI w.s2.ps=w.n:=by rw[awh];rfl
   have ao3:=fun H=>c17 (H:=H) l.me ⟨by omega,by omega⟩;rw[awi]at ao3;have aCI:(pJ w.s2.ms w.n).length=2*w.n:=K5 _ _;have awj:w.s2.v=su w.s2 .aL:=by rw[<-agk,ao2];rfl
   have n3:=F 3 (by omega) (by omega);have n2:=F 2 (by omega) (by omega);have n1:=F 1 (by omega) (by omega);have n3':ax M5 (.o 3)=ax B (.o 3):=n3;have n2':ax M5 (.o 2)=ax B (.o 2):=n2;have n1':ax M5 (.o 1)=ax B (.o 1):=n1;rw[Yd]at n3';rw[u2]at n2';rw[u1,T]at n1';have s1a:=w.s2.sz.1;have s1b:=w.s2.sz.2;have s1c:=w.s2.tk;have s1d:=w.s2.sc;have s1e:=w.s1.sz.2;have bxh:∀d,V.shift d (cu 5 (w.bx.map Ba.v))=cu 5 (w.bx.map Ba.v):=fun d=>nZ;have hgq:ax M5 (.g q)=kF w.m.2:=by
    show eP M5.D q=_;rw[hD5,aC,Ch (by omega)];exact hAq
   have hlq:q<M5.D.length:=by rw[hD5,aF,aF];omega
   have F7:∀u M6,(∀m,m<12->ag u m=ag SA m)->ag u 12=cu 1 ((pJ w.s2.ms w.n).map K4)->ag u 13= .i 0->M6=bu M5 (.o 3) ⟨1,6,[w.s2.v],false⟩->G bn H true [.cell 2 true 6] (.code (.loop (sb 4 84)):: .blk 6:: .code (sb 4 114)::[]) u M6=some (.agg w.YD.v,none):=by
    intro u M6 a1 a12 a13 a6;refine l4l (by kernel_rfl) (zl:=w.zl) (P:=P) (ls:=w.ls) (ids:=pJ w.s2.ms w.n) (q:=q) (b0:=q) (k0:=w.m.2) (s0:=w.s2) (x0:= .aL) l.lp l.p0 ok.ls ok.ll (by omega) l.il (aJ _) ((a1 1 (by omega)).trans m1) ((a1 3 (by omega)).trans m3) ((a1 4 (by omega)).trans m4) a12 a13 (by rw[a6,ay,aP (by simp)];exact n1') ⟨?_,?_,?_,?_,.inl ⟨ao2,rfl⟩⟩ ?_
    ·rw[a6,eG,hB5];exact hB3
    ·rw[a6,ay,aP (by simp)];exact hgq
    ·rw[a6,cz];exact hlq
    ·rw[a6,ay,aX rfl,awj]
    ·intro fr5 M7 x1 b1 bM I7 hP7
     have hkf:=(l.lp.b _ _ _ hP7).2;exact z4 (by kernel_rfl) (k:=w.s3.2) (by have h9:w.s3.2<=900000:=hkf;omega) ((b1 2 (by omega)).trans ((a1 2 (by omega)).trans m2)) ((b1 3 (by omega)).trans ((a1 3 (by omega)).trans m3)) ((b1 4 (by omega)).trans ((a1 4 (by omega)).trans m4)) ((bM 2 (by simp)).trans (by rw[a6,ay,aP (by simp)];exact n2')) I7
   have X:sb 4 114=_:=(by conv=>lhs;reduce);simp only[↓zo,zp,seval]at X;have eL:sb 4 84=_:=(by conv=>lhs;reduce);simp only[↓zo,zp,seval]at eL;rw[<-eL,<-X];clear X eL Q6 l ok K hD3 aoZ ng U hgq hlq hAq hD5 F;generalize w.s2.v=s2v at*;generalize w.s1.v=s1v at*;generalize (pJ w.s2.ms w.n).map K4=idv at*;generalize aCT:cu 5 (w.bx.map Ba.v)=bxv at*;generalize hT0:iB=T0 at*;simp(disch:=omega) only[↓zd,seval,push_cast,m1,m2,m3,m4,m10,Yd,ajS,fz,ao1,ao3,n3',s1a,s1b,s1c,s1d,s1e,bxh];refine F7 _ _ (fun m hm=> ?_) ?_ ?_ rfl
   ·simp(disch:=omega) only[bU,bY]
   ·simp only[↓zg,seval]
   ·simp only[↓zg,seval]
    all_goals rfl
  have eM:sb 4 63=_:=(by conv=>lhs;reduce);simp only[↓zo,zp,seval]at eM;rw[<-eM,<-Q6];clear Q6 eM;have hbl:(w.bs.map Ba.v).length=w.bs.length:=aG _;rw[T]at R;have aCU:=ok.bl;by_cases hbs:w.bs=[]
  ·have J:w.bx=[baZ]:=by unfold Wd.bx;rw[aX hbs]
   rw[J]at j;change∀fr2,_->ag fr2 10= .sl .any 5 [[.int .u8 0,.int .u8 0,.int .u8 0,.int .u8 0,.aL]]->_ at j;rw[hbs,dX]at R;have Q3:Qp 5 (AL w.zb 5 []) none (some (.i 0)) none=some (AL w.zb 5 []):=by
    rcases NG w.zb 5 []with h|⟨_,h⟩<;>rw[h]<;>rfl
   clear Y lq ng A6 W;simp(disch:=omega) only[↓zd,seval,push_cast,kW,nK,Q3,k1,k2,k3,k4,h5,R,ZO,qg,jR,kJ,uM,xe,lZ];refine j _ (fun m hm=> ?_) ?_ ?_
   ·simp(disch:=omega) only[bU,bY]
   ·simp only[↓zg,seval]
   ·simp only[↓zg,seval]
    all_goals rfl
  ·have J:w.bx=w.bs.take 6:=by unfold Wd.bx;rw[aP hbs]
   have hbp:0<w.bs.length:=dB.2 hbs;have fP:w.bs.map Ba.v≠[]:=by simpa using hbs
   have We:(if(6:Int)<(w.bs.length:Int)then(6:Int)else(w.bs.length:Int))=((min 6 w.bs.length:Nat):Int):=by split<;>omega
   have htl:((w.bs.map Ba.v).take (min 6 w.bs.length)).length=min 6 w.bs.length:=by rw[bf,hbl];omega
   have hbe:cu 5 (w.bx.map Ba.v)= .sl .any 5 ((w.bs.map Ba.v).take (min 6 w.bs.length)):=by
    rw[J,<-List.map_take,jO (by intro h;have h':=eU List.length h;rw[aG,bf,ek]at h';omega)];congr 2;rw[<-nQ,aO (i:=w.bs.length) (aJ _)]
   rw[hbe]at j;rw[aot fP]at R;have hm6:(min 6 w.bs.length:Nat)<=w.bs.length:=by omega
   have hm0:0<(min 6 w.bs.length:Nat):=by omega
   clear Y lq ng A6 W hbe J;generalize min 6 w.bs.length=mb at*;generalize w.bs.map Ba.v=Bv at*;simp(disch:=omega) only[↓zd,seval,push_cast,k1,k2,k3,k4,h5,R,hbl,We,ZO,htl];refine j _ (fun m hm=> ?_) ?_ ?_
   ·simp(disch:=omega) only[bU,bY]
   ·simp only[↓zg,seval]
    all_goals rfl
   ·simp only[↓zg,seval]
    all_goals rfl
def DC(a b:Nat):List Int:=(List.range' (a+1) (b-a)).map fun n:Nat=>(n:Int)
theorem Ak(a:Nat):DC a a=[]:=by unfold DC;simp
theorem sD(a:Nat):DC a (a+1)=[((a+1:Nat):Int)]:=by
 unfold DC;rw[show a+1-a=1 by omega];rfl
theorem nu{a b c:Nat}(h:a<=b)(g:b<=c):DC a b++DC b c=DC a c:=by
 unfold DC;rw[<-aR];congr 1;have:=List.range'_append (s:=a+1) (m:=b-a) (n:=c-b) (step:=1);rw[show a+1+1*(b-a)=b+1 by omega,show b-a+(c-b)=c-a by omega]at this;exact this
theorem WB{a b:Nat}{i:Int}(h:i∈DC a b):(a:Int)+1<=i∧i<=b:=by
 unfold DC at h;obtain⟨n,hn,rfl⟩:=dQ.1 h;rw[List.mem_range'_1]at hn;omega
theorem Ye(a b:Nat):(DC a b).Nodup:=by
 unfold DC;unfold List.Nodup;rw[List.pairwise_map];have h:(List.range' (a+1) (b-a)).Nodup:=List.nodup_range';exact List.Pairwise.imp (fun h e=>h (Int.ofNat.inj e)) h
theorem abA{a b:Nat}(h:a<b):((a+1:Nat):Int)::DC (a+1) b=DC a b:=by
 rw[<-nu (show a<=a+1 by omega) (show a+1<=b by omega),sD];rfl
def rX(e:Ev):Prop:=(∀h∈e.hs,48<=h.n∧h.n<=86)∧∀g∈e.gs,48<=g.n∧g.n<=86
theorem P3.aeK(p:P3)(t:Bool)(s:Int):(p.hd t s).n=p.n:=rfl
theorem ao4{x:It}(ok:tQ x)(fi:Int):(∀h∈x.hs fi,Gj h∧48<=h.n∧h.n<=86)∧((x.hs fi).map Hd.n).Pairwise (·<·)∧x.hs fi≠[]∧(x.hs fi).length<=2:=by
 have C:=ok.pt;have B:=ok.mo;have b1:48<=x.n1∧x.n1<=86:=by unfold It.n1;omega
 have j:48<=x.n2∧x.n2<=86:=by unfold It.n2;omega
 have A:x.n1<x.n2:=by unfold It.n1 It.n2;omega
 obtain⟨_,u,n1⟩:=KQ (fi:=fi) b1;obtain⟨_,r,n2⟩:=KQ (fi:=fi) j;have g:Gj ((Qm x.n1 fi).hd x.ti 0):=⟨u,by show(0:Int)<=0∧(0:Int)<=2;omega⟩
 have l:Gj ((Qm x.n2 fi).hd (x.ti&&decide (x.mo%4=1)) (x.mo/32%3)):=⟨r,by show 0<=x.mo/32%3∧x.mo/32%3<=2;omega⟩
 unfold It.hs;by_cases hm:x.mo%2=1
 ·rw[aX hm]
  refine⟨?_,?_,by simp,by simp⟩
  ·intro h c
   simp only[ed,jI,Be]at c;rcases c with rfl|rfl
   ·exact⟨g,by rw[P3.aeK,n1];exact b1⟩
   ·exact⟨l,by rw[P3.aeK,n2];exact j⟩
  ·simp only[bO,dX,P3.aeK,n1,n2,List.pairwise_cons,dA,forall_eq,jI,false_implies,implies_true,List.Pairwise.nil,and_true]
   exact A
 ·rw[aP hm]
  refine⟨?_,?_,by simp,by simp⟩
  ·intro h c
   simp only[ed,jI,Be]at c;subst c;exact⟨g,by rw[P3.aeK,n1];exact b1⟩
  ·simp
theorem aeL(n:Int):laT (zB n):=by
 unfold laT zB;(repeat' split)<;>simp
theorem abB{x:It}(ok:tQ x){id lg dt fi:Int}(c:1<=id∧id<=1000000)(hl: -1<=lg∧lg<=8)(hd:0<=dt∧dt<=3):mX (x.KR id lg dt fi)∧rX (x.KR id lg dt fi)∧(x.KR id lg dt fi).id=id∧(x.KR id lg dt fi).w=tk lg dt∧(x.KR id lg dt fi).kd≠3:=by
 obtain⟨a1,a2,a3,a4⟩:=ao4 ok fi;have F:=ok.ma;have b1:48<=x.n1∧x.n1<=86:=by have:=ok.pt;unfold It.n1;omega
 obtain⟨_,C,n1⟩:=KQ (fi:=fi) b1;unfold It.KR;by_cases B:x.kd%8=5
 ·rw[aX B]
  refine⟨⟨c,by simp,fun _=>⟨hl,hd⟩,by simp,by simp,by simp,by simp,by simp,by simp,by simp,by simp,by simp,by simp,by simp,by simp⟩,⟨by simp,by simp⟩,rfl,rfl,by simp⟩
 ·rw[aP B]
  by_cases A:x.kd%8=7
  ·rw[aX A]
   refine⟨⟨c,by simp,fun _=>⟨hl,hd⟩,by simp,by simp,by simp,by simp,by simp,by simp,by simp,by simp,by simp,by simp,by simp,by simp⟩,⟨by simp,by simp⟩,rfl,rfl,by simp⟩
  ·rw[aP A]
   have j:∀g∈x.gs fi,XF g∧48<=g.n∧g.n<=86:=by
    intro g j;unfold It.gs at j;split at j
    ·obtain rfl:=dA.1 j
     exact⟨⟨C,by simp⟩,by show 48<=(Qm x.n1 fi).n∧(Qm x.n1 fi).n<=86;rw[n1];exact b1⟩
    ·cases j
   have u:(x.gs fi).length<=1:=by
    unfold It.gs;split<;>simp
   refine⟨⟨c,by simp,fun _=>⟨hl,hd⟩,by simp,by simp,fun h r=>(a1 h r).1,fun _=>⟨a3,a4⟩,a2,fun g h=>(j g h).1,u,?_,?_,?_,?_,?_⟩,⟨fun h r=>(a1 h r).2,fun g h=>(j g h).2⟩,rfl,rfl,by simp⟩
   ·intro t l
    dsimp only at l;split at l
    ·obtain rfl:=dA.1 l
     exact aeL _
    ·cases l
   ·dsimp only
    split<;>simp
   ·dsimp only;omega
   ·dsimp only;split<;>omega
   ·dsimp only;split<;>omega
theorem abC{k:Int}{p:Int×Int}(c:1<=k∧k<=1000000)(hp:p∈uO):mX (zC k p)∧rX (zC k p)∧(zC k p).id=k∧(zC k p).w=tk p.1 p.2∧(zC k p).kd≠3:=by
 have g:∀p∈uO,(-1<=p.1∧p.1<=8)∧0<=p.2∧p.2<=3:=by decide
 obtain⟨hl,hd⟩:=g p hp;unfold zC;exact⟨⟨c,by simp,fun _=>⟨hl,hd⟩,by simp,by simp,by simp,by simp,by simp,by simp,by simp,by simp,by simp,by simp,by simp,by simp⟩,⟨by simp,by simp⟩,rfl,rfl,by simp⟩
theorem ajT{k:Int}(c:1<=k∧k<=1000000):mX (mrE k)∧rX (mrE k):=by
 unfold mrE;exact⟨⟨c,by simp,by simp,by simp,by simp,by simp,by simp,by simp,by simp,by simp,by simp,by simp,by simp,by simp,by simp⟩,⟨by simp,by simp⟩⟩
structure BdP(b:Bd)(len:Int)(k0:Nat):Prop where
 ev:∀e∈b.es,mX e∧rX e∧e.kd≠3
 ids:b.es.map Ev.id=DC k0 b.k
 k:k0<=b.k
 tu:∀f∈b.tu,0<=f∧f+3<=b.es.length
 ap:b.tu.Pairwise fun a c=>a+3<=c
 al:H6 b.tu (b.es.map Ev.w)
 sum:(kT b.tu (b.es.map Ev.w)).sum+b.lf=len
 lf:0<=b.lf
theorem Yf{α:Type}:∀(l:List α)(f:Nat->α->α),(∀i w,f i w=w)->l.mapIdx f=l:=by
 intro l;induction l with
 |nil=>intro f _;rfl
 |cons v l c=>
  intro f h;rw[kX,h,c _ (fun i w=>h (i+1) w)]
theorem GD{α β:Type}:∀(l:List α)(f g:Nat->α->β),(∀i a,l[i]? =some a->f i a=g i a)->l.mapIdx f=l.mapIdx g:=by
 intro l;induction l with
 |nil=>intro f g _;rfl
 |cons v l c=>
  intro f g h;rw[kX,kX,h 0 v rfl,c _ _ (fun i a j=>h (i+1) a (by simpa using j))]
theorem NQ{l ws vs:List Int}(h:∀f∈l,f+3<=ws.length):kT l (ws++vs)=kT l ws++vs:=by
 unfold kT;rw[List.mapIdx_append];congr 1;refine Yf vs _ fun i w=> ?_;show VK l ((i+ws.length:Nat):Int) w=w;unfold VK;rw[aP];intro c;unfold Eu at c;obtain⟨f,hf,g⟩:=fe.1 c;simp only[aH,bN]at g;have:=h f hf;omega
theorem Yg{l ws:List Int}{w:Int}(h:∀f∈l,0<=f∧f+3<=ws.length):kT (l++[(ws.length:Int)]) (ws++[w,w,w])=kT l ws++[w*2/3,w*2/3,w*2/3]:=by
 unfold kT;rw[List.mapIdx_append];have r:(ws.mapIdx fun i w=>VK (l++[(ws.length:Int)]) i w)=ws.mapIdx fun i w=>VK l i w:=by
  refine GD ws _ _ fun i a g=> ?_;have A:=(au.1 g).1;unfold VK Eu;rw[List.any_append];have:([(ws.length:Int)].any fun f=>decide (f<=(i:Int))&&decide ((i:Int)-f<3))=false:=by
   simp;omega
  rw[this,yR]
 have c:∀j:Nat,j<3->∀w,VK (l++[(ws.length:Int)]) ((j+ws.length:Nat):Int) w=w*2/3:=by
  intro j u w;unfold VK;rw[aX];unfold Eu;rw[List.any_append];have:([(ws.length:Int)].any fun f=>decide (f<=((j+ws.length:Nat):Int))&&decide (((j+ws.length:Nat):Int)-f<3))=true:=by
   simp;omega
  rw[this,Bool.or_true]
 rw[r];congr 1;simp only[kX,List.mapIdx_nil];rw[c 0 (by omega),c (0+1) (by omega),c (0+1+1) (by omega)]
theorem GG{l ws vs:List Int}(h:∀f∈l,0<=f∧f+3<=ws.length)(a:H6 l ws):H6 l (ws++vs):=by
 intro f hf;obtain⟨lg,r,j,g,c⟩:=a f hf;have u:=h f hf;refine⟨lg,r,?_,?_,?_⟩
 ·rw[jW (by omega),j]
 ·rw[jW (by omega),g]
 ·rw[jW (by omega),c]
theorem ajU{x:It}(ok:tQ x){k:Nat}(J:k+3<=1000000)(fi:Int):(∀e∈Ag x k fi 3,mX e∧rX e∧e.kd≠3)∧(Ag x k fi 3).map Ev.id=DC k (k+3)∧(Ag x k fi 3).map Ev.w=[tk x.lg 0,tk x.lg 0,tk x.lg 0]:=by
 have I:=ok.vl;have l1: -1<=x.lg∧x.lg<=8:=by unfold It.lg;omega
 have h:=fun(j:Nat)(K:j<=2)=>abB (It.aa7 ok (k:=(j:Int)) (by omega)) (id:=(k+j+1:Nat)) (lg:=x.lg) (dt:=0) (fi:=fi) (by omega) l1 (by omega);have e:Ag x k fi 3=[AZ x (k+0) fi 0,AZ x (k+1) fi 1,AZ x (k+2) fi 2]:=rfl;obtain⟨a0,b0,C,u,f0⟩:=h 0 (by omega);obtain⟨a1,b1,B,d1,l⟩:=h 1 (by omega);obtain⟨a2,F,A,r,g⟩:=h 2 (by omega);rw[e];refine⟨?_,?_,?_⟩
 ·intro y c
  simp only[ed,jI,Be]at c;rcases c with rfl|rfl|rfl
  ·exact⟨a0,b0,f0⟩
  ·exact⟨a1,b1,l⟩
  ·exact⟨a2,F,g⟩
 ·show[(AZ x (k+0) fi 0).id,(AZ x (k+1) fi 1).id,(AZ x (k+2) fi 2).id]=_
  rw[show(AZ x (k+0) fi 0).id=_ from C,show(AZ x (k+1) fi 1).id=_ from B,show(AZ x (k+2) fi 2).id=_ from A];rw[<-nu (show k<=k+1 by omega) (show k+1<=k+3 by omega),<-nu (show k+1<=k+1+1 by omega) (show k+1+1<=k+3 by omega),sD,sD,show k+3=k+1+1+1 from rfl,sD];rfl
 ·show[(AZ x (k+0) fi 0).w,(AZ x (k+1) fi 1).w,(AZ x (k+2) fi 2).w]=_
  rw[show(AZ x (k+0) fi 0).w=_ from u,show(AZ x (k+1) fi 1).w=_ from d1,show(AZ x (k+2) fi 2).w=_ from r]
theorem Bd.ao5{fi len:Int}{b:Bd}{x:It}{k0:Nat}(h:BdP b len k0)(ok:tQ x)(O:b.k+3<=1000000):BdP (b.NJ fi x) len k0:=by
 obtain⟨C,B,A,j,u,r,J,I⟩:=h;have W:=ok.vl;have l1: -1<=x.lg∧x.lg<=8:=by unfold It.lg;omega
 have l2:0<=x.dt∧x.dt<=3:=by unfold It.dt;omega
 have l:(b.es.map Ev.w).length=b.es.length:=aG _;have g:∀f∈b.tu,0<=f∧f+3<=(b.es.map Ev.w).length:=by rw[l];exact j
 unfold Bd.NJ;split
 ·split
  ·exact⟨C,B,A,j,u,r,J,I⟩
  ·rename_i hn
   obtain⟨t1,t2,F⟩:=ajU ok O fi;have K:(Ag x b.k fi 3).length=3:=KU;obtain⟨_,⟨w',N,U⟩⟩:=aa8 ok;refine⟨?_,?_,by dsimp only;omega,?_,?_,?_,?_,by dsimp only;omega⟩
   ·intro e he
    rcases dx.1 he with he|he
    ·exact C e he
    ·exact t1 e he
   ·dsimp only
    rw[aR,B,t2,nu A (by omega)]
   ·dsimp only
    intro f hf;rw[aF,K];rcases dx.1 hf with hf|hf
    ·have:=j f hf;omega
    ·obtain rfl:=dA.1 hf;omega
   ·dsimp only
    rw[List.pairwise_append];refine⟨u,by simp,fun a Q c hc=> ?_⟩;obtain rfl:=dA.1 hc;exact(j a Q).2
   ·dsimp only
    rw[aR,F];intro f hf;rcases dx.1 hf with hf|hf
    ·exact GG g r f hf
    ·obtain rfl:=dA.1 hf
     refine⟨x.lg,by unfold It.lg;omega,?_,?_,?_⟩
     ·rw[vO,jb (by omega),l];simp
     ·rw[vO,jb (by omega),l];simp
     ·rw[vO,jb (by omega),l];simp
   ·dsimp only
    rw[aR,F,<-l,Yg g,kQ];simp only[sQ,List.sum_nil];omega
 ·split
  ·exact⟨C,B,A,j,u,r,J,I⟩
  ·rename_i hn
   obtain⟨a0,b0,T,R,f0⟩:=abB ok (id:=(b.k+1:Nat)) (lg:=x.lg) (dt:=x.dt) (fi:=fi) (by omega) l1 l2;refine⟨?_,?_,by dsimp only;omega,?_,u,?_,?_,by dsimp only;omega⟩
   ·intro e he
    rcases dx.1 he with he|he
    ·exact C e he
    ·obtain rfl:=dA.1 he
     exact⟨a0,b0,f0⟩
   ·dsimp only
    rw[aR,B,<-nu A (show b.k<=b.k+1 by omega),sD,bO,T];rfl
   ·dsimp only
    intro f hf;have:=j f hf;rw[aF];simp;omega
   ·dsimp only
    rw[aR];exact GG g r
   ·dsimp only
    rw[aR,NQ (fun f hf=>(g f hf).2),kQ,bO,R];simp only[dX,sQ,List.sum_nil];omega
theorem aeM{fi len:Int}{k0:Nat}:∀(l:List It)(b:Bd)(i:Nat),(∀x∈l,tQ x)->BdB b i k0->BdP b len k0->i+l.length<=8->k0<=900000->BdP (l.foldl (Bd.NJ fi) b) len k0:=by
 intro l;induction l with
 |nil=>intro b i _ _ h _ _;exact h
 |cons x l g=>
  intro b i hx c hp hl r;rw[aS]at hl;have ok:=hx x (gH ..);have A:=c.es;have u:=c.k;rw[jG];exact g _ (i+1) (fun y j=>hx y (dD _ j)) (Bd.aga c ok) (Bd.ao5 hp ok (by omega)) (by omega) r
theorem abD{d:List (Int×Int)}{k:Nat}(hd:∀p∈d,p∈uO)(A:k+d.length<=1000000):(∀e∈mU k d,mX e∧rX e∧e.kd≠3)∧(mU k d).map Ev.id=DC k (k+d.length)∧(mU k d).map Ev.w=d.map fun p=>tk p.1 p.2:=by
 have h:∀n,n<=d.length->(∀e∈mU k (d.take n),mX e∧rX e∧e.kd≠3)∧(mU k (d.take n)).map Ev.id=DC k (k+n)∧(mU k (d.take n)).map Ev.w=(d.take n).map fun p=>tk p.1 p.2:=by
  intro n;induction n with
  |zero=>intro _;exact⟨fun e he=>(by cases he),by rw[nR,Ak];rfl,rfl⟩
  |succ n c=>
   intro hn;obtain⟨l,j,g⟩:=c (by omega);obtain⟨p,hp⟩:∃p,d[n]? =some p:=⟨_,ak (by omega)⟩
   obtain⟨a0,b0,u,r,f0⟩:=abC (k:=(k+n+1:Nat)) (p:=p) (by omega) (hd p (ah hp));rw[KW hp];refine⟨?_,?_,?_⟩
   ·intro e he
    rcases dx.1 he with he|he
    ·exact l e he
    ·obtain rfl:=dA.1 he
     exact⟨a0,b0,f0⟩
   ·rw[aR,j,bO,u,<-nu (show k<=k+n by omega) (show k+n<=k+(n+1) by omega),show k+(n+1)=k+n+1 from rfl,sD];rfl
   ·rw[aR,g,aY,hp,aR,bO,r];rfl
 have:=h d.length (aJ _);rwa[aT]at this
structure awl(v:Vo)(len:Int)(a b:Nat):Prop where
 ok:yD v len
 nm:∀e∈v.es,rX e
 id:v.es.map Ev.id=DC a b
 ab:a<b∧b<=a+57
theorem ajV{fi:Int}{k u:Nat}{l:List It}(ok:∀x∈l,tQ x)(T:1<=u∧u<=32)(hk:k<=900000):awl (mkV fi (60480*u:Nat) k l) (60480*u:Nat) k (PH fi (60480*u:Nat) k l):=by
 have j:∀y∈l.take 8,tQ y:=fun y hy=>ok y (fH hy);have hl8:(l.take 8).length<=8:=by rw[bf];omega
 have b0:BdB ⟨[],[],(60480*u:Nat),k⟩ 0 k:=⟨⟨u,T.2,Int.natCast_mul 60480 u⟩,by simp,by simp,by simp⟩
 have hB:=I5 (fi:=fi) (k0:=k) (l.take 8) _ 0 j b0;have hP:=aeM (fi:=fi) (len:=(60480*u:Nat)) (k0:=k) (l.take 8) ⟨[],[],(60480*u:Nat),k⟩ 0 j b0 ⟨fun e he=>by(cases he),by rw[Ak];rfl,aJ _,fun f hf=>by(cases hf),List.Pairwise.nil,fun f hf=>by(cases hf),by show((List.nil:List Int)).sum+_=_;simp,by dsimp only;omega⟩ (by omega) hk;obtain⟨⟨w,hw,Vl⟩,Mh,F,c⟩:=hB;obtain⟨B,R,Q,A,O,N,p7,Z⟩:=hP;have ln:1<=((60480*u:Nat):Int)∧((60480*u:Nat):Int)<=15482880:=by omega
 have r:=aa' (fi:=fi) (k:=k) ok T.2;unfold mkV PH at*;change (oo fi (60480*u:Nat) k l).lf=_ at Vl;change (oo fi (60480*u:Nat) k l).es.length<=_ at Mh;change (oo fi (60480*u:Nat) k l).tu.length<=_ at F;change (oo fi (60480*u:Nat) k l).k=k+(oo fi (60480*u:Nat) k l).es.length at c;change∀e∈(oo fi (60480*u:Nat) k l).es,_ at B;change k<=(oo fi (60480*u:Nat) k l).k at Q;change 0<=(oo fi (60480*u:Nat) k l).lf at Z;change (oo fi (60480*u:Nat) k l).es.map Ev.id=DC k (oo fi (60480*u:Nat) k l).k at R;change∀f∈(oo fi (60480*u:Nat) k l).tu,0<=f∧f+3<=(oo fi (60480*u:Nat) k l).es.length at A;change (oo fi (60480*u:Nat) k l).tu.Pairwise _ at O;change H6 (oo fi (60480*u:Nat) k l).tu ((oo fi (60480*u:Nat) k l).es.map Ev.w)at N;change (kT (oo fi (60480*u:Nat) k l).tu ((oo fi (60480*u:Nat) k l).es.map Ev.w)).sum+(oo fi (60480*u:Nat) k l).lf=_ at p7;generalize U:((60480*u:Nat):Int)=len at*;generalize oo fi len k l=b at*;unfold Bd.vo Bd.kk at*;by_cases g:b.es=[]
 ·rw[aX g]at r⊢
  rw[aX g];obtain⟨m1,m2⟩:=ajT (k:=(b.k+1:Nat)) (by omega);have K:b.k=k:=by rw[g]at c;simpa using c
  refine⟨⟨fun e he=> ?_,by simp,ln,by simp,.inl ⟨_,rfl,rfl,rfl⟩⟩,fun e he=> ?_,?_,by omega⟩
  ·obtain rfl:=dA.1 he;exact m1
  ·obtain rfl:=dA.1 he;exact m2
  ·rw[K,sD];rfl
 ·rw[aP g]at r⊢
  rw[aP g];have C7:0<b.es.length:=dB.2 g;have I:b.dcs=Lp (64*w) (64*w):=by
   unfold Bd.dcs;rw[show(b.lf/60480).toNat=w by omega]
  have J:=PG w;obtain⟨d1,W,d3⟩:=KS (64*w) (64*w) (aJ _) J.1;rw[<-I]at d1 W d3;generalize b.dcs=d at*;have aCW:d.length<=32:=by omega
  obtain⟨C,Y,r3⟩:=abD (k:=b.k) d1 (by omega);have rl:(mU b.k d).length=d.length:=dJ ..;have X:(b.es.map Ev.w).length=b.es.length:=aG _;refine⟨⟨fun e he=> ?_,by simp[g],ln,?_,.inr ⟨fun e he=> ?_,⟨by dsimp only;omega,?_,fun f hf=> ?_,O⟩,?_,?_⟩⟩,fun e he=> ?_,?_,by omega⟩
  ·rcases dx.1 he with he|he
   ·exact(B e he).1
   ·exact(C e he).1
  ·dsimp only;rw[List.length_append,rl];omega
  ·rcases dx.1 he with he|he
   ·exact(B e he).2.2
   ·exact(C e he).2.2
  ·dsimp only;rw[List.length_append,rl];omega
  ·dsimp only;rw[List.length_append];have:=A f hf;omega
  ·unfold Vo.ws
   dsimp only;rw[aR];exact GG (fun f hf=>by rw[X];exact A f hf) N
  ·unfold Vo.ws
   dsimp only;rw[aR,NQ (fun f hf=>by rw[X];exact(A f hf).2),kQ,r3,W];omega
  ·rcases dx.1 he with he|he
   ·exact(B e he).2.1
   ·exact(C e he).2.1
  ·dsimp only
   rw[aR,R,Y,nu Q (by omega)]
theorem ajW{fi:Int}{b:Ba}(ok:yG b){i k u:Nat}(j:1<=u∧u<=32)(J:k<=890000):∀n,n<=2->(∀v∈(I6 fi (60480*u:Nat) b i k n).1,yD v (60480*u:Nat)∧∀e∈v.es,rX e)∧((I6 fi (60480*u:Nat) b i k n).1.flatMap fun v=>v.es.map Ev.id)=DC k (I6 fi (60480*u:Nat) b i k n).2:=by
 intro n;induction n with
 |zero=>intro _;exact⟨fun v hv=>(by cases hv),by rw[show(I6 fi (60480*u:Nat) b i k 0)=([],k)from rfl,Ak];rfl⟩
 |succ n F=>
  intro hn;obtain⟨l,g⟩:=F (by omega);have c:=Wt (fi:=fi) ok (i:=i) (k:=k) j.2 n;rw[zD];generalize I6 fi (60480*u:Nat) b i k n=st at*;obtain⟨vs,C⟩:=st;unfold PI;split
  ·obtain⟨B,A,r,I⟩:=ajV (fi:=fi) (k:=C) (Ba.aba ok (2*i+n)).2 j (by dsimp only at c;omega)
   refine⟨fun v hv=> ?_,?_⟩
   ·rcases dx.1 hv with hv|hv
    ·exact l v hv
    ·obtain rfl:=dA.1 hv
     exact⟨B,A⟩
   ·dsimp only at g c⊢
    rw[bH,g,bF,r,dK,bz,nu c.1 (by omega)]
  ·exact⟨l,g⟩
theorem aeN{fi:Int}{b:Ba}(ok:yG b){k u:Nat}(j:1<=u∧u<=32)(J:k<=800000):∀n,n<=10->(∀c∈(wV fi (60480*u:Nat) b k n).1,(1<=c.vs.length∧c.vs.length<=2)∧∀v∈c.vs,yD v (60480*u:Nat)∧∀e∈v.es,rX e)∧(wV fi (60480*u:Nat) b k n).1.flatMap idC=DC k (wV fi (60480*u:Nat) b k n).2:=by
 intro n;induction n with
 |zero=>intro _;exact⟨fun v F=>(by cases F),by rw[show(wV fi (60480*u:Nat) b k 0)=([],k)from rfl,Ak];rfl⟩
 |succ n C=>
  intro hn;obtain⟨B,A⟩:=C (by omega);have r:=PK (fi:=fi) ok (k:=k) j.2 n;rw[CL];generalize wV fi (60480*u:Nat) b k n=st at*;obtain⟨cs,g⟩:=st;dsimp only at r B A;have hc:=ajW (fi:=fi) ok (i:=n) (k:=g) j (by omega) 2 (aJ _);have hl:=Wu (fi:=fi) (len:=(60480*u:Nat)) (b:=b) (i:=n) (k:=g) 2;have I:=abh (fi:=fi) (len:=(60480*u:Nat)) (b:=b) (i:=n) (k:=g);have l:=Wt (fi:=fi) ok (i:=n) (k:=g) j.2 2;unfold X5;dsimp only;refine⟨fun c hc'=> ?_,?_⟩
  ·rcases dx.1 hc' with hc'|hc'
   ·exact B c hc'
   ·obtain rfl:=dA.1 hc'
    exact⟨⟨dB.2 I,hl⟩,hc.1⟩
  ·rw[bH,A,bF,show idC ⟨(I6 fi (60480*u:Nat) b n g 2).1⟩=_ from hc.2,dK,bz,nu r.1 l.1]
structure MF(m:Me)(N:Nat):Prop where
 me:vI m
 mf:O4 m
 cs:m.cs.length=N
 rs:m.rs=false
 re:m.re=0
 sw:m.sw=0
 nm:∀c∈m.cs,∀v∈c.vs,∀e∈v.es,rX e
theorem ajX{b:Ba}(ok:yG b){k N:Nat}(hN:N<=6)(X:k<=700000):MF (X6 b k N) N∧Mi (X6 b k N)=DC k (GC b k N)∧k<GC b k N:=by
 obtain⟨W,U,T,R,Q,O⟩:=id ok;have im:Fj (b.mt%5):=by unfold Fj;omega
 obtain⟨u,B,F⟩:=UI im;have J:=zW im;have A:1<=u:=by omega
 have K:=PK (fi:=b.fi) ok (k:=k+1) B N;obtain⟨l,C⟩:=aeN (fi:=b.fi) ok (k:=k+1) ⟨A,B⟩ (by omega) N (by omega);have cl:=KX (fi:=b.fi) (len:=(60480*u:Nat)) (b:=b) (k:=k+1) N;have g:k<GC b k N:=by unfold GC;rw[F];omega
 rw[<-F]at K l C cl;have te:∀t∈b.tm,1<=t.1∧t.1<=60000000:=by
  intro t j;unfold Ba.tm at j;split at j
  ·obtain rfl:=dA.1 j
   dsimp only;omega
  ·cases j
 have I:b.tm.length<=1:=by
  unfold Ba.tm;split<;>simp
 refine⟨⟨⟨im,?_,fun c hc=>(l c hc).1,fun c hc v r=>((l c hc).2 v r).1⟩,⟨?_,.inl rfl,.inl rfl,I,te⟩,cl,rfl,rfl,rfl,fun c hc v r=>((l c hc).2 v r).2⟩,?_,g⟩
 ·show(wV b.fi (kL (b.mt%5)) b (k+1) N).1.length<=6
  omega
 ·show-7<=b.fi∧b.fi<=7
  unfold Ba.fi;omega
 ·show((k+1:Nat):Int)::(wV b.fi (kL (b.mt%5)) b (k+1) N).1.flatMap idC=_
  rw[C];exact abA g
theorem aeO{bs:List Ba}(ok:∀b∈bs,yG b){k N:Nat}(hN:N<=6)(hl:bs.length<=6)(I:k<=1000):(∀m∈(wX N bs k).1,MF m N)∧(wX N bs k).1.flatMap Mi=DC k (wX N bs k).2:=by
 have h:∀i,i<=bs.length->(∀m∈(wX N (bs.take i) k).1,MF m N)∧(wX N (bs.take i) k).1.flatMap Mi=DC k (wX N (bs.take i) k).2:=by
  intro i;induction i with
  |zero=>intro _;exact⟨fun m hm=>(by cases hm),by rw[fZ,show wX N [] k=([],k)from rfl,Ak];rfl⟩
  |succ i A=>
   intro J;obtain⟨r,l⟩:=A (by omega);obtain⟨b,j⟩:∃b,bs[i]? =some b:=⟨_,ak (by omega)⟩
   have g:=ok b (ah j);have c:=PQ (bs:=bs.take i) (fun y B=>ok y (fH B)) k N;rw[bf,eH (by omega)]at c;rw[NP _ _ _ _ _ j];generalize wX N (bs.take i) k=st at*;obtain⟨ms,u⟩:=st;dsimp only at r l c;have C:u<=700000:=by
    have:(1+114*N)*i<=(1+114*6)*6:=H9 (by omega) (by omega);omega
   obtain⟨m1,m2,F⟩:=ajX g hN C;unfold K7;dsimp only;refine⟨fun m hm=> ?_,?_⟩
   ·rcases dx.1 hm with hm|hm
    ·exact r m hm
    ·obtain rfl:=dA.1 hm
     exact m1
   ·rw[bH,l,bF,m2,dK,bz,nu c.2.1 (by omega)]
 have:=h bs.length (aJ _);rwa[aT]at this
theorem aeP{xs:List Int}(hx:∀x∈xs,0<=x∧x<=255)(hl:xs.length<=3):(∀p∈(rh xs).1,XJ p∧1<=p.ss.length∧p.ss.length<=2∧-12<=p.tn∧p.tn<=9)∧(rh xs).1.flatMap idP=DC 0 (rh xs).2:=by
 have h:∀i,i<=xs.length->(∀p∈(rh (xs.take i)).1,XJ p∧1<=p.ss.length∧p.ss.length<=2∧-12<=p.tn∧p.tn<=9)∧(rh (xs.take i)).1.flatMap idP=DC 0 (rh (xs.take i)).2:=by
  intro i;induction i with
  |zero=>intro _;exact⟨fun m hm=>(by cases hm),by rw[fZ,show rh []=([],0)from rfl,Ak];rfl⟩
  |succ i F=>
   intro N;obtain⟨B,A⟩:=F (by omega);obtain⟨x,c⟩:∃x,xs[i]? =some x:=⟨_,ak (by omega)⟩
   have bx:=hx x (ah c);rw[NN _ _ _ c];generalize rh (xs.take i)=st at*;obtain⟨ps,k⟩:=st;dsimp only at B A;have hn:Bh x=1∨Bh x=2:=by unfold Bh;omega
   have g:=six (k:=x/4%6) (by omega);have C:wP (Yu (x/4%6)) (VH (x/4%6))=0∧-12<=VH (x/4%6)∧VH (x/4%6)<=9:=by rcases g with h|h|h|h|h|h<;>rw[h]<;>decide
   have l:Eb (AO (x%4))=true:=by
    unfold AO;(repeat' split)<;>kernel_rfl
   have J:(K6 x k).ss.length=Bh x:=by simp[K6,sN]
   have u:∀y∈(K6 x k).ss,1<=y.cl∧y.cl<=4:=by
    intro y I;obtain⟨j,K,rfl⟩:=dQ.1 I;rw[nU]at K;have:j=0∨j=1:=by omega
    unfold ajJ;dsimp only;rcases this with h|h<;>rw[h]
    ·simp
    ·simp only[Int.natCast_one,Int.mul_one];omega
   have r:idP (K6 x k)=DC k (k+1+Bh x):=by
    show((k+1:Nat):Int)::(sN x (k+1) (Bh x)).map St.id=_;rcases hn with h|h<;>rw[h]
    ·rw[<-nu (show k<=k+1 by omega) (show k+1<=k+1+1 by omega),sD,sD];rfl
    ·rw[<-nu (show k<=k+1 by omega) (show k+1<=k+1+2 by omega),sD,<-nu (show k+1<=k+1+1 by omega) (show k+1+1<=k+1+2 by omega),sD,show k+1+2=k+1+1+1 from rfl,sD];rfl
   unfold Cj;dsimp only;refine⟨fun p hp=> ?_,?_⟩
   ·rcases dx.1 hp with hp|hp
    ·exact B p hp
    ·obtain rfl:=dA.1 hp
     exact⟨⟨l,C.1,u⟩,by omega,by omega,C.2⟩
   ·rw[bH,A,bF,r,dK,bz,nu (by omega) (by omega)]
 have:=h xs.length (aJ _);rwa[aT]at this
theorem K8{α β:Type}{g:α->β}:∀(l:List α)(f:Nat->α->α),(∀i a,g (f i a)=g a)->(l.mapIdx f).map g=l.map g:=by
 intro l;induction l with
 |nil=>intro f _;rfl
 |cons v l c=>
  intro f h;rw[kX,bO,bO,h,c _ (fun i a=>h (i+1) a)]
theorem Al{α:Type}{P:α->Prop}{l:List α}{f:Nat->α->α}(hl:∀a∈l,P a)(h:∀i a,P a->P (f i a)):∀a∈l.mapIdx f,P a:=by
 intro a c;obtain⟨i,g,rfl⟩:=vt.1 c;exact h i _ (hl _ (qb _))
theorem aeQ{nx:Option Ev}{e:Ev}(h:mX e∧rX e):mX (vZ nx e)∧rX (vZ nx e):=by
 obtain⟨⟨R,Q,O,N,K,l,J,I,h9,F,C,B,A,u,r⟩,n1,n2⟩:=h;refine⟨⟨R,Q,O,N,fun g=> ?_,?_,fun g=> ?_,?_,h9,F,C,B,A,u,r⟩,?_,n2⟩
 ·have:=K g
  unfold vZ;dsimp only;rw[this.1];exact⟨rfl,this.2⟩
 ·intro h j
  obtain⟨a,c,rfl⟩:=dQ.1 j;exact⟨(l a c).pt,(l a c).sh⟩
 ·have:=J g
  unfold vZ;dsimp only;rw[aG];exact⟨by simpa using this.1,this.2⟩
 ·show((e.hs.map (zF nx)).map Hd.n).Pairwise _
  rw[jy];exact I
 ·intro h j
  obtain⟨a,c,rfl⟩:=dQ.1 j;exact n1 a c
theorem aeR{ms:List Me}{i c v:Nat}{vo:Vo}{len:Int}(h:yD vo len∧∀e∈vo.es,rX e):yD (tT ms i c v vo) len∧∀e∈(tT ms i c v vo).es,rX e:=by
 obtain⟨⟨Q,O,N,U,K⟩,J⟩:=h;have F:∀e∈(tT ms i c v vo).es,mX e∧rX e:=Al (P:=fun e=>mX e∧rX e) (fun e g=>⟨Q e g,J e g⟩) (fun _ _ h=>aeQ h);have hl:(tT ms i c v vo).es.length=vo.es.length:=dJ ..;have C:(tT ms i c v vo).es.map Ev.w=vo.es.map Ev.w:=K8 vo.es _ (fun _ _=>rfl);have r:∀e∈(tT ms i c v vo).es,∃B∈vo.es,e.kd=B.kd:=by
  intro e g;obtain⟨j,T,rfl⟩:=vt.1 g;exact⟨_,qb _,rfl⟩
 refine⟨⟨fun e g=>(F e g).1,fun h=> ?_,N,by omega,?_⟩,fun e g=>(F e g).2⟩
 ·rw[h]at hl
  exact O (eF.1 hl.symm)
 ·rcases K with⟨e,g,A,l⟩|⟨A,l,I,hs⟩
  ·refine .inl ⟨vZ (UJ ms i c v 0) e,?_,A,l⟩
   unfold tT;dsimp only;rw[g];rfl
  ·refine .inr ⟨fun e g=> ?_,by rw[hl];exact l,?_,?_⟩
   ·obtain⟨B,R,u⟩:=r e g
    rw[u];exact A B R
   ·unfold Vo.ws
    rw[C];exact I
   ·unfold Vo.ws
    rw[C];exact hs
theorem aeS{ms:List Me}{i N:Nat}{m:Me}(h:MF m N):MF (yI ms i m) N:=by
 obtain⟨⟨a1,a2,a3,a4⟩,⟨b1,F,C,B,A⟩,J,u,c3,c4,r⟩:=h;have hl:(yI ms i m).cs.length=m.cs.length:=dJ ..;have j:∀c∈(yI ms i m).cs,(1<=c.vs.length∧c.vs.length<=2)∧∀v∈c.vs,yD v (kL m.mt)∧∀e∈v.es,rX e:=by
  refine Al (P:=fun c:Ce=>(1<=c.vs.length∧c.vs.length<=2)∧∀v∈c.vs,yD v (kL m.mt)∧∀e∈v.es,rX e) (fun c hc=>⟨a3 c hc,fun v g=>⟨a4 c hc v g,r c hc v g⟩⟩) (fun l c h=>⟨?_,?_⟩)
  ·have:(yH ms i l c).vs.length=c.vs.length:=dJ ..
   rw[this];exact h.1
  ·exact Al (P:=fun v=>yD v (kL m.mt)∧∀e∈v.es,rX e) h.2 (fun I v g=>aeR g)
 exact⟨⟨a1,by omega,fun c hc=>(j c hc).1,fun c hc v g=>((j c hc).2 v g).1⟩,⟨b1,F,C,B,A⟩,by omega,u,c3,c4,fun c hc v g=>((j c hc).2 v g).2⟩
theorem FK{α β:Type}{g:α->List β}:∀(l:List α)(f:Nat->α->α),(∀i a,g (f i a)=g a)->(l.mapIdx f).flatMap g=l.flatMap g:=by
 intro l;induction l with
 |nil=>intro f _;rfl
 |cons v l c=>
  intro f h;rw[kX,bF,bF,h,c _ (fun i a=>h (i+1) a)]
theorem aeT(ms:List Me)(i:Nat)(m:Me):Mi (yI ms i m)=Mi m:=by
 unfold Mi;congr 1;refine FK m.cs (fun c g=>yH ms i c g) fun c g=> ?_;refine FK g.vs (fun v vo=>tT ms i c v vo) fun v vo=> ?_;exact K8 vo.es _ (fun _ _=>rfl)
theorem WC(ms:List Me):(pI ms).flatMap Mi=ms.flatMap Mi:=FK ms (fun i m=>yI ms i m) (fun i m=>aeT ms i m)
theorem PT{ms:List Me}{N:Nat}(h:∀m∈ms,MF m N):∀m∈pI ms,MF m N:=Al (P:=fun m=>MF m N) h (fun i m hm=>aeS hm)
def jU(ms:List Me)(i c v:Nat):List Ev:=iJ ⟨false,[],ms,[],[]⟩ i c v
theorem jY{s:Sc}{i c v:Nat}:iJ s i c v=jU s.ms i c v:=rfl
theorem FL(ms:List Me)(i c v:Nat):jU (pI ms) i c v=(jU ms i c v).mapIdx fun x e=>vZ (UJ ms i c v x) e:=by
 unfold jU iJ pI;dsimp only;rw[gu];cases ms[i]?with
 |none=>rfl
 |some m=>
  simp only[aU];rw[show(yI ms i m).cs=m.cs.mapIdx fun c g=>yH ms i c g from rfl,gu];cases m.cs[c]?with
  |none=>rfl
  |some g=>
   simp only[aU];rw[show(yH ms i c g).vs=g.vs.mapIdx fun v vo=>tT ms i c v vo from rfl,gu];cases g.vs[v]?with
   |none=>rfl
   |some vo=>rfl
theorem Sa(n:Nat)(ms:List Me)(i c v x:Nat):(wW n ms i c v x).map Prod.snd=(jU ms i c v)[x]? :=by
 unfold wW Ci RV jU iJ;dsimp only;cases ms[i]?with
 |none=>rfl
 |some m=>
  dsimp only;cases m.cs[c]?with
  |none=>rfl
  |some g=>
   dsimp only;cases g.vs[v]?with
   |none=>rfl
   |some vo=>
    dsimp only;cases vo.es[x]? <;>rfl
theorem aeU(ms:List Me)(i c v x:Nat):UJ ms i c v x=((jU ms i c v)[x+1]?).or (jU ms (i+1) c v)[0]? :=by
 unfold UJ nxE;have g:=Sa 0 ms i c v (x+1);have j:=Sa 0 ms (i+1) c v 0;cases h:wW 0 ms i c v (x+1)with
 |none=>rw[h]at g;rw[<-g,Option.none_or];exact j
 |some p=>rw[h]at g;rw[<-g];rfl
theorem abE{s:Sc}{ms:List Me}(hs:∀i c v,jU s.ms i c v=jU (pI ms) i c v):Ca s:=by
 intro i k v e x hx r;rw[jY,hs,FL,gu]at hx;cases J:(jU ms i k v)[e]?with
 |none=>rw[J]at hx;cases hx
 |some x0=>
  rw[J]at hx;simp only[aU,aA]at hx;subst hx;unfold Ev.Db at r;rw[aH]at r;obtain⟨T,r⟩:=r;obtain⟨h,O,R⟩:=fe.1 r;obtain⟨a,U,rfl⟩:=dQ.1 O;have j:(a.ti&&(match UJ ms i k v e with|some y=>ME y a.p|none=>false))=true:=R;rw[aH]at j;cases hn:UJ ms i k v e with
  |none=>rw[hn]at j;cases j.2
  |some g=>
   have F:∃l A,qC s i k v e=some (l,A)∧(jU ms l k v)[A]? =some g:=by
    rw[aeU]at hn;unfold qC;rw[jY,jY,hs,hs,FL,FL,dJ,dJ];cases u:(jU ms i k v)[e+1]?with
    |some y=>
     rw[u,Option.some_or]at hn;rw[aX (au.1 u).1];exact⟨i,e+1,rfl,u.trans hn⟩
    |none=>
     rw[u,Option.none_or]at hn;rw[aP (by have:=jX.1 u;omega),aX (au.1 hn).1];exact⟨i+1,0,rfl,hn⟩
   obtain⟨l,A,N,K⟩:=F;refine⟨l,A,vZ (UJ ms l k v A) g,N,?_,?_⟩
   ·rw[jY,hs,FL,gu,K];rfl
   ·unfold Ev.Ay
    rw[fI];right;rw[aV];intro b Q;obtain⟨c,hc,rfl⟩:=dQ.1 Q;unfold Hd.Dx;cases I:(zF (some g) c).ti with
    |false=>rfl
    |true=>
     have B:(c.ti&&ME g c.p)=true:=I;rw[aH]at B;have C:=B.2;unfold ME at C;rw[aH]at C;show(!true||(decide (g.kd=1)&&(g.hs.map (zF _)).any fun k=>k.eqp (zF (some g) c)))=true;rw[C.1,List.any_map];exact C.2
structure Bs(w:Wd)(t:Sc):Prop where
 ps:t.ps=w.p.1
 ml:1<=t.ms.length∧t.ms.length<=6
 me:∀m∈t.ms,vI m
 mf:∀m∈t.ms,O4 m
 cs:∀m∈t.ms,m.cs.length=w.n
 nm:∀m∈t.ms,∀c∈m.cs,∀v∈c.vs,∀e∈v.es,rX e
 ev:∀i c v,jU t.ms i c v=jU (pI w.m.1) i c v
 id:t.ms.flatMap Mi=DC w.p.2 w.m.2
theorem NR{w:Wd}(ok:Aj w):T9 w.p.1∧(∀p∈w.p.1,XJ p∧-12<=p.tn∧p.tn<=9)∧w.p.1.flatMap idP=DC 0 w.p.2∧(1<=w.n∧w.n<=6)∧w.p.2<=9:=by
 obtain⟨j,g⟩:=PO ok.ps;obtain⟨c,l⟩:=aeP g j.2;have u:=UL (qH w.ps);have r:=abz (qH w.ps);refine⟨⟨?_,fun p hp=>⟨(c p hp).2.1,(c p hp).2.2.1⟩⟩,fun p hp=>⟨(c p hp).1,(c p hp).2.2.2⟩,l,?_,?_⟩
 ·show 1<=(rh (qH w.ps)).1.length∧(rh (qH w.ps)).1.length<=3
  omega
 ·show 1<=mI (rh (qH w.ps)).1∧mI (rh (qH w.ps)).1<=6
  omega
 ·show(rh (qH w.ps)).2<=9
  omega
theorem Cm{w:Wd}(ok:Aj w):(∀m∈w.m.1,MF m w.n)∧w.m.1.flatMap Mi=DC w.p.2 w.m.2∧w.m.1.length=w.bx.length∧w.p.2<=w.m.2∧w.m.2<=5000:=by
 obtain⟨_,_,_,hn,hp⟩:=NR ok;obtain⟨j,c⟩:=R9 ok;obtain⟨r,l⟩:=aeO c (k:=w.p.2) hn.2 j.2 (by omega);have g:=PQ c w.p.2 w.n;have u:(1+114*w.n)*w.bx.length<=(1+114*6)*6:=H9 (by omega) (by omega);refine⟨r,l,g.1,g.2.1,?_⟩;show(wX w.n w.bx w.p.2).2<=5000;omega
theorem aeV{f:Int}{i N:Nat}{m:Me}(h:MF m N):vI (xD f i m)∧O4 (xD f i m)∧(xD f i m).cs=m.cs∧(xD f i m).id=m.id:=by
 obtain⟨⟨a1,a2,a3,a4⟩,⟨b1,I,F,C,B⟩,O,K,c3,c4,J⟩:=h;have g:(xD f i m).cs=m.cs∧(xD f i m).id=m.id∧(xD f i m).mt=m.mt∧(xD f i m).fi=m.fi∧(xD f i m).tm=m.tm∧((xD f i m).re=m.re∨(xD f i m).re=2+f/64%2)∧((xD f i m).sw=m.sw∨(xD f i m).sw=60):=by
  unfold xD mkW X9 mkR;(repeat' split)<;>simp
 obtain⟨c,A,l,e4,j,u,r⟩:=g;refine⟨⟨by rw[l];exact a1,by rw[c];exact a2,by rw[c];exact a3,by rw[c,l];exact a4⟩,⟨by rw[e4];exact b1,?_,?_,by rw[j];exact C,by rw[j];exact B⟩,c,A⟩
 ·rcases u with h|h<;>rw[h]
  ·exact I
  ·omega
 ·rcases r with h|h<;>rw[h]
  ·exact F
  ·exact .inr rfl
theorem ago{w:Wd}(ok:Aj w):Bs w w.s1:=by
 obtain⟨r,l,C,B,A⟩:=Cm ok;obtain⟨u,j⟩:=R9 ok;have g:=PT r;have hl:(pI w.m.1).length=w.m.1.length:=dJ ..;exact⟨rfl,by show 1<=(pI w.m.1).length∧(pI w.m.1).length<=6;omega,fun m hm=>(g m hm).me,fun m hm=>(g m hm).mf,fun m hm=>(g m hm).cs,fun m hm=>(g m hm).nm,fun i c v=>rfl,(WC w.m.1).trans l⟩
theorem abF(bs:List Ba)(ms:List Me)(i c v:Nat):jU (Ai bs ms) i c v=jU ms i c v:=by
 have g:∀f i(m:Me),(xD f i m).cs=m.cs:=by
  intro f i m;unfold xD mkW X9 mkR;(repeat' split)<;>rfl
 unfold jU iJ Ai;dsimp only;rw[gu];cases ms[i]?with
 |none=>rfl
 |some m=>
  simp only[aU];rw[g]
theorem abG{w:Wd}(ok:Aj w):Bs w (w.s1.Ai w.bx):=by
 obtain⟨C,B,K,J,I⟩:=Cm ok;obtain⟨F,A⟩:=R9 ok;have l:=PT C;have hl:(pI w.m.1).length=w.m.1.length:=dJ ..;have N:(Ai w.bx (pI w.m.1)).length=(pI w.m.1).length:=FJ _ _;have j:∀m∈Ai w.bx (pI w.m.1),vI m∧O4 m∧∃g∈pI w.m.1,m.cs=g.cs:=by
  intro m hm;obtain⟨i,u,rfl⟩:=vt.1 hm;obtain⟨a,b,c,d⟩:=aeV (f:=((w.bx[i]?.map Ba.fl).getD 0)) (i:=i) (l _ (qb u));exact⟨a,b,_,qb u,c⟩
 refine⟨rfl,by show 1<=(Ai w.bx (pI w.m.1)).length∧(Ai w.bx (pI w.m.1)).length<=6;omega,fun m hm=>(j m hm).1,fun m hm=>(j m hm).2.1,fun m hm=> ?_,fun m hm=> ?_,fun i c v=>abF _ _ i c v,?_⟩
 ·obtain⟨_,_,g,r,hc⟩:=j m hm
  rw[hc];exact(l g r).cs
 ·obtain⟨_,_,g,r,hc⟩:=j m hm
  rw[hc];exact(l g r).nm
 ·show(Ai w.bx (pI w.m.1)).flatMap Mi=_
  have:(Ai w.bx (pI w.m.1)).flatMap Mi=(pI w.m.1).flatMap Mi:=FK _ _ (fun i m=>by
   have:∀f,(xD f i m).cs=m.cs∧(xD f i m).id=m.id:=by
    intro f;unfold xD mkW X9 mkR;(repeat' split)<;>exact⟨rfl,rfl⟩
   unfold Mi;rw[(this _).1,(this _).2])
  rw[this];exact(WC w.m.1).trans B
theorem Bs.wok{w:Wd}{t:Sc}{n:Nat}{u:List Sn}(ok:Aj w)(B:Bs w t)(g:t.sp.length<=6)(j:(t.sp.map Sp.id).Nodup)(c:∀i∈t.sp.map Sp.id,(w.m.2:Int)+1<=i∧i<=n)(A:t.la=[(n:Int)])(hn:w.m.2<=n∧n<=1073741824∧1<=n)(hs:F2 (xz t) t.sp u):LA t n u:=by
 obtain⟨F,C,l,Q,O⟩:=NR ok;obtain⟨m1,m2,T,r,R⟩:=Cm ok;have hN:mI t.ps=w.n:=by rw[B.ps];rfl
 refine⟨⟨by rw[B.ps];exact F,fun p hp=>(C p (by rw[<-B.ps];exact hp)).1,B.ml,B.me,B.mf,fun m hm=>by rw[hN];exact B.cs m hm,g,n,A,by omega⟩,⟨?_,?_,A,by omega⟩,abE B.ev,hs⟩
 ·unfold Kq
  rw[B.ps,l,B.id,nu (ku _) r];rw[List.nodup_append];refine⟨Ye _ _,j,fun a J b I h=> ?_⟩;have N:=WB J;have K:=c b I;omega
 ·intro i hi
  unfold Kq at hi;rw[B.ps,l,B.id,nu (ku _) r]at hi;rcases dx.1 hi with hi|hi
  ·have N:=WB hi
   omega
  ·have K:=c i hi
   omega
theorem FM{n:Nat}{p:Nat->Bool}(h:∀i,p i=false):(List.range n).any p=false:=by
 rw[iN];intro i _;rw[h i];simp
theorem Ja{s:Sc}{P:Nat->Nat->Nat->Nat->Bool}(h:∀i k v e,P i k v e=false):wQ s P=false:=by
 unfold wQ;refine FM fun i=> ?_;unfold fM;split
 ·unfold aaa
  refine FM fun k=> ?_;unfold fC;split
  ·unfold Z9
   refine FM fun v=> ?_;unfold fV;split
   ·unfold Z8
    exact FM fun e=>h i k v e
   ·rfl
  ·rfl
 ·rfl
theorem K9{ms:List Me}{i c v e:Nat}{x:Ev}(h:(jU ms i c v)[e]? =some x):∃m∈ms,∃g∈m.cs,∃vo∈g.vs,x∈vo.es:=by
 unfold jU iJ at h;dsimp only at h;cases hm:ms[i]?with
 |none=>rw[hm]at h;cases h
 |some m=>
  rw[hm]at h;dsimp only at h;cases hc:m.cs[c]?with
  |none=>rw[hc]at h;cases h
  |some g=>
   rw[hc]at h;dsimp only at h;cases j:g.vs[v]?with
   |none=>rw[j]at h;cases h
   |some vo=>
    rw[j]at h;exact⟨m,ah hm,g,ah hc,vo,ah j,ah h⟩
theorem ao8{w:Wd}{t:Sc}(ok:Aj w)(hp:t.ps=w.p.1)(k:Nat): -12<=IV t k∧IV t k<=12:=by
 obtain⟨r,c,l,j,g⟩:=NR ok;unfold IV;split
 ·omega
 ·split
  ·omega
  ·rename_i p _ hx
   have:=c _ (by rw[<-hp];exact ah hx);split<;>omega
theorem aeW{w:Wd}{t:Sc}(ok:Aj w)(B:Bs w t):wQ t (P9 t)=false:=by
 refine Ja fun i k v e=> ?_;unfold P9;rw[jY];split
 ·rfl
 ·rename_i x hx
  obtain⟨m,hm,u,hc,vo,c,r⟩:=K9 hx;obtain⟨n1,n2⟩:=B.nm m hm u hc vo c x r;have hs:=ao8 ok B.ps k;unfold Gp zm;rw[Di];refine⟨?_,?_⟩
  ·rw[iN]
   intro h j;have:=n1 h j;simp;omega
  ·rw[iN]
   intro g l;have:=n2 g l;simp;omega
theorem abH:∀(ms:List Me),(∀m∈ms,m.rs=false)->xA ms false=false:=by
 intro ms;induction ms with
 |nil=>intro _;rfl
 |cons m ms c=>
  intro h;have hm:=h m (gH ..);unfold xA;rw[hm];have g:Rz m false=false:=by unfold Rz;rw[hm];split<;>rfl
  rw[g];exact c (fun m hm=>h m (dD _ hm))
theorem ao9{w:Wd}(ok:Aj w):lu w.s1 []=true:=by
 have B:=ago ok;have c:=PT (Cm ok).1;have h9:=aeW ok B;have g:xA w.s1.ms false=false:=abH _ (fun m hm=>(c m hm).rs);have r:wQ w.s1 (P17 w.s1)=false:=by
  refine Ja fun i k v e=> ?_;unfold P17;split
  ·rename_i x u F C A
   split
   ·rename_i a b l j
    rw[(c a (ah l)).re,(c b (ah j)).rs];simp
   ·simp
  ·rfl
 unfold lu zZ;simp only[zZ,Kr,h9,g,r];rfl
theorem Bs.of{w:Wd}{t c:Sc}(B:Bs w t)(hp:c.ps=t.ps)(hm:c.ms=t.ms):Bs w c:=by
 obtain⟨F,C,A,u,r,l,j,g⟩:=B;exact⟨hp.trans F,by rw[hm];exact C,by rw[hm];exact A,by rw[hm];exact u,by rw[hm];exact r,by rw[hm];exact l,by rw[hm];exact j,by rw[hm];exact g⟩
theorem abI{w:Wd}(ok:Aj w):Bs w w.s2:=by
 unfold Wd.s2;split
 ·exact abG ok
 ·exact ago ok
theorem WE{s s':Sc}(h:s'.ms=s.ms)(i k v e:Nat):Fs s' i k v e=Fs s i k v e:=by
 unfold Fs;rw[h]
theorem xz.of{s s':Sc}{p:Sp}{y:Sn}(h:xz s p y)(hm:s'.ms=s.ms):xz s' p y:=by
 obtain⟨j,i,e,g,l,k,v,x,c,a1,a2,a3,a4,r⟩:=h;refine⟨j,i,e,g,l,k,v,x,c,?_,a2,?_,a4,?_⟩
 ·rw[jY,hm];exact a1
 ·rw[jY,hm];exact a3
 ·rw[r,WE hm,WE hm]
theorem F2.of{α β:Type}{R S:α->β->Prop}(h:∀a b,R a b->S a b):∀{l:List α}{m:List β},F2 R l m->F2 S l m:=by
 intro l m hl;induction hl with
 |nil=>exact .nil
 |cons a _ c=>exact .cons (h _ _ a) c
theorem F2.snoc{α β:Type}{R:α->β->Prop}{x:α}{y:β}:∀{l:List α}{m:List β},F2 R l m->R x y->F2 R (l++[x]) (m++[y]):=by
 intro l m hl;induction hl with
 |nil=>intro h;exact .cons h .nil
 |cons a _ c=>intro h;exact .cons a (c h)
theorem aeX{ms:List Me}{i c v:Nat}{m:Me}(h:ms[i]? =some m):YC c v m=(jU ms i c v).map Ev.id:=by
 unfold YC jU iJ;dsimp only;rw[h];dsimp only;cases m.cs[c]?with
 |none=>rfl
 |some g=>
  dsimp only;cases g.vs[v]?with
  |none=>rfl
  |some vo=>rfl
theorem aeY{ms:List Me}{c v:Nat}{n:Int}(h:n∈PM ms c v):∃(i e:Nat)(x:Ev),(jU ms i c v)[e]? =some x∧x.id=n:=by
 unfold PM at h;obtain⟨m,hm,hn⟩:=mW.1 h;obtain⟨i,g,rfl⟩:=gP.1 hm;rw[aeX (ak g)]at hn;obtain⟨x,hx,rfl⟩:=dQ.1 hn;obtain⟨e,j,rfl⟩:=gP.1 hx;exact⟨i,e,_,ak j,rfl⟩
theorem Sb{ms:List Me}{N:Nat}{l:List Int}(h:l∈pJ ms N):∃c v,l=PM ms c v:=by
 unfold pJ at h;obtain⟨c,_,hl⟩:=mW.1 h;simp only[ed,jI,Be]at hl;rcases hl with rfl|rfl
 ·exact⟨c,0,rfl⟩
 ·exact⟨c,1,rfl⟩
theorem aeZ{ms:List Me}{N:Nat}{x:Ln}(h:1<(kU (pJ ms N) x).length):∃c v,kU (pJ ms N) x=PM ms c v:=by
 unfold kU at*;cases ho:(pJ ms N)[jOf (pJ ms N) x]?with
 |none=>rw[ho]at h;simp at h
 |some l=>exact Sb (ah ho)
theorem ae0{s:Sc}{N k:Nat}{x:Ln}(F:PR x)(h:1<(kU (pJ s.ms N) x).length):∃y,xz s (SE x (kU (pJ s.ms N) x) k) y:=by
 obtain⟨c,v,ho⟩:=aeZ h;obtain⟨al,_⟩:=PS (n:=x.fr) h;obtain⟨bl,_⟩:=PS (n:=x.to) h;generalize kU (pJ s.ms N) x=own at*;have hm:=F.kd;have g:∀n,n<own.length->∃(i e:Nat)(y:Ev),(jU s.ms i c v)[e]? =some y∧y.id=(own[n]?).getD 0:=by
  intro n hn;rw[ak hn];exact aeY (by rw[<-ho];exact qb hn)
 obtain⟨i,e,y,B,A⟩:=g (min (wh own x.fr) (wh own x.to)) (by omega);obtain⟨l,C,j,u,r⟩:=g (max (wh own x.fr) (wh own x.to)) (by omega);exact⟨_,by show 1<=1+x.kd%7∧1+x.kd%7<=7;omega,i,e,l,C,c,v,y,j,B,A,u,r,rfl⟩
theorem ae1(s:Sc)(l:List Int)(c:List Sn):∀n,zZ {s with la:=l} c n=zZ s c n:=by
 intro n;induction n with
 |zero=>rfl
 |succ n g=>
  unfold zZ;rw[g];rfl
theorem abJ(s:Sc)(l:List Int)(c:List Sn):lu {s with la:=l} c=lu s c:=ae1 s l c 17
structure LnI(w:Wd)(i:Nat)(s:Sc)(k:Nat):Prop where
 ps:s.ps=w.s2.ps
 ms:s.ms=w.s2.ms
 wr:s.wr=w.wr
 i6:i<=6
 len:s.sp.length<=i
 nd:(s.sp.map Sp.id).Nodup
 id:∀j∈s.sp.map Sp.id,(w.m.2:Int)+1<=j∧j<=k
 k:w.m.2<=k∧k<=w.m.2+i
 ok:∃ig,F2 (xz s) s.sp ig∧lu s ig=true
theorem WG{w:Wd}{i k:Nat}{s:Sc}{x:Ln}(ok:Aj w)(I:LnI w i s k)(T:i<6)(R:PR x)(ho:1<(kU (pJ w.s2.ms w.n) x).length):∃g,F2 (xz (lL x (kU (pJ w.s2.ms w.n) x) s k)) (lL x (kU (pJ w.s2.ms w.n) x) s k).sp g∧LA (lL x (kU (pJ w.s2.ms w.n) x) s k) (k+1:Nat) g∧((lL x (kU (pJ w.s2.ms w.n) x) s k).sp.map Sp.id).Nodup∧(∀j∈(lL x (kU (pJ w.s2.ms w.n) x) s k).sp.map Sp.id,(w.m.2:Int)+1<=j∧j<=(k+1:Nat)):=by
 obtain⟨Q,B,Y,X,W,O,A,U,g,N,h9⟩:=I;have F:=(Cm ok).2.2.2.2;rw[<-B]at ho⊢;obtain⟨y,C⟩:=ae0 (k:=k) R ho;generalize kU (pJ s.ms w.n) x=own at*;have c:(lL x own s k).sp=s.sp++[SE x own k]:=rfl;have hf:F2 (xz (lL x own s k)) (lL x own s k).sp (g++[y]):=by
  rw[c];exact(F2.of (fun a b h=>h.of rfl) N).snoc (C.of rfl)
 have r:(SE x own k).id=((k+1:Nat):Int):=rfl;have l:((lL x own s k).sp.map Sp.id).Nodup:=by
  rw[c,aR,List.nodup_append];refine⟨O,by simp,fun a K b J h=> ?_⟩;obtain rfl:=dA.1 J;have:=A a K;rw[r]at h;omega
 have u:∀j∈(lL x own s k).sp.map Sp.id,(w.m.2:Int)+1<=j∧j<=(k+1:Nat):=by
  intro j hj;rw[c,aR]at hj;rcases dx.1 hj with hj|hj
  ·have:=A j hj;omega
  ·obtain rfl:=dA.1 hj
   rw[r];omega
 refine⟨g++[y],hf,?_,l,u⟩;exact Bs.wok ok ((abI ok).of Q B) (by rw[c,aF];simp;omega) l u rfl (by omega) hf
theorem lnp{w:Wd}(ok:Aj w):LnP (pJ w.s2.ms w.n) (LnI w):=by
 refine⟨fun i s k I=> ?_,fun i s k x r I A ho _=> ?_,fun i s k x r I A=> ?_⟩
 ·have J:=(Cm ok).2.2.2.2
  have g:=I.i6;have c:=I.len;have O:=I.k;omega
 ·obtain⟨l,_,h,_⟩:=WG ok I r A ho
  exact⟨_,l,h⟩
 ·have Q:=I
  obtain⟨g,c,u,O,T,F,C,R,B⟩:=I;unfold Ck;dsimp only;by_cases ho:1<(kU (pJ w.s2.ms w.n) x).length
  ·rw[aX ho]
   obtain⟨l,a1,a2,a3,a4⟩:=WG ok Q r A ho;dsimp only;split
   ·rename_i N
    refine⟨g,c,u,by omega,?_,a3,a4,by omega,l,a1,?_⟩
    ·show(s.sp++[SE x (kU (pJ w.s2.ms w.n) x) k]).length<=i+1
     rw[aF];simp;omega
    ·rw[<-R6 a2];exact N.2
   ·exact⟨g,c,u,by omega,by omega,F,fun j K=>by have:=C j K;omega,by omega,B⟩
  ·rw[aP ho]
   exact⟨g,c,u,by omega,by dsimp only;omega,F,C,by omega,B⟩
theorem apb{w:Wd}(ok:Aj w):LnI w 0 w.s2 w.m.2:=by
 have c:w.s2.sp=[]:=by unfold Wd.s2;split<;>rfl
 refine⟨rfl,rfl,by unfold Wd.s2;split<;>rfl,by omega,by rw[c];simp,by rw[c];simp,by rw[c];simp,by omega,[],by rw[c];exact .nil,?_⟩;unfold Wd.s2;split
 ·assumption
 ·exact ao9 ok
theorem ae2{ids:List (List Int)}{P:Nat->Sc->Nat->Prop}(j:LnP ids P):∀(l:List Ln)(i:Nat)(st:Sc×Nat),i+l.length<=6->(∀x∈l,PR x)->P i st.1 st.2->P (i+l.length) (l.foldl (Ck ids) st).1 (l.foldl (Ck ids) st).2:=by
 intro l;induction l with
 |nil=>intro i st _ _ h;exact h
 |cons x l c=>
  intro i st hl ok h;rw[aS]at hl⊢;have:=c (i+1) (Ck ids st x) (by omega) (fun y g=>ok y (dD _ g)) (j.n i st.1 st.2 x (by omega) h (ok x (gH ..)));rw[jG,show i+(l.length+1)=i+1+l.length by omega];exact this
theorem ajZ{w:Wd}(ok:Aj w):Bs w w.YD∧w.YD.wr=w.wr∧∃n g,LA w.YD n g∧lu w.YD g=true:=by
 have h:=ae2 (lnp ok) (w.ls.take 6) 0 (w.s2,w.m.2) (by rw[bf];omega) (fun x hx=>ok.ls x (fH hx)) (apb ok);change LnI w _ w.s3.1 w.s3.2 at h;obtain⟨N,J,Q,U,T,j,I,R,g,F,h9⟩:=h;have u:=(Cm ok).2.2.2.2;have A:=(Cm ok).2.2.2.1;have B:Bs w w.YD:=(abI ok).of N J;have r:=(NR ok).2.2.1;have K:1<=w.s3.2:=by
  have hn:=(NR ok).2.2.2.1;have c:w.m.1.flatMap Mi=DC w.p.2 w.m.2:=(Cm ok).2.1;have O:w.m.1≠[]:=fun h=>by
   have j:=(Cm ok).2.2.1;have:=(R9 ok).1;rw[h]at j;simp at j;omega
  have:w.p.2<w.m.2:=by
   rcases jq w.p.2 w.m.2 with h|h
   ·exact h
   ·exfalso
    have C:w.p.2=w.m.2:=by omega
    rw[C,Ak]at c;cases hm:w.m.1 with
    |nil=>exact O hm
    |cons m l=>rw[hm,bF]at c;simp[Mi]at c
  omega
 have hf:F2 (xz w.YD) w.YD.sp g:=F2.of (fun a b h=>h.of rfl) F;refine⟨B,Q,w.s3.2,g,Bs.wok ok B (by show w.s3.1.sp.length<=6;omega) j I rfl (by omega) hf,?_⟩;show lu {w.s3.1 with la:=[(w.s3.2:Int)]} g=true;rw[abJ];exact h9
theorem ae3{ms:List Me}{e:Ev}(h:e∈RY ms):∃m∈ms,∃c∈m.cs,∃v∈c.vs,e∈v.es:=by
 unfold RY EC Bg at h;obtain⟨m,hm,h⟩:=mW.1 h;obtain⟨c,hc,h⟩:=mW.1 h;obtain⟨v,g,h⟩:=mW.1 h;exact⟨m,hm,c,hc,v,g,h⟩
theorem apc{w:Wd}(ok:Aj w):aoW w (LnI w):=by
 obtain⟨J,I,F,C,B⟩:=NR ok;obtain⟨m1,m2,O,N,K⟩:=Cm ok;have g:=abI ok;have A:=abG ok;have hN:mI w.s2.ps=w.n:=by rw[g.ps];rfl
 refine⟨Bs.wok (n:=1048576) ok A (by show(0:Nat)<=6;omega) (by show([]:List Int).Nodup;simp) (by intro i u;cases u) rfl (by omega) .nil,⟨g.ml,g.me,fun m hm=>by rw[hN];exact g.cs m hm⟩,lnp ok,apb ok,?_,fun m hm=>(m1 m hm).cs,fun m hm c hc=>by have:=((m1 m hm).me.vn c hc).2;omega,fun m hm c hc v j=>((m1 m hm).me.vo c hc v j).ne,fun m hm c hc v j=>by have:=((m1 m hm).me.vo c hc v j).Aw;omega,?_⟩
 ·intro l hl
  obtain⟨c,v,rfl⟩:=Sb hl;have:=WA (l:=w.s2.ms) (f:=YC c v) (k:=128) (fun m hm=>Wz ⟨g.ml,g.me,fun m hm=>by rw[hN];exact g.cs m hm⟩ c v m hm);have Q:=g.ml;unfold PM;omega
 ·intro e r
  obtain⟨m,hm,c,hc,v,j,r⟩:=ae3 r;exact(((m1 m hm).me.vo c hc v j).ev e r).lens.1
theorem c4'{w:Wd}(ok:Aj w):call bn 4 [.agg w.v] H=some (.agg w.YD.v,none):=c4 ok (apc ok)
def GH(f:PF)(d:Int):Prop:=∀p:P3,p.e=0->(f p).2=0->(f p).1.e=0∧(f p).1.n=p.n+d
theorem tV(i:Int×Int):GH (sJ i) i.2:=by
 intro p hp c;unfold sJ at*;split at c
 ·rename_i h
  rw[aX h];exact aij h
 ·cases c
theorem La(i:Int×Int)(p:P3):((sJ i p).2=0↔0<=p.n+i.2∧p.n+i.2<=127)∧((sJ i p).2=0∨(sJ i p).2=18):=by
 unfold sJ;split
 ·simp;assumption
 ·rename_i h
  refine⟨⟨fun h=>(by cases h),fun c=>absurd c h⟩,.inr rfl⟩
def SF(f:PF)(e:Ev):Prop:=(∀h∈e.hs,(f h.p).2=0)∧∀g∈e.gs,(f g.p).2=0
theorem Hd.Lb{f:PF}{d:Int}(hf:GH f d){h:Hd}(ok:Gj h)(c:(f h.p).2=0):(h.mp f).n=h.n+d∧Gj (h.mp f)∧(h.mp f).p=(f h.p).1∧(h.mp f).ti=h.ti:=by
 obtain⟨j,g⟩:=hf h.p ok.pt c;exact⟨g,⟨j,ok.sh⟩,rfl,rfl⟩
theorem Gr.Lb{f:PF}{d:Int}(hf:GH f d){g:Gr}(ok:XF g)(c:(f g.p).2=0):(g.mp f).n=g.n+d∧XF (g.mp f):=by
 obtain⟨l,j⟩:=hf g.p ok.pt c;exact⟨j,⟨l,ok.lg⟩⟩
theorem Ev.WH{f:PF}{d:Int}(hf:GH f d){e:Ev}(ok:mX e)(ne:SF f e):mX (e.mp f):=by
 obtain⟨W,U,T,R,Q,u,O,N,h9,J,I,F,C,B,A⟩:=ok;have hn:(e.hs.map (Hd.mp f)).map Hd.n=(e.hs.map Hd.n).map (·+d):=by
  rw[jy,jy];exact sS fun h l=>(Hd.Lb hf (u h l) (ne.1 h l)).1
 refine⟨W,U,T,R,fun r=> ?_,?_,fun r=> ?_,?_,?_,?_,I,F,C,B,A⟩
 ·obtain⟨a,b,c⟩:=Q r
  unfold Ev.mp;dsimp only;rw[a,b];exact⟨rfl,rfl,c⟩
 ·intro h l
  obtain⟨a,j,rfl⟩:=dQ.1 l;exact(Hd.Lb hf (u a j) (ne.1 a j)).2.1
 ·obtain⟨a,b⟩:=O r
  unfold Ev.mp;dsimp only;rw[aG];exact⟨by simpa using a,b⟩
 ·show((e.hs.map (Hd.mp f)).map Hd.n).Pairwise _
  rw[hn,List.pairwise_map];exact N.imp fun h=>by omega
 ·intro g K
  obtain⟨a,j,rfl⟩:=dQ.1 K;exact(Gr.Lb hf (h9 a j) (ne.2 a j)).2
 ·show(e.gs.map (Gr.mp f)).length<=1
  rw[aG];exact J
theorem ae4:∀{l:List Hd},(l.map Hd.n).Pairwise (·<·)->∀a∈l,∀b∈l,a.n=b.n->a=b:=by
 intro l;induction l with
 |nil=>intro _ a g;cases g
 |cons x l j=>
  intro h a g b r c;rw[bO,List.pairwise_cons]at h;rcases ed.1 g with ha'|ha'<;>rcases ed.1 r with wG|wG
  ·rw[ha',wG]
  ·have:=h.1 _ (List.mem_map_of_mem wG);rw[ha']at c;omega
  ·have:=h.1 _ (List.mem_map_of_mem ha');rw[wG]at c;omega
  ·exact j h.2 a ha' b wG c
def Qn(f:PF)(q:P3×Nat):P3×Nat:=((f q.1).1,q.2)
theorem abK{f:PF}{p:P3}:∀{held:List (P3×Nat)},(∀q∈held,(f q.1).1=(f p).1->q.1=p)->pg (held.map (Qn f)) (f p).1=pg held p:=by
 intro held;induction held with
 |nil=>intro _;rfl
 |cons q l j=>
  intro h;have g:=h q (gH ..);show(if P3.eq (f q.1).1 (f p).1 then some q.2 else pg (l.map (Qn f)) (f p).1)=if q.1.eq p then some q.2 else pg l p
  by_cases c:q.1=p
  ·rw[aX (P3.eq_iff.2 (by rw[c])),aX (P3.eq_iff.2 c)]
  ·rw[aP (fun h=>c (g (P3.eq_iff.1 h))),aP (fun h=>c (P3.eq_iff.1 h)),j (fun q g=>h q (dD _ g))]
theorem Yh(l:List Nt)(k:Nat)(off c:Int):nJ (l.map (Nt.up c)) k off=(nJ l k off).map (Nt.up c):=by
 unfold nJ;rw[aK];cases l[k]?with
 |none=>rfl
 |some x=>
  simp only[aU];rw[List.map_set];rfl
def Lc(held:List (P3×Nat))(x:Ev):Prop:=∀q∈held,∃h∈x.hs,h.p=q.1
theorem abL{f:PF}{d c down j off:Int}{nt:Nt}{held:List (P3×Nat)}(hf:GH f d)(hc:c=d-j+down)(all:List Hd)(inc:(all.map Hd.n).Pairwise (·<·))(ok:∀h∈all,Gj h∧(f h.p).2=0)(u:∀q∈held,∃h∈all,h.p=q.1):∀(l:List Hd)(i:Nat)(ns:List Nt)(hn:List (P3×Nat)),(∀h∈l,h∈all)->
  rW nt j off (held.map (Qn f)) (l.map (Hd.mp f)) i (ns.map (Nt.up c)) (hn.map (Qn f))=(((rW nt down off held l i ns hn).1).map (Nt.up c),((rW nt down off held l i ns hn).2).map (Qn f)):=by
 intro l;induction l with
 |nil=>intro i ns hn _;rfl
 |cons h l I=>
  intro i ns hn hl;obtain⟨C,B⟩:=ok h (hl h (gH ..));obtain⟨m1,m2,F,Q⟩:=Hd.Lb hf C B;have A:pg (held.map (Qn f)) (h.mp f).p=pg held h.p:=by
   rw[F];refine abK fun q R J=> ?_;obtain⟨g,N,K⟩:=u q R;obtain⟨U,T⟩:=ok g N;have n1:=(hf h.p C.pt B).2;have n2:=(hf g.p U.pt T).2;rw[<-K]at J;rw[J,n1]at n2;have W:h.n=g.n:=by
    show h.p.n=g.p.n;omega
   rw[ae4 inc h (hl h (gH ..)) g N W];exact K.symm
  rw[bO];unfold rW;dsimp only;rw[A,F,Q,aG];have r:(if h.ti=true then hn.map (Qn f)++[((f h.p).1,(pg held h.p).getD ns.length)]else hn.map (Qn f))=(if h.ti=true then hn++[(h.p,(pg held h.p).getD ns.length)]else hn).map (Qn f):=by
   split
   ·rw[aR];rfl
   ·rfl
  rw[r];have O:∀h∈l,h∈all:=fun h u=>hl h (dD _ u);cases pg held h.p with
  |some k=>
   dsimp only;rw[Yh];exact I _ _ _ O
  |none=>
   dsimp only;have e:ns.map (Nt.up c)++[{nt with off:=off,n:=(h.mp f).n-j,hd:=(i:Nat)}]=(ns++[{nt with off:=off,n:=h.n-down,hd:=(i:Nat)}]).map (Nt.up c):=by
    rw[aR,m1];congr 1;simp only[bO,dX,Nt.up];rw[show h.n+d-j=h.n-down+c by omega]
   rw[e];exact I _ _ _ O
theorem UM{nt:Nt}{down off:Int}{held:List (P3×Nat)}:∀(l:List Hd)(i:Nat)(ns:List Nt)(hn:List (P3×Nat)),∀q∈(rW nt down off held l i ns hn).2,q∈hn∨∃h∈l,h.ti=true∧h.p=q.1:=by
 intro l;induction l with
 |nil=>intro i ns hn q g;exact .inl g
 |cons h l j=>
  intro i ns hn q g;unfold rW at g;rcases j _ _ _ q g with h1|⟨a,b,c⟩
  ·split at h1
   ·rename_i r
    rcases dx.1 h1 with h1|h1
    ·exact .inl h1
    ·obtain rfl:=dA.1 h1
     exact .inr ⟨h,gH ..,r,rfl⟩
   ·exact .inl h1
  ·exact .inr ⟨a,dD _ b,c⟩
theorem abM{f:PF}{d c down g pt sf vo on off:Int}{x:Ev}{ns:List Nt}{held:List (P3×Nat)}(hf:GH f d)(hc:c=d-g+down)(ok:mX x)(ne:SF f x)(j:Lc held x):
  vK pt sf vo g on off (x.mp f) (ns.map (Nt.up c)) (held.map (Qn f))=((vK pt sf vo down on off x ns held).1.map (Nt.up c),(vK pt sf vo down on off x ns held).2.map (Qn f)):=
 abL hf hc x.hs ok.inc (fun h hx=>⟨ok.hs h hx,ne.1 h hx⟩) j x.hs 0 ns [] (fun h hx=>hx)
theorem UN{down pt sf vo on off:Int}{x:Ev}{ns:List Nt}{held:List (P3×Nat)}:∀q∈(vK pt sf vo down on off x ns held).2,∃h∈x.hs,h.ti=true∧h.p=q.1:=by
 intro q c;rcases UM x.hs 0 ns [] q c with h|h
 ·cases h
 ·exact h
theorem NS{held:List (P3×Nat)}{x y:Ev}(C:x.hs≠[]->x.kd=1)(F:x.Db=true->x.Ay y=true)(I:∀q∈held,∃h∈x.hs,h.ti=true∧h.p=q.1):Lc held y:=by
 intro q B;obtain⟨h,j,l,J⟩:=I q B;have g:=C (fun e=>by rw[e]at j;cases j);have A:x.Db=true:=by
  unfold Ev.Db;rw[aH];exact⟨by rw[g];rfl,fe.2 ⟨h,j,l⟩⟩
 have c:=F A;unfold Ev.Ay at c;rw[g]at c;have:=aV.1 (by simpa using c) h j;unfold Hd.Dx at this;rw[l]at this;simp only[nL,iK,aH]at this;obtain⟨k,u,r⟩:=fe.1 this.2;refine⟨k,u,?_⟩;rw[<-J];exact P3.eq_iff.1 r
theorem Cn(F:Nat->PF):∀(cs:List Ce)(k c:Nat),(nN F k cs)[c]? =(cs[c]?).map (Ce.mp (F (k+c))):=by
 intro cs;induction cs with
 |nil=>intro k c;rfl
 |cons a l g=>
  intro k c;cases c with
  |zero=>rfl
  |succ c=>
   show(nN F (k+1) l)[c]? =(l[c]?).map _;rw[g (k+1) c,show k+1+c=k+(c+1) by omega]
theorem DF{α β γ:Type}{f:α->β}:∀(l:List α)(g:Nat->β->γ),(l.map f).mapIdx g=l.mapIdx fun i a=>g i (f a):=by
 intro l;induction l with
 |nil=>intro g;rfl
 |cons a l c=>intro g;rw[bO,kX,kX,c]
theorem WI(f:PF)(v:Vo)(len:Int):(v.mp f).lens len=v.lens len:=by
 have c:(v.mp f).ws=v.ws:=by
  unfold Vo.ws Vo.mp;dsimp only;rw[jy];rfl
 unfold Vo.lens;rw[c];unfold Vo.mp;dsimp only;cases h:v.es with
 |nil=>rfl
 |cons e l=>
  cases l with
  |nil=>rfl
  |cons g l=>rfl
def abN(len:Int)(cs:List Ce):List (List (List Int)):=cs.map fun c=>c.vs.map fun v=>v.lens len
theorem WJ(len:Int)(cs:List Ce):RD len cs=((abN len cs).mapIdx fun i l=>(l.mapIdx fun k x=>XR i k len (kV x)).flatten).flatten:=by
 unfold RD abN tsV;rw[DF];congr 1;refine GD cs _ _ fun i c hc=> ?_;show _=((c.vs.map fun v=>v.lens len).mapIdx fun k x=>XR i k len (kV x)).flatten;rw[DF]
theorem ae5(F:Nat->PF)(len:Int):∀(cs:List Ce)(k:Nat),abN len (nN F k cs)=abN len cs:=by
 intro cs;induction cs with
 |nil=>intro k;rfl
 |cons a l c=>
  intro k;have:=c (k+1);unfold abN at*;show _::_=_::_;rw[this];congr 1;show((a.vs.map (Vo.mp (F k))).map fun v=>v.lens len)=_;rw[jy];exact sS fun v _=>WI _ v len
theorem aj1(F:Nat->PF)(len:Int)(cs:List Ce):RD len (nN F 0 cs)=RD len cs:=by rw[WJ,WJ,ae5]
theorem ae6(F:Nat->PF)(cs:List Ce)(c v n:Nat):Ku (nN F 0 cs) c v n=(Ku cs c v n).map (Ev.mp (F c)):=by
 unfold Ku;rw[Cn,dV];cases cs[c]?with
 |none=>rfl
 |some y=>
  simp only[aU];rw[show(y.mp (F c)).vs=y.vs.map (Vo.mp (F c))from rfl,aK];cases y.vs[v]?with
  |none=>rfl
  |some z=>
   simp only[aU];rw[show(z.mp (F c)).es=z.es.map (Ev.mp (F c))from rfl,aK]
theorem Ld{pt sf vo down onset:Int}{c v:Nat}{cs:List Ce}:∀(l:List Sl)(s:Co),l.foldl (pn pt sf vo down onset c v cs) s=(l.filter fun x=>decide (x.i=c)&&decide (x.k=v)).foldl (pn pt sf vo down onset c v cs) s:=by
 intro l;induction l with
 |nil=>intro s;rfl
 |cons x l g=>
  intro s;by_cases h:x.i=c∧x.k=v
  ·rw[List.filter_cons_of_pos (by simp[h]),jG,jG,g]
  ·rw[List.filter_cons_of_neg (by simpa using h),jG,g]
   congr 1;unfold pn;rw[aP h]
theorem HY{α:Type}{g:Nat->α->List Sl}{p:Sl->Bool}{c:Nat}:∀(l:List α)(k:Nat),(∀i x,i≠c->(g i x).filter p=[])->((l.mapIdx fun i x=>g (i+k) x).flatten).filter p=if k<=c then((l[c-k]?).map fun x=>(g c x).filter p).getD []else[]:=by
 intro l;induction l with
 |nil=>intro k _;simp
 |cons a l j=>
  intro k h;rw[kX,vM,List.filter_append,dV];have e:(l.mapIdx fun i x=>g (i+1+k) x)=l.mapIdx fun i x=>g (i+(k+1)) x:=by
   refine GD l _ _ fun i x _=> ?_;rw[show i+1+k=i+(k+1) by omega]
  rw[e,j (k+1) h];rcases Nat.lt_trichotomy k c with hk|hk|hk
  ·rw[h k a (by omega),aX (by omega),aX (by omega),dm,show c-k=(c-(k+1))+1 by omega,di]
  ·subst hk
   rw[aP (by omega),aX (aJ _),Bj,bz];rfl
  ·rw[h k a (by omega),aP (by omega),aP (by omega)];rfl
theorem H7{l:List Sl}{p:Sl->Bool}(h:∀x∈l,p x=false):l.filter p=[]:=by
 rw[List.filter_eq_nil_iff];intro x hx;rw[h x hx];simp
theorem PU{i k:Nat}{len:Int}{on:List Int}:∀x∈XR i k len on,x.i=i∧x.k=k:=by
 intro x hx;obtain⟨n,o,_,rfl⟩:=mK hx;exact⟨rfl,rfl⟩
theorem aj2(len:Int)(cs:List Ce)(c v:Nat):(RD len cs).filter (fun x=>decide (x.i=c)&&decide (x.k=v))=match cs[c]?with
  |none=>[]
  |some y=>match y.vs[v]?with
   |none=>[]
   |some z=>XR c v len (kV (z.lens len)):=by
 have r:=HY (g:=fun i(y:Ce)=>tsV i len y.vs) (p:=fun x=>decide (x.i=c)&&decide (x.k=v)) (c:=c) cs 0 (fun i y A=>by
  refine H7 fun x hx=> ?_;unfold tsV at hx;obtain⟨l,hl,hx⟩:=tq.1 hx;obtain⟨k,z,_,rfl⟩:=mK hl;rw[(PU x hx).1,fB A];rfl)
 rw[aX (ku _),Nat.sub_zero]at r;unfold RD;refine r.trans ?_;cases cs[c]?with
 |none=>rfl
 |some y=>
  simp only[aU,dU];have j:=HY (g:=fun k(z:Vo)=>XR c k len (kV (z.lens len))) (p:=fun x=>decide (x.i=c)&&decide (x.k=v)) (c:=v) y.vs 0 (fun k z u=>by
   refine H7 fun x hx=> ?_;rw[(PU x hx).2,fB u,mh])
  rw[aX (ku _),Nat.sub_zero]at j;unfold tsV;refine j.trans ?_;cases y.vs[v]?with
  |none=>rfl
  |some z=>
   simp only[aU,dU];rw[List.filter_eq_self];intro x hx;rw[(PU x hx).1,(PU x hx).2];simp
end Go.Proofs.YtnahpjebkgbedaaGreat

/- Part of the proof of ThereAndBack: what the program's functions compute on the abstract machine, and that it answers as the law says. No condition. -/
import Derived.Test.YtnahpjebkgbedaaGreatK
set_option linter.all false
set_option maxRecDepth 100000
set_option maxHeartbeats 16000000
namespace Go.Proofs.YtnahpjebkgbedaaGreat
open Go Go.Ht
def PW(cs:List Ce)(c v:Nat):List Ev:=
 match cs[c]?with
 |none=>[]
 |some y=>match y.vs[v]?with
  |none=>[]
  |some z=>z.es
theorem WK(cs:List Ce)(c v n:Nat):Ku cs c v n=(PW cs c v)[n]? :=by
 unfold Ku PW;cases cs[c]?with
 |none=>rfl
 |some y=>
  dsimp only;cases y.vs[v]? <;>rfl
def Yi(c:Int)(f:PF)(s:Co):Co:=⟨s.ns.map (Nt.up c),s.held.map (Qn f),s.th⟩
theorem ape{m l:Me}{F:Nat->PF}{c v:Nat}{d k down g pt sf vo onset:Int}{ns:List Nt}{held:List (P3×Nat)}(J:vI m)(Q:l.mt=m.mt)(r:l.cs=nN F 0 m.cs)(hf:GH (F c) d)(hk:k=d-g+down)
  (lM:∀e∈PW m.cs c v,mX e∧SF (F c) e)(hj:∀(j:Nat)(x y:Ev),(PW m.cs c v)[j]? =some x->(PW m.cs c v)[j+1]? =some y->x.Db=true->x.Ay y=true)(h0:∀y,(PW m.cs c v)[0]? =some y->Lc held y):
  tK pt sf vo g onset c v l (ns.map (Nt.up k)) (held.map (Qn (F c)))=((tK pt sf vo down onset c v m ns held).1.map (Nt.up k),(tK pt sf vo down onset c v m ns held).2.map (Qn (F c)))∧∀q∈(tK pt sf vo down onset c v m ns held).2,∃(j:Nat)(x:Ev),(PW m.cs c v)[j]? =some x∧j+1=(PW m.cs c v).length∧∃h∈x.hs,h.ti=true∧h.p=q.1:=by
 have hT:∃T:List Sl,(RD (kL m.mt) m.cs).filter (fun x=>decide (x.i=c)&&decide (x.k=v))=T∧T.length=(PW m.cs c v).length∧∀(j:Nat)(x:Sl),T[j]? =some x->x.i=c∧x.k=v∧x.n=j:=by
  refine⟨_,rfl,?_⟩;rw[aj2];unfold PW;cases O:m.cs[c]?with
  |none=>exact⟨rfl,fun j x h=>by cases h⟩
  |some y=>
   dsimp only;cases hz:y.vs[v]?with
   |none=>exact⟨rfl,fun j x h=>by cases h⟩
   |some z=>
    dsimp only;have oz:=J.vo y (ah O) z (ah hz);have lo:(kV (z.lens (kL m.mt))).length=z.es.length:=by rw[kV,dJ];exact(si oz).2.1
    refine⟨by unfold XR;rw[dJ];exact lo,fun j x h=> ?_⟩;unfold XR at h;rw[gu]at h;cases ho:(kV (z.lens (kL m.mt)))[j]?with
    |none=>rw[ho]at h;cases h
    |some o=>
     rw[ho]at h;simp only[aU,aA]at h;subst h;exact⟨rfl,rfl,rfl⟩
 obtain⟨T,B,hTl,R⟩:=hT;have N:∀j,j<=T.length->(T.take j).foldl (pn pt sf vo g onset c v l.cs) (Yi k (F c) ⟨ns,held,false⟩)=Yi k (F c) ((T.take j).foldl (pn pt sf vo down onset c v m.cs) ⟨ns,held,false⟩)∧(∀y,(PW m.cs c v)[j]? =some y->Lc ((T.take j).foldl (pn pt sf vo down onset c v m.cs) ⟨ns,held,false⟩).held y)∧((j=0∧((T.take j).foldl (pn pt sf vo down onset c v m.cs) ⟨ns,held,false⟩).th=false)∨∃(i:Nat)(x:Ev),i+1=j∧(PW m.cs c v)[i]? =some x∧∀q∈((T.take j).foldl (pn pt sf vo down onset c v m.cs) ⟨ns,held,false⟩).held,∃h∈x.hs,h.ti=true∧h.p=q.1):=by
  intro j;induction j with
  |zero=>intro _;exact⟨rfl,h0,.inl ⟨rfl,rfl⟩⟩
  |succ j ih=>
   intro YK;obtain⟨i1,i2,i3⟩:=ih (by omega);obtain⟨x,hx⟩:∃x,T[j]? =some x:=⟨_,ak (by omega)⟩
   obtain⟨a1,a2,a3⟩:=R j x hx;obtain⟨e,A⟩:∃e,(PW m.cs c v)[j]? =some e:=⟨_,ak (by omega)⟩
   have X:Ku m.cs x.i x.k x.n=some e:=by rw[a1,a2,a3,WK];exact A
   have W:Ku l.cs x.i x.k x.n=some (e.mp (F c)):=by rw[r,ae6,X,a1];rfl
   obtain⟨WL,K⟩:=lM e (ah A);rw[aY,hx,eQ,kG,kG,i1];generalize (T.take j).foldl (pn pt sf vo down onset c v m.cs) ⟨ns,held,false⟩=S at*;have hS:[x].foldl (pn pt sf vo down onset c v m.cs) S=⟨(vK pt sf vo down (onset+x.on) (onset+x.off) e S.ns S.held).1,(vK pt sf vo down (onset+x.on) (onset+x.off) e S.ns S.held).2,true⟩:=by
    show pn pt sf vo down onset c v m.cs S x=_;unfold pn;rw[aX ⟨a1,a2⟩,X]
   have U:[x].foldl (pn pt sf vo g onset c v l.cs) (Yi k (F c) S)=⟨(vK pt sf vo g (onset+x.on) (onset+x.off) (e.mp (F c)) (S.ns.map (Nt.up k)) (S.held.map (Qn (F c)))).1,(vK pt sf vo g (onset+x.on) (onset+x.off) (e.mp (F c)) (S.ns.map (Nt.up k)) (S.held.map (Qn (F c)))).2,true⟩:=by
    show pn pt sf vo g onset c v l.cs (Yi k (F c) S) x=_;unfold pn;rw[aX ⟨a1,a2⟩,W];rfl
   have pF:=abM (pt:=pt) (sf:=sf) (vo:=vo) (on:=onset+x.on) (off:=onset+x.off) (ns:=S.ns) hf hk WL K (i2 e A);have C:=UN (pt:=pt) (sf:=sf) (vo:=vo) (on:=onset+x.on) (off:=onset+x.off) (down:=down) (x:=e) (ns:=S.ns) (held:=S.held);rw[hS,U,pF];refine⟨rfl,fun y O=> ?_,.inr ⟨j,e,rfl,A,C⟩⟩;refine NS (x:=e) (fun fP=> ?_) (hj j e y A O) C;rcases Classical.em (e.kd=1)with h|h
   ·exact h
   ·exact absurd (WL.bare h).1 fP
 obtain⟨Z,k2,Y⟩:=N T.length (aJ _);rw[aT]at Z k2 Y;have hR:Cf pt sf vo down onset c v m ns held=T.foldl (pn pt sf vo down onset c v m.cs) ⟨ns,held,false⟩:=by
  unfold Cf;rw[Ld,B]
 have wZ:Cf pt sf vo g onset c v l (ns.map (Nt.up k)) (held.map (Qn (F c)))=Yi k (F c) (T.foldl (pn pt sf vo down onset c v m.cs) ⟨ns,held,false⟩):=by
  unfold Cf;rw[Ld,Q,r,aj1,B,<-Z,r];rfl
 unfold tK;rw[hR,wZ];generalize T.foldl (pn pt sf vo down onset c v m.cs) ⟨ns,held,false⟩=S at*;refine⟨?_,fun q I=> ?_⟩
 ·unfold Yi
  dsimp only;cases S.th<;>rfl
 ·dsimp only at I
  split at I
  ·rename_i u
   rcases Y with⟨_,h⟩|⟨i,x,h1,h2,h3⟩
   ·rw[h]at u;cases u
   ·exact⟨i,x,h2,by omega,h3 q I⟩
  ·cases I
structure Mp(s t:Sc)(F:Nat->PF)(c:Int):Prop where
 ml:t.ms.length=s.ms.length
 ms:∀(i:Nat)(m:Me),s.ms[i]? =some m->∃m',t.ms[i]? =some m'∧m'.mt=m.mt∧m'.cs=nN F 0 m.cs
 pt:∀k,Bf t k=Bf s k
 st:mI t.ps=mI s.ps
 d:∀k,k<mI s.ps->∃d,GH (F k) d∧c=d-KA t k+KA s k
 ne:∀(i k v:Nat),∀e∈jU s.ms i k v,mX e∧SF (F k) e
theorem WM{ms:List Me}{i c v:Nat}{m:Me}(h:ms[i]? =some m):jU ms i c v=PW m.cs c v:=by
 unfold jU iJ PW;dsimp only;rw[h];dsimp only;cases m.cs[c]?with
 |none=>rfl
 |some y=>
  dsimp only;cases y.vs[v]? <;>rfl
theorem ae8{s t:Sc}{F:Nat->PF}{c:Int}(M:Mp s t F c)(i:Nat):Eg t.ms i=Eg s.ms i:=by
 unfold Eg;congr 1;apply vN;intro j;rw[aK,aK,GK,GK];split
 ·cases g:s.ms[j]?with
  |none=>
   have r:=jX.1 g;have l:=M.ml;rw[dL (by omega)]
  |some m=>
   obtain⟨u,r,l,_⟩:=M.ms j m g;rw[r];simp only[aU,l]
 ·rfl
theorem apf{s t:Sc}{F:Nat->PF}{c:Int}(M:Mp s t F c)(K:∀m∈s.ms,vI m)(ti:Ca s){k v:Nat}{d down T pt sf vo:Int}(hf:GH (F k) d)(hc:c=d-T+down)(ns:List Nt):∀i,Gu pt sf vo T k v t.ms (ns.map (Nt.up c)) i=((Gu pt sf vo down k v s.ms ns i).1.map (Nt.up c),(Gu pt sf vo down k v s.ms ns i).2.map (Qn (F k)))∧∀y,(jU s.ms i k v)[0]? =some y->Lc (Gu pt sf vo down k v s.ms ns i).2 y:=by
 have X:∀(i e:Nat)(x:Ev),(jU s.ms i k v)[e]? =some x->x.Db=true->∃N W y,qC s i k v e=some (N,W)∧(jU s.ms N k v)[W]? =some y∧x.Ay y=true:=fun i e x B A=>ti i k v e x B A;intro i;induction i with
 |zero=>exact⟨rfl,fun y _ q Q=>by cases Q⟩
 |succ i Y=>
  obtain⟨U,Z⟩:=Y;unfold Gu;cases hm:s.ms[i]?with
  |none=>
   have B:=jX.1 hm;have A:=M.ml;rw[dL (show t.ms.length<=i by omega)];dsimp only;refine⟨U,fun y l=> ?_⟩;exfalso;unfold jU iJ at l;dsimp only at l;rw[dL (show s.ms.length<=i+1 by omega)]at l;cases l
  |some m=>
   obtain⟨N,B,A,h3⟩:=M.ms i m hm;rw[B];dsimp only;rw[ae8 M,U];have C:=WM (c:=k) (v:=v) hm;have u:(iJ s i k v).length=(jU s.ms i k v).length:=rfl;have R:∀(j:Nat)(x y:Ev),(PW m.cs k v)[j]? =some x->(PW m.cs k v)[j+1]? =some y->x.Db=true->x.Ay y=true:=by
    intro j x y hx l O;rw[<-C]at hx l;obtain⟨a,b,z,g,r,J⟩:=X i j x hx O;unfold qC at g;rw[u,aX (au.1 l).1]at g;injection g with g
    injection g with I zb
    subst I;subst zb;rw[l]at r;injection r with r
    rw[r];exact J
   obtain⟨g1,g2⟩:=ape (pt:=pt) (sf:=sf) (vo:=vo) (onset:=Eg s.ms i) (ns:=(Gu pt sf vo down k v s.ms ns i).1) (held:=(Gu pt sf vo down k v s.ms ns i).2) (K m (ah hm)) A h3 hf hc (by rw[<-C];exact M.ne i k v) R (by rw[<-C];exact Z);refine⟨g1,fun y l=> ?_⟩;intro q Q;obtain⟨j,x,hx,hl,hh⟩:=g2 q Q;rw[<-C]at hx hl;have WL:=(M.ne i k v x (ah hx)).1;refine NS (held:=[q]) (x:=x) (fun fP=> ?_) (fun O=> ?_) (fun q' Qe=> ?_) q (by simp)
   ·rcases Classical.em (x.kd=1)with h|h
    ·exact h
    ·exact absurd (WL.bare h).1 fP
   ·obtain⟨a,b,z,g,r,J⟩:=X i j x hx O
    unfold qC at g;rw[u,aP (by omega),aX (show 0<(iJ s (i+1) k v).length from(au.1 l).1)]at g;injection g with g
    injection g with I zb
    subst I;subst zb;rw[l]at r;injection r with r
    rw[r];exact J
   ·obtain rfl:=dA.1 Qe
    exact hh
theorem apg{s t:Sc}{F:Nat->PF}{c:Int}(M:Mp s t F c)(g:∀m∈s.ms,vI m)(ti:Ca s){k:Nat}(l:k<mI s.ps)(ns:List Nt):∀v,Qk t k (ns.map (Nt.up c)) v=(Qk s k ns v).map (Nt.up c):=by
 obtain⟨d,hf,hc⟩:=M.d k l;intro v;induction v with
 |zero=>rfl
 |succ v j=>
  unfold Qk;rw[j,M.pt,M.ml];have h:=(apf M g ti hf hc (v:=v) (pt:=(Bf s k).1) (sf:=(Bf s k).2) (vo:=v) (Qk s k ns v) s.ms.length).1;rw[h]
theorem aj3{s t:Sc}{F:Nat->PF}{c:Int}(M:Mp s t F c)(g:∀m∈s.ms,vI m)(ti:Ca s):∀k,k<=mI s.ps->Ab t k=(Ab s k).map (Nt.up c):=by
 intro k;induction k with
 |zero=>intro _;rfl
 |succ k j=>
  intro l;unfold Ab;rw[j (by omega)];exact apg M g ti (by omega) _ 2
theorem ae9(a b c:Int):zk (a+c) (b+c)=zk a b:=by
 unfold zk;(repeat' split)<;>omega
theorem aj4(c:Int)(x y:Nt):uz (x.up c) (y.up c)=uz x y:=by
 unfold uz Gt Nt.up;dsimp only;rw[ae9]
theorem abO{s t:Sc}{F:Nat->PF}{c:Int}(M:Mp s t F c)(g:∀m∈s.ms,vI m)(ti:Ca s):gN t=(gN s).map (Nt.up c):=by
 unfold gN;rw[M.st,aj3 M g ti _ (aJ _)];exact af2 (fun x y=>aj4 c x y) (Ab s (mI s.ps))
def Me.im(F:Nat->PF)(φ:Me->Int)(m:Me):Me:={m with fi:=φ m,cs:=nN F 0 m.cs}
structure Im(s t:Sc)(F:Nat->PF)(φ:Me->Int):Prop where
 ms:t.ms=s.ms.map (Me.im F φ)
 fi:∀m∈s.ms,-7<=φ m∧φ m<=7
 ps:T9 t.ps
 pa:∀p∈t.ps,XJ p
 ip:t.ps.flatMap idP=s.ps.flatMap idP
 pt:∀k,xy t.ps 0 k=xy s.ps 0 k
 st:mI t.ps=mI s.ps
 sp:t.sp=s.sp
 la:t.la=s.la
 f:∀k,k<mI s.ps->∃d,GH (F k) d
 ne:∀(i k v:Nat),∀e∈jU s.ms i k v,SF (F k) e
theorem qV{s t:Sc}{F:Nat->PF}{φ:Me->Int}(I:Im s t F φ)(i c v:Nat):jU t.ms i c v=(jU s.ms i c v).map (Ev.mp (F c)):=by
 unfold jU iJ;dsimp only;rw[I.ms,aK];cases s.ms[i]?with
 |none=>rfl
 |some m=>
  simp only[aU];rw[show(m.im F φ).cs=nN F 0 m.cs from rfl,Cn,dV];cases m.cs[c]?with
  |none=>rfl
  |some y=>
   simp only[aU];rw[show(y.mp (F c)).vs=y.vs.map (Vo.mp (F c))from rfl,aK];cases y.vs[v]?with
   |none=>rfl
   |some z=>rfl
theorem Vo.WH{f:PF}{d len:Int}{v:Vo}(hf:GH f d)(ok:yD v len)(ne:∀e∈v.es,SF f e):yD (v.mp f) len:=by
 obtain⟨C,B,A,F,u⟩:=ok;have r:(v.mp f).ws=v.ws:=by
  unfold Vo.ws Vo.mp;dsimp only;rw[jy];rfl
 have hl:(v.mp f).es.length=v.es.length:=aG _;refine⟨fun e g=> ?_,?_,A,by omega,?_⟩
 ·obtain⟨a,c,rfl⟩:=dQ.1 g
  exact Ev.WH hf (C a c) (ne a c)
 ·show v.es.map (Ev.mp f)≠[]
  simpa using B
 ·rcases u with⟨e,g,l,j⟩|⟨l,j,c,hs⟩
  ·refine .inl ⟨e.mp f,?_,l,j⟩
   show v.es.map (Ev.mp f)=_;rw[g];rfl
  ·refine .inr ⟨fun e g=> ?_,by rw[hl];exact j,by rw[r];exact c,by rw[r];exact hs⟩
   obtain⟨a,c,rfl⟩:=dQ.1 g;exact l a c
theorem Cq{α:Type}{l:List α}{a:α}(h:a∈l):∃i:Nat,l[i]? =some a:=by
 obtain⟨i,c,rfl⟩:=gP.1 h;exact⟨i,ak c⟩
theorem WN{ms:List Me}{i c v:Nat}{m:Me}{y:Ce}{z:Vo}(l:ms[i]? =some m)(j:m.cs[c]? =some y)(g:y.vs[v]? =some z):jU ms i c v=z.es:=by
 rw[WM l];unfold PW;rw[j];dsimp only;rw[g]
theorem Im.me{s t:Sc}{F:Nat->PF}{φ:Me->Int}(I:Im s t F φ)(ok:kN s){m:Me}(hm:m∈s.ms):vI (m.im F φ):=by
 obtain⟨i,K⟩:=Cq hm;obtain⟨a1,a2,a3,a4⟩:=ok.me m hm;have O:=ok.cs m hm;have A:∀c∈nN F 0 m.cs,∃(k:Nat)(g:Ce),m.cs[k]? =some g∧c=g.mp (F k):=by
  intro c hc;obtain⟨k,r⟩:=Cq hc;rw[Cn,dV]at r;cases l:m.cs[k]?with
  |none=>rw[l]at r;cases r
  |some g=>
   rw[l]at r;simp only[aU,aA]at r;exact⟨k,g,l,r.symm⟩
 refine⟨a1,by show(nN F 0 m.cs).length<=6;rw[KH];exact a2,fun c hc=> ?_,fun c hc v C=> ?_⟩
 ·obtain⟨k,g,l,rfl⟩:=A c hc
  show 1<=(g.vs.map (Vo.mp (F k))).length∧(g.vs.map (Vo.mp (F k))).length<=2;rw[aG];exact a3 g (ah l)
 ·obtain⟨k,g,l,rfl⟩:=A c hc
  obtain⟨B,u,rfl⟩:=dQ.1 C;obtain⟨j,J⟩:=Cq u;obtain⟨d,hf⟩:=I.f k (by have:=(au.1 l).1;omega);refine Vo.WH hf (a4 g (ah l) B u) fun e N=> ?_;exact I.ne i k j e (by rw[WN K l J];exact N)
theorem WO{s t:Sc}{F:Nat->PF}{φ:Me->Int}(I:Im s t F φ)(i k v e:Nat):Fs t i k v e=Fs s i k v e:=by
 unfold Fs;rw[I.ms,aK];cases s.ms[i]?with
 |none=>rfl
 |some m=>
  simp only[aU];rw[show(m.im F φ).cs=nN F 0 m.cs from rfl,Cn,dV];cases m.cs[k]?with
  |none=>rfl
  |some y=>
   simp only[aU];rw[show(y.mp (F k)).vs=y.vs.map (Vo.mp (F k))from rfl,aK];cases y.vs[v]?with
   |none=>rfl
   |some z=>
    simp only[aU];rw[WI];rfl
theorem Hd.aph(f:PF)(h:Hd):(h.mp f).ti=h.ti:=rfl
theorem Ev.WQ(f:PF)(x:Ev):(x.mp f).Db=x.Db:=by
 unfold Ev.Db Ev.mp;dsimp only;rw[List.any_map];rfl
theorem Ev.abP{f:PF}{x y:Ev}(h:x.Ay y=true):(x.mp f).Ay (y.mp f)=true:=by
 unfold Ev.Ay at*;rw[fI]at*;rcases h with h|h
 ·exact .inl h
 ·right
  show(x.hs.map (Hd.mp f)).all (Hd.Dx (y.mp f))=true;rw[vk,aV];intro a u;have c:=aV.1 h a u;unfold Hd.Dx at c;show Hd.Dx (y.mp f) (a.mp f)=true;unfold Hd.Dx;rw[Hd.aph];cases l:a.ti with
  |false=>rfl
  |true=>
   rw[l]at c;simp only[nL,iK,aH]at c;obtain⟨B,A⟩:=c;obtain⟨k,j,g⟩:=fe.1 A;simp only[nL,iK,aH];refine⟨B,?_⟩;show(y.hs.map (Hd.mp f)).any _=true;rw[List.any_map,fe];refine⟨k,j,?_⟩;have r:k.p'=a.p':=P3.eq_iff.1 g;show Hd.eqp (k.mp f) (a.mp f)=true;unfold Hd.eqp Hd.mp;dsimp only;rw[r];simp
theorem NT{s t:Sc}{F:Nat->PF}{φ:Me->Int}(I:Im s t F φ)(i k v e:Nat):qC t i k v e=qC s i k v e:=by
 have g:(iJ t i k v).length=(iJ s i k v).length:=by
  show(jU t.ms i k v).length=(jU s.ms i k v).length;rw[qV I,aG]
 have c:(iJ t (i+1) k v).length=(iJ s (i+1) k v).length:=by
  show(jU t.ms (i+1) k v).length=(jU s.ms (i+1) k v).length;rw[qV I,aG]
 unfold qC;rw[g,c]
theorem Im.tie{s t:Sc}{F:Nat->PF}{φ:Me->Int}(I:Im s t F φ)(ti:Ca s):Ca t:=by
 intro i k v e x hx l;rw[jY,qV I,aK]at hx;cases g:(jU s.ms i k v)[e]?with
 |none=>rw[g]at hx;cases hx
 |some x0=>
  rw[g]at hx;simp only[aU,aA]at hx;subst hx;rw[Ev.WQ]at l;obtain⟨j,r,y,B,A,u⟩:=ti i k v e x0 g l;refine⟨j,r,y.mp (F k),by rw[NT I];exact B,?_,Ev.abP u⟩;rw[jY,qV I,aK];have c:(jU s.ms j k v)[r]? =some y:=A;rw[c];rfl
theorem aj5(F:Nat->PF):∀(cs:List Ce)(k:Nat),(nN F k cs).flatMap idC=cs.flatMap idC:=by
 intro cs;induction cs with
 |nil=>intro k;rfl
 |cons a l c=>
  intro k;show(a.mp (F k)::nN F (k+1) l).flatMap idC=_;rw[bF,bF,c];congr 1;unfold idC;show(a.vs.map (Vo.mp (F k))).flatMap _=_;rw[CX];congr 1;funext v;show(v.es.map (Ev.mp (F k))).map Ev.id=v.es.map Ev.id;rw[jy];rfl
theorem Im.wok{s t:Sc}{F:Nat->PF}{φ:Me->Int}{n:Int}{J:List Sn}(I:Im s t F φ)(w:LA s n J):LA t n J:=by
 obtain⟨ok,⟨d1,T,R,Q⟩,ti,sn⟩:=w;have hl:t.ms.length=s.ms.length:=by rw[I.ms,aG]
 have l:∀m∈t.ms,∃c∈s.ms,m=c.im F φ:=by
  intro m hm;rw[I.ms]at hm;obtain⟨c,g,rfl⟩:=dQ.1 hm;exact⟨c,g,rfl⟩
 have j:Kq t=Kq s:=by
  unfold Kq;rw[I.ip,I.sp,I.ms];congr 2;rw[CX];congr 1;funext m;unfold Mi;congr 1;exact aj5 F m.cs 0
 refine⟨⟨I.ps,I.pa,by rw[hl];exact ok.ml,fun m hm=> ?_,fun m hm=> ?_,fun m hm=> ?_,by rw[I.sp];exact ok.sp,by rw[I.la];exact ok.la⟩,⟨by rw[j];exact d1,by rw[j];exact T,by rw[I.la];exact R,Q⟩,I.tie ti,?_⟩
 ·obtain⟨c,g,rfl⟩:=l m hm
  exact I.me ok g
 ·obtain⟨c,g,rfl⟩:=l m hm
  obtain⟨_,B,A,u,r⟩:=ok.mf c g;exact⟨I.fi c g,B,A,u,r⟩
 ·obtain⟨c,g,rfl⟩:=l m hm
  show(nN F 0 c.cs).length=_;rw[KH,I.st];exact ok.cs c g
 ·rw[I.sp]
  refine F2.of (fun p y h=> ?_) sn;obtain⟨O,i,e,K,N,k,v,x,C,b1,B,A,u,r⟩:=h;refine⟨O,i,e,K,N,k,v,x.mp (F k),C.mp (F k),?_,B,?_,u,?_⟩
  ·rw[jY,qV I,aK]
   have:(jU s.ms i k v)[e]? =some x:=b1;rw[this];rfl
  ·rw[jY,qV I,aK]
   have:(jU s.ms K k v)[N]? =some C:=A;rw[this];rfl
  ·rw[r,WO I,WO I]
theorem Lf{α:Type}{op:Int->α->Int}{P:α->Prop}(h:∀a x,op a x=0↔a=0∧P x):∀(l:List α)(a:Int),l.foldl op a=0↔a=0∧∀x∈l,P x:=by
 intro l;induction l with
 |nil=>intro a;simp
 |cons x l g=>
  intro a;rw[jG,g,h];simp only[ed,forall_eq_or_imp];exact⟨fun⟨⟨a,b⟩,c⟩=>⟨a,b,c⟩,fun⟨a,b,c⟩=>⟨⟨a,b⟩,c⟩⟩
theorem FN{α:Type}{op:Int->α->Int}(h:∀a x,(a=0∨a=18)->(op a x=0∨op a x=18)):∀(l:List α)(a:Int),(a=0∨a=18)->(l.foldl op a=0∨l.foldl op a=18):=by
 intro l;induction l with
 |nil=>intro a h;exact h
 |cons x l c=>intro a g;exact c _ (h a x g)
theorem agr(a e:Int):RO a e=0↔a=0∧e=0:=by
 unfold RO;split<;>simp_all
theorem api(f:PF)(a:Int)(e:Ev):erE f a e=0↔a=0∧SF f e:=by
 unfold erE erG erH;rw[Lf (P:=fun g:Gr=>(f g.p).2=0) (fun a g=>agr a _),Lf (P:=fun h:Hd=>(f h.p').2=0) (fun a h=>agr a _)];exact⟨fun⟨⟨a,b⟩,c⟩=>⟨a,b,c⟩,fun⟨a,b,c⟩=>⟨⟨a,b⟩,c⟩⟩
theorem apj(f:PF)(a:Int)(c:Ce):erC f a c=0↔a=0∧∀v∈c.vs,∀e∈v.es,SF f e:=by
 unfold erC;refine Lf (P:=fun v:Vo=>∀e∈v.es,SF f e) (fun a v=> ?_) c.vs a;unfold erV;exact Lf (P:=fun e:Ev=>SF f e) (fun a e=>api f a e) v.es a
theorem aj6(F:Nat->PF):∀(cs:List Ce)(k:Nat)(a:Int),Cg F k a cs=0↔a=0∧∀(j:Nat)(c:Ce),cs[j]? =some c->∀v∈c.vs,∀e∈v.es,SF (F (k+j)) e:=by
 intro cs;induction cs with
 |nil=>intro k a;unfold Cg;simp
 |cons c l u=>
  intro k a;unfold Cg;rw[u,apj];constructor
  ·rintro⟨⟨r,g⟩,A⟩
   refine⟨r,fun j c' hc=> ?_⟩;cases j with
   |zero=>
    simp only[dI,aA]at hc;subst hc;exact g
   |succ j=>
    have:=A j c' (by simpa using hc);rwa[show k+1+j=k+(j+1) by omega]at this
  ·rintro⟨r,g⟩
   refine⟨⟨r,g 0 c rfl⟩,fun j c' hc=> ?_⟩;have:=g (j+1) c' (by simpa using hc);rwa[show k+(j+1)=k+1+j by omega]at this
theorem ae'(F:Nat->PF)(s:Sc):IY F s=0↔∀(i k v:Nat),∀e∈jU s.ms i k v,SF (F k) e:=by
 unfold IY;rw[Lf (op:=erM F) (P:=fun m:Me=>∀(j:Nat)(c:Ce),m.cs[j]? =some c->∀v∈c.vs,∀e∈v.es,SF (F (0+j)) e) (fun a m=>aj6 F m.cs 0 a)];constructor
 ·rintro⟨_,h⟩ i k v e g
  unfold jU iJ at g;dsimp only at g;cases hm:s.ms[i]?with
  |none=>rw[hm]at g;cases g
  |some m=>
   rw[hm]at g;dsimp only at g;cases hc:m.cs[k]?with
   |none=>rw[hc]at g;cases g
   |some c=>
    rw[hc]at g;dsimp only at g;cases l:c.vs[v]?with
    |none=>rw[l]at g;cases g
    |some z=>
     rw[l]at g;have:=h m (ah hm) k c hc z (ah l) e g;rwa[dV]at this
 ·intro h
  refine⟨rfl,fun m hm j c hc v l e g=> ?_⟩;obtain⟨i,u⟩:=Cq hm;obtain⟨w,r⟩:=Cq l;rw[dV];exact h i j w e (by rw[WN u hc r];exact g)
theorem abQ{F:Nat->PF}(hF:∀k p,(F k p).2=0∨(F k p).2=18)(s:Sc):IY F s=0∨IY F s=18:=by
 have r:∀a e:Int,(a=0∨a=18)->(e=0∨e=18)->(RO a e=0∨RO a e=18):=by
  intro a e j C;unfold RO;split<;>assumption
 have B:∀(k:Nat)(a:Int)(e:Ev),(a=0∨a=18)->(erE (F k) a e=0∨erE (F k) a e=18):=by
  intro k a e j;unfold erE erG erH;exact FN (fun a g j=>r a _ j (hF k _)) _ _ (FN (fun a g j=>r a _ j (hF k _)) _ _ j)
 have A:∀(cs:List Ce)(k:Nat)(a:Int),(a=0∨a=18)->(Cg F k a cs=0∨Cg F k a cs=18):=by
  intro cs;induction cs with
  |nil=>intro k a h;exact h
  |cons c l u=>
   intro k a j;unfold Cg;refine u _ _ ?_;unfold erC;refine FN (fun a v j=> ?_) _ _ j;unfold erV;exact FN (fun a e j=>B k a e j) _ _ j
 unfold IY;exact FN (fun a m j=>A _ _ _ j) _ _ (.inl rfl)
theorem aj7(s:Sc)(l:List (Int×Int))(k:Nat)(p:P3):(yN s l k p).2=0∨(yN s l k p).2=18:=(La _ p).2
theorem PX{s t:Sc}{F:Nat->PF}{φ:Me->Int}{P Q:Nat->Nat->Nat->Nat->Bool}(I:Im s t F φ)(h:∀i k v e,Q i k v e=P i k v e):wQ t Q=wQ s P:=by
 have g:Q=P:=by funext i k v e;exact h i k v e
 subst g;unfold wQ;rw[show t.ms.length=s.ms.length by rw[I.ms,aG]];congr 1;funext i;unfold fM;rw[I.ms,aK];cases s.ms[i]?with
 |none=>rfl
 |some m=>
  simp only[aU];unfold aaa;rw[show(m.im F φ).cs=nN F 0 m.cs from rfl,KH];congr 1;funext k;unfold fC;rw[show(m.im F φ).cs=nN F 0 m.cs from rfl,Cn,dV];cases m.cs[k]?with
  |none=>rfl
  |some c=>
   simp only[aU];unfold Z9;rw[show(c.mp (F k)).vs=c.vs.map (Vo.mp (F k))from rfl,aG];congr 1;funext v;unfold fV;rw[show(c.mp (F k)).vs=c.vs.map (Vo.mp (F k))from rfl,aK];cases c.vs[v]?with
   |none=>rfl
   |some z=>
    simp only[aU];unfold Z8;rw[show(z.mp (F k)).es=z.es.map (Ev.mp (F k))from rfl,aG]
theorem abR(F:Nat->PF)(φ:Me->Int):∀(ms:List Me)(st:Bool),xA (ms.map (Me.im F φ)) st=xA ms st:=by
 intro ms;induction ms with
 |nil=>intro st;rfl
 |cons m l c=>
  intro st;rw[bO];unfold xA;rw[show(m.im F φ).rs=m.rs from rfl,show Rz (m.im F φ) st=Rz m st from rfl,c]
theorem Lg{s t:Sc}{F:Nat->PF}{φ:Me->Int}{c:List Sn}(I:Im s t F φ)(h9:wQ t (P9 t)=wQ s (P9 s)):lu t c=lu s c:=by
 have r:wQ t (P17 t)=wQ s (P17 s):=by
  refine PX I fun i k v e=> ?_;unfold P17;rw[NT I,jY,jY,qV I,aK];cases(jU s.ms i k v)[e]?with
  |none=>rfl
  |some x=>
   simp only[aU];cases qC s i k v e with
   |none=>rfl
   |some q=>
    obtain⟨j,u⟩:=q;dsimp only;rw[Ev.WQ,I.ms,aK,aK];cases s.ms[i]?with
    |none=>rfl
    |some a=>
     cases s.ms[j]?with
     |none=>rfl
     |some b=>rfl
 have g:xA t.ms false=xA s.ms false:=by rw[I.ms];exact abR F φ _ _
 have hr:∀n,Kr t c n=Kr s c n:=by
  intro n;unfold Kr;split
  ·rw[h9]
  ·rfl
  ·rw[I.sp]
  ·rw[g]
  ·rw[r]
  ·rfl
 unfold lu;have:∀n,zZ t c n=zZ s c n:=by
  intro n;induction n with
  |zero=>rfl
  |succ n l=>
   unfold zZ;rw[l,hr]
 exact this 17
theorem Im.notes{s t:Sc}{F:Nat->PF}{φ:Me->Int}{c:Int}(I:Im s t F φ)(ok:kN s)(ti:Ca s)(hd:∀k,k<mI s.ps->∃d,GH (F k) d∧c=d-KA t k+KA s k):gN t=(gN s).map (Nt.up c):=by
 refine abO (F:=F) ⟨by rw[I.ms,aG],fun i m hm=> ?_,fun k=> ?_,I.st,hd,fun i k v e g=>⟨?_,I.ne i k v e g⟩⟩ ok.me ti
 ·refine⟨m.im F φ,?_,rfl,rfl⟩
  rw[I.ms,aK,hm];rfl
 ·unfold Bf
  rw[I.pt]
 ·obtain⟨j,u⟩:=Cq g
  obtain⟨m,hm,y,r,z,l,hx⟩:=K9 u;exact((ok.me m hm).vo y r z l).ev e hx
def aj8(x:Nt):Prop:= -1000<=x.n∧x.n<=1000
def Nb(ns:List Nt)(N:Nat):Prop:=ns.length<=N∧∀x∈ns,aj8 x
theorem Yj{ns:List Nt}{N k:Nat}{off:Int}(h:Nb ns N):Nb (nJ ns k off) N:=by
 unfold nJ;cases g:ns[k]?with
 |none=>exact h
 |some x=>
  refine⟨by rw[List.length_set];exact h.1,fun y c=> ?_⟩;rcases List.mem_or_eq_of_mem_set c with c|rfl
  ·exact h.2 y c
  ·exact h.2 x (ah g)
theorem abS{nt:Nt}{down off:Int}{held:List (P3×Nat)}(hd: -500<=down∧down<=500):∀(l:List Hd)(i:Nat)(ns:List Nt)(hn:List (P3×Nat))(N:Nat),(∀h∈l,Gj h)->Nb ns N->Nb (rW nt down off held l i ns hn).1 (N+l.length):=by
 intro l;induction l with
 |nil=>intro i ns hn N _ h;exact h
 |cons h l g=>
  intro i ns hn N ok c;unfold rW;rw[aS,show N+(l.length+1)=N+1+l.length by omega];refine g _ _ _ _ (fun h j=>ok h (dD _ j)) ?_;have hp:=(uI.1 (ok h (gH ..)).pt).2.2.2;cases pg held h.p with
  |some k=>
   have:=Yj (k:=k) (off:=off) c;exact⟨by have:=this.1;dsimp only;omega,this.2⟩
  |none=>
   refine⟨by rw[aF];have:=c.1;simp;omega,fun x hx=> ?_⟩;rcases dx.1 hx with hx|hx
   ·exact c.2 x hx
   ·obtain rfl:=dA.1 hx
    have hn:h.n=vV h.st h.al h.oc:=rfl;unfold aj8;dsimp only;omega
theorem abT{m:Me}{pt sf vo down onset:Int}{c v N:Nat}{ns:List Nt}{held:List (P3×Nat)}(hd: -500<=down∧down<=500)(ok:vI m)(h:Nb ns N):Nb (tK pt sf vo down onset c v m ns held).1 (N+3072):=by
 have j:∀(l:List Sl)(S:Co)(N:Nat),Nb S.ns N->Nb (l.foldl (pn pt sf vo down onset c v m.cs) S).ns (N+2*l.length):=by
  intro l;induction l with
  |nil=>intro S N h;exact h
  |cons x l B=>
   intro S N h;rw[jG,aS,show N+2*(l.length+1)=N+2+2*l.length by omega];refine B _ _ ?_;unfold pn;have A:Nb S.ns (N+2):=⟨by have:=h.1;omega,h.2⟩
   split
   ·cases g:Ku m.cs x.i x.k x.n with
    |none=>exact A
    |some e=>
     rw[WK]at g;have u:mX e:=by
      unfold PW at g;cases hc:m.cs[x.i]?with
      |none=>rw[hc]at g;cases g
      |some y=>
       rw[hc]at g;dsimp only at g;cases r:y.vs[x.k]?with
       |none=>rw[r]at g;cases g
       |some z=>
        rw[r]at g;exact(ok.vo y (ah hc) z (ah r)).ev e (ah g)
     have hl:e.hs.length<=2:=by
      rcases Classical.em (e.kd=1)with h|h
      ·exact(u.hn h).2
      ·rw[(u.bare h).1];simp
     have:=abS (nt:=⟨onset+x.on,0,0,pt,sf,vo,e.id,0⟩) (off:=onset+x.off) (held:=S.held) hd e.hs 0 S.ns [] N (fun h C=>u.hs h C) h;exact⟨by have:=this.1;show(rW _ _ _ _ _ _ _ _).1.length<=_;omega,this.2⟩
   ·exact A
 have hl:=VY ok;have:=j (RD (kL m.mt) m.cs) ⟨ns,held,false⟩ N h;exact⟨by have:=this.1;show(Cf pt sf vo down onset c v m ns held).ns.length<=_;unfold Cf;omega,this.2⟩
theorem aj9{ms:List Me}{pt sf vo down:Int}{k v N:Nat}{ns:List Nt}(hd: -500<=down∧down<=500)(ok:∀m∈ms,vI m)(h:Nb ns N):∀i,Nb (Gu pt sf vo down k v ms ns i).1 (N+3072*i):=by
 intro i;induction i with
 |zero=>exact h
 |succ i g=>
  unfold Gu;cases hm:ms[i]?with
  |none=>exact⟨by have:=g.1;dsimp only;omega,g.2⟩
  |some m=>
   have:=abT (pt:=pt) (sf:=sf) (vo:=vo) (onset:=Eg ms i) (c:=k) (v:=v) (held:=(Gu pt sf vo down k v ms ns i).2) hd (ok m (ah hm)) g;exact⟨by have:=this.1;dsimp only;omega,this.2⟩
theorem awo{s:Sc}(ok:kN s)(k:Nat): -500<=KA s k∧KA s k<=500:=by
 unfold KA;split
 ·cases h:s.ps[(Bf s k).1]?with
  |none=>simp
  |some x=>
   have:=jN.1 (ok.pa x (ah h)).iv;simp only[aU,dU];omega
 ·omega
theorem aj'{s:Sc}(ok:kN s):∀k,Nb (Ab s k) (36864*k):=by
 have l:=ok.ml;intro k;induction k with
 |zero=>exact⟨aJ _,fun x hx=>by cases hx⟩
 |succ k g=>
  have j:∀v,Nb (Qk s k (Ab s k) v) (36864*k+18432*v):=by
   intro v;induction v with
   |zero=>exact g
   |succ v c=>
    unfold Qk;have:=aj9 (pt:=(Bf s k).1) (sf:=(Bf s k).2) (vo:=v) (k:=k) (v:=v) (awo ok k) ok.me c s.ms.length;exact⟨by have:=this.1;omega,this.2⟩
  have:=j 2;unfold Ab;exact⟨by have:=this.1;omega,this.2⟩
theorem afa{P:Nt->Prop}{l:List Nt}(h:∀x∈l,P x):∀x∈NA uz l,P x:=by
 have hl:l=(l.attach.map fun x=>(⟨x.1,h x.1 x.2⟩:{x:Nt//P x})).map Subtype.val:=by
  rw[jy];exact(List.attach_map_subtype_val l).symm
 rw[hl];have:=af2 (lt:=fun(a b:{x:Nt//P x})=>uz a.1 b.1) (lt':=uz) (f:=Subtype.val) (fun _ _=>rfl) (l.attach.map fun x=>(⟨x.1,h x.1 x.2⟩:{x:Nt//P x}));rw[this];intro x hx;obtain⟨y,_,rfl⟩:=dQ.1 hx;exact y.2
theorem Sd{s:Sc}(ok:kN s):(gN s).length<=1000000∧∀x∈gN s,aj8 x:=by
 have h:=aj' ok (mI s.ps);have c:=O7 ok;unfold gN;refine⟨?_,afa h.2⟩;rw[VZ];have:=h.1;have g:36864*mI s.ps<=36864*6:=H9 (aJ _) c;omega
theorem ags{s:Sc}{n0:Int}{c:List Sn}(w:LA s n0 c){j:Int×Int}(l:∀m∈s.ms,Po m.fi j.1 j.2=0)(g:IY (fun _=>sJ j) s=0):Im s (s.tr (fun _=>sJ j) j) (fun _=>sJ j) (fun m=>m.fi+7*j.2-12*j.1):=by
 refine⟨rfl,fun m hm=> ?_,w.ok.ps,w.ok.pa,rfl,fun _=>rfl,rfl,rfl,rfl,fun k _=>⟨_,tV j⟩,(ae' _ s).1 g⟩;exact TV.1 (l m hm)
theorem y7{ms:List Me}{c:Int×Int}:Hy ms c=true↔∀m∈ms,Po m.fi c.1 c.2=0:=by
 unfold Hy;rw[ry,iN];constructor
 ·intro h m hm
  have:=h m hm;simpa using this
 ·intro h m hm
  simpa using h m hm
theorem afb(s n:Int):∃l,AA s n=(s,n)::l:=by
 unfold AA;split
 ·rename_i h;subst h;exact⟨_,rfl⟩
 ·split
  ·rename_i h;subst h;exact⟨_,rfl⟩
  ·exact⟨_,rfl⟩
theorem ok9{s:Sc}{c:List Sn}(h:lu s c=true):wQ s (P9 s)=false:=by
 have g:zZ s c 9=true:=by
  cases h9:zZ s c 9 with
  |true=>rfl
  |false=>
   have:=VX h9 (j:=17) (by omega);unfold lu at h;rw[h]at this;cases this
 unfold zZ at g;rw[aH]at g;have:(!wQ s (P9 s))=true:=g.2;simpa using this
theorem FO{s:Sc}(ok:kN s){i k v:Nat}{e:Ev}(A:e∈jU s.ms i k v):mX e∧k<mI s.ps:=by
 obtain⟨j,c⟩:=Cq A;obtain⟨m,hm,y,u,z,r,hx⟩:=K9 c;refine⟨((ok.me m hm).vo y u z r).ev e hx,?_⟩;unfold jU iJ at c;dsimp only at c;cases g:s.ms[i]?with
 |none=>rw[g]at c;cases c
 |some l=>
  rw[g]at c;dsimp only at c;cases hc:l.cs[k]?with
  |none=>rw[hc]at c;cases c
  |some B=>
   have:=(au.1 hc).1;rw[ok.cs l (ah g)]at this;exact this
theorem Nt.Qq(a b:Int)(x:Nt):(x.up a).up b=x.up (a+b):=by
 unfold Nt.up;simp only[Int.add_assoc]
theorem Nt.aka(x:Nt):x.up 0=x:=by
 unfold Nt.up;simp only[Int.add_zero]
theorem FP{sh d:Int}{f:PF}(hf:GH f d){e:Ev}(ok:mX e)(ne:SF f e):Gp sh (e.mp f)=Gp (sh+d) e:=by
 have h9:∀a b,a=b+d->zm sh a=zm (sh+d) b:=by
  intro a b h;unfold zm;rw[show a+sh=b+(sh+d) by omega]
 unfold Gp;congr 1
 ·show(e.hs.map (Hd.mp f)).any _=_
  rw[List.any_map];apply Bool.eq_iff_iff.2;rw[fe,fe];constructor
  ·rintro⟨h,c,g⟩
   exact⟨h,c,by rw[<-h9 _ _ (Hd.Lb hf (ok.hs h c) (ne.1 h c)).1];exact g⟩
  ·rintro⟨h,c,g⟩
   refine⟨h,c,?_⟩;show zm sh (h.mp f).n=true;rw[h9 _ _ (Hd.Lb hf (ok.hs h c) (ne.1 h c)).1];exact g
 ·show(e.gs.map (Gr.mp f)).any _=_
  rw[List.any_map];apply Bool.eq_iff_iff.2;rw[fe,fe];constructor
  ·rintro⟨h,c,g⟩
   exact⟨h,c,by rw[<-h9 _ _ (Gr.Lb hf (ok.gs h c) (ne.2 h c)).1];exact g⟩
  ·rintro⟨h,c,g⟩
   refine⟨h,c,?_⟩;show zm sh (h.mp f).n=true;rw[h9 _ _ (Gr.Lb hf (ok.gs h c) (ne.2 h c)).1];exact g
theorem apk{s:Sc}{n0:Int}{Z:List Sn}(w:LA s n0 Z)(hg:lu s Z=true)(a n:Int):ajb s a n:=by
 have ok:=w.ok;have xK:=ok.ml;have hv:∀H,call bn 19 [.agg s.v] H=some (.bool true,none):=fun H=>by rw[c19 (H:=H) w,hg]
 by_cases W:wP a n=0
 ·cases R:Iz s.ms a n with
  |none=>exact .no fun H=>an8 hv (by omega) (fun m hm=>(ok.mf m hm).fi) W R
  |some j=>
   have hjm:j∈AA a n:=by unfold Iz at R;exact List.mem_of_find?_eq_some R
   obtain⟨hij,hj2⟩:=(KC W).1 j hjm;have hjf:Hy s.ms j=true:=by unfold Iz at R;exact List.find?_some R
   have DW:=y7.1 hjf;have gU:=abQ (F:=fun _=>sJ j) (fun k p=>(La j p).2) s;by_cases h0:IY (fun _=>sJ j) s=0
   ·have I:=ags w DW h0
    have wt:=I.wok w;obtain⟨t,ht⟩:∃t,s.tr (fun _=>sJ j) j=t:=⟨_,rfl⟩
    rw[ht]at I wt;have N:=fun H=>aaQ (H:=H) (s:=s) (a:=a) (n:=n) (j:=j) (b:=lu t Z) ok hv W R hij gU (fun _ H=>by rw[ht];exact c19 wt);rw[ht]at N;cases T:lu t Z with
    |false=>
     simp only[T,bq,and_false,bZ]at N;exact .no N
    |true=>
     simp only[T,h0,Bc,bK]at N;have hvt:∀H,call bn 19 [.agg t.v] H=some (.bool true,none):=fun H=>by rw[c19 (H:=H) wt,T]
     have O:=wt.ok;have aar:wP (0-j.1) (0-j.2)=0:=by
      have:=jN.1 hij;exact jN.2 (by omega)
     have awp:t.ms=s.ms.map (Me.im (fun _=>sJ j) (fun m=>m.fi+7*j.2-12*j.1)):=I.ms;have agt:∀m∈t.ms,Po m.fi (0-j.1) (0-j.2)=0:=by
      intro m hm;rw[awp]at hm;obtain⟨m0,J,rfl⟩:=dQ.1 hm;have:=(ok.mf m0 J).fi;show kyE (m0.fi+7*j.2-12*j.1+7*(0-j.2)-12*(0-j.1))=0;exact TV.2 (by omega)
     have hj':Iz t.ms (0-j.1) (0-j.2)=some (0-j.1,0-j.2):=by
      obtain⟨l,hl⟩:=afb (0-j.1) (0-j.2);unfold Iz;have C7:Hy t.ms (0-j.1,0-j.2)=true:=(y7 (ms:=t.ms) (c:=(0-j.1,0-j.2))).2 agt;rw[hl,List.find?_cons_of_pos C7]
     have fP:∀(i k v:Nat),∀e∈jU t.ms i k v,SF (sJ (0-j.1,0-j.2)) e:=by
      intro i k v e he;rw[qV I]at he;obtain⟨e0,he0,rfl⟩:=dQ.1 he;obtain⟨WL,_⟩:=FO ok he0;have X:=I.ne i k v e0 he0;refine⟨fun h hh=> ?_,fun g hg'=> ?_⟩
      ·obtain⟨r,u,rfl⟩:=dQ.1 hh
       have hn:=(Hd.Lb (tV j) (WL.hs r u) (X.1 r u)).1;have T:=(uI.1 (WL.hs r u).pt).2.2.2;refine(La (0-j.1,0-j.2) (r.mp (sJ j)).p).1.2 ?_;rw[show(r.mp (sJ j)).p.n=(r.mp (sJ j)).n from rfl,hn];have h7:r.n=vV r.st r.al r.oc:=rfl;dsimp only;omega
      ·obtain⟨r,u,rfl⟩:=dQ.1 hg'
       have hn:=(Gr.Lb (tV j) (WL.gs r u) (X.2 r u)).1;have T:=(uI.1 (WL.gs r u).pt).2.2.2;refine(La (0-j.1,0-j.2) (r.mp (sJ j)).p).1.2 ?_;rw[show(r.mp (sJ j)).p.n=(r.mp (sJ j)).n from rfl,hn];have h7:r.n=vV r.st r.al r.oc:=rfl;dsimp only;omega
     have J:IY (fun _=>sJ (0-j.1,0-j.2)) t=0:=(ae' (fun _=>sJ (0-j.1,0-j.2)) t).2 fP;have K:=ags wt (j:=(0-j.1,0-j.2)) agt J;have wb:=K.wok wt;obtain⟨A,C⟩:∃A,t.tr (fun _=>sJ (0-j.1,0-j.2)) (0-j.1,0-j.2)=A:=⟨_,rfl⟩
     rw[C]at K wb;have Q:t.wr=s.wr∧t.ps=s.ps:=by rw[<-ht];exact⟨rfl,rfl⟩
     have B:A.wr=s.wr∧A.ps=s.ps:=by rw[<-C];exact Q
     have Da:∀k,IV A k=IV s k:=by intro k;unfold IV;rw[B.1,B.2]
     have h9:wQ A (P9 A)=wQ t (P9 t):=by
      rw[ok9 T,PX K (P:=P9 A) (fun _ _ _ _=>rfl),PX I (P:=P9 A) (fun _ _ _ _=>rfl),<-ok9 hg];congr 1;funext i k v e;unfold P9;rw[jY,jY,qV K,qV I,aK,aK];cases he:(jU s.ms i k v)[e]?with
      |none=>rfl
      |some x=>
       have hx:=ah he;obtain⟨FW,_⟩:=FO ok hx;have Y:=I.ne i k v x hx;have awr:=Ev.WH (tV j) FW Y;have ne2:=K.ne i k v (x.mp (sJ j)) (by rw[qV I];exact List.mem_map_of_mem hx);simp only[aU];rw[FP (tV (0-j.1,0-j.2)) awr ne2,FP (tV j) FW Y,Da];congr 1;show IV s k+(0-j.2)+j.2=IV s k;omega
     have hbb:lu A Z=true:=(Lg K h9).trans T;have hvb:∀H,call bn 19 [.agg A.v] H=some (.bool true,none):=fun H=>by rw[c19 (H:=H) wb,hbb]
     have aws:=abQ (F:=fun _=>sJ (0-j.1,0-j.2)) (fun k p=>(La _ p).2) t;have U:=fun H=>aaQ (H:=H) (s:=t) (a:=0-j.1) (n:=0-j.2) (j:=(0-j.1,0-j.2)) (b:=true) O hvt aar hj' aar aws (fun _ H=>by rw[C];exact hvb H);rw[C]at U;simp only[J,Bc,bK]at U;have hdt:∀k,KA t k=KA s k:=by intro k;unfold KA Bf;rw[Q.1,Q.2]
     have hdb:∀k,KA A k=KA t k:=by intro k;rw[hdt];unfold KA Bf;rw[B.1,B.2]
     have n1:gN t=(gN s).map (Nt.up n):=I.notes ok w.ti (fun k _=>⟨j.2,tV j,by rw[hdt];omega⟩);have n2:gN A=(gN t).map (Nt.up (0-n)):=K.notes O wt.ti (fun k _=>⟨0-j.2,tV (0-j.1,0-j.2),by rw[hdb];omega⟩);have n3:gN A=gN s:=by
      rw[n2,n1,jy];refine(sS fun x _=> ?_).trans (List.map_id _);show(x.up n).up (0-n)=x;rw[Nt.Qq,show n+(0-n)=0 by omega,Nt.aka]
     obtain⟨b1,b2⟩:=Sd ok;refine .yes t A j (0-j.1,0-j.2) N (fun H=>by rw[<-n1];exact ad' O hvt) hj2 hij U (fun H=>c8 wb.ok ok hvb hv n3 (by omega)) ?_ ?_ b2 b1 (by omega)
     ·rw[K.ms,aG,I.ms,aG]
     ·intro i m m' r h2
      rw[K.ms,aK,I.ms,aK,h2]at r;simp only[aU,aA]at r;subst r;show m'.fi+7*j.2-12*j.1+7*(0-j.2)-12*(0-j.1)=m'.fi;omega
   ·have N:=fun H=>aaQ (H:=H) (s:=s) (a:=a) (n:=n) (j:=j) (b:=true) ok hv W R hij gU (fun h=>absurd h h0)
    simp only[h0,false_and,bZ]at N;exact .no N
 ·exact .bad W fun H=>an7 hv W
theorem abU{e:Ev}(ok:mX e):Gp 0 e=false:=by
 unfold Gp;rw[Di];refine⟨?_,?_⟩
 ·rw[iN]
  intro h c;have:=(uI.1 (ok.hs h c).pt).2.2.2;have g:h.n=vV h.st h.al h.oc:=rfl;unfold zm;simp;omega
 ·rw[iN]
  intro h c;have:=(uI.1 (ok.gs h c).pt).2.2.2;have g:h.n=vV h.st h.al h.oc:=rfl;unfold zm;simp;omega
theorem Cr{s:Sc}{k:Nat}(g:k<mI s.ps):∃x,s.ps[(Bf s k).1]? =some x∧IV s k=(if s.wr then 0-x.tn else x.tn)∧KA s k=(if s.wr then x.tn else 0):=by
 obtain⟨x,j,c⟩:=aav g;refine⟨x,c,?_,?_⟩
 ·unfold IV
  rw[j];dsimp only;rw[c]
 ·unfold KA
  rw[c];rfl
theorem Ep{s:Sc}{g:Pa->Int×Int}{k:Nat}{x:Pa}(h:s.ps[(Bf s k).1]? =some x):yN s (s.ps.map g) k=sJ (g x):=by
 unfold yN;rw[aK,h];rfl
theorem akb{s:Sc}(h:wQ s (P9 s)=false){i k v:Nat}{e:Ev}(B:e∈jU s.ms i k v):Gp (IV s k) e=false:=by
 obtain⟨j,g⟩:=Cq B;have hp:P9 s i k v j=false:=by
  unfold wQ at h;rw[iN]at h;unfold jU iJ at g;dsimp only at g;cases hm:s.ms[i]?with
  |none=>rw[hm]at g;cases g
  |some m=>
   rw[hm]at g;dsimp only at g;have u:=h i (nU.2 (au.1 hm).1);unfold fM at u;rw[hm]at u;dsimp only at u;cases hc:m.cs[k]?with
   |none=>rw[hc]at g;cases g
   |some c=>
    rw[hc]at g;dsimp only at g;unfold aaa at u;have r:=(iN.1 (by simpa using u)) k (nU.2 (au.1 hc).1);unfold fC at r;rw[hc]at r;dsimp only at r;cases A:c.vs[v]?with
    |none=>rw[A]at g;cases g
    |some z=>
     rw[A]at g;dsimp only at g;unfold Z9 at r;have l:=(iN.1 (by simpa using r)) v (nU.2 (au.1 A).1);unfold fV at l;rw[A]at l;dsimp only at l;unfold Z8 at l;have C:=(iN.1 (by simpa using l)) j (nU.2 (au.1 g).1);simpa using C
 unfold P9 at hp;rw[jY,g]at hp;exact hp
theorem WR{sh n:Int}(h:zm sh n=false):0<=n+sh∧n+sh<=127:=by
 unfold zm at h;simpa using h
theorem afc{sh:Int}{e:Ev}(h:Gp sh e=false):(∀x∈e.hs,0<=x.n+sh∧x.n+sh<=127)∧∀x∈e.gs,0<=x.n+sh∧x.n+sh<=127:=by
 unfold Gp at h;rw[Di,iN,iN]at h;exact⟨fun x hx=>WR (by simpa using h.1 x hx),fun x hx=>WR (by simpa using h.2 x hx)⟩
theorem abV{s:Sc}{n0:Int}{r:List Sn}(w:LA s n0 r)(J:lu s r=true)(C:s.wr=true):(∀H,call bn 7 [.agg s.v] H=some (.eT [.agg s.snd.v,.i 0],none))∧LA s.snd n0 r∧lu s.snd r=true∧gN s.snd=gN s:=by
 have ok:=w.ok;have W:∀H,call bn 19 [.agg s.v] H=some (.bool true,none):=fun H=>by rw[c19 (H:=H) w,J]
 have h9:=ok9 J;have O:∀(i k v:Nat),∀e∈jU s.ms i k v,SF (yN s (s.ps.map LB) k) e:=by
  intro i k v e u;obtain⟨Z,j⟩:=FO ok u;obtain⟨x,x1,U,N⟩:=Cr j;rw[Ep x1];have A:=afc (akb h9 u);rw[U,C]at A;simp only[bK]at A;refine⟨fun h F=>(La (LB x) h.p).1.2 ?_,fun g F=>(La (LB x) g.p).1.2 ?_⟩
  ·have:=A.1 h F
   have Y:h.p.n=h.n:=rfl;have X:(LB x).2= -x.tn:=rfl;omega
  ·have:=A.2 g F
   have Y:g.p.n=g.n:=rfl;have X:(LB x).2= -x.tn:=rfl;omega
 have u:IY (yN s (s.ps.map LB)) s=0:=(ae' (yN s (s.ps.map LB)) s).2 O;have I:Im s s.snd (yN s (s.ps.map LB)) Me.fi:=⟨rfl,fun m hm=>(ok.mf m hm).fi,ok.ps,ok.pa,rfl,fun _=>rfl,rfl,rfl,rfl,fun k j=>by
  obtain⟨x,x1,_⟩:=Cr j;rw[Ep x1];exact⟨_,tV _⟩,O⟩
 have K:wQ s.snd (P9 s.snd)=false:=by
  refine Ja fun i k v e=> ?_;unfold P9;rw[jY,qV I,aK];cases hx:(jU s.ms i k v)[e]?with
  |none=>rfl
  |some x0=>
   simp only[aU];have hm:=ah hx;obtain⟨Q,j⟩:=FO ok hm;obtain⟨x,x1,_⟩:=Cr j;obtain⟨y,y1,T,_⟩:=Cr (s:=s.snd) (k:=k) j;have B:x=y:=by
    have l:s.ps[(Bf s k).1]? =some y:=y1;rw[x1]at l;exact iL l
   have hn:=I.ne i k v x0 hm;rw[Ep x1]at hn⊢;rw[FP (tV (LB x)) Q hn,T,show s.snd.wr=false from rfl,<-B];simp only[bq,bZ];rw[show x.tn+(LB x).2=0 by show x.tn+ -x.tn=0;omega];exact abU Q
 refine⟨fun H=>c7 ok C W u,I.wok w,(Lg I (K.trans h9.symm)).trans J,?_⟩;have:=I.notes (c:=0) ok w.ti (fun k j=>by
  obtain⟨x,x1,_,N⟩:=Cr j;obtain⟨y,y1,_,R⟩:=Cr (s:=s.snd) (k:=k) j;rw[Ep x1];refine⟨_,tV _,?_⟩;rw[N,R,C,show s.snd.wr=false from rfl];show(0:Int)= -x.tn-0+x.tn;omega)
 rw[this];exact(sS fun x _=>Nt.aka x).trans (List.map_id _)
theorem abW(g:Pa->Int×Int):∀(l:List Pa)(i k:Nat),xy (l.map fun p=>Mt p (g p)) i k=xy l i k:=by
 intro l;induction l with
 |nil=>intro i k;rfl
 |cons p l c=>
  intro i k;rw[bO];unfold xy;rw[show(Mt p (g p)).ss=p.ss from rfl,c]
theorem apl{s:Sc}{n0:Int}{ig:List Sn}(w:LA s n0 ig)(X:lu s ig=true):aod s:=by
 have ok:=w.ok;have xK:=ok.ml;have r:∀H,call bn 19 [.agg s.v] H=some (.bool true,none):=fun H=>by rw[c19 (H:=H) w,X]
 obtain⟨nb1,nb2⟩:=Sd ok;cases O:s.wr with
 |true=>
  obtain⟨a1,a2,a3,a4⟩:=abV w X O;have J:∀H,call bn 19 [.agg s.snd.v] H=some (.bool true,none):=fun H=>by rw[c19 (H:=H) a2,a3]
  refine .yes s s.snd (fun H=>c6 r (fun H=>aob ok O) s.sz.1 s.sz.2 s.tk s.sc s.pu) a1 (fun H=>c8 ok ok r r rfl (by omega)) (fun H=>c8 ok a2.ok r J a4.symm (by rw[a4];omega))
 |false=>
  have N:∀p∈s.ps,wP (vY s p).1 (vY s p).2=0∧(∀j,XU s p=some j->(vY s p).2=p.tn):=by
   intro p hp;unfold vY;cases W:XU s p with
   |none=>exact⟨by decide,fun j h=>by cases h⟩
   |some j=>
    have g:=W;unfold XU at g;rw[O]at g;simp only[bq,bZ]at g;have hjm:j∈AA p.ts p.tn:=by unfold Iz at g;exact List.mem_of_find?_eq_some g
    obtain⟨hij,hjn⟩:=(KC (ok.pa p hp).iv).1 j hjm;exact⟨hij,fun _ _=>hjn⟩
  have l:=fun H=>c25 (H:=H) ok O (fun p hp=>(N p hp).1);unfold wrR at l;by_cases hn:s.ps.any (fun p=>(XU s p).isNone)=true
  ·simp only[hn,bK]at l
   exact .no fun H=>c6 r l rfl (fun _=>rfl) rfl rfl rfl
  ·simp only[hn,bZ]at l
   have gU:=abQ (F:=yN s (s.ps.map (vY s))) (fun k p=>aj7 s _ k p) s;by_cases Y:IY (yN s (s.ps.map (vY s))) s=0
   ·simp only[Y,bK]at l
    have htn:∀p∈s.ps,(vY s p).2=p.tn:=by
     intro p hp;cases W:XU s p with
     |some j=>exact(N p hp).2 j W
     |none=>
      exfalso;apply hn;rw[fe];exact⟨p,hp,by rw[W];rfl⟩
    have fP:=(ae' (yN s (s.ps.map (vY s))) s).1 Y;obtain⟨u,U⟩:∃u,s.wrt (vY s)=u:=⟨_,rfl⟩
    have I:Im s u (yN s (s.ps.map (vY s))) Me.fi:=by
     rw[<-U];refine⟨rfl,fun m hm=>(ok.mf m hm).fi,⟨?_,fun p hp=> ?_⟩,fun p hp=> ?_,?_,fun k=>abW (vY s) s.ps 0 k,?_,rfl,rfl,fun k C=> ?_,fP⟩
     ·show 1<=(s.ps.map fun p=>Mt p (vY s p)).length∧(s.ps.map fun p=>Mt p (vY s p)).length<=3
      rw[aG];exact ok.ps.len
     ·obtain⟨p0,A,rfl⟩:=dQ.1 hp
      exact ok.ps.st p0 A
     ·obtain⟨p0,A,rfl⟩:=dQ.1 hp
      have:=ok.pa p0 A;exact⟨this.nm,(N p0 A).1,this.cl⟩
     ·show(s.ps.map fun p=>Mt p (vY s p)).flatMap idP=_
      rw[CX];rfl
     ·show((s.ps.map fun p=>Mt p (vY s p)).map fun p=>p.ss.length).sum=_
      rw[jy];rfl
     ·obtain⟨x,x1,_⟩:=Cr C
      rw[Ep x1];exact⟨_,tV _⟩
    have K:u.wr=true:=by rw[<-U];rfl
    have Yt:∀k x,s.ps[(Bf s k).1]? =some x->u.ps[(Bf u k).1]? =some (Mt x (vY s x)):=by
     intro k x hx;have h1:(Bf u k)=(Bf s k):=by unfold Bf;rw[I.pt]
     rw[h1,<-U];show(s.ps.map fun p=>Mt p (vY s p))[_]? =_;rw[aK,hx];rfl
    have Z:=I.wok w;have h9:=ok9 X;have R:∀k,k<mI s.ps->k<mI u.ps:=fun k C=>by rw[I.st];exact C
    have h9':wQ u (P9 u)=false:=by
     refine Ja fun i k v e=> ?_;unfold P9;rw[jY,qV I,aK];cases hx:(jU s.ms i k v)[e]?with
     |none=>rfl
     |some x0=>
      simp only[aU];have hm:=ah hx;obtain⟨FW,C⟩:=FO ok hm;obtain⟨x,x1,_⟩:=Cr C;obtain⟨y,y1,y2,_⟩:=Cr (s:=u) (k:=k) (R k C);have hy:Mt x (vY s x)=y:=by
       rw[Yt k x x1]at y1;exact iL y1
      have Q:=I.ne i k v x0 hm;rw[Ep x1]at Q⊢;rw[FP (tV (vY s x)) FW Q,y2,K,<-hy];simp only[bK];rw[show 0-(Mt x (vY s x)).tn+(vY s x).2=0 by show 0-(vY s x).2+(vY s x).2=0;omega];exact abU FW
    have T:lu u ig=true:=(Lg I (h9'.trans h9.symm)).trans X;have B:gN u=gN s:=by
     have:=I.notes (c:=0) ok w.ti (fun k C=>by
      obtain⟨x,x1,_,x3⟩:=Cr C;obtain⟨y,y1,_,y3⟩:=Cr (s:=u) (k:=k) (R k C);have hy:Mt x (vY s x)=y:=by
       rw[Yt k x x1]at y1;exact iL y1
      rw[Ep x1];refine⟨_,tV _,?_⟩;rw[x3,y3,O,K,<-hy];show(0:Int)=(vY s x).2-(vY s x).2+0;omega)
     rw[this];exact(sS fun x _=>Nt.aka x).trans (List.map_id _)
    obtain⟨a1,a2,a3,a4⟩:=abV Z T K;have hvu:∀H,call bn 19 [.agg u.v] H=some (.bool true,none):=fun H=>by rw[c19 (H:=H) Z,T]
    have J:∀H,call bn 19 [.agg u.snd.v] H=some (.bool true,none):=fun H=>by rw[c19 (H:=H) a2,a3]
    rw[U]at l;exact .yes u u.snd (fun H=>c6 r l u.sz.1 u.sz.2 u.tk u.sc u.pu) a1 (fun H=>c8 ok Z.ok r hvu B.symm (by rw[B];omega)) (fun H=>c8 ok a2.ok r J (by rw[a4,B]) (by rw[a4,B];omega))
   ·have awu:=gU.resolve_left Y
    simp only[Y,bZ]at l;rw[awu]at l;exact .no fun H=>c6 r l rfl (fun _=>rfl) rfl rfl rfl
variable{H:List Mem}
theorem law{w:Wd}(ok:Aj w)(a n:Int):call bn 3 [.agg w.v,.agg [.i a,.i n]] H=some (.bool true,none):=by
 obtain⟨B,r,n0,l,c,g⟩:=ajZ ok;have j:∀H,call bn 19 [.agg w.YD.v] H=some (.bool true,none):=fun H=>by rw[c19 (H:=H) c,g]
 exact c3 (fun H=>c4' ok) w.sz.1 w.sz.2 w.sc w.tk (fun H=>ad' c.ok j) (apl c g) (apk c g a n)
theorem WS{X:Type}{enc:X->List V}{P:X->Prop}{l:List CS}(g:∀e,jE l e->∃x,e=enc x∧P x):∀(els:List (List V)),(∀e∈els,jE l e)->∃xs:List X,els=xs.map enc∧∀x∈xs,P x
 |[],_=>⟨[],rfl,fun x hx=>by cases hx⟩
 |e::els,h=>by
  obtain⟨x,rfl,hx⟩:=g e (h e (by simp));obtain⟨xs,rfl,u⟩:=WS g els (fun r j=>h r (by simp[j]));exact⟨x::xs,rfl,fun y c=>by
   cases c with
   |head=>exact hx
   |tail _ c=>exact u y c⟩
theorem Sg{X:Type}{enc:X->List V}{P:X->Prop}{l:List CS}{v:V}(h:C9 (.sl l) v)(c:∀e,jE l e->∃x,e=enc x∧P x):∃z,∃xs:List X,v=AL z l.length (xs.map enc)∧xs.length<=9223372036854775807∧∀x∈xs,P x:=by
 simp only[C9]at h;rcases h with rfl|⟨els,rfl,hl,hf⟩
 ·exact⟨false,[],rfl,by simp,fun x hx=>by cases hx⟩
 ·obtain⟨xs,rfl,hx⟩:=WS c els hf
  rw[aG]at hl;refine⟨true,xs,?_,by simpa[maxLen]using hl,hx⟩;unfold AL;split
  ·rename_i h;rw[h.2]
  ·rename_i h
   rw[jO (fun g=>h ⟨rfl,g⟩)]
theorem zG{v:V}(h:C9 (.int .u8) v):∃x:Int,v= .int .u8 x∧0<=x∧x<=255:=by
 simp only[C9]at h;obtain⟨n,rfl,c⟩:=h;refine⟨n,rfl,?_⟩;simp only[Lit.wf,aH,bN]at c;rw[show IntKind.min .u8=0 from by decide,show IntKind.max .u8=255 from by decide]at c;exact c
theorem akc{v:V}(h:C9 (.int .u16) v):∃x:Int,v= .int .u16 x∧0<=x∧x<=65535:=by
 simp only[C9]at h;obtain⟨n,rfl,c⟩:=h;refine⟨n,rfl,?_⟩;simp only[Lit.wf,aH,bN]at c;rw[show IntKind.min .u16=0 from by decide,show IntKind.max .u16=65535 from by decide]at c;exact c
def lU:List CS:=[.int .u8]
def lIt:List CS:=[.int .u8,.int .u8,.int .u8,.int .u8,.bool,.int .u16]
def lBa:List CS:=[.int .u8,.int .u8,.int .u8,.int .u8,.sl [.sl lIt]]
def lLn:List CS:=[.int .u8,.int .u8,.int .u8,.int .u8]
def lWd:List CS:=[.sl lU,.sl lBa,.sl lLn,.bool]
def lIv:List CS:=[.int .i64,.int .i64]
theorem awy{e:List V}(h:jE lU e):∃x:Int,e=Uv x∧(0<=x∧x<=255):=by
 simp only[lU,jE]at h;obtain⟨v,vs,rfl,c,rfl⟩:=h;obtain⟨x,rfl,hx⟩:=zG c;exact⟨x,rfl,hx⟩
theorem apm{e:List V}(h:jE lLn e):∃x,e=Ln.v x∧PR x:=by
 simp only[lLn,jE]at h;obtain⟨_,_,rfl,A,_,_,rfl,u,_,_,rfl,r,_,_,rfl,l,rfl⟩:=h;obtain⟨a,rfl,j⟩:=zG A;obtain⟨b,rfl,g⟩:=zG u;obtain⟨c,rfl,hc⟩:=zG r;obtain⟨d,rfl,hd⟩:=zG l;exact⟨⟨a,b,c,d⟩,rfl,⟨j,g,hc,hd⟩⟩
theorem apn{e:List V}(h:jE lIt e):∃x,e=It.v x∧tQ x:=by
 simp only[lIt,jE]at h;obtain⟨_,_,rfl,C,_,_,rfl,B,_,_,rfl,A,_,_,rfl,u,_,_,rfl,g,_,_,rfl,r,rfl⟩:=h;obtain⟨a,rfl,l⟩:=zG C;obtain⟨b,rfl,j⟩:=zG B;obtain⟨c,rfl,hc⟩:=zG A;obtain⟨d,rfl,hd⟩:=zG u;simp only[C9]at g;obtain⟨t,rfl⟩:=g;obtain⟨m,rfl,hm⟩:=akc r;exact⟨⟨a,b,c,d,t,m⟩,rfl,⟨l,j,hc,hd,hm⟩⟩
theorem apo{e:List V}(h:jE [.sl lIt] e):∃l,e=Lw l∧(l.2.length<=9223372036854775807∧∀x∈l.2,tQ x):=by
 simp only[jE]at h;obtain⟨v,vs,rfl,c,rfl⟩:=h;obtain⟨z,xs,rfl,hx⟩:=Sg c (fun e=>apn);exact⟨(z,xs),rfl,hx⟩
theorem apq{e:List V}(h:jE lBa e):∃x,e=Ba.v x∧yG x:=by
 simp only[lBa,jE]at h;obtain⟨_,_,rfl,B,_,_,rfl,A,_,_,rfl,u,_,_,rfl,r,_,_,rfl,l,rfl⟩:=h;obtain⟨a,rfl,j⟩:=zG B;obtain⟨b,rfl,g⟩:=zG A;obtain⟨c,rfl,hc⟩:=zG u;obtain⟨d,rfl,hd⟩:=zG r;obtain⟨z,xs,rfl,hl,hx⟩:=Sg l (fun e=>apo);exact⟨⟨a,b,c,d,z,xs⟩,rfl,⟨j,g,hc,hd,hx,hl⟩⟩
theorem apr{e:List V}(h:jE lWd e):∃w,e=Wd.v w∧Aj w:=by
 simp only[lWd,jE]at h;obtain⟨_,_,rfl,C,_,_,rfl,B,_,_,rfl,A,_,_,rfl,c,rfl⟩:=h;obtain⟨j,F,rfl,la,u⟩:=Sg C (fun e=>awy);obtain⟨zb,bs,rfl,lb,r⟩:=Sg B (fun e=>apq);obtain⟨g,cs,rfl,l,hc⟩:=Sg A (fun e=>apm);simp only[C9]at c;obtain⟨t,rfl⟩:=c;exact⟨⟨j,F,zb,bs,g,cs,t⟩,rfl,⟨u,la,r,lb,hc,l⟩⟩
theorem akd(a b:List V)(g:jE lWd a)(c:jE lIv b):call bn 3 [.agg a,.agg b] []=some (.bool true,none):=by
 obtain⟨w,rfl,ok⟩:=apr g;simp only[lIv,jE,C9]at c;obtain⟨_,_,rfl,⟨x,rfl,_⟩,_,_,rfl,⟨y,rfl,_⟩,rfl⟩:=c;exact law ok x y
end Go.Proofs.YtnahpjebkgbedaaGreat
namespace Go.Proofs.YtnahpjebkgbedaaGreat
open Go Go.RowKit Go.Shelf
attribute [local go_sem] wy
theorem awz(n:Nat)(x:Nat)(hx:32<=x∧x≠127∧x<=255)(W:World):CallsIn Fence.wide n Tryz.prog 173 #[.int .u8 x] W fun e W'=>e= .returned (.bool false)∧W'=W:=by
 refine callsIn_of_wp Tryz.func173 rfl trivial ?_ rfl;simp only[Tryz.ntmps173,fT,aS,ek,Nat.reduceAdd,Nat.reduceSub,gQ,gT,jo,iF,dm,aW];have h1:¬(x:Int)<32:=by omega
 have h2:¬(x:Int)=127:=by omega
 have h3:((x:Int)==127)=false:=by simpa using h2
 gi_wp2;exact bodyPost_ret (results_tmp rfl _ _ _) rfl ⟨rfl,rfl⟩
theorem aps(n:Nat)(hn:1<=n)(b off len cap:Nat)(bs:List UInt8)(hl:bs.length=len)(c:len<=140737488351232)(W:World)(hb:b<W.heap.size)
  (hc:∀j,j<len->W.cell? ⟨b,off+j,none⟩=some (.int .u8 (bs[j]?.getD 0).toNat))
  (hp:∀j,j<len->32<=(bs[j]?.getD 0).toNat∧(bs[j]?.getD 0).toNat≠127∧(bs[j]?.getD 0).toNat<=255):
  CallsIn Fence.wide n Tryz.prog 230 #[.slice (some ⟨b,off,none⟩) len cap,.func (.func 173) #[] #[]] W fun e W'=>e= .returned (.int .i64 (-1))∧Below W.heap.size W W':=by
 refine callsIn_of_wp Tryz.func230 rfl trivial ?_ rfl;simp only[Tryz.ntmps230,fT,aS,ek,Nat.reduceAdd,Nat.reduceSub,gQ,gT,jo,iF,dm,aW];gi_wp2;gi_loopw [8] (fun i wr=>∃k:Nat,k<=len∧i= .int .i64 k∧Below W.heap.size W wr)
  (fun i _=>len-(intOf i).toNat)
 case atStart=>exact⟨0,ku _,rfl,jh _ _⟩
 case round=>
  obtain⟨k,hk,rfl,hnx⟩:=hrel;by_cases hlt:k<len
  ·have hcx:=(hnx.cell (p:=⟨b,off+k,none⟩) hb).trans (hc k hlt)
   have hpx:=hp k hlt;obtain⟨x,hx⟩:∃x:Nat,(bs[k]?.getD 0).toNat=x:=⟨_,rfl⟩
   rw[hx]at hcx hpx;clear hc hp hx;gi_wp2;refine⟨trivial,(awz (n-1) x hpx wr).mono ?_⟩;rintro e w'' ⟨rfl,rfl⟩;gi_wp2;go_roundw;case rel=>exact⟨k+1,by omega,by simp,hnx⟩
   case measure=>simp[intOf];omega
  ·obtain rfl:k=len:=by omega
   gi_wp2;exact bodyPost_ret (results_tmp rfl _ _ _) rfl ⟨rfl,hnx⟩
theorem apt(n:Nat)(hn:2<=n)(b off len cap:Nat)(bs:List UInt8)(hl:bs.length=len)(c:len<=140737488351232)(W:World)(hb:b<W.heap.size)
  (hc:∀j,j<len->W.cell? ⟨b,off+j,none⟩=some (.int .u8 (bs[j]?.getD 0).toNat))
  (hp:∀j,j<len->32<=(bs[j]?.getD 0).toNat∧(bs[j]?.getD 0).toNat≠127∧(bs[j]?.getD 0).toNat<=255):
  CallsIn Fence.wide n Tryz.prog 174 #[.slice (some ⟨b,off,none⟩) len cap,.func (.func 173) #[] #[]] W fun e W'=>e= .returned (.bool false)∧Below W.heap.size W W':=by
 refine callsIn_of_wp Tryz.func174 rfl trivial ?_ rfl;simp only[Tryz.ntmps174,fT,aS,ek,Nat.reduceAdd,Nat.reduceSub,gQ,gT,jo,iF,dm,aW];gi_wp2;refine⟨trivial,fun _=>by omega,(aps (n-1) (by omega) b off len cap bs hl c W hb hc hp).mono ?_⟩;rintro e w'' ⟨rfl,hw⟩;gi_wp2;exact bodyPost_ret (results_tmp rfl _ _ _) rfl ⟨rfl,hw⟩
theorem apu(n:Nat)(hn:3<=n)(s:ByteArray)(hs:s.size<=256)(hp:∀j,j<s.size->32<=(s.data.toList[j]?.getD 0).toNat∧(s.data.toList[j]?.getD 0).toNat≠127∧(s.data.toList[j]?.getD 0).toNat<=255)(W:World):
  CallsIn Fence.wide n Tryz.prog 112 #[.string s] W fun e W'=>e= .returned (.bool true)∧Below W.heap.size W W':=by
 refine callsIn_of_wp Tryz.func112 rfl trivial ?_ rfl;simp only[Tryz.ntmps112,fT,aS,ek,Nat.reduceAdd,Nat.reduceSub,gQ,gT,jo,iF,dm,aW];have hs':(s.size:Int)<=256:=by omega
 have hB:∀o,Below W.heap.size W (W.drew.alloc o):=fun o=>((jh _ W).drew).alloc (aJ _) _;have hcv:=run_bytes_of_string W 9 22 5 s Tryz.underlying9 Tryz.underlying22 Tryz.underlying5;have hcl:∀(cap:Nat)(t:TypeId)(f:Nat×Nat)(j:Nat),j<s.size->(W.drew.alloc (.cells (bytesRow s cap) t f)).cell? ⟨W.heap.size,0+j,none⟩=some (.int .u8 (s.data.toList[j]?.getD 0).toNat):=by
  intro cap t f j hj;have hj':j<s.data.size:=hj;have hb:(W.drew.alloc (.cells (bytesRow s cap) t f)).heap[W.heap.size]? =some (.cells (bytesRow s cap) t f):=by
   show(W.heap.push _)[W.heap.size]? =_;simp
  simp only[World.cell?,hb,dV];have hd:s.data[j]? =some s.data[j]:=eB hj';simp[bytesRow,Array.getElem?_append,hj]
 gi_wp2;have hz:W.heap.size<((W.alloc (.cells (bytesRow s (grownCap W s.size 0 5)) 5 ((bytesRow s (grownCap W s.size 0 5)).size,(bytesRow s (grownCap W s.size 0 5)).size+1))).drew).heap.size:=by
  show _<(W.heap.push _).size;simp
 refine⟨trivial,fun _=>by omega,(apt (n-1) (by omega) W.heap.size 0 s.size _ s.data.toList rfl (by omega) _ hz (fun j hj=>hcl _ _ _ j hj) hp).mono ?_⟩;rintro e w'' ⟨rfl,hw⟩;gi_wp2;refine bodyPost_ret (results_tmp rfl _ _ _) rfl ⟨rfl,(hB _).trans (hw.mono ?_)⟩;exact xN hz
end Go.Proofs.YtnahpjebkgbedaaGreat
namespace Go.Proofs.YtnahpjebkgbedaaGreat
open Go Go.Ht Go.RowKit
theorem HZ(s:ByteArray):∀(n i:Nat)(r:List UInt8),s.size-i=n->i<=s.size->ByteArray.toList.loop s i r=r.reverse++s.data.toList.drop i
 |0,i,r,h,hi=>by
  unfold ByteArray.toList.loop;rw[aP (by omega),NW (by simp only[bQ];show s.size<=i;omega),bz]
 |n+1,i,r,h,hi=>by
  unfold ByteArray.toList.loop;rw[aX (by omega),HZ s n (i+1) _ (by omega) (by omega)];have hi':i<s.data.toList.length:=by simp only[bQ];show i<s.size;omega
  rw[gv hi'];have:s.get! i=s.data.toList[i]:=by
   have h1:i<s.data.size:=by show i<s.size;omega
   show s.data[i]! =_;rw[getElem!_pos s.data i h1];simp
  simp[this]
theorem PY(s:ByteArray):s.toList=s.data.toList:=by
 unfold ByteArray.toList;rw[HZ s _ 0 [] rfl (ku _)];simp
theorem Si{f:FuncId}{args:List Value}{E:Env}{w:World}{L:Mem}{H:List Mem}{v:V}{x:Value}(h:Calls Tryz.prog f args.toArray w fun e w'=>e= .returned x∧Below w.heap.size w w')(hr:∀lo w',zR (E.up 1) lo w' v x):Calls Tryz.prog f args.toArray w (Ht.Leaves E L H w (v,none)):=by
 refine h.mono ?_;rintro e w' ⟨rfl,hb⟩;exact⟨x,E.iY,rfl,hb,fun b c h=>h,fun b c h=> .inl h,hr _ _⟩
theorem apv{s:ByteArray}(hp:Eb s=true){E:Env}{w:World}{L:Mem}{H:List Mem}:Calls Tryz.prog 112 #[.string s] w (Ht.Leaves E L H w (.bool true,none)):=by
 unfold Eb at hp;simp only[aH,bN,PY]at hp;obtain⟨hs,hp⟩:=hp;rw[aV]at hp;refine Si (args:=[.string s]) (callsIn_wide.1 (apu 3 (by omega) s hs (fun j hj=> ?_) w)) (fun _ _=>rfl);have hj':j<s.data.toList.length:=by simp only[bQ];exact hj
 rw[ak hj',dU];have:=hp _ (qb hj');simp only[aH,bN,bne_iff_ne,ne_eq]at this;generalize s.data.toList[j]=b at*;obtain⟨h1,h2⟩:=this;refine⟨by simpa using UInt8.le_iff_toNat_le.1 h1,fun h=>h2 ?_,?_⟩
 ·exact UInt8.toNat_inj.1 (by simpa using h)
 ·have:=b.toNat_lt
  omega
end Go.Proofs.YtnahpjebkgbedaaGreat
namespace Go.Proofs.YtnahpjebkgbedaaGreat
open Go Go.RowKit Go.Shelf
attribute [local go_sem] wy
structure N9 where
 a:Int
 b:Int
 c:Int
 d:Int
 e:Int
 f:Int
 g:Int
 h:Int
 i:Int
def MG(x:N9):Array Value:= #[.int .i64 x.a,.int .i64 x.b,.int .i64 x.c,.int .i64 x.d,.int .i64 x.e,.int .i64 x.f,.int .i64 x.g,.int .i64 x.h,.int .i64 x.i]
def n9e(x:N9):Value:= .agg (MG x)
theorem ake(n:Nat)(hn:1<=n)(l Bs so n₀ b off len cap:Nat)(A:Option Addr)(xs:List N9)(hxl:xs.length=len)(hA:len=0∨(A=some ⟨b,off,none⟩∧b<n₀))(I:len<=1000000)(C:Bs<n₀)(J Jx:List N9->World->Prop)
  (c:∀s W W',J s W->W.grownBy W' none->J s W')
  (hY:∀pre x W,J pre W->pre.length<len->YieldAt Fence.wide (n-1) Tryz.prog l #[n9e x] W fun e W'=>
   (e= .returned (.bool true)∧J (pre++[x]) W'∧Below n₀ W W')∨(e= .returned (.bool false)∧Jx (pre++[x]) W'))
  (W:World)(hn0:n₀<=W.heap.size)(B:W.cell? ⟨Bs,so,none⟩=some (.slice A len cap))
  (hc:∀j x,xs[j]? =some x->∀i v,(MG x).toList[i]? =some v->W.cell? ⟨b,off+j*9+i,none⟩=some v)(h0:J [] W):
  CallsIn Fence.wide n Tryz.prog 90 #[.func (.yield l) #[] #[],.pointer (some ⟨Bs,so,none⟩)] W fun e W'=>(∃v,e= .returned v)∧
   ((∃ys,ys=xs∧J ys W')∨(∃pre,Jx pre W')):=by
 refine callsIn_of_wp Tryz.func90 rfl trivial ?_ rfl;simp only[Tryz.ntmps90,fT,aS,ek,Nat.reduceAdd,Nat.reduceSub,gQ,gT,jo,iF,dm,aW];gi_wp2;gi_loopw [7] (fun i wr=>∃k:Nat,k<=len∧i= .int .i64 k∧J (xs.take k) wr∧Below n₀ W wr)
  (fun i _=>len-(intOf i).toNat)
 case atStart=>exact⟨0,ku _,rfl,h0,jh _ _⟩
 case round=>
  obtain⟨k,hk,rfl,hJs,hnx⟩:=hrel;by_cases hlt:k<len
  ·obtain⟨rfl,hb⟩:A=some ⟨b,off,none⟩∧b<n₀:=hA.resolve_left (by omega)
   obtain⟨x,hx⟩:∃x,xs[k]? =some x:=⟨_,ak (by omega)⟩
   have hat:∀i v,(MG x).toList[i]? =some v->wr.cell? ⟨b,off+k*9+i,none⟩=some v:=fun i v h=>(hnx.cell (p:=⟨b,off+k*9+i,none⟩) hb).trans (hc k x hx i v h);have htk:xs.take (k+1)=xs.take k++[x]:=by rw[aY,hx];rfl
   have hlen:(xs.take k).length<len:=by rw[bf];omega
   obtain⟨x1,x2,x3,x4,x5,x6,x7,r,g⟩:=x;have q0:wr.cell? ⟨b,off+k*9,none⟩=_:=hat 0 _ rfl;have q1:=hat 1 _ rfl;have q2:=hat 2 _ rfl;have q3:=hat 3 _ rfl;have q4:=hat 4 _ rfl;have q5:=hat 5 _ rfl;have q6:=hat 6 _ rfl;have q7:=hat 7 _ rfl;have F:=hat 8 _ rfl;obtain⟨fn,tmps,assign,body,hy,hR⟩:=hY _ ⟨x1,x2,x3,x4,x5,x6,x7,r,g⟩ (wr.alloc (.cells (MG ⟨x1,x2,x3,x4,x5,x6,x7,r,g⟩) 49)) (c _ _ _ hJs (World.grownBy_alloc wr _ none)) hlen;have u:Below n₀ W (wr.alloc (.cells (MG ⟨x1,x2,x3,x4,x5,x6,x7,r,g⟩) 49)):=hnx.alloc (eO hn0 hnx.size) _;rw[<-htk]at hR;simp only[n9e,MG]at hy hR u;clear hat hc hY c;gi_wp2;refine hR.mono ?_;rintro e W3 (⟨rfl,hJ3,hk3⟩|⟨rfl,hJx3⟩)
   ·gi_wp2
    go_roundw;case rel=>exact⟨k+1,by omega,by simp,hJ3,u.trans hk3⟩
    case measure=>simp[intOf];omega
   ·gi_wp2
    refine bodyPost_ret (results_none rfl _ _ _) rfl ?_;exact⟨⟨_,rfl⟩,.inr ⟨_,hJx3⟩⟩
  ·obtain rfl:k=len:=by omega
   rw[<-hxl,aT]at hJs;gi_wp2;go_end0;exact⟨⟨_,rfl⟩,.inl ⟨_,rfl,hJs⟩⟩
end Go.Proofs.YtnahpjebkgbedaaGreat
namespace Go.Proofs.YtnahpjebkgbedaaGreat
open Go Go.RowKit Go.Shelf
attribute [local go_sem] wy
theorem akf:(Tryz.prog.info? 49).map (fun i=>(i.zero,i.size,i.bytes))=some (some (.agg #[.int .i64 0,.int .i64 0,.int .i64 0,.int .i64 0,.int .i64 0,.int .i64 0,.int .i64 0,.int .i64 0,.int .i64 0]),9,72):=by kernel_rfl
def xE(pre:List N9):List Value:=(pre.map fun x=>(MG x).toList).flatten
theorem Sj(pre:List N9)(x:N9):xE (pre++[x])=xE pre++(MG x).toList:=by simp[xE]
theorem GI(w:World)(c:Array Value)(t:TypeId):∀j u,c.toList[j]? =some u->(w.alloc (.cells c t)).cell? ((⟨w.heap.size,0,none⟩:Addr).add j)=some u:=by
 intro j u h;have hb:=jD w (.cells c t);have e:(⟨w.heap.size,0,none⟩:Addr).add j=⟨w.heap.size,j,none⟩:=by
  unfold Addr.add;split<;>simp_all
 rw[e];simp only[World.cell?,hb];simpa using h
theorem PZ(n:Nat)(hn:1<=n)(Bs so n₀ b off cap:Nat)(A:Option Addr)(xs:List N9)(hA:xs.length=0∨(A=some ⟨b,off,none⟩∧b<n₀))(g:xs.length<=1000000)(w:World)(hn0:n₀<=w.heap.size)(c:Bs<n₀)
  (hb:w.cell? ⟨Bs,so,none⟩=some (.slice A xs.length cap))(hc:∀j x,xs[j]? =some x->∀i v,(MG x).toList[i]? =some v->w.cell? ⟨b,off+j*9+i,none⟩=some v):
  SeqStopsK Fence.wide n Tryz.prog 90 #[.pointer (some ⟨Bs,so,none⟩)] (fun x:N9=> #[n9e x]) (Below n₀) (fun ys=>ys=xs) (fun _=>True) xs.length w:=by
 intro l J Jx W hW hJ hJx hY h0;refine(ake n hn l Bs so n₀ b off xs.length cap A xs rfl hA g c J Jx (fun s W1 W2 h1 h2=>hJ s W1 W2 none h1 h2 (fun r e=>by cases e)) hY W (eO hn0 hW.size)
  ((hW.cell (p:=⟨Bs,so,none⟩) (uq c hn0)).trans hb) (fun j x hx i v hv=> ?_) h0).mono ?_
 ·have hlt:b<n₀:=by
   rcases hA with h|h
   ·rw[dL (by omega)]at hx
    cases hx
   ·exact h.2
  exact(hW.cell (p:=⟨b,off+j*9+i,none⟩) (uq hlt hn0)).trans (hc j x hx i v hv)
 ·rintro e W' ⟨he,⟨ys,rfl,hj⟩|⟨pre,hj⟩⟩
  ·exact⟨he,.inl ⟨_,rfl,hj⟩⟩
  ·exact⟨he,.inr ⟨_,trivial,hj⟩⟩
theorem apw(Bs so b off cap:Nat)(A:Option Addr)(xs:List N9)(w:World)(hA:xs.length=0∨(A=some ⟨b,off,none⟩∧b<w.heap.size))(J:xs.length<=1000000)(u:Bs<w.heap.size)
  (hb:w.cell? ⟨Bs,so,none⟩=some (.slice A xs.length cap))(hc:∀j x,xs[j]? =some x->∀i v,(MG x).toList[i]? =some v->w.cell? ⟨b,off+j*9+i,none⟩=some v):
  CallsIn Fence.wide 2 Tryz.prog 156 #[.slice none 0 0,.func (.func 90) #[] #[.pointer (some ⟨Bs,so,none⟩)]] w fun e W'=>
   ∃v,e= .returned v∧W'.ownsRow w.heap.size 49 9 v xs.length (xE xs)∧(v= .slice none 0 0↔xs=[])∧Below w.heap.size w W':=by
 refine callsIn_of_wp_marks Tryz.func156 rfl trivial ?_ rfl;simp only[Tryz.ntmps156,fT,aS,ek,Nat.reduceAdd,Nat.reduceSub,gQ,gT,jo,iF,dm,aW];gi_wp2;have F:=Boxed.new w 36 (.slice none 0 0);have hB0:Below w.heap.size w (w.alloc (.cells #[.slice none 0 0] 36)):=(jh _ w).alloc (aJ _) _;have hsz:(w.alloc (.cells #[.slice none 0 0] 36)).heap.size=w.heap.size+1:=by simp
 obtain⟨W0,hW0⟩:∃W0,w.alloc (.cells #[.slice none 0 0] 36)=W0:=⟨_,rfl⟩
 rw[hW0]at F hB0 hsz⊢;clear hW0;have hbl:∀j x,xs[j]? =some x->b<w.heap.size:=fun j x hx=>by
  rcases hA with h|h
  ·rw[dL (by omega)]at hx
   cases hx
  ·exact h.2
 refine wpIn_rangeFunc_ownH rfl (by omega) (gf:=90) (lb:= #[.pointer (some ⟨Bs,so,none⟩)]) rfl trivial (enters_of Tryz.func90 (by kernel_rfl) rfl)
  (PZ 1 (by omega) Bs so w.heap.size b off cap A xs hA J W0 (by omega) u ((hB0.cell (p:=⟨Bs,so,none⟩) u).trans hb)
   (fun j x hx i v hv=>(hB0.cell (p:=⟨b,off+j*9+i,none⟩) (hbl j x hx)).trans (hc j x hx i v hv)))
  belowK_t (belowK_b (by omega)) (jh _ _) (fun _=>rfl)
  (fun pre W=>(∃v,Boxed W w.heap.size 36 v∧W.ownsRow w.heap.size 49 9 v pre.length (xE pre)∧(v= .slice none 0 0↔pre=[]))∧Below w.heap.size w W)
  (fun _ _ _=>False)
  (uh (Own.from (holdsRow_own w.heap.size w.heap.size 36 49 9 (fun pre=>pre.length) (fun pre=>xE pre) (fun pre v=>(v= .slice none 0 0↔pre=[]))) _) (ownFrom_below (aJ _) (by omega)))
  (fun _ _ _ _ _ hs _ _=>hs)
  ⟨⟨_,F,World.ownsRow_nil _ _ _ _,by simp⟩,hB0⟩
  (fun x a' W=>∃Bx,w.heap.size<Bx∧W.heap[Bx]? =some (.cells (MG x) 49 (0,0))∧a'={tmps:= #[.slice none 0 0,.func (.func 90) #[] #[.pointer (some ⟨Bs,so,none⟩)],.pointer (some ⟨w.heap.size,0,none⟩),undef,.slice none 0 0,.pointer (some ⟨Bx,0,none⟩),.func (.func 90) #[] #[.pointer (some ⟨Bs,so,none⟩)],n9e x,undef,undef,undef,undef,undef],defers:=[]})
  (fun x a' _ X Y row hs hg hr=>by
   obtain⟨Bx,h1,h2,h3⟩:=hs;refine⟨Bx,h1,(hg.block Bx (ic.1 h2).1 (fun e=> ?_)).trans h2,h3⟩;obtain⟨_,o,ho,hcl⟩:=hr Bx e.symm;rw[h2]at ho;cases ho;cases hcl)
  ?assign ?body ?done ?stop
 case assign=>
  rintro l pre ⟨x1,x2,x3,x4,x5,x6,x7,C,B⟩ W K ⟨⟨v,g,hrow,hnil⟩,hB1⟩ hK;dsimp only[n9e,MG]at hK⊢;gi_wp2;exact hK _ _ ((KeepsOthers.alloc _ _).from _) ((jh _ W).alloc (by have:=hB1.size;omega) _) ⟨⟨v,g.alloc _,hrow.alloc _,hnil⟩,hB1.alloc hB1.size _⟩ ⟨W.heap.size,g.lt,jD W _,rfl⟩
 case body=>
  rintro l pre ⟨x1,x2,x3,x4,x5,x6,x7,C,B⟩ a' W hl ⟨r,hr⟩ ⟨⟨v,g,hrow,hnil⟩,hB1⟩ ⟨Bx,hBx,hX,rfl⟩ hlt;have hpl:pre.length<1000000:=by omega
  dsimp only[n9e,MG]at hX⊢;have cv:=g.cell;have z0:W.cell? ⟨Bx,0,none⟩=some (.int .i64 x1):=by simp[World.cell?,hX]
  have z1:W.cell? ⟨Bx,1,none⟩=some (.int .i64 x2):=by simp[World.cell?,hX]
  have z2:W.cell? ⟨Bx,2,none⟩=some (.int .i64 x3):=by simp[World.cell?,hX]
  have z3:W.cell? ⟨Bx,3,none⟩=some (.int .i64 x4):=by simp[World.cell?,hX]
  have z4:W.cell? ⟨Bx,4,none⟩=some (.int .i64 x5):=by simp[World.cell?,hX]
  have z5:W.cell? ⟨Bx,5,none⟩=some (.int .i64 x6):=by simp[World.cell?,hX]
  have z6:W.cell? ⟨Bx,6,none⟩=some (.int .i64 x7):=by simp[World.cell?,hX]
  have z7:W.cell? ⟨Bx,7,none⟩=some (.int .i64 C):=by simp[World.cell?,hX]
  have N:W.cell? ⟨Bx,8,none⟩=some (.int .i64 B):=by simp[World.cell?,hX]
  obtain⟨i0,hi,hz0,hz1,hz2⟩:=info_parts akf;have I:=hB1.size
  gi_wp2_with (gi_at_builtin;refine wpListIn_append_own _ rfl _ _ 36 rfl w.heap.size 49 i0 _ 9 72 Tryz.underlying36 hi hz0 hz1 hz2 rfl (by decide) _ _ _ rfl (hrow.alloc _) ⟨W.heap.size,0,none⟩ 1 1 [.int .i64 x1,.int .i64 x2,.int .i64 x3,.int .i64 x4,.int .i64 x5,.int .i64 x6,.int .i64 x7,.int .i64 C,.int .i64 B] rfl rfl (GI _ _ _) (by simp[Value.oneCell']) (by simp[maxLen];omega) (by omega) (by simp;omega) ?_;intro v' w1 hown' hgrow _;obtain⟨g',cap',rfl⟩:=ownsRow_succ hown';obtain⟨hv1,hv2,hr2,hk2,hb2⟩:=g.appended (by decide) hrow hB1.size (aJ _) hown' hgrow;have hc1:=hv1.cell;have hf1:=hv1.frozen)
  exact⟨hk2.from _,hb2,⟨_,hv2,by rw[aF,Sj];exact hr2,by simp⟩,hB1.trans hb2⟩
 case done=>
  rintro D ps W hD rfl ⟨⟨v,g,hrow,hnil⟩,hB1⟩ hK;have cv:=g.cell;gi_wp2;refine⟨by simp,.inl ⟨_,_,rfl,run_takeDeferred hK,?_⟩⟩;refine⟨_,results_tmp rfl _ _ _,v,rfl,ownsRow_putObj hrow _ hK rfl,hnil,hB1.trans (belowK_b (w:=w) (aJ _) W D _ _ (by omega) hK rfl rfl)⟩
 case stop=>
  rintro D c pre W _ _ h _;exact h.elim
end Go.Proofs.YtnahpjebkgbedaaGreat
namespace Go.Proofs.YtnahpjebkgbedaaGreat
open Go Go.RowKit
structure Vi where
 k:Int
 p:Int
 f:Int
 m:Int
 v:Int
 e:Int
 s:Int
 b:Nat
 o:Nat
def NU(x:Vi):Array Value:= #[.int .i64 x.k,.int .i64 x.p,.int .i64 x.f,.int .i64 x.m,.int .i64 x.v,.int .i64 x.e,.int .i64 x.s]
def vie(x:Vi):Array Value:= #[.agg (NU x),.pointer (some ⟨x.b,x.o,none⟩)]
structure Tree where
 nP:Nat
 bP:Nat
 oP:Nat
 nS:Nat->Nat
 bS:Nat->Nat
 oS:Nat->Nat
 nM:Nat
 bM:Nat
 oM:Nat
 nC:Nat->Nat
 bC:Nat->Nat
 oC:Nat->Nat
 nV:Nat->Nat->Nat
 bV:Nat->Nat->Nat
 oV:Nat->Nat->Nat
 nE:Nat->Nat->Nat->Nat
 bE:Nat->Nat->Nat->Nat
 oE:Nat->Nat->Nat->Nat
 nX:Nat
 bX:Nat
 oX:Nat
def Dg(w:World)(n₀ b o n b' o':Nat):Prop:=n<=1000000∧b<n₀∧∃A cap,w.cell? ⟨b,o,none⟩=some (.slice A n cap)∧(n=0∨(A=some ⟨b',o',none⟩∧b'<n₀))
structure Lh(T:Tree)(w:World)(n₀ Bs so:Nat):Prop where
 p:Dg w n₀ Bs (so+2) T.nP T.bP T.oP
 s:∀i,i<T.nP->Dg w n₀ T.bP (T.oP+i*6+5) (T.nS i) (T.bS i) (T.oS i)
 m:Dg w n₀ Bs (so+3) T.nM T.bM T.oM
 c:∀i,i<T.nM->Dg w n₀ T.bM (T.oM+i*22+21) (T.nC i) (T.bC i) (T.oC i)
 v:∀i j,i<T.nM->j<T.nC i->Dg w n₀ (T.bC i) (T.oC i+j*2+1) (T.nV i j) (T.bV i j) (T.oV i j)
 e:∀i j k,i<T.nM->j<T.nC i->k<T.nV i j->Dg w n₀ (T.bV i j) (T.oV i j+k*2) (T.nE i j k) (T.bE i j k) (T.oE i j k)
 x:Dg w n₀ Bs (so+4) T.nX T.bX T.oX
def Tree.f0(T:Tree):Nat->Nat
 |0=>0
 |i+1=>T.f0 i+T.nS i
def Tree.pa(T:Tree)(i:Nat):Vi:=⟨1,i,0,0,0,0,0,T.bP,T.oP+i*6⟩
def Tree.st(T:Tree)(i k:Nat):Vi:=⟨2,0,(T.f0 i+k:Nat),0,0,0,0,T.bS i,T.oS i+k*3⟩
def Tree.me(T:Tree)(m:Nat):Vi:=⟨3,0,0,m,0,0,0,T.bM,T.oM+m*22⟩
def Tree.ev(T:Tree)(m c v e:Nat):Vi:=⟨4,0,c,m,v,e,0,T.bE m c v,T.oE m c v+e*13⟩
def Tree.sp(T:Tree)(k:Nat):Vi:=⟨5,0,0,0,0,0,k,T.bX,T.oX+k*7⟩
def Tree.iS(T:Tree)(i k:Nat):List Vi:=(List.range k).map (T.st i)
def Tree.iP(T:Tree)(k:Nat):List Vi:=(List.range k).flatMap fun i=>T.pa i::T.iS i (T.nS i)
def Tree.iE(T:Tree)(m c v k:Nat):List Vi:=(List.range k).map (T.ev m c v)
def Tree.iV(T:Tree)(m c k:Nat):List Vi:=(List.range k).flatMap fun v=>T.iE m c v (T.nE m c v)
def Tree.iC(T:Tree)(m k:Nat):List Vi:=(List.range k).flatMap fun c=>T.iV m c (T.nV m c)
def Tree.iM(T:Tree)(k:Nat):List Vi:=(List.range k).flatMap fun m=>T.me m::T.iC m (T.nC m)
def Tree.iX(T:Tree)(k:Nat):List Vi:=(List.range k).map T.sp
def Tree.items(T:Tree):List Vi:=T.iP T.nP++(T.iM T.nM++T.iX T.nX)
theorem CP{A:Type}(f:Nat->List A)(k:Nat):(List.range (k+1)).flatMap f=(List.range k).flatMap f++f k:=by
 rw[gK,bH];simp
theorem Jb{A:Type}(f:Nat->A)(k:Nat):(List.range (k+1)).map f=(List.range k).map f++[f k]:=by
 rw[gK,aR];rfl
theorem GJ{A:Type}{f:Nat->List A}{k n:Nat}{l:List A}(hk:k<n)(h:l<+:f k):(List.range k).flatMap f++l<+:(List.range n).flatMap f:=by
 obtain⟨d,rfl⟩:∃d,n=k+1+d:=⟨n-(k+1),by omega⟩
 induction d with
 |zero=>
  rw[nR,CP];exact List.prefix_append_right_inj _|>.2 h
 |succ d ih=>
  rw[show k+1+(d+1)=k+1+d+1 from rfl,CP];exact(ih (by omega)).trans (yS _ _)
theorem UO{A:Type}{f:Nat->A}{k n:Nat}(hk:k<n):(List.range k).map f++[f k]<+:(List.range n).map f:=by
 rw[<-Jb];have:(List.range (k+1)).map f=((List.range n).map f).take (k+1):=by
  rw[<-List.map_take,List.take_range,eH (by omega)]
 rw[this];exact List.take_prefix _ _
theorem P5{A:Type}{p l m:List A}(h:l<+:m):p++l<+:p++m:=(List.prefix_append_right_inj _).2 h
theorem P7{A:Type}{a:A}{l m:List A}(h:l<+:m):a::l<+:a::m:=(List.cons_prefix_cons).2 ⟨rfl,h⟩
theorem Tree.akg(T:Tree){i:Nat}(h:i<T.nP):T.iP i++[T.pa i]<+:T.items:=
 (GJ h (P7 (List.nil_prefix))).trans (yS _ _)
theorem Tree.akh(T:Tree){i k:Nat}(h:i<T.nP)(hk:k<T.nS i):(T.iP i++(T.pa i::T.iS i k))++[T.st i k]<+:T.items:=by
 rw[aC,aW];exact(GJ h (P7 (UO hk))).trans (yS _ _)
theorem Tree.aki(T:Tree){m:Nat}(h:m<T.nM):(T.iP T.nP++T.iM m)++[T.me m]<+:T.items:=by
 rw[aC];exact P5 ((GJ h (P7 (List.nil_prefix))).trans (yS _ _))
theorem Tree.akj(T:Tree){m c v e:Nat}(h:m<T.nM)(hc:c<T.nC m)(hv:v<T.nV m c)(he:e<T.nE m c v):
  (T.iP T.nP++(T.iM m++(T.me m::(T.iC m c++(T.iV m c v++T.iE m c v e)))))++[T.ev m c v e]<+:T.items:=by
 rw[aC,aC,aW,aC,aC];exact P5 ((GJ h (P7 (GJ hc (GJ hv (UO he))))).trans (yS _ _))
theorem Tree.akk(T:Tree){k:Nat}(h:k<T.nX):(T.iP T.nP++(T.iM T.nM++T.iX k))++[T.sp k]<+:T.items:=by
 rw[aC,aC];exact P5 (P5 (UO h))
theorem Tree.afe(T:Tree)(i k:Nat):T.iS i (k+1)=T.iS i k++[T.st i k]:=Jb _ _
theorem Tree.aff(T:Tree)(m c v k:Nat):T.iE m c v (k+1)=T.iE m c v k++[T.ev m c v k]:=Jb _ _
theorem Tree.afg(T:Tree)(k:Nat):T.iX (k+1)=T.iX k++[T.sp k]:=Jb _ _
theorem Tree.afh(T:Tree)(k:Nat):T.iP (k+1)=T.iP k++(T.pa k::T.iS k (T.nS k)):=CP _ _
theorem Tree.afi(T:Tree)(m c k:Nat):T.iV m c (k+1)=T.iV m c k++T.iE m c k (T.nE m c k):=CP _ _
theorem Tree.afj(T:Tree)(m k:Nat):T.iC m (k+1)=T.iC m k++T.iV m k (T.nV m k):=CP _ _
theorem Tree.afk(T:Tree)(k:Nat):T.iM (k+1)=T.iM k++(T.me k::T.iC k (T.nC k)):=CP _ _
end Go.Proofs.YtnahpjebkgbedaaGreat
namespace Go.Proofs.YtnahpjebkgbedaaGreat
open Go Go.RowKit Go.Shelf
attribute [local go_sem] wy
theorem Dg.at{w w':World}{n₀ m b o n b' o':Nat}(h:Dg w n₀ b o n b' o')(hb:Below m w w')(hm:n₀<=m):Dg w' n₀ b o n b' o':=by
 obtain⟨h1,h2,A,cap,h3,h4⟩:=h;exact⟨h1,h2,A,cap,(hb.cell (p:=⟨b,o,none⟩) (uq h2 hm)).trans h3,h4⟩
theorem Dg.some{w:World}{n₀ b o n b' o':Nat}(h:Dg w n₀ b o n b' o')(hn:0<n):b'<n₀∧∃cap,w.cell? ⟨b,o,none⟩= .some (.slice (.some ⟨b',o',none⟩) n cap):=by
 obtain⟨h1,h2,A,cap,h3,h4⟩:=h;obtain⟨rfl,h5⟩:=h4.resolve_left (by omega);exact⟨h5,cap,h3⟩
theorem Dg.any{w:World}{n₀ b o n b' o':Nat}(h:Dg w n₀ b o n b' o'):∃A cap,w.cell? ⟨b,o,none⟩= .some (.slice A n cap):=by
 obtain⟨h1,h2,A,cap,h3,h4⟩:=h;exact⟨A,cap,h3⟩
theorem akl(n:Nat)(hn:1<=n)(l u ob Bs so n₀:Nat)(T:Tree)(J Jx:List Vi->World->Prop)
  (hY:∀pre x W,J pre W->pre++[x]<+:T.items->YieldAt Fence.wide (n-1) Tryz.prog l (vie x) W fun e W'=>
   (e= .returned (.bool true)∧J (pre++[x]) W'∧Below n₀ W W'∧W'.cell? ⟨u,ob,none⟩=W.cell? ⟨u,ob,none⟩)∨(e= .returned (.bool false)∧Jx (pre++[x]) W'))
  (W:World)(hn0:n₀<=W.heap.size)(U:W.cell? ⟨u,ob,none⟩=some (.pointer (some ⟨Bs,so,none⟩)))(ok:Lh T W n₀ Bs so)(h0:J [] W):
  CallsIn Fence.wide n Tryz.prog 231 #[.func (.yield l) #[] #[],.pointer (some ⟨u,ob,none⟩)] W fun e W'=>(∃v,e= .returned v)∧(J T.items W'∨∃pre,Jx pre W'):=by
 refine callsIn_of_wp Tryz.func231 rfl trivial ?_ rfl;simp only[Tryz.ntmps231,fT,aS,ek,Nat.reduceAdd,Nat.reduceSub,gQ,gT,jo,iF,dm,aW];have hf0:∀k,k<=T.nP->T.f0 k<=k*1000000:=by
  intro k;induction k with
  |zero=>intro _;exact aJ _
  |succ k ih=>
   intro h;have h1:=ih (by omega);have h2:=(ok.s k (by omega)).1;show T.f0 k+T.nS k<=_;omega
 obtain⟨Ap,cp,hp⟩:=ok.p.any;have N:=ok.p.1;gi_wp2;gi_loopw [16,3] (fun i f wr=>∃k:Nat,k<=T.nP∧i= .int .i64 k∧f= .int .i64 (T.f0 k:Nat)∧J (T.iP k) wr∧Below n₀ W wr∧wr.cell? ⟨u,ob,none⟩=some (.pointer (some ⟨Bs,so,none⟩)))
  (fun i _ _=>T.nP-(intOf i).toNat)
 case atStart=>exact⟨0,ku _,rfl,rfl,h0,jh _ _,U⟩
 case round=>
  obtain⟨k,hk,rfl,rfl,hJs,hnx,hb⟩:=hrel;by_cases hlt:k<T.nP
  ·have hn':=hn
   obtain⟨F,cP,hP⟩:=(ok.p.at hnx (aJ _)).some (by omega);obtain⟨fn,tmps,assign,body,hy,hR⟩:=hY _ _ wr hJs (T.akg hlt);simp only[Tree.pa,vie,NU]at hy hR;have hfk:=hf0 k hk;clear hp;gi_wp2;refine hR.mono ?_;rintro e W3 (⟨rfl,hJ3,hk3,hq3⟩|⟨rfl,hJx3⟩)
   ·have C:=hnx.trans hk3
    have hb3:=hq3.trans hb;clear hy hR hb hP hnx hJs hk3 hq3;obtain⟨F,R,hP⟩:=(ok.p.at C (aJ _)).some (by omega);obtain⟨A1,c1,hS⟩:=((ok.s k hlt).at C (aJ _)).any;have Z:=(ok.s k hlt).1;gi_wp2;clear hP hS;gi_loopw [40,3] (fun i f wr=>∃j:Nat,j<=T.nS k∧i= .int .i64 j∧f= .int .i64 (T.f0 k+j:Nat)∧J (T.iP k++(T.pa k::T.iS k j)) wr∧Below n₀ W wr∧wr.cell? ⟨u,ob,none⟩=some (.pointer (some ⟨Bs,so,none⟩)))
     (fun i _ _=>T.nS k-(intOf i).toNat)
    case atStart=>exact⟨0,ku _,rfl,rfl,hJ3,C,hb3⟩
    case round=>
     obtain⟨j,hj,rfl,rfl,hJs,hnx,hb⟩:=hrel;by_cases hlj:j<T.nS k
     ·have hn':=hn
      obtain⟨F,R,hP⟩:=(ok.p.at hnx (aJ _)).some (by omega);obtain⟨hbS,cS',hS⟩:=((ok.s k hlt).at hnx (aJ _)).some (by omega);obtain⟨fn,tmps,assign,body,hy,hR⟩:=hY _ _ wr hJs (T.akh hlt hlj);simp only[Tree.st,vie,NU]at hy hR;obtain⟨g,hg⟩:∃g,T.f0 k+j=g:=⟨_,rfl⟩
      rw[hg]at hy⊢;gi_wp2;refine hR.mono ?_;rintro e W4 (⟨rfl,r,hk4,hq4⟩|⟨rfl,K⟩)
      ·gi_wp2
       go_roundw;case rel=>exact⟨j+1,by omega,by simp,by subst hg;simp;omega,by rw[aC]at r;rw[T.afe];exact r,hnx.trans hk4,hq4.trans hb⟩
       case measure=>simp[intOf];omega
      ·gi_wp2
       exact bodyPost_ret (results_none rfl _ _ _) rfl ⟨⟨_,rfl⟩,.inr ⟨_,K⟩⟩
     ·obtain rfl:j=T.nS k:=by omega
      gi_wp2;go_roundw;case rel=>exact⟨k+1,by omega,by simp,rfl,by rw[T.afh];exact hJs,hnx,hb⟩
      case measure=>simp[intOf];omega
   ·gi_wp2
    exact bodyPost_ret (results_none rfl _ _ _) rfl ⟨⟨_,rfl⟩,.inr ⟨_,hJx3⟩⟩
  ·obtain rfl:k=T.nP:=by omega
   have hn':=hn;obtain⟨Am,cm,hm⟩:=(ok.m.at hnx (aJ _)).any;have hnM:=ok.m.1;gi_wp2;clear hm hp N hf0;gi_loopw [68] (fun i wr=>∃k:Nat,k<=T.nM∧i= .int .i64 k∧J (T.iP T.nP++T.iM k) wr∧Below n₀ W wr∧wr.cell? ⟨u,ob,none⟩=some (.pointer (some ⟨Bs,so,none⟩)))
    (fun i _=>T.nM-(intOf i).toNat)
   case atStart=>exact⟨0,ku _,rfl,by rw[show T.iM 0=[]from rfl,bz];exact hJs,hnx,hb⟩
   case round=>
    obtain⟨m,hm,rfl,hJs,hnx,hb⟩:=hrel;by_cases hlm:m<T.nM
    ·have hn':=hn
     obtain⟨A,cM,hM⟩:=(ok.m.at hnx (aJ _)).some (by omega);obtain⟨fn,tmps,assign,body,hy,hR⟩:=hY _ _ wr hJs (T.aki hlm);simp only[Tree.me,vie,NU]at hy hR;gi_wp2;refine hR.mono ?_;rintro e W3 (⟨rfl,hJ3,hk3,hq3⟩|⟨rfl,hJx3⟩)
     ·have C:=hnx.trans hk3
      have hb3:=hq3.trans hb;clear hy hR hb hM hnx hJs hk3 hq3;obtain⟨A,B,hM⟩:=(ok.m.at C (aJ _)).some (by omega);obtain⟨A1,c1,hC⟩:=((ok.c m hlm).at C (aJ _)).any;have hnC:=(ok.c m hlm).1;gi_wp2;clear hM hC;gi_loopw [92] (fun i wr=>∃j:Nat,j<=T.nC m∧i= .int .i64 j∧J (T.iP T.nP++(T.iM m++(T.me m::T.iC m j))) wr∧Below n₀ W wr∧wr.cell? ⟨u,ob,none⟩=some (.pointer (some ⟨Bs,so,none⟩)))
       (fun i _=>T.nC m-(intOf i).toNat)
      case atStart=>exact⟨0,ku _,rfl,by rw[aC]at hJ3;exact hJ3,C,hb3⟩
      case round=>
       obtain⟨c,hc,rfl,hJs,hnx,hb⟩:=hrel;by_cases hlc:c<T.nC m
       ·have hn':=hn
        obtain⟨A,B,hM⟩:=(ok.m.at hnx (aJ _)).some (by omega);obtain⟨hbC,I,hC⟩:=((ok.c m hlm).at hnx (aJ _)).some (by omega);obtain⟨A2,c2,hV⟩:=((ok.v m c hlm hlc).at hnx (aJ _)).any;have Y:=(ok.v m c hlm hlc).1;gi_wp2;clear hM hC hV;gi_loopw [108] (fun i wr=>∃j:Nat,j<=T.nV m c∧i= .int .i64 j∧J (T.iP T.nP++(T.iM m++(T.me m::(T.iC m c++T.iV m c j)))) wr∧Below n₀ W wr∧wr.cell? ⟨u,ob,none⟩=some (.pointer (some ⟨Bs,so,none⟩)))
         (fun i _=>T.nV m c-(intOf i).toNat)
        case atStart=>exact⟨0,ku _,rfl,by rw[show T.iV m c 0=[]from rfl,bz];exact hJs,hnx,hb⟩
        case round=>
         obtain⟨v,hv,rfl,hJs,hnx,hb⟩:=hrel;by_cases hlv:v<T.nV m c
         ·have hn':=hn
          obtain⟨A,B,hM⟩:=(ok.m.at hnx (aJ _)).some (by omega);obtain⟨hbC,I,hC⟩:=((ok.c m hlm).at hnx (aJ _)).some (by omega);obtain⟨O,Q,hV⟩:=((ok.v m c hlm hlc).at hnx (aJ _)).some (by omega);obtain⟨A3,c3,hE⟩:=((ok.e m c v hlm hlc hlv).at hnx (aJ _)).any;have hnE:=(ok.e m c v hlm hlc hlv).1;gi_wp2;clear hM hC hV hE;gi_loopw [128] (fun i wr=>∃j:Nat,j<=T.nE m c v∧i= .int .i64 j∧J (T.iP T.nP++(T.iM m++(T.me m::(T.iC m c++(T.iV m c v++T.iE m c v j))))) wr∧Below n₀ W wr∧wr.cell? ⟨u,ob,none⟩=some (.pointer (some ⟨Bs,so,none⟩)))
           (fun i _=>T.nE m c v-(intOf i).toNat)
          case atStart=>exact⟨0,ku _,rfl,by rw[show T.iE m c v 0=[]from rfl,bz];exact hJs,hnx,hb⟩
          case round=>
           obtain⟨q,hq,rfl,hJs,hnx,hb⟩:=hrel;by_cases hlq:q<T.nE m c v
           ·have hn':=hn
            obtain⟨A,B,hM⟩:=(ok.m.at hnx (aJ _)).some (by omega);obtain⟨hbC,I,hC⟩:=((ok.c m hlm).at hnx (aJ _)).some (by omega);obtain⟨O,Q,hV⟩:=((ok.v m c hlm hlc).at hnx (aJ _)).some (by omega);obtain⟨hbE,cE',hE⟩:=((ok.e m c v hlm hlc hlv).at hnx (aJ _)).some (by omega);obtain⟨fn,tmps,assign,body,hy,hR⟩:=hY _ _ wr hJs (T.akj hlm hlc hlv hlq);simp only[Tree.ev,vie,NU]at hy hR;gi_wp2;refine hR.mono ?_;rintro e W4 (⟨rfl,r,hk4,hq4⟩|⟨rfl,K⟩)
            ·gi_wp2
             go_roundw;case rel=>exact⟨q+1,by omega,by simp,by simp only[aC,aW]at r;rw[T.aff];exact r,hnx.trans hk4,hq4.trans hb⟩
             case measure=>simp[intOf];omega
            ·gi_wp2
             exact bodyPost_ret (results_none rfl _ _ _) rfl ⟨⟨_,rfl⟩,.inr ⟨_,K⟩⟩
           ·obtain rfl:q=T.nE m c v:=by omega
            gi_wp2;go_roundw;case rel=>exact⟨v+1,by omega,by simp,by rw[T.afi];exact hJs,hnx,hb⟩
            case measure=>simp[intOf];omega
         ·obtain rfl:v=T.nV m c:=by omega
          gi_wp2;go_roundw;case rel=>exact⟨c+1,by omega,by simp,by rw[T.afj];exact hJs,hnx,hb⟩
          case measure=>simp[intOf];omega
       ·obtain rfl:c=T.nC m:=by omega
        gi_wp2;go_roundw;case rel=>exact⟨m+1,by omega,by simp,by rw[T.afk];exact hJs,hnx,hb⟩
        case measure=>simp[intOf];omega
     ·gi_wp2
      exact bodyPost_ret (results_none rfl _ _ _) rfl ⟨⟨_,rfl⟩,.inr ⟨_,hJx3⟩⟩
    ·obtain rfl:m=T.nM:=by omega
     have hn':=hn;obtain⟨Ax,cx,hx⟩:=(ok.x.at hnx (aJ _)).any;have X:=ok.x.1;gi_wp2;clear hx;gi_loopw [167] (fun i wr=>∃k:Nat,k<=T.nX∧i= .int .i64 k∧J (T.iP T.nP++(T.iM T.nM++T.iX k)) wr∧Below n₀ W wr∧wr.cell? ⟨u,ob,none⟩=some (.pointer (some ⟨Bs,so,none⟩)))
      (fun i _=>T.nX-(intOf i).toNat)
     case atStart=>exact⟨0,ku _,rfl,by rw[show T.iX 0=[]from rfl,bz];exact hJs,hnx,hb⟩
     case round=>
      obtain⟨x,hx,rfl,hJs,hnx,hb⟩:=hrel;by_cases hlx:x<T.nX
      ·have hn':=hn
       obtain⟨hbX,cX,hX⟩:=(ok.x.at hnx (aJ _)).some (by omega);obtain⟨fn,tmps,assign,body,hy,hR⟩:=hY _ _ wr hJs (T.akk hlx);simp only[Tree.sp,vie,NU]at hy hR;gi_wp2;refine hR.mono ?_;rintro e W4 (⟨rfl,r,hk4,hq4⟩|⟨rfl,K⟩)
       ·gi_wp2
        go_roundw;case rel=>exact⟨x+1,by omega,by simp,by simp only[aC]at r;rw[T.afg];exact r,hnx.trans hk4,hq4.trans hb⟩
        case measure=>simp[intOf];omega
       ·gi_wp2
        exact bodyPost_ret (results_none rfl _ _ _) rfl ⟨⟨_,rfl⟩,.inr ⟨_,K⟩⟩
      ·obtain rfl:x=T.nX:=by omega
       gi_wp2;go_end0;exact⟨⟨_,rfl⟩,.inl hJs⟩
end Go.Proofs.YtnahpjebkgbedaaGreat
namespace Go.Proofs.YtnahpjebkgbedaaGreat
open Go Go.RowKit Go.Shelf
attribute [local go_sem] wy
def KpB(n₀ Bb ob:Nat)(A B:World):Prop:=Below n₀ A B∧B.cell? ⟨Bb,ob,none⟩=A.cell? ⟨Bb,ob,none⟩
theorem agu{n₀ c ob:Nat}{A B C:World}(h:KpB n₀ c ob A B)(k:KpB n₀ c ob B C):KpB n₀ c ob A C:=⟨h.1.trans k.1,k.2.trans h.2⟩
theorem agv{n₀ c ob:Nat}{w:World}(hn:n₀<=w.heap.size)(hb:c<w.heap.size)(W:World)(l:Nat)(o o':Obj)(hl:w.heap.size<=l)(h:W.heap[l]? =some o)(hc:o.isCells=false)(hw:o.isWalk=false):KpB n₀ c ob W (W.putObj l o'):=by
 have h1:Below w.heap.size W (W.putObj l o'):=belowK_b (aJ _) W l o o' hl h hc hw;exact⟨h1.mono hn,h1.cell (p:=⟨c,ob,none⟩) hb⟩
theorem NV(n:Nat)(hn:1<=n)(g ob Bs so n₀:Nat)(T:Tree)(w:World)(hn0:n₀<=w.heap.size)(hBb:g<w.heap.size)(r:w.cell? ⟨g,ob,none⟩=some (.pointer (some ⟨Bs,so,none⟩)))(ok:Lh T w n₀ Bs so):
  SeqStopsK Fence.wide n Tryz.prog 231 #[.pointer (some ⟨g,ob,none⟩)] (fun x:{x:Vi//x∈T.items}=>vie x.1) (KpB n₀ g ob) (fun ys=>ys.map (·.1)=T.items) (fun pre=>pre.map (·.1)<+:T.items) T.items.length w:=by
 intro l J Jx W hW hJ hJx hY h0;have hW':Below n₀ w W:=hW.mono hn0;refine(akl n hn l g ob Bs so n₀ T (fun l W=>∃pre,pre.map (·.1)=l∧J pre W) (fun l W=>∃pre,pre.map (·.1)=l∧l<+:T.items∧Jx pre W) ?_ W (eO hn0 hW.size)
  ((hW.cell (p:=⟨g,ob,none⟩) hBb).trans r) ⟨ok.p.at hW' (aJ _),fun i h=>(ok.s i h).at hW' (aJ _),ok.m.at hW' (aJ _),fun i h=>(ok.c i h).at hW' (aJ _),fun i j h k=>(ok.v i j h k).at hW' (aJ _),fun i j q h k z=>(ok.e i j q h k z).at hW' (aJ _),ok.x.at hW' (aJ _)⟩ ⟨[],rfl,h0⟩).mono ?_
 ·rintro pre x W1 ⟨pr,rfl,hj⟩ hpre
  have hx:x∈T.items:=hpre.mem (by simp);have hl:pr.length<T.items.length:=by
   have:=hpre.length_le;simp at this;omega
  obtain⟨fn,tmps,assign,body,hy,hR⟩:=hY pr ⟨x,hx⟩ W1 hj hl;refine⟨fn,tmps,assign,body,hy,hR.mono ?_⟩;rintro e W2 (⟨rfl,h1,h2,h3⟩|⟨rfl,h1⟩)
  ·exact .inl ⟨rfl,⟨_,by simp,h1⟩,h2,h3⟩
  ·exact .inr ⟨rfl,_,by simp,hpre,h1⟩
 ·rintro e W2 ⟨he,⟨pr,h1,h2⟩|⟨pre,pr,h1,h2,h3⟩⟩
  ·exact⟨he,.inl ⟨pr,h1,h2⟩⟩
  ·subst h1
   exact⟨he,.inr ⟨pr,h2,h3⟩⟩
theorem agw(n:Nat)(p:Addr)(W:World):CallsIn Fence.wide n Tryz.prog 175 #[.pointer (some p)] W fun e W'=>e= .returned (.func (.func 231) #[] #[.pointer (some ⟨W.heap.size,0,none⟩)])∧W'=W.alloc (.cells #[.pointer (some p)] 76):=by
 refine callsIn_of_wp Tryz.func175 rfl trivial ?_ rfl;simp only[Tryz.ntmps175,fT,aS,ek,Nat.reduceAdd,Nat.reduceSub,gQ,gT,jo,iF,dm,aW];gi_wp2;exact bodyPost_ret (results_tmp rfl _ _ _) rfl ⟨rfl,rfl⟩
theorem FQ{F:Fence}{n:Nat}{P:Program}(w:World){ops:Array Oper}{o:Oper}{a:Act}{K:Act->World->Prop}{Q:Exit->Act->World->Prop}{E:Prop}
  (hg:o.guard=none)(s x:Operand)(t:TypeId)(hop:o.op=Op.call {callee:=Callee.builtin Builtin.append,args:= #[s,x],argTypes:= #[t,t]})
  (base:Nat)(e:TypeId)(i:TypeInfo)(z:Value)(size bytes:Nat)(h1:P.underlying t=some (.slice e))(h2:P.info? e=some i)(h3:i.zero=some z)(h4:i.size=size)(h5:i.bytes=bytes)(h6:z.cells.size=size)(h7:0<size)
  (v:Value)(k:Nat)(xs:List Value)(hs:a.eval s=v)(hown:w.ownsRow base e size v k xs)(ad:Addr)(m c:Nat)(news:List Value)(hx:a.eval x= .slice (some ad) m c)(hn:news.length=m*size)
  (hc:∀j u,news[j]? =some u->w.cell? (ad.add j)=some u)(h1c:∀u∈news,u.oneCell'=true)(b1:k+m<=maxLen)(b2:(k+m)*bytes<=140737488355328)(b3:base<=w.heap.size)
  (hK:∀v' w',w'.ownsRow base e size v' (k+m) (xs++news)->w.grownBy w' v.ownBlock->(v'= .slice none 0 0↔v= .slice none 0 0∧m=0)->K (a.put o.dst v') w'):
  if Region.wanted o (yielded ops a.tmps)=true then Oper.wpIn F n P o a w K Q else E:=by
 have hw:Region.wanted o (yielded ops a.tmps)=true:=by simp[Region.wanted,hg]
 rw[aX hw];obtain⟨v',w',hrun,r1,r2,r3⟩:=run_append_own (P:=P) w base t o.type e i z size bytes h1 h2 h3 h4 h5 h6 h7 v k xs hown ad m c news hn hc h1c b1 b2 b3;unfold Oper.wpIn;refine⟨?_,?_⟩
 ·simp[Oper.about,hop,resolve,Target.leads,dz]
 ·rw[Oper.semAt_plain F _ _ (by rw[hop];intro c hc';cases hc')]
  simp[execOp,hop,resolve,invoke,builtin,hs,hx,hrun,Result.andThen];exact hK v' w' r1 r2 r3
theorem ako:(Tryz.prog.info? 47).map (fun i=>(i.zero,i.size,i.bytes))=some (some (.agg #[.int .i64 0,.int .i64 0]),2,16):=by kernel_rfl
def wm(id:Vi->Int×Int)(pre:List Vi):List Value:=(pre.map fun x=>[.int .i64 (id x).1,.int .i64 (id x).2]).flatten
theorem Sk(id:Vi->Int×Int)(pre:List Vi)(x:Vi):wm id (pre++[x])=wm id pre++[.int .i64 (id x).1,.int .i64 (id x).2]:=by simp[wm]
theorem akp(T:Tree)(id:Vi->Int×Int)(v0 v1 v2 v3 v4 v5:Value)(w:World)
  (ok:∀w',Below w.heap.size w w'->w'.heap[w.heap.size]? =some (.cells #[v0,v1,v2,v3,v4,v5] 34 (0,0))->Lh T w' (w.heap.size+1) w.heap.size 0)
  (hid:∀x∈T.items,x.b<w.heap.size∧w.cell? ⟨x.b,x.o,none⟩=some (.int .i64 (id x).1)∧w.cell? ⟨x.b,x.o+1,none⟩=some (.int .i64 (id x).2))(hl:T.items.length<=1000000):
  CallsIn Fence.wide 2 Tryz.prog 114 #[.agg #[v0,v1,v2,v3,v4,v5]] w fun e W'=>
   ∃v,e= .returned v∧W'.ownsRow (w.heap.size+1) 47 2 v T.items.length (wm id T.items)∧(v= .slice none 0 0↔T.items=[])∧Below w.heap.size w W':=by
 refine callsIn_of_wp_marks Tryz.func114 rfl trivial ?_ rfl;simp only[Tryz.ntmps114,fT,aS,ek,Nat.reduceAdd,Nat.reduceSub,gQ,gT,jo,iF,dm,aW];gi_wp2;refine⟨trivial,(agw 1 _ _).mono ?_⟩;rintro e W1 ⟨rfl,hW1⟩;have B:Boxed W1 (w.heap.size+1) 32 (.slice none 0 0):=by
  rw[hW1];have:=Boxed.new (w.alloc (.cells #[v0,v1,v2,v3,v4,v5] 34)) 32 (.slice none 0 0);simpa using this.alloc _
 have hB1:Below w.heap.size w W1:=by
  rw[hW1];exact(((jh _ w).alloc (aJ _) _).alloc (by simp) _).alloc (by simp;omega) _
 have hS1:W1.heap[w.heap.size]? =some (.cells #[v0,v1,v2,v3,v4,v5] 34 (0,0)):=by
  rw[hW1,iI _ _ _ (by simp;omega),iI _ _ _ (by simp)];exact jD w _
 have bX:Boxed W1 (w.heap.size+1+1) 76 (.pointer (some ⟨w.heap.size,0,none⟩)):=by
  have h:=Boxed.new ((w.alloc (.cells #[v0,v1,v2,v3,v4,v5] 34)).alloc (.cells #[.slice none 0 0] 32)) 76 (.pointer (some ⟨w.heap.size,0,none⟩));rw[<-hW1]at h;simpa using h
 have hX1:W1.cell? ⟨w.heap.size+1+1,0,none⟩=some (.pointer (some ⟨w.heap.size,0,none⟩)):=by
  have h:=jD ((w.alloc (.cells #[v0,v1,v2,v3,v4,v5] 34)).alloc (.cells #[.slice none 0 0] 32)) (.cells #[.pointer (some ⟨w.heap.size,0,none⟩)] 76);rw[<-hW1]at h;simp only[World.size_alloc]at h;simp[World.cell?,h]
 have hsz:W1.heap.size=w.heap.size+3:=by rw[hW1];simp
 clear hW1;simp only[World.size_alloc];gi_wp2;refine wpIn_rangeFunc_ownH rfl (by omega) (gf:=231) (lb:= #[.pointer (some ⟨w.heap.size+1+1,0,none⟩)]) rfl trivial (enters_of Tryz.func231 (by kernel_rfl) rfl)
  (NV 1 (by omega) (w.heap.size+1+1) 0 w.heap.size 0 (w.heap.size+1) T W1 (by omega) (by omega) hX1 (ok W1 hB1 hS1))
  agu (agv (by omega) (by omega)) (jh _ _) (fun _=>rfl)
  (fun pre W=>(∃v,Boxed W (w.heap.size+1) 32 v∧W.ownsRow (w.heap.size+1) 47 2 v pre.length (wm id (pre.map (·.1)))∧(v= .slice none 0 0↔pre=[]))∧Below w.heap.size w W∧Boxed W (w.heap.size+1+1) 76 (.pointer (some ⟨w.heap.size,0,none⟩)))
  (fun _ _ _=>False)
  (uh (Own.from (holdsRow_own (w.heap.size+1) (w.heap.size+1) 32 47 2 (fun pre:List {x:Vi//x∈T.items}=>pre.length) (fun pre=>wm id (pre.map (·.1))) (fun pre v=>(v= .slice none 0 0↔pre=[]))) _) (uh (ownFrom_below (aJ _) (by omega)) (Own.from (boxed_own _ 76 (fun _=> .pointer (some ⟨w.heap.size,0,none⟩))) _)))
  (fun _ _ _ _ _ hs _ _=>hs)
  ⟨⟨_,B,World.ownsRow_nil _ _ _ _,by simp⟩,hB1,bX⟩
  (fun x a' W=>a'={tmps:= #[.agg #[v0,v1,v2,v3,v4,v5],.pointer (some ⟨w.heap.size,0,none⟩),.slice none 0 0,.pointer (some ⟨w.heap.size+1,0,none⟩),undef,.pointer (some ⟨x.1.b,x.1.o,none⟩),.func (.func 231) #[] #[.pointer (some ⟨w.heap.size+1+1,0,none⟩)],.agg (NU x.1),.pointer (some ⟨x.1.b,x.1.o,none⟩),undef,undef,undef,undef,undef,undef,undef],defers:=[]})
  (fun x a' _ X Y row hs hg hr=>hs)
  ?assign ?body ?done ?stop
 case assign=>
  rintro l pre ⟨x,hx⟩ W K ⟨⟨v,g,hrow,hnil⟩,hB1,bX⟩ hK;dsimp only[vie]at hK⊢;gi_wp2;exact hK _ _ (KeepsFrom.refl _ _) ⟨jh _ _,rfl⟩ ⟨⟨v,g,hrow,hnil⟩,hB1,bX⟩ rfl
 case body=>
  rintro l pre ⟨x,hx⟩ a' W hl ⟨r,hr⟩ ⟨⟨v,g,hrow,hnil⟩,hB1,bX⟩ rfl hlt;obtain⟨hxb,hx0,hx1⟩:=hid x hx;have z0:=(hB1.cell (p:=⟨x.b,x.o,none⟩) hxb).trans hx0;have z1:=(hB1.cell (p:=⟨x.b,x.o+1,none⟩) hxb).trans hx1;have hpl:pre.length<1000000:=by omega
  have cv:=g.cell;obtain⟨i0,hi,hz0,hz1,hz2⟩:=info_parts ako;have j:=hB1.size;dsimp only;have hmx:Tryz.prog.follows .mixedOrders=true:=by kernel_rfl
  have hz:w.heap.size+1<=W.heap.size:=xN g.lt;have A:((W.alloc (.cells #[.int .i64 (id x).1,.int .i64 (id x).2] 47)).drew).cell? ⟨w.heap.size+1,0,none⟩=some v:=(g.alloc _).cell;have u:(W.alloc (.cells #[.int .i64 (id x).1,.int .i64 (id x).2] 47)).cell? ⟨w.heap.size+1,0,none⟩=some v:=(g.alloc _).cell;gi_wp2;refine wpIn_region_any hmx ?_;change wpAnyIn _ _ _ _ _ _ _ _ _ (World.drew _)
  repeat' (first
   |exact Ls
   |(refine GM rfl (fun K hK=> ?_) ?_)
   |(refine wpAnyIn_ready (rs:=[0,1]) (by decide+kernel) (by simp) ?_)
   |(refine wpAnyIn_ready (rs:=[0,2]) (by decide+kernel) (by simp) ?_)
   |(refine wpAnyIn_ready (rs:=[0,3]) (by decide+kernel) (by simp) ?_)
   |(refine wpAnyIn_ready (rs:=[0,4]) (by decide+kernel) (by simp) ?_)
   |(refine wpAnyIn_ready (rs:=[0]) (by decide+kernel) (by simp) ?_)
   |(refine wpAnyIn_ready (rs:=[1]) (by decide+kernel) (by simp) ?_)
   |(refine wpAnyIn_ready (rs:=[2]) (by decide+kernel) (by simp) ?_)
   |(refine wpAnyIn_ready (rs:=[3]) (by decide+kernel) (by simp) ?_)
   |(refine wpAnyIn_ready (rs:=[4]) (by decide+kernel) (by simp) ?_)
   |(refine wpAnyIn_ready (rs:=[5]) (by decide+kernel) (by simp) ?_)
   |(refine wpAnyIn_ready (rs:=[6]) (by decide+kernel) (by simp) ?_)
   |(go_simp;refine hK _ _ ?_;clear hK K))
  all_goals (refine FQ _ (by rfl) (.tmp 9) (.tmp 13) 32 (by rfl) (w.heap.size+1) 47 i0 _ 2 16 Tryz.underlying32 hi hz0 hz1 hz2 rfl (by decide) v pre.length (wm id (pre.map (·.1))) (by rfl) (hrow.alloc (.cells #[.int .i64 (id x).1,.int .i64 (id x).2] 47)).drew ⟨W.heap.size,0,none⟩ 1 1 [.int .i64 (id x).1,.int .i64 (id x).2] (by rfl) rfl (GI W #[.int .i64 (id x).1,.int .i64 (id x).2] 47) (by simp[Value.oneCell']) (by simp[maxLen];omega) (by omega) (by simp;omega) ?_)
  all_goals (intro v' w1 hown' hgrow _;obtain⟨g',cap',rfl⟩:=ownsRow_succ hown';obtain⟨hv1,hv2,hr2,hk2,hb2⟩:=g.appended (by decide) hrow hz (aJ _) hown' (tmp:= .cells #[.int .i64 (id x).1,.int .i64 (id x).2] 47) ⟨hgrow.os,hgrow.tape,hgrow.output,hgrow.size,hgrow.block⟩;have hX1:=(bX.alloc (.cells #[.int .i64 (id x).1,.int .i64 (id x).2] 47)).kept (W':=w1) ⟨hgrow.os,hgrow.tape,hgrow.output,hgrow.size,hgrow.block⟩ (bX.not_row (by decide) hrow);have hX2:=hX1.other (B':=w.heap.size+1) (by omega) (.slice (some ⟨g',0,none⟩) (pre.length+1) cap');have hc1:=hv1.cell;have hf1:=hv1.frozen;refine hK _ _ ?_;clear hK K)
  all_goals (refine wpAnyIn_ready (rs:=[6]) (by decide+kernel) (by simp) ?_)
  all_goals (refine GM rfl (fun K hK=> ?_) Ls)
  all_goals (go_simp;refine hK _ _ ?_;clear hK K;refine wpAnyIn_done (by decide+kernel) ?_ _)
  all_goals exact⟨hk2.from _,⟨hb2,hX2.cell.trans bX.cell.symm⟩,⟨_,hv2,by rw[aF,aR,bO,dX,Sk];exact hr2,by simp⟩,hB1.trans (hb2.mono (Nat.le_succ _)),hX2⟩
 case done=>
  rintro D ps W hD hps ⟨⟨v,g,hrow,hnil⟩,hB1,bX⟩ hK;have cv:=g.cell;have hlen:=eU List.length hps;rw[aG]at hlen;rw[hps,hlen]at hrow;have hnil':v= .slice none 0 0↔T.items=[]:=by rw[hnil];exact(kC (f:=fun x:{x:Vi//x∈T.items}=>x.1)).symm.trans (by rw[hps])
  gi_wp2;refine⟨by simp,.inl ⟨_,_,rfl,run_takeDeferred hK,?_⟩⟩;refine⟨_,results_tmp rfl _ _ _,v,rfl,ownsRow_putObj hrow _ hK rfl,hnil',hB1.trans (belowK_b (w:=w) (aJ _) W D _ _ (by omega) hK rfl rfl)⟩
 case stop=>
  rintro D c pre W _ _ h _;exact h.elim
end Go.Proofs.YtnahpjebkgbedaaGreat
namespace Go.Proofs.YtnahpjebkgbedaaGreat
open Go Go.RowKit Go.Shelf
attribute [local go_sem] wy
theorem CQ{β:Type}(B:Nat)(f:β->Array Value)(t:TypeId):Own (fun(s:β)(W:World)=>W.heap[B]? =some (.cells (f s) t (0,0))):=fun s X Y row hs hg hrow=>
 (hg.block B (ic.1 hs).1 (fun e'=>by obtain⟨o,ho,hc⟩:=hrow B e'.symm;rw[hs]at ho;cases ho;cases hc)).trans hs
theorem yn{W:World}{g:Nat}{cs:Array Value}{t:TypeId}{fr:Nat×Nat}(h:W.heap[g]? =some (.cells cs t fr))(i:Nat)(u:Value):(W.setCell ⟨g,i,none⟩ u).heap[g]? =some (.cells (cs.setIfInBounds i u) t fr):=by
 simp[World.setCell,h,Array.getElem?_modify]
def Yk(W:World)(g:Nat)(u0 u1 u2 u3 u4 u5 u6:Value):World:=((((((W.setCell ⟨g,0,none⟩ u0).setCell ⟨g,1,none⟩ u1).setCell ⟨g,2,none⟩ u2).setCell ⟨g,3,none⟩ u3).setCell ⟨g,4,none⟩ u4).setCell ⟨g,5,none⟩ u5).setCell ⟨g,6,none⟩ u6
theorem abX{W:World}{g:Nat}{u0 u1 u2 u3 u4 u5 c c0 c1 c2 c3 c4 c5 c6:Value}{t:TypeId}{fr:Nat×Nat}(h:W.heap[g]? =some (.cells #[c0,c1,c2,c3,c4,c5,c6] t fr)):(Yk W g u0 u1 u2 u3 u4 u5 c).heap[g]? =some (.cells #[u0,u1,u2,u3,u4,u5,c] t fr):=by
 have:=yn (yn (yn (yn (yn (yn (yn h 0 u0) 1 u1) 2 u2) 3 u3) 4 u4) 5 u5) 6 c;simp only[List.setIfInBounds_toArray,yP,uu]at this;exact this
theorem heap_drew(W:World):W.drew.heap=W.heap:=rfl
theorem abY(W:World){g k:Nat}(u0 u1 u2 u3 u4 u5 c:Value)(h:k≠g):(Yk W g u0 u1 u2 u3 u4 u5 c).heap[k]? =W.heap[k]? :=by
 unfold Yk;rw[pz _ _ _ _ h,pz _ _ _ _ h,pz _ _ _ _ h,pz _ _ _ _ h,pz _ _ _ _ h,pz _ _ _ _ h,pz _ _ _ _ h]
theorem UT(W:World)(g:Nat)(u0 u1 u2 u3 u4 u5 c:Value):KeepsOthers W (Yk W g u0 u1 u2 u3 u4 u5 c):=
 ((((((mi _ _ _).trans (mi _ _ _)).trans (mi _ _ _)).trans (mi _ _ _)).trans (mi _ _ _)).trans (mi _ _ _)).trans (mi _ _ _)
theorem UW{w W:World}{B g:Nat}(hB:Below B w W)(h:B<=g)(u0 u1 u2 u3 u4 u5 c:Value):Below B w (Yk W g u0 u1 u2 u3 u4 u5 c):=
 ((((((hB.setCell (p:=⟨g,0,none⟩) h _).setCell (p:=⟨g,1,none⟩) h _).setCell (p:=⟨g,2,none⟩) h _).setCell (p:=⟨g,3,none⟩) h _).setCell (p:=⟨g,4,none⟩) h _).setCell (p:=⟨g,5,none⟩) h _).setCell (p:=⟨g,6,none⟩) h _
theorem Li{X:Type}{f:X->Int×Int}{c:Int×Int}:∀{p q r:List X}{x y:X}{t:List X},p++x::r=q++y::t->f x=c->(∀z∈p,f z≠c)->f y=c->(∀z∈q,f z≠c)->x=y
 |[],[],_,_,_,_,h,_,_,_,_=>by simp at h;exact h.1
 |[],z::q,_,_,_,_,h,h1,_,_,h4=>by
  simp at h;exact absurd (h.1▸h1) (h4 z (by simp))
 |z::p,[],_,_,_,_,h,_,h2,h3,_=>by
  simp at h;exact absurd (h.1▸h3) (h2 z (by simp))
 |z::p,z'::q,_,_,_,_,h,h1,h2,h3,h4=>by
  simp at h;exact Li h.2 h1 (fun z hz=>h2 z (by simp[hz])) h3 (fun z hz=>h4 z (by simp[hz]))
theorem afl(T:Tree)(id:Vi->Int×Int)(a b:Int)(ha:¬a=0)(v0 v1 v2 v3 v4 v5:Value)(w:World)
  (ok:∀w',Below w.heap.size w w'->w'.heap[w.heap.size]? =some (.cells #[v0,v1,v2,v3,v4,v5] 34 (0,0))->Lh T w' (w.heap.size+1) w.heap.size 0)
  (hid:∀x∈T.items,x.b<w.heap.size∧w.cell? ⟨x.b,x.o,none⟩=some (.int .i64 (id x).1)∧w.cell? ⟨x.b,x.o+1,none⟩=some (.int .i64 (id x).2))
  (p0:List Vi)(x0:Vi)(r0:List Vi)(hit:T.items=p0++x0::r0)(hx0:id x0=(a,b))(hp0:∀y∈p0,id y≠(a,b)):
  CallsIn Fence.wide 2 Tryz.prog 247 #[.agg #[v0,v1,v2,v3,v4,v5],.agg #[.int .i64 a,.int .i64 b]] w fun e W'=>
   e= .returned (.tuple #[.agg (NU x0),.bool true])∧Below w.heap.size w W':=by
 refine callsIn_of_wp_marks Tryz.func247 rfl trivial ?_ rfl;simp only[Tryz.ntmps247,fT,aS,ek,Nat.reduceAdd,Nat.reduceSub,gQ,gT,jo,iF,dm,aW];have hab:(a==0)=false:=by simpa using ha
 gi_wp2;refine⟨trivial,(agw 1 _ _).mono ?_⟩;rintro e W1 ⟨rfl,hW1⟩;simp only[World.size_alloc]at hW1⊢;have hB1:Below w.heap.size w W1:=by
  rw[hW1];exact(((((jh _ w).alloc (aJ _) _).alloc (by simp) _).alloc (by simp<;>omega) _).alloc (by simp<;>omega) _).alloc (by simp<;>omega) _
 have hS1:W1.heap[w.heap.size]? =some (.cells #[v0,v1,v2,v3,v4,v5] 34 (0,0)):=by
  rw[hW1,iI _ _ _ (by simp<;>omega),iI _ _ _ (by simp<;>omega),iI _ _ _ (by simp<;>omega),iI _ _ _ (by simp)];exact jD w _
 have hI1:W1.heap[w.heap.size+1]? =some (.cells #[.int .i64 a,.int .i64 b] 47 (0,0)):=by
  rw[hW1,iI _ _ _ (by simp<;>omega),iI _ _ _ (by simp<;>omega),iI _ _ _ (by simp)];have:=jD (w.alloc (.cells #[v0,v1,v2,v3,v4,v5] 34)) (.cells #[.int .i64 a,.int .i64 b] 47);simpa using this
 have hP1:W1.heap[w.heap.size+1+1]? =some (.cells #[.int .i64 0,.int .i64 0,.int .i64 0,.int .i64 0,.int .i64 0,.int .i64 0,.int .i64 0] 234 (0,0)):=by
  rw[hW1,iI _ _ _ (by simp<;>omega),iI _ _ _ (by simp)];have:=jD ((w.alloc (.cells #[v0,v1,v2,v3,v4,v5] 34)).alloc (.cells #[.int .i64 a,.int .i64 b] 47)) (.cells #[.int .i64 0,.int .i64 0,.int .i64 0,.int .i64 0,.int .i64 0,.int .i64 0,.int .i64 0] 234);simpa using this
 have hF1:W1.heap[w.heap.size+1+1+1]? =some (.cells #[.bool false] 4 (0,0)):=by
  rw[hW1,iI _ _ _ (by simp)];have:=jD (((w.alloc (.cells #[v0,v1,v2,v3,v4,v5] 34)).alloc (.cells #[.int .i64 a,.int .i64 b] 47)).alloc (.cells #[.int .i64 0,.int .i64 0,.int .i64 0,.int .i64 0,.int .i64 0,.int .i64 0,.int .i64 0] 234)) (.cells #[.bool false] 4);simpa using this
 have bX:Boxed W1 (w.heap.size+1+1+1+1) 76 (.pointer (some ⟨w.heap.size,0,none⟩)):=by
  have h:=Boxed.new ((((w.alloc (.cells #[v0,v1,v2,v3,v4,v5] 34)).alloc (.cells #[.int .i64 a,.int .i64 b] 47)).alloc (.cells #[.int .i64 0,.int .i64 0,.int .i64 0,.int .i64 0,.int .i64 0,.int .i64 0,.int .i64 0] 234)).alloc (.cells #[.bool false] 4)) 76 (.pointer (some ⟨w.heap.size,0,none⟩));rw[<-hW1]at h;simpa using h
 have hsz:W1.heap.size=w.heap.size+5:=by rw[hW1];simp
 clear hW1;gi_wp2;refine wpIn_rangeFunc_ownH rfl (by omega) (gf:=231) (lb:= #[.pointer (some ⟨w.heap.size+1+1+1+1,0,none⟩)]) rfl trivial (enters_of Tryz.func231 (by kernel_rfl) rfl)
  (NV 1 (by omega) (w.heap.size+1+1+1+1) 0 w.heap.size 0 (w.heap.size+1) T W1 (by omega) (by omega) bX.cell (ok W1 hB1 hS1))
  agu (agv (by omega) (by omega)) (jh _ _) (fun _=>rfl)
  (fun pre W=>(∀y∈pre,id y.1≠(a,b))∧Below w.heap.size w W∧W.heap[w.heap.size+1]? =some (.cells #[.int .i64 a,.int .i64 b] 47 (0,0))∧W.heap[w.heap.size+1+1]? =some (.cells #[.int .i64 0,.int .i64 0,.int .i64 0,.int .i64 0,.int .i64 0,.int .i64 0,.int .i64 0] 234 (0,0))∧W.heap[w.heap.size+1+1+1]? =some (.cells #[.bool false] 4 (0,0))∧Boxed W (w.heap.size+1+1+1+1) 76 (.pointer (some ⟨w.heap.size,0,none⟩)))
  (fun c pre W=>(c= .ret∧∃q x,pre=q++[x]∧id x.1=(a,b)∧(∀y∈q,id y.1≠(a,b))∧W.heap[w.heap.size+1+1]? =some (.cells (NU x.1) 234 (0,0)))∧Below w.heap.size w W∧W.heap[w.heap.size+1+1+1]? =some (.cells #[.bool true] 4 (0,0)))
  (uh (ownFrom_pure _ _) (uh (ownFrom_below (aJ _) (by omega)) (uh (Own.from (CQ _ _ _) _) (uh (Own.from (CQ _ _ _) _) (uh (Own.from (CQ _ _ _) _) (Own.from (boxed_own _ 76 _) _))))))
  (fun c=>uh ?ownx (uh (ownFrom_below (aJ _) (by omega)) (Own.from (CQ _ _ _) _)))
  ⟨by simp,hB1,hI1,hP1,hF1,bX⟩
  (fun x a' W=>∃Bx,w.heap.size+5<=Bx∧W.heap[Bx]? =some (.cells (NU x.1) 234 (0,0))∧a'={tmps:= #[.agg #[v0,v1,v2,v3,v4,v5],.agg #[.int .i64 a,.int .i64 b],.pointer (some ⟨w.heap.size,0,none⟩),.pointer (some ⟨w.heap.size+1,0,none⟩),.pointer (some ⟨w.heap.size+1+1,0,none⟩),.pointer (some ⟨w.heap.size+1+1+1,0,none⟩),.pointer (some ⟨Bx,0,none⟩),.pointer (some ⟨x.1.b,x.1.o,none⟩),.agg #[.int .i64 a,.int .i64 b],.agg #[.int .i64 0,.int .i64 0],.bool false,undef,.func (.func 231) #[] #[.pointer (some ⟨w.heap.size+1+1+1+1,0,none⟩)],.agg (NU x.1),.pointer (some ⟨x.1.b,x.1.o,none⟩),undef,undef,undef,undef,undef,undef,undef],defers:=[]})
  (fun x a' _ X Y row hs hg hr=>by
   obtain⟨Bx,h1,h2,h3⟩:=hs;refine⟨Bx,h1,(hg.block Bx (ic.1 h2).1 (fun e=> ?_)).trans h2,h3⟩;obtain⟨_,o,ho,hcl⟩:=hr Bx e.symm;rw[h2]at ho;cases ho;cases hcl)
  ?assign ?body ?done ?stop
 case ownx=>
  rintro pre X Y row ⟨h1,q,x,h2,h3,h4,h5⟩ hg hr;refine⟨h1,q,x,h2,h3,h4,(hg.block _ (ic.1 h5).1 (fun e=> ?_)).trans h5⟩;obtain⟨_,o,ho,hcl⟩:=hr _ e.symm;rw[h5]at ho;cases ho;cases hcl
 case assign=>
  rintro l pre ⟨x,hx⟩ W K ⟨hno,hB,hI,hP,hF,bX⟩ hK;obtain⟨k,p,f,m,v,e,s,xb,xo⟩:=x;dsimp only[vie,NU]at hK⊢;have hz:=bX.lt;gi_wp2;exact hK _ _ ((KeepsOthers.alloc _ _).from _) ⟨(jh _ W).alloc (by omega) _,(bX.alloc _).cell.trans bX.cell.symm⟩
   ⟨hno,hB.alloc hB.size _,(iI _ _ _ (by omega)).trans hI,(iI _ _ _ (by omega)).trans hP,(iI _ _ _ (by omega)).trans hF,bX.alloc _⟩
   ⟨W.heap.size,by omega,jD W _,rfl⟩
 case body=>
  rintro l pre ⟨x,hx⟩ a' W hl ⟨r,hr⟩ ⟨hno,hB,hI,hP,hF,bX⟩ ⟨Bx,hBx,j,rfl⟩ hlt;obtain⟨hxb,hx0,hx1⟩:=hid x hx;obtain⟨k,p,f,m,v,e,s,xb,xo⟩:=x;dsimp only[NU]at j hx0 hx1 hxb⊢;have hz:=bX.lt;have z0:=(hB.cell (p:=⟨xb,xo,none⟩) hxb).trans hx0;have z1:=(hB.cell (p:=⟨xb,xo+1,none⟩) hxb).trans hx1;have c0:W.cell? ⟨w.heap.size+1,0,none⟩=some (.int .i64 a):=by simp[World.cell?,hI]
  have c1:W.cell? ⟨w.heap.size+1,1,none⟩=some (.int .i64 b):=by simp[World.cell?,hI]
  have hmx:Tryz.prog.follows .mixedOrders=true:=by kernel_rfl
  have y0:W.cell? ⟨Bx,0,none⟩=some (.int .i64 k):=by simp[World.cell?,j]
  have y1:W.cell? ⟨Bx,1,none⟩=some (.int .i64 p):=by simp[World.cell?,j]
  have y2:W.cell? ⟨Bx,2,none⟩=some (.int .i64 f):=by simp[World.cell?,j]
  have y3:W.cell? ⟨Bx,3,none⟩=some (.int .i64 m):=by simp[World.cell?,j]
  have y4:W.cell? ⟨Bx,4,none⟩=some (.int .i64 v):=by simp[World.cell?,j]
  have F:W.cell? ⟨Bx,5,none⟩=some (.int .i64 e):=by simp[World.cell?,j]
  have y6:W.cell? ⟨Bx,6,none⟩=some (.int .i64 s):=by simp[World.cell?,j]
  have p0:W.cell? ⟨w.heap.size+1+1,0,none⟩=some (.int .i64 0):=by simp[World.cell?,hP]
  have p1:W.cell? ⟨w.heap.size+1+1,1,none⟩=some (.int .i64 0):=by simp[World.cell?,hP]
  have p2:W.cell? ⟨w.heap.size+1+1,2,none⟩=some (.int .i64 0):=by simp[World.cell?,hP]
  have p3:W.cell? ⟨w.heap.size+1+1,3,none⟩=some (.int .i64 0):=by simp[World.cell?,hP]
  have p4:W.cell? ⟨w.heap.size+1+1,4,none⟩=some (.int .i64 0):=by simp[World.cell?,hP]
  have p5:W.cell? ⟨w.heap.size+1+1,5,none⟩=some (.int .i64 0):=by simp[World.cell?,hP]
  have p6:W.cell? ⟨w.heap.size+1+1,6,none⟩=some (.int .i64 0):=by simp[World.cell?,hP]
  have q0:W.frozen? ⟨w.heap.size+1+1,0,none⟩=false:=by simp[World.frozen?,hP]
  have q1:W.frozen? ⟨w.heap.size+1+1,1,none⟩=false:=by simp[World.frozen?,hP]
  have q2:W.frozen? ⟨w.heap.size+1+1,2,none⟩=false:=by simp[World.frozen?,hP]
  have q3:W.frozen? ⟨w.heap.size+1+1,3,none⟩=false:=by simp[World.frozen?,hP]
  have q4:W.frozen? ⟨w.heap.size+1+1,4,none⟩=false:=by simp[World.frozen?,hP]
  have q5:W.frozen? ⟨w.heap.size+1+1,5,none⟩=false:=by simp[World.frozen?,hP]
  have q6:W.frozen? ⟨w.heap.size+1+1,6,none⟩=false:=by simp[World.frozen?,hP]
  have f0:W.cell? ⟨w.heap.size+1+1+1,0,none⟩=some (.bool false):=by simp[World.cell?,hF]
  have f1:W.frozen? ⟨w.heap.size+1+1+1,0,none⟩=false:=by simp[World.frozen?,hF]
  clear hx0 hx1;by_cases hm:id ⟨k,p,f,m,v,e,s,xb,xo⟩=(a,b)
  ·have C:∀a':Act,ownPostG W1.heap.size (KpB (w.heap.size+1) (w.heap.size+1+1+1+1) 0)
     (fun(pre:List {x:Vi//x∈T.items})W=>(∀y∈pre,id y.1≠(a,b))∧Below w.heap.size w W∧W.heap[w.heap.size+1]? =some (.cells #[.int .i64 a,.int .i64 b] 47 (0,0))∧W.heap[w.heap.size+1+1]? =some (.cells #[.int .i64 0,.int .i64 0,.int .i64 0,.int .i64 0,.int .i64 0,.int .i64 0,.int .i64 0] 234 (0,0))∧W.heap[w.heap.size+1+1+1]? =some (.cells #[.bool false] 4 (0,0))∧Boxed W (w.heap.size+1+1+1+1) 76 (.pointer (some ⟨w.heap.size,0,none⟩)))
     (fun c(pre:List {x:Vi//x∈T.items})W=>(c= .ret∧∃q x,pre=q++[x]∧id x.1=(a,b)∧(∀y∈q,id y.1≠(a,b))∧W.heap[w.heap.size+1+1]? =some (.cells (NU x.1) 234 (0,0)))∧Below w.heap.size w W∧W.heap[w.heap.size+1+1+1]? =some (.cells #[.bool true] 4 (0,0)))
     (pre++[⟨⟨k,p,f,m,v,e,s,xb,xo⟩,hx⟩]) W .ret a' ((Yk W (w.heap.size+1+1) (.int .i64 k) (.int .i64 p) (.int .i64 f) (.int .i64 m) (.int .i64 v) (.int .i64 e) (.int .i64 s)).setCell ⟨w.heap.size+1+1+1,0,none⟩ (.bool true)).drew:=fun a'=>by
    refine⟨(((UT W _ _ _ _ _ _ _ _).trans (mi _ _ _)).trans (KeepsOthers.drew _)).from _,⟨rfl,pre,⟨⟨k,p,f,m,v,e,s,xb,xo⟩,hx⟩,rfl,hm,hno,?_⟩,?_,?_⟩
    ·rw[heap_drew,pz _ _ _ _ (by simp)]
     exact abX hP
    ·exact((UW hB (by omega) _ _ _ _ _ _ _).setCell (p:=⟨w.heap.size+1+1+1,0,none⟩) (by simp only;omega) _).drew
    ·rw[heap_drew]
     have:=yn ((abY W (g:=w.heap.size+1+1) (.int .i64 k) (.int .i64 p) (.int .i64 f) (.int .i64 m) (.int .i64 v) (.int .i64 e) (.int .i64 s) (by omega)).trans hF) 0 (.bool true);simp only[List.setIfInBounds_toArray,yP]at this;exact this
   rw[hm]at z0 z1;dsimp only at z0 z1⊢;gi_wp2;refine wpIn_region_any hmx ?_;change wpAnyIn _ _ _ _ _ _ _ _ _ (World.drew _)
   repeat' (first
    |exact Ls
    |(refine GM rfl (fun K hK=> ?_) ?_)
    |(refine wpAnyIn_ready (rs:=[0,3]) (by decide+kernel) (by simp) ?_)
    |(refine wpAnyIn_ready (rs:=[1,3]) (by decide+kernel) (by simp) ?_)
    |(refine wpAnyIn_ready (rs:=[2,3]) (by decide+kernel) (by simp) ?_)
    |(refine wpAnyIn_ready (rs:=[0]) (by decide+kernel) (by simp) ?_)
    |(refine wpAnyIn_ready (rs:=[1]) (by decide+kernel) (by simp) ?_)
    |(refine wpAnyIn_ready (rs:=[2]) (by decide+kernel) (by simp) ?_)
    |(refine wpAnyIn_ready (rs:=[3]) (by decide+kernel) (by simp) ?_)
    |(refine wpAnyIn_ready (rs:=[4]) (by decide+kernel) (by simp) ?_)
    |(refine wpAnyIn_done (by decide+kernel) ?_ _)
    |(go_simp;refine hK _ _ ?_;clear hK K))
   all_goals gi_wp2
   all_goals exact C _
  ·obtain⟨⟨i1,i2⟩,hi⟩:∃q,id ⟨k,p,f,m,v,e,s,xb,xo⟩=q:=⟨_,rfl⟩
   have hni:id ⟨k,p,f,m,v,e,s,xb,xo⟩≠(a,b):=hm;rw[hi]at z0 z1 hm;dsimp only at z0 z1⊢;clear y0 y1 y2 y3 y4 F y6 p0 p1 p2 p3 p4 p5 p6 q0 q1 q2 q3 q4 q5 q6 f0 f1;have hcase:((i1==a)=true∧(i2==b)=false)∨(i1==a)=false:=by
    cases h1:i1==a with
    |false=>exact .inr rfl
    |true=>
     left;refine⟨rfl,?_⟩;cases h2:i2==b with
     |false=>rfl
     |true=>exact absurd (by rw[eq_of_beq h1,eq_of_beq h2]) hm
   have fin:∀a':Act,ownPostG W1.heap.size (KpB (w.heap.size+1) (w.heap.size+1+1+1+1) 0)
     (fun(pre:List {x:Vi//x∈T.items})W=>(∀y∈pre,id y.1≠(a,b))∧Below w.heap.size w W∧W.heap[w.heap.size+1]? =some (.cells #[.int .i64 a,.int .i64 b] 47 (0,0))∧W.heap[w.heap.size+1+1]? =some (.cells #[.int .i64 0,.int .i64 0,.int .i64 0,.int .i64 0,.int .i64 0,.int .i64 0,.int .i64 0] 234 (0,0))∧W.heap[w.heap.size+1+1+1]? =some (.cells #[.bool false] 4 (0,0))∧Boxed W (w.heap.size+1+1+1+1) 76 (.pointer (some ⟨w.heap.size,0,none⟩)))
     (fun c(pre:List {x:Vi//x∈T.items})W=>(c= .ret∧∃q x,pre=q++[x]∧id x.1=(a,b)∧(∀y∈q,id y.1≠(a,b))∧W.heap[w.heap.size+1+1]? =some (.cells (NU x.1) 234 (0,0)))∧Below w.heap.size w W∧W.heap[w.heap.size+1+1+1]? =some (.cells #[.bool true] 4 (0,0)))
     (pre++[⟨⟨k,p,f,m,v,e,s,xb,xo⟩,hx⟩]) W .normal a' W.drew:=fun a'=>by
    refine⟨(KeepsOthers.drew _).from _,⟨(jh _ _).drew,rfl⟩,fun y hy=> ?_,hB.drew,hI,hP,hF,bX⟩;rcases dx.1 hy with hy|hy
    ·exact hno y hy
    ·obtain rfl:y=_:=by simpa using hy
     exact hni
   rcases hcase with⟨h1,h2⟩|h1
   ·gi_wp2
    refine wpIn_region_any hmx ?_;change wpAnyIn _ _ _ _ _ _ _ _ _ (World.drew _)
    repeat' (first
     |exact Ls
     |(refine GM rfl (fun K hK=> ?_) ?_)
     |(refine wpAnyIn_ready (rs:=[0,3]) (by decide+kernel) (by simp) ?_)
     |(refine wpAnyIn_ready (rs:=[1,3]) (by decide+kernel) (by simp) ?_)
     |(refine wpAnyIn_ready (rs:=[2,3]) (by decide+kernel) (by simp) ?_)
     |(refine wpAnyIn_ready (rs:=[0]) (by decide+kernel) (by simp) ?_)
     |(refine wpAnyIn_ready (rs:=[1]) (by decide+kernel) (by simp) ?_)
     |(refine wpAnyIn_ready (rs:=[2]) (by decide+kernel) (by simp) ?_)
     |(refine wpAnyIn_ready (rs:=[3]) (by decide+kernel) (by simp) ?_)
     |(refine wpAnyIn_ready (rs:=[4]) (by decide+kernel) (by simp) ?_)
     |(refine wpAnyIn_done (by decide+kernel) ?_ _)
     |(go_simp;refine hK _ _ ?_;clear hK K))
    all_goals gi_wp2
    all_goals exact fin _
   ·gi_wp2
    refine wpIn_region_any hmx ?_;change wpAnyIn _ _ _ _ _ _ _ _ _ (World.drew _)
    repeat' (first
     |exact Ls
     |(refine GM rfl (fun K hK=> ?_) ?_)
     |(refine wpAnyIn_ready (rs:=[0,3]) (by decide+kernel) (by simp) ?_)
     |(refine wpAnyIn_ready (rs:=[1,3]) (by decide+kernel) (by simp) ?_)
     |(refine wpAnyIn_ready (rs:=[2,3]) (by decide+kernel) (by simp) ?_)
     |(refine wpAnyIn_ready (rs:=[0]) (by decide+kernel) (by simp) ?_)
     |(refine wpAnyIn_ready (rs:=[1]) (by decide+kernel) (by simp) ?_)
     |(refine wpAnyIn_ready (rs:=[2]) (by decide+kernel) (by simp) ?_)
     |(refine wpAnyIn_ready (rs:=[3]) (by decide+kernel) (by simp) ?_)
     |(refine wpAnyIn_ready (rs:=[4]) (by decide+kernel) (by simp) ?_)
     |(refine wpAnyIn_done (by decide+kernel) ?_ _)
     |(go_simp;refine hK _ _ ?_;clear hK K))
    all_goals gi_wp2
    all_goals exact fin _
 case done=>
  rintro D ps W hD hps ⟨hno,hB,hI,hP,hF,bX⟩ hK;exfalso;have hx:x0∈ps.map (·.1):=by rw[hps,hit];simp
  obtain⟨y,hy,rfl⟩:=dQ.1 hx;exact hno y hy hx0
 case stop=>
  rintro D c pre W hD hpre ⟨⟨rfl,q,x,hq,hxa,A,B⟩,hB,hF⟩ hK;have u:x.1=x0:=by
   obtain⟨t,ht⟩:=hpre;replace ht:=ht.trans hit;rw[hq,aR,bO,dX,aC,aW,dm]at ht;refine(Li ht hxa (fun z hz=> ?_) hx0 hp0);obtain⟨y,hy,rfl⟩:=dQ.1 hz;exact A y hy
  gi_wp2;refine⟨by simp,.inl ⟨_,_,rfl,run_takeDeferred hK,?_⟩⟩;have hP':(W.putObj D (.deferred none)).heap[w.heap.size+1+1]? =some (.cells (NU x.1) 234 (0,0)):=(World.putObj_heap_other (by omega)).trans B;have hF':(W.putObj D (.deferred none)).heap[w.heap.size+1+1+1]? =some (.cells #[.bool true] 4 (0,0)):=(World.putObj_heap_other (by omega)).trans hF;have hB':Below w.heap.size w (W.putObj D (.deferred none)):=hB.trans (belowK_b (w:=w) (aJ _) W D _ _ (by omega) hK rfl rfl);rw[u]at hP';refine⟨.tuple #[.agg (NU x0),.bool true],?_,rfl,hB'⟩;have hr:Tryz.f247.results= #[.cell 4 234,.cell 5 4]:=by kernel_rfl
  simp only[results,hr];have l1:=run_loadVar_row (P:=Tryz.prog) (W.putObj D (.deferred none)) (w.heap.size+1+1) 234 234 (NU x0) (0,0) _ hP' Tryz.underlying234 rfl (by kernel_rfl);have l2:(loadVar 4 ⟨w.heap.size+1+1+1,0,none⟩).run Tryz.prog (W.putObj D (.deferred none))= .ok (.bool true) (W.putObj D (.deferred none)):=by
   have c2:(W.putObj D (.deferred none)).cell? ⟨w.heap.size+1+1+1,0,none⟩=some (.bool true):=by simp[World.cell?,hF']
   go_simp
  simp[bJ,Result.andThen,asAddr,l1,l2]
end Go.Proofs.YtnahpjebkgbedaaGreat
namespace Go.Proofs.YtnahpjebkgbedaaGreat
open Go Go.Ht Go.RowKit
theorem P8{f:FuncId}{args:List Value}{E:Env}{w:World}{M:List Mem}{L:Mem}{H:List Mem}{t sz lo:Nat}{els:List (List V)}{cells:List Value}(hM:eD E M w)(hlo:w.heap.size<=lo)
  (h:Calls Tryz.prog f args.toArray w fun e w'=>∃v,e= .returned v∧w'.ownsRow lo t sz v els.length cells∧(v= .slice none 0 0↔els=[])∧Below w.heap.size w w')
  (hg:els.all (fun e=>e.all V.gL)=true)(hc:∀(F:Env)l,l.take (els.length*sz)=cells->dF els F sz l):Calls Tryz.prog f args.toArray w (Ht.Leaves E L H w (kK sz els,none)):=by
 refine h.mono ?_;rintro e w' ⟨v,rfl,hown,hnil,hb⟩;refine⟨v,E.iY,rfl,hb,fun b c h=>h,fun b c h=> .inl h,?_⟩;obtain⟨hl5,hv|⟨g,cp,cur,hv,hgb,hgh,j,_,hcsz,htk⟩⟩:=hown
 ·have he:=hnil.1 hv.1
  rw[he];show VR .aL {E.up 1 with iY:=E.iY} v;simp only[VR];exact hv.1
 ·have he:els≠[]:=fun he=>by
   have:=hnil.2 he;rw[hv]at this;cases this
  unfold kK;rw[aP he];show GV {E.up 1 with iY:=E.iY} w.heap.size w' sz els v;refine⟨g,cur,t,cp,⟨g,0,none⟩,hv,j,.inr ⟨rfl,by rw[hcsz];exact aJ _⟩,eO hlo hgb,hgh,?_,?_,hg,hc _ _ htk⟩
  ·exact hM.Cw (eO hlo hgb)
  ·intro d s ver o ho hbk
   have h1:∃d',E.own d' s ver=some o:=by
    cases s with
    |o n=>exact⟨_,ho⟩
    |g n=>exact⟨_,ho⟩
   obtain⟨d',h1⟩:=h1;have:=hM.blk d' s ver o h1;omega
def n9v(x:N9):List V:=[.i x.a,.i x.b,.i x.c,.i x.d,.i x.e,.i x.f,.i x.g,.i x.h,.i x.i]
theorem apy{e:List V}(hl:e.length=9)(h:e.all isI=true):∃x,e=n9v x:=by
 match e,hl with
 |[a,b,c,d,e,f,g,h',i],_=>
  simp only[aZ,cB,jK,aH]at h;obtain⟨h1,h2,h3,h4,h5,h6,h7,h8,h9⟩:=h;have one:∀v,isI v=true->∃n,v= .i n:=fun v hv=>by
   unfold isI at hv;split at hv
   ·exact⟨_,rfl⟩
   ·cases hv
  obtain⟨a,rfl⟩:=one _ h1;obtain⟨b,rfl⟩:=one _ h2;obtain⟨c,rfl⟩:=one _ h3;obtain⟨d,rfl⟩:=one _ h4;obtain⟨e,rfl⟩:=one _ h5;obtain⟨f,rfl⟩:=one _ h6;obtain⟨g,rfl⟩:=one _ h7;obtain⟨h',rfl⟩:=one _ h8;obtain⟨i,rfl⟩:=one _ h9;exact⟨⟨a,b,c,d,e,f,g,h',i⟩,rfl⟩
theorem apz{E:Env}{x:N9}{l:List Value}(h:dY (n9v x) E l):l=(MG x).toList:=by
 simp only[n9v,dY,VR]at h;obtain⟨_,_,rfl,rfl,_,_,rfl,rfl,_,_,rfl,rfl,_,_,rfl,rfl,_,_,rfl,rfl,_,_,rfl,rfl,_,_,rfl,rfl,_,_,rfl,rfl,_,_,rfl,rfl,rfl⟩:=h;rfl
theorem WT:∀{els:List (List V)}{E:Env}{l:List Value},dF els E 9 l->els.all (fun e=>e.all isI)=true->∃xs:List N9,els=xs.map n9v
 |[],_,_,_,_=>⟨[],rfl⟩
 |e::es,E,l,h,ha=>by
  simp only[dF]at h;simp only[aZ,aH]at ha;obtain⟨x,rfl⟩:=apy h.1 ha.1;obtain⟨xs,rfl⟩:=WT h.2.2 ha.2;exact⟨x::xs,rfl⟩
theorem abZ{E:Env}:∀{xs:List N9}{l:List Value},l.take (xs.length*9)=xE xs->dF (xs.map n9v) E 9 l
 |[],l,_=>by simp[dF]
 |x::t,l,h=>by
  have e:xE (x::t)=(MG x).toList++xE t:=rfl;rw[e]at h;have h5:l.take 9=(MG x).toList:=by
   have:=eU (List.take 9) h;rw[nQ,eH (by simp only[aS];omega)]at this;rw[this,gm (by simp[MG])];exact aO (by simp[MG])
  have h6:(l.drop 9).take (t.length*9)=xE t:=by
   have:=eU (List.drop 9) h;rw[A9,show(x::t).length*9-9=t.length*9 by simp only[aS];omega]at this;rw[this];simp[MG]
  rw[bO];simp only[dF];refine⟨rfl,?_,abZ h6⟩;rw[h5];simp[MG,n9v,dY,VR]
theorem FR{E:Env}{M:List Mem}{w:World}(hM:eD E M w){b:Nat}{c:Array Value}(h:E.iY b=some c):b<w.heap.size∧∀o,w.cell? ⟨b,o,none⟩=c[o]? :=by
 obtain⟨t,fr,hb⟩:=hM.iY b c h;exact⟨rY hb,fun o=>by simp[World.cell?,hb]⟩
theorem apA{c:V}{els:List (List V)}(hs:mR 9 c=some els)(ha:els.all (fun e=>e.all isI)=true){E:Env}{w:World}{M:List Mem}{L:Mem}{H:List Mem}(hM:eD E M w){xs:List Value}
  (hx:dY [.aL,.fn 90 [.eptr [c] 0]] E xs):Calls Tryz.prog 156 xs.toArray w (Ht.Leaves E L H w (kK 9 els,none)):=by
 simp only[dY,VR]at hx;obtain⟨x1,l1,rfl,rfl,x2,l2,rfl,⟨cs,rfl,y1,l3,hcs,⟨b1,o1,c1,hi1,rfl,z1,l4,hz1,hsv,rfl⟩,rfl⟩,rfl⟩:=hx;obtain⟨hlt1,g⟩:=FR hM hi1;have hcs':cs= #[.pointer (some ⟨b1,o1+0,none⟩)]:=by
  apply Array.ext';rw[hcs]
 subst hcs';have hcell:w.cell? ⟨b1,o1+0,none⟩=some z1:=by
  rw[g,nR];have h1:(List.take 1 (List.drop o1 c1.toList))[0]? =some z1:=by
   simp only[aS,ek,Nat.reduceAdd]at hz1;rw[hz1];rfl
  rw[fQ (by decide),iU]at h1;simpa using h1
 have qW:∀xs:List N9,(xs.map n9v).all (fun e=>e.all V.gL)=true:=fun xs=>by
  rw[aV];intro e he;obtain⟨x,_,rfl⟩:=dQ.1 he;rfl
 have fin:∀(xs:List N9)(b off cap:Nat)(A:Option Addr),els=xs.map n9v->z1= .slice A xs.length cap->(xs.length=0∨(A=some ⟨b,off,none⟩∧b<w.heap.size))->xs.length<=1000000->
   (∀j x,xs[j]? =some x->∀i v,(MG x).toList[i]? =some v->w.cell? ⟨b,off+j*9+i,none⟩=some v)->Calls Tryz.prog 156 #[.slice none 0 0,.func (.func 90) #[] #[.pointer (some ⟨b1,o1+0,none⟩)]] w (Ht.Leaves E L H w (kK 9 els,none)):=by
  rintro xs b off cap A rfl rfl hA hl hc;refine P8 (args:=[.slice none 0 0,.func (.func 90) #[] #[.pointer (some ⟨b1,o1+0,none⟩)]]) (t:=49) (lo:=w.heap.size) (cells:=xE xs) hM (aJ _) ?_ (qW xs) (fun F l h=>abZ (by rw[aG]at h;exact h));refine(callsIn_wide.1 (apw b1 (o1+0) b off cap A xs w hA hl hlt1 hcell hc)).mono ?_;rintro e w' ⟨v,he,h1,h2,h3⟩;exact⟨v,he,by rw[aG];exact h1,by rw[h2,kC],h3⟩
 unfold mR at hs;split at hs
 ·cases hs
  simp only[VR]at hsv;exact fin [] 0 0 0 none rfl hsv (.inl rfl) (by simp) (fun j x h=>by simp at h)
 ·rename_i sz els'
  split at hs
  ·rename_i hc
   obtain⟨rfl,hl⟩:=hc;cases hs;simp only[VR]at hsv;obtain⟨_,a,cap,hz,_,_,hv⟩:=hsv;rcases hv with rfl|⟨u,hsp,hi3,hrow⟩
   ·exact fin [] 0 0 cap (some a) rfl (by simpa using hz) (.inl rfl) (by simp) (fun j x h=>by simp at h)
   ·obtain⟨ab,ao,asp⟩:=a
    simp only at hsp hi3 hrow;subst hsp;obtain⟨hlt3,r⟩:=FR hM hi3;obtain⟨xs,rfl⟩:=WT hrow ha;rw[aG]at hz hl;refine fin xs ab ao cap _ rfl hz (.inr ⟨rfl,hlt3⟩) hl (fun j x hj i v hi=> ?_);obtain⟨_,h2⟩:=hrow.at (i:=j) (e:=n9v x) (by rw[aK,hj];rfl);have h3:=apz h2;rw[r];rw[<-h3]at hi;have hi9:i<9:=by
     rcases jq i 9 with h|h
     ·exact h
     ·rw[dL (by simp only[bf];omega)]at hi
      cases hi
    rw[fQ hi9,iU,iU]at hi;rw[<-hi,Array.getElem?_toList];congr 1;omega
  ·cases hs
 ·cases hs
def lenOf:Value->Nat
 | .slice _ n _=>n
 |_=>0
def lC:Value->Nat
 | .slice (some a) _ _=>a.block
 |_=>0
def pU:Value->Nat
 | .slice (some a) _ _=>a.off
 |_=>0
def cellV(w:World)(b o:Nat):Value:=(w.cell? ⟨b,o,none⟩).getD undef
def numOf:Value->Int
 | .int _ n=>n
 |_=>0
def Dh(w:World)(x:Vi):Int×Int:=(numOf (cellV w x.b x.o),numOf (cellV w x.b (x.o+1)))
def FT(w:World)(x:Vi):List V×List V:=([V.i x.k,V.i x.p,V.i x.f,V.i x.m,V.i x.v,V.i x.e,V.i x.s],[V.i (Dh w x).1,V.i (Dh w x).2])
def sO(w:World)(x:Vi):Prop:=x.b<w.heap.size∧w.cell? ⟨x.b,x.o,none⟩=some (.int .i64 (Dh w x).1)∧w.cell? ⟨x.b,x.o+1,none⟩=some (.int .i64 (Dh w x).2)
theorem Lj{w:World}{b o:Nat}{x:Value}(h:w.cell? ⟨b,o,none⟩=some x):cellV w b o=x:=by unfold cellV;rw[h];rfl
def Ll(E:Env)(w:World):Prop:=∀b c,E.iY b=some c->b<w.heap.size∧∀o,w.cell? ⟨b,o,none⟩=c[o]?
theorem eD.agy{E:Env}{M:List Mem}{w:World}(h:eD E M w):Ll E w:=fun b c hc=>FR h hc
structure A8(w:World)(E:Env)(n:Nat)(els:List (List V))(v:Value):Prop where
 form:∃A cap,v= .slice A els.length cap∧(els.length=0∨(A=some ⟨lC v,pU v,none⟩∧lC v<w.heap.size))
 bnd:els.length<=1000000
 elt:∀i e,els[i]? =some e->lC v<w.heap.size∧e.length=n∧∀t u,e[t]? =some u->∃x,w.cell? ⟨lC v,pU v+i*n+t,none⟩=some x∧VR u E.bare x
theorem A8.len{w:World}{E:Env}{n:Nat}{els:List (List V)}{v:Value}(h:A8 w E n els v):lenOf v=els.length:=by
 obtain⟨A,cap,rfl,_⟩:=h.form;rfl
theorem H5{w:World}{E:Env}{n:Nat}{c:V}{els:List (List V)}{v:Value}(hI:Ll E w)(h:mR n c=some els)(hv:VR c E v):A8 w E n els v:=by
 unfold mR at h;split at h
 ·cases h
  simp only[VR]at hv;subst hv;exact⟨⟨none,0,rfl,.inl rfl⟩,by simp,fun i e h=>by simp at h⟩
 ·rename_i sz els'
  split at h
  ·rename_i hc
   obtain⟨rfl,hl⟩:=hc;cases h;simp only[VR]at hv;obtain⟨_,a,cap,rfl,_,_,hv⟩:=hv;rcases hv with rfl|⟨j,hsp,hi3,hrow⟩
   ·exact⟨⟨_,cap,rfl,.inl rfl⟩,by simp,fun i e h=>by simp at h⟩
   ·obtain⟨ab,ao,asp⟩:=a
    simp only at hsp hi3 hrow;subst hsp;obtain⟨hlt3,g⟩:=hI _ _ hi3;refine⟨⟨_,cap,rfl,.inr ⟨rfl,hlt3⟩⟩,hl,fun i e hi=>⟨hlt3,(hrow.at hi).1,fun t u ht=> ?_⟩⟩;obtain⟨h1,h2⟩:=hrow.at hi;obtain⟨x,hx,hr⟩:=h2.at ht;refine⟨x,?_,hr⟩;have htn:t<sz:=by
     have:=(au.1 ht).1;omega
    show w.cell? ⟨ab,ao+i*sz+t,none⟩=some x;rw[g];rw[fQ htn,iU,iU]at hx;rw[<-hx,Array.getElem?_toList];congr 1;omega
  ·cases h
 ·cases h
theorem apB{A:Type}{F:Nat->List A}{ls:List (List A)}{n:Nat}(h1:ls.length=n)(h2:∀i,i<n->ls[i]? =some (F i)):ls.flatten=(List.range n).flatMap F:=by
 have:ls=(List.range n).map F:=by
  apply vN;intro i;rw[aK];by_cases h:i<n
  ·rw[h2 i h,EG h];rfl
  ·rw[dL (by omega),dL (by simp;omega)];rfl
 rw[this,List.flatMap_def]
theorem ab0{A:Type}{F:Nat->A}{l:List A}{n:Nat}(h1:l.length=n)(h2:∀i,i<n->l[i]? =some (F i)):l=(List.range n).map F:=by
 apply vN;intro i;rw[aK];by_cases h:i<n
 ·rw[h2 i h,EG h];rfl
 ·rw[dL (by omega),dL (by simp;omega)];rfl
theorem WU{m c v:Nat}:∀{els:List (List V)}{n:Nat}{l:List (List V×List V)},Ka m c v n els=some l->l.length=els.length∧∀i e,els[i]? =some e->∃s t r,e=V.i s::V.i t::r∧l[i]? =some ([V.i 4,V.i 0,V.i (c:Nat),V.i (m:Nat),V.i (v:Nat),V.i (n+i:Nat),V.i 0],[V.i s,V.i t])
 |[],n,l,h=>by simp only[Ka]at h;cases h;exact⟨rfl,fun i e h=>by simp at h⟩
 |e::els,n,l,h=>by
  unfold Ka at h;split at h
  ·rename_i he;cases he
  ·rename_i s t r l' he
   cases he;obtain⟨l2,h2,rfl⟩:=ae.1 h;obtain⟨h3,h4⟩:=WU h2;refine⟨by simp[h3],fun i e hi=> ?_⟩;cases i with
   |zero=>simp at hi;subst hi;exact⟨s,t,r,rfl,rfl⟩
   |succ i=>
    obtain⟨s',t',r',h5,h6⟩:=h4 i e (by simpa using hi);exact⟨s',t',r',h5,by rw[di,h6,show∀a:Nat,a+1+i=a+(i+1)from fun a=>by omega]⟩
  ·cases h
theorem WV:∀{els:List (List V)}{n:Nat}{l:List (List V×List V)},Ke n els=some l->l.length=els.length∧∀i e,els[i]? =some e->∃s t r,e=V.i s::V.i t::r∧l[i]? =some ([V.i 2,V.i 0,V.i (n+i:Nat),V.i 0,V.i 0,V.i 0,V.i 0],[V.i s,V.i t])
 |[],n,l,h=>by simp only[Ke]at h;cases h;exact⟨rfl,fun i e h=>by simp at h⟩
 |e::els,n,l,h=>by
  unfold Ke at h;split at h
  ·rename_i he;cases he
  ·rename_i s t r l' he
   cases he;obtain⟨l2,h2,rfl⟩:=ae.1 h;obtain⟨h3,h4⟩:=WV h2;refine⟨by simp[h3],fun i e hi=> ?_⟩;cases i with
   |zero=>simp at hi;subst hi;exact⟨s,t,r,rfl,rfl⟩
   |succ i=>
    obtain⟨s',t',r',h5,h6⟩:=h4 i e (by simpa using hi);exact⟨s',t',r',h5,by rw[di,h6,show∀a:Nat,a+1+i=a+(i+1)from fun a=>by omega]⟩
  ·cases h
theorem WW:∀{els:List (List V)}{n:Nat}{l:List (List V×List V)},Ma n els=some l->l.length=els.length∧∀i e,els[i]? =some e->∃s t r,e=V.i s::V.i t::r∧l[i]? =some ([V.i 5,V.i 0,V.i 0,V.i 0,V.i 0,V.i 0,V.i (n+i:Nat)],[V.i s,V.i t])
 |[],n,l,h=>by simp only[Ma]at h;cases h;exact⟨rfl,fun i e h=>by simp at h⟩
 |e::els,n,l,h=>by
  unfold Ma at h;split at h
  ·rename_i he;cases he
  ·rename_i s t r l' he
   cases he;obtain⟨l2,h2,rfl⟩:=ae.1 h;obtain⟨h3,h4⟩:=WW h2;refine⟨by simp[h3],fun i e hi=> ?_⟩;cases i with
   |zero=>simp at hi;subst hi;exact⟨s,t,r,rfl,rfl⟩
   |succ i=>
    obtain⟨s',t',r',h5,h6⟩:=h4 i e (by simpa using hi);exact⟨s',t',r',h5,by rw[di,h6,show∀a:Nat,a+1+i=a+(i+1)from fun a=>by omega]⟩
  ·cases h
theorem WX{m c:Nat}:∀{els:List (List V)}{n:Nat}{l:List (List V×List V)},Kb m c n els=some l->∃ls,l=List.flatten ls∧ls.length=els.length∧∀i e,els[i]? =some e->∃es x es' a,e=[es,x]∧mR 13 es=some es'∧Ka m c (n+i) 0 es'=some a∧ls[i]? =some a
 |[],n,l,h=>by simp only[Kb]at h;cases h;exact⟨[],rfl,rfl,fun i e h=>by simp at h⟩
 |e::els,n,l,h=>by
  unfold Kb at h;split at h
  ·rename_i he;cases he
  ·rename_i es x l' he
   cases he;obtain⟨es',h1,h⟩:=aj.1 h;obtain⟨a,h2,h⟩:=aj.1 h;obtain⟨l2,h3,rfl⟩:=ae.1 h;obtain⟨ls,rfl,h4,h5⟩:=WX h3;refine⟨a::ls,rfl,by simp[h4],fun i e hi=> ?_⟩;cases i with
   |zero=>simp at hi;subst hi;exact⟨es,x,es',a,rfl,h1,h2,rfl⟩
   |succ i=>
    obtain⟨es2,x2,g,a2,g1,g2,g3,g4⟩:=h5 i e (by simpa using hi);exact⟨es2,x2,g,a2,g1,g2,by rw[show∀a:Nat,a+(i+1)=a+1+i from fun a=>by omega];exact g3,by simpa using g4⟩
  ·cases h
theorem WY{m:Nat}:∀{els:List (List V)}{n:Nat}{l:List (List V×List V)},Kc m n els=some l->∃ls,l=List.flatten ls∧ls.length=els.length∧∀i e,els[i]? =some e->∃x vs vs' a,e=[x,vs]∧mR 2 vs=some vs'∧Kb m (n+i) 0 vs'=some a∧ls[i]? =some a
 |[],n,l,h=>by simp only[Kc]at h;cases h;exact⟨[],rfl,rfl,fun i e h=>by simp at h⟩
 |e::els,n,l,h=>by
  unfold Kc at h;split at h
  ·rename_i he;cases he
  ·rename_i x es l' he
   cases he;obtain⟨es',h1,h⟩:=aj.1 h;obtain⟨a,h2,h⟩:=aj.1 h;obtain⟨l2,h3,rfl⟩:=ae.1 h;obtain⟨ls,rfl,h4,h5⟩:=WY h3;refine⟨a::ls,rfl,by simp[h4],fun i e hi=> ?_⟩;cases i with
   |zero=>simp at hi;subst hi;exact⟨x,es,es',a,rfl,h1,h2,rfl⟩
   |succ i=>
    obtain⟨x2,es2,c,a2,g1,g2,g3,g4⟩:=h5 i e (by simpa using hi);exact⟨x2,es2,c,a2,g1,g2,by rw[show∀a:Nat,a+(i+1)=a+1+i from fun a=>by omega];exact g3,by simpa using g4⟩
  ·cases h
theorem WZ:∀{els:List (List V)}{n:Nat}{l:List (List V×List V)},L8 n els=some l->∃ls,l=List.flatten ls∧ls.length=els.length∧∀i e,els[i]? =some e->∃s t r cs cs' a,e=V.i s::V.i t::r∧e[21]? =some cs∧mR 2 cs=some cs'∧Kc (n+i) 0 cs'=some a∧ls[i]? =some (([V.i 3,V.i 0,V.i 0,V.i (n+i:Nat),V.i 0,V.i 0,V.i 0],[V.i s,V.i t])::a)
 |[],n,l,h=>by simp only[L8]at h;cases h;exact⟨[],rfl,rfl,fun i e h=>by simp at h⟩
 |e::els,n,l,h=>by
  unfold L8 at h;split at h
  ·rename_i he;cases he
  ·rename_i s t r l' he
   cases he;obtain⟨cs,h0,h⟩:=aj.1 h;obtain⟨es',h1,h⟩:=aj.1 h;obtain⟨a,h2,h⟩:=aj.1 h;obtain⟨l2,h3,rfl⟩:=ae.1 h;obtain⟨ls,rfl,h4,h5⟩:=WZ h3;refine⟨(_::a)::ls,rfl,by simp[h4],fun i e hi=> ?_⟩;cases i with
   |zero=>simp at hi;subst hi;exact⟨s,t,r,cs,es',a,rfl,by simpa using h0,h1,h2,rfl⟩
   |succ i=>
    obtain⟨s2,t2,r2,cs2,c,a2,g1,g2,g3,g4,g5⟩:=h5 i e (by simpa using hi);exact⟨s2,t2,r2,cs2,c,a2,g1,g2,g3,by rw[show∀a:Nat,a+(i+1)=a+1+i from fun a=>by omega];exact g4,by rw[show∀a:Nat,a+(i+1)=a+1+i from fun a=>by omega];simpa using g5⟩
  ·cases h
theorem W9:∀{els:List (List V)}{n st:Nat}{l:List (List V×List V)}{g:Nat->Nat},Kg n st els=some l->g 0=st->(∀i e ss ss',els[i]? =some e->e[5]? =some ss->mR 3 ss=some ss'->g (i+1)=g i+ss'.length)->
  ∃ls,l=List.flatten ls∧ls.length=els.length∧∀i e,els[i]? =some e->∃s t r ss ss' a,e=V.i s::V.i t::r∧e[5]? =some ss∧mR 3 ss=some ss'∧Ke (g i) ss'=some a∧ls[i]? =some (([V.i 1,V.i (n+i:Nat),V.i 0,V.i 0,V.i 0,V.i 0,V.i 0],[V.i s,V.i t])::a)
 |[],n,st,l,g,h,_,_=>by simp only[Kg]at h;cases h;exact⟨[],rfl,rfl,fun i e h=>by simp at h⟩
 |e::els,n,st,l,g,h,h0,hg=>by
  unfold Kg at h;split at h
  ·rename_i he;cases he
  ·rename_i s t x1 x2 x3 ss l' he
   cases he;obtain⟨es',h1,h⟩:=aj.1 h;obtain⟨a,h2,h⟩:=aj.1 h;obtain⟨l2,h3,rfl⟩:=ae.1 h;have hg0:=hg 0 _ ss es' rfl rfl h1;obtain⟨ls,rfl,h4,h5⟩:=W9 (g:=fun i=>g (i+1)) h3 (by rw[hg0,h0]) (fun i e ss ss' a b c=>hg (i+1) e ss ss' (by simpa using a) b c);refine⟨(_::a)::ls,rfl,by simp[h4],fun i e hi=> ?_⟩;cases i with
   |zero=>simp at hi;subst hi;exact⟨s,t,_,ss,es',a,rfl,rfl,h1,by rw[h0];exact h2,rfl⟩
   |succ i=>
    obtain⟨s2,t2,r2,cs2,j,a2,g1,g2,g3,g4,g5⟩:=h5 i e (by simpa using hi);exact⟨s2,t2,r2,cs2,j,a2,g1,g2,g3,g4,by rw[show∀a:Nat,a+(i+1)=a+1+i from fun a=>by omega];simpa using g5⟩
  ·cases h
def kid(w:World)(v:Value)(n t i:Nat):Value:=cellV w (lC v) (pU v+i*n+t)
theorem Et{w:World}{E:Env}{n:Nat}{els:List (List V)}{v:Value}(h:A8 w E n els v){i t:Nat}{e:List V}{u:V}(hi:els[i]? =some e)(ht:e[t]? =some u):
  lC v<w.heap.size∧w.cell? ⟨lC v,pU v+i*n+t,none⟩=some (kid w v n t i)∧VR u E.bare (kid w v n t i):=by
 obtain⟨h1,h2,h3⟩:=h.elt i e hi;obtain⟨x,hx,hr⟩:=h3 t u ht;have:kid w v n t i=x:=Lj hx;rw[this];exact⟨h1,hx,hr⟩
theorem Jc{w w':World}{E:Env}{n:Nat}{els:List (List V)}{v:Value}{b o:Nat}(hlt:b<w.heap.size+1)(hc:w'.cell? ⟨b,o,none⟩=some v)(h:A8 w E n els v):Dg w' (w.heap.size+1) b o (lenOf v) (lC v) (pU v):=by
 refine⟨by rw[h.len];exact h.bnd,hlt,?_⟩;obtain⟨A,cap,e,hA⟩:=h.form;refine⟨A,cap,?_,?_⟩
 ·rw[hc,h.len]
  exact eU some e
 ·rw[h.len]
  rcases hA with hA|⟨h1,h2⟩
  ·exact .inl hA
  ·exact .inr ⟨h1,by omega⟩
theorem leaf{w:World}{E:Env}{n:Nat}{els:List (List V)}{v:Value}(h:A8 w E n els v){i:Nat}{e r:List V}{s t:Int}(hi:els[i]? =some e)(he:e=V.i s::V.i t::r)(x:Vi)(hb:x.b=lC v)(ho:x.o=pU v+i*n):
  Dh w x=(s,t)∧sO w x:=by
 subst he;obtain⟨h1,h2,h3⟩:=Et h (t:=0) hi rfl;obtain⟨_,h4,h5⟩:=Et h (t:=1) hi rfl;simp only[VR]at h3 h5;rw[h3]at h2;rw[h5]at h4;have e1:cellV w x.b x.o= .int .i64 s:=by rw[hb,ho];exact Lj h2
 have e2:cellV w x.b (x.o+1)= .int .i64 t:=by rw[hb,ho];exact Lj h4
 have e3:Dh w x=(s,t):=by unfold Dh;rw[e1,e2];rfl
 refine⟨e3,by rw[hb];exact h1,?_,?_⟩
 ·rw[e3,hb,ho];exact h2
 ·rw[e3,hb,ho];exact h4
def Yl(w:World)(m c:Nat)(v:Value)(k e:Nat):Vi:=⟨4,0,c,m,k,e,0,lC v,pU v+e*13⟩
def stI(w:World)(g:Nat)(v:Value)(k:Nat):Vi:=⟨2,0,(g+k:Nat),0,0,0,0,lC v,pU v+k*3⟩
def spI(w:World)(v:Value)(k:Nat):Vi:=⟨5,0,0,0,0,0,k,lC v,pU v+k*7⟩
theorem apE{w:World}{E:Env}{m c k:Nat}{els:List (List V)}{v:Value}{a:List (List V×List V)}(h:A8 w E 13 els v)(hp:Ka m c k 0 els=some a):
  a=((List.range (lenOf v)).map (Yl w m c v k)).map (FT w)∧∀i,i<lenOf v->sO w (Yl w m c v k i):=by
 obtain⟨hl,hat⟩:=WU hp;have hg:∀i,i<lenOf v->sO w (Yl w m c v k i)∧a[i]? =some (FT w (Yl w m c v k i)):=by
  intro i hi;rw[h.len]at hi;obtain⟨s,t,r,he,ha⟩:=hat i _ (ak hi);obtain⟨h1,h2⟩:=leaf h (ak hi) he (Yl w m c v k i) rfl rfl;refine⟨h2,?_⟩;rw[ha];unfold FT;rw[h1,dV];rfl
 refine⟨?_,fun i hi=>(hg i hi).1⟩;rw[jy];exact ab0 (by rw[hl,h.len]) (fun i hi=>(hg i hi).2)
theorem apF{w:World}{E:Env}{g:Nat}{els:List (List V)}{v:Value}{a:List (List V×List V)}(h:A8 w E 3 els v)(hp:Ke g els=some a):
  a=((List.range (lenOf v)).map (stI w g v)).map (FT w)∧∀i,i<lenOf v->sO w (stI w g v i):=by
 obtain⟨hl,hat⟩:=WV hp;have hg:∀i,i<lenOf v->sO w (stI w g v i)∧a[i]? =some (FT w (stI w g v i)):=by
  intro i hi;rw[h.len]at hi;obtain⟨s,t,r,he,ha⟩:=hat i _ (ak hi);obtain⟨h1,h2⟩:=leaf h (ak hi) he (stI w g v i) rfl rfl;refine⟨h2,?_⟩;rw[ha];unfold FT;rw[h1];rfl
 refine⟨?_,fun i hi=>(hg i hi).1⟩;rw[jy];exact ab0 (by rw[hl,h.len]) (fun i hi=>(hg i hi).2)
theorem apG{w:World}{E:Env}{els:List (List V)}{v:Value}{a:List (List V×List V)}(h:A8 w E 7 els v)(hp:Ma 0 els=some a):
  a=((List.range (lenOf v)).map (spI w v)).map (FT w)∧∀i,i<lenOf v->sO w (spI w v i):=by
 obtain⟨hl,hat⟩:=WW hp;have hg:∀i,i<lenOf v->sO w (spI w v i)∧a[i]? =some (FT w (spI w v i)):=by
  intro i hi;rw[h.len]at hi;obtain⟨s,t,r,he,ha⟩:=hat i _ (ak hi);obtain⟨h1,h2⟩:=leaf h (ak hi) he (spI w v i) rfl rfl;refine⟨h2,?_⟩;rw[ha];unfold FT;rw[h1,dV];rfl
 refine⟨?_,fun i hi=>(hg i hi).1⟩;rw[jy];exact ab0 (by rw[hl,h.len]) (fun i hi=>(hg i hi).2)
theorem Qa{w:World}{n:Nat}{F:Nat->List Vi}{ls:List (List (List V×List V))}(h1:ls.length=n)(h2:∀i,i<n->ls[i]? =some ((F i).map (FT w))):ls.flatten=((List.range n).flatMap F).map (FT w):=by
 rw[apB h1 h2,List.map_flatMap]
def Kids(w:World)(v:Value)(n t m:Nat):Prop:=∀i,i<lenOf v->lC v<w.heap.size∧w.cell? ⟨lC v,pU v+i*n+t,none⟩=some (kid w v n t i)∧∃F els,A8 w F m els (kid w v n t i)
theorem apH{w:World}{E:Env}(hI:Ll E w){m c:Nat}{els:List (List V)}{v:Value}{a:List (List V×List V)}(h:A8 w E 2 els v)(hp:Kb m c 0 els=some a):
  a=((List.range (lenOf v)).flatMap fun k=>(List.range (lenOf (kid w v 2 0 k))).map (Yl w m c (kid w v 2 0 k) k)).map (FT w)∧Kids w v 2 0 13∧
   ∀k,k<lenOf v->∀i,i<lenOf (kid w v 2 0 k)->sO w (Yl w m c (kid w v 2 0 k) k i):=by
 obtain⟨ls,rfl,hl,hat⟩:=WX hp;have hg:∀k,k<lenOf v->ls[k]? =some (((List.range (lenOf (kid w v 2 0 k))).map (Yl w m c (kid w v 2 0 k) k)).map (FT w))∧(lC v<w.heap.size∧w.cell? ⟨lC v,pU v+k*2+0,none⟩=some (kid w v 2 0 k)∧∃F els,A8 w F 13 els (kid w v 2 0 k))∧
   ∀i,i<lenOf (kid w v 2 0 k)->sO w (Yl w m c (kid w v 2 0 k) k i):=by
  intro k hk;rw[h.len]at hk;obtain⟨es,x,es',a',he,h1,h2,h3⟩:=hat k _ (ak hk);obtain⟨g1,g2,g3⟩:=Et h (t:=0) (u:=es) (ak hk) (by rw[he];rfl);have hs:=H5 (E:=E.bare) hI h1 g3;rw[dV]at h2;obtain⟨rfl,h4⟩:=apE hs h2;exact⟨h3,⟨g1,g2,_,_,hs⟩,h4⟩
 exact⟨Qa (by rw[hl,h.len]) (fun i hi=>(hg i hi).1),fun i hi=>(hg i hi).2.1,fun i hi=>(hg i hi).2.2⟩
theorem apI{w:World}{E:Env}(hI:Ll E w){m:Nat}{els:List (List V)}{v:Value}{a:List (List V×List V)}(h:A8 w E 2 els v)(hp:Kc m 0 els=some a):
  a=((List.range (lenOf v)).flatMap fun c=>(List.range (lenOf (kid w v 2 1 c))).flatMap fun k=>(List.range (lenOf (kid w (kid w v 2 1 c) 2 0 k))).map (Yl w m c (kid w (kid w v 2 1 c) 2 0 k) k)).map (FT w)∧Kids w v 2 1 2∧
   ∀c,c<lenOf v->Kids w (kid w v 2 1 c) 2 0 13∧∀k,k<lenOf (kid w v 2 1 c)->∀i,i<lenOf (kid w (kid w v 2 1 c) 2 0 k)->sO w (Yl w m c (kid w (kid w v 2 1 c) 2 0 k) k i):=by
 obtain⟨ls,rfl,hl,hat⟩:=WY hp;have hg:∀c,c<lenOf v->ls[c]? =some (((List.range (lenOf (kid w v 2 1 c))).flatMap fun k=>(List.range (lenOf (kid w (kid w v 2 1 c) 2 0 k))).map (Yl w m c (kid w (kid w v 2 1 c) 2 0 k) k)).map (FT w))∧
   (lC v<w.heap.size∧w.cell? ⟨lC v,pU v+c*2+1,none⟩=some (kid w v 2 1 c)∧∃F els,A8 w F 2 els (kid w v 2 1 c))∧
   Kids w (kid w v 2 1 c) 2 0 13∧∀k,k<lenOf (kid w v 2 1 c)->∀i,i<lenOf (kid w (kid w v 2 1 c) 2 0 k)->sO w (Yl w m c (kid w (kid w v 2 1 c) 2 0 k) k i):=by
  intro c hc;rw[h.len]at hc;obtain⟨x,vs,vs',a',he,h1,h2,h3⟩:=hat c _ (ak hc);obtain⟨g1,g2,g3⟩:=Et h (t:=1) (u:=vs) (ak hc) (by rw[he];rfl);have hs:=H5 (E:=E.bare) hI h1 g3;rw[dV]at h2;obtain⟨rfl,h4,h5⟩:=apH (E:=E.bare) hI hs h2;exact⟨h3,⟨g1,g2,_,_,hs⟩,h4,h5⟩
 exact⟨Qa (by rw[hl,h.len]) (fun i hi=>(hg i hi).1),fun i hi=>(hg i hi).2.1,fun i hi=>(hg i hi).2.2⟩
def oU(w:World)(x y z:Value):Tree where
 nP:=lenOf x
 bP:=lC x
 oP:=pU x
 nS i:=lenOf (kid w x 6 5 i)
 bS i:=lC (kid w x 6 5 i)
 oS i:=pU (kid w x 6 5 i)
 nM:=lenOf y
 bM:=lC y
 oM:=pU y
 nC i:=lenOf (kid w y 22 21 i)
 bC i:=lC (kid w y 22 21 i)
 oC i:=pU (kid w y 22 21 i)
 nV i j:=lenOf (kid w (kid w y 22 21 i) 2 1 j)
 bV i j:=lC (kid w (kid w y 22 21 i) 2 1 j)
 oV i j:=pU (kid w (kid w y 22 21 i) 2 1 j)
 nE i j k:=lenOf (kid w (kid w (kid w y 22 21 i) 2 1 j) 2 0 k)
 bE i j k:=lC (kid w (kid w (kid w y 22 21 i) 2 1 j) 2 0 k)
 oE i j k:=pU (kid w (kid w (kid w y 22 21 i) 2 1 j) 2 0 k)
 nX:=lenOf z
 bX:=lC z
 oX:=pU z
theorem apJ{w:World}{E:Env}(hI:Ll E w){els:List (List V)}(x:Value){y:Value}(z:Value){a:List (List V×List V)}(h:A8 w E 22 els y)(hp:L8 0 els=some a):
  a=((oU w x y z).iM (lenOf y)).map (FT w)∧Kids w y 22 21 2∧∀m,m<lenOf y->sO w ((oU w x y z).me m)∧Kids w (kid w y 22 21 m) 2 1 2∧
   ∀c,c<lenOf (kid w y 22 21 m)->Kids w (kid w (kid w y 22 21 m) 2 1 c) 2 0 13∧∀k,k<lenOf (kid w (kid w y 22 21 m) 2 1 c)->∀i,i<lenOf (kid w (kid w (kid w y 22 21 m) 2 1 c) 2 0 k)->sO w ((oU w x y z).ev m c k i):=by
 obtain⟨ls,rfl,hl,hat⟩:=WZ hp;have hg:∀m,m<lenOf y->ls[m]? =some (((oU w x y z).me m::(oU w x y z).iC m (lenOf (kid w y 22 21 m))).map (FT w))∧
   (lC y<w.heap.size∧w.cell? ⟨lC y,pU y+m*22+21,none⟩=some (kid w y 22 21 m)∧∃F els,A8 w F 2 els (kid w y 22 21 m))∧
   sO w ((oU w x y z).me m)∧Kids w (kid w y 22 21 m) 2 1 2∧
   ∀c,c<lenOf (kid w y 22 21 m)->Kids w (kid w (kid w y 22 21 m) 2 1 c) 2 0 13∧∀k,k<lenOf (kid w (kid w y 22 21 m) 2 1 c)->∀i,i<lenOf (kid w (kid w (kid w y 22 21 m) 2 1 c) 2 0 k)->sO w ((oU w x y z).ev m c k i):=by
  intro m hm;rw[h.len]at hm;obtain⟨s,t,r,cs,cs',a',he,h0,h1,h2,h3⟩:=hat m _ (ak hm);obtain⟨g1,g2,g3⟩:=Et h (t:=21) (u:=cs) (ak hm) h0;obtain⟨f1,f2⟩:=leaf h (ak hm) he ((oU w x y z).me m) rfl rfl;have hs:=H5 (E:=E.bare) hI h1 g3;rw[dV]at h2 h3;obtain⟨rfl,h4,h5⟩:=apI (E:=E.bare) hI hs h2;refine⟨?_,⟨g1,g2,_,_,hs⟩,f2,h4,h5⟩;rw[h3,bO];unfold FT;rw[f1];rfl
 exact⟨Qa (by rw[hl,h.len]) (fun i hi=>(hg i hi).1),fun i hi=>(hg i hi).2.1,fun i hi=>(hg i hi).2.2⟩
theorem apK{w:World}{E:Env}(hI:Ll E w){els:List (List V)}{x:Value}(y z:Value){a:List (List V×List V)}(h:A8 w E 6 els x)(hp:Kg 0 0 els=some a):
  a=((oU w x y z).iP (lenOf x)).map (FT w)∧Kids w x 6 5 3∧∀m,m<lenOf x->sO w ((oU w x y z).pa m)∧∀k,k<lenOf (kid w x 6 5 m)->sO w ((oU w x y z).st m k):=by
 obtain⟨ls,rfl,hl,hat⟩:=W9 (g:=(oU w x y z).f0) hp rfl (fun i e ss ss' hi h5 hs=>by
  obtain⟨g1,g2,g3⟩:=Et h (t:=5) hi h5;show(oU w x y z).f0 i+lenOf (kid w x 6 5 i)=_;rw[(H5 (E:=E.bare) hI hs g3).len])
 have hg:∀m,m<lenOf x->ls[m]? =some (((oU w x y z).pa m::(oU w x y z).iS m (lenOf (kid w x 6 5 m))).map (FT w))∧
   (lC x<w.heap.size∧w.cell? ⟨lC x,pU x+m*6+5,none⟩=some (kid w x 6 5 m)∧∃F els,A8 w F 3 els (kid w x 6 5 m))∧
   sO w ((oU w x y z).pa m)∧∀k,k<lenOf (kid w x 6 5 m)->sO w ((oU w x y z).st m k):=by
  intro m hm;rw[h.len]at hm;obtain⟨s,t,r,ss,ss',a',he,h0,h1,h2,h3⟩:=hat m _ (ak hm);obtain⟨g1,g2,g3⟩:=Et h (t:=5) (u:=ss) (ak hm) h0;obtain⟨f1,f2⟩:=leaf h (ak hm) he ((oU w x y z).pa m) rfl rfl;have hs:=H5 (E:=E.bare) hI h1 g3;rw[dV]at h3;obtain⟨rfl,h4⟩:=apF hs h2;refine⟨?_,⟨g1,g2,_,_,hs⟩,f2,h4⟩;rw[h3,bO];unfold FT;rw[f1];rfl
 exact⟨Qa (by rw[hl,h.len]) (fun i hi=>(hg i hi).1),fun i hi=>(hg i hi).2.1,fun i hi=>(hg i hi).2.2⟩
theorem Xa{E:Env}{w:World}(hI:Ll E w){s:List V}{xs:List Value}(h:dY s E xs){l:List (List V×List V)}(hp:OW s=some l):
  ∃T v0 v1 v2 v3 v4 v5,xs=[v0,v1,v2,v3,v4,v5]∧l=(Tree.items T).map (FT w)∧(∀x∈T.items,sO w x)∧
   ∀w',Below w.heap.size w w'->w'.heap[w.heap.size]? =some (.cells #[v0,v1,v2,v3,v4,v5] 34 (0,0))->Lh T w' (w.heap.size+1) w.heap.size 0:=by
 unfold OW at hp;split at hp
 ·rename_i s0 s1 ps ms sp s5
  obtain⟨ps',p1,hp⟩:=aj.1 hp;obtain⟨r,p2,hp⟩:=aj.1 hp;obtain⟨sp',p3,hp⟩:=aj.1 hp;obtain⟨a,p4,hp⟩:=aj.1 hp;obtain⟨b,p5,hp⟩:=aj.1 hp;obtain⟨c,p6,rfl⟩:=ae.1 hp;simp only[dY]at h;obtain⟨v0,_,rfl,_,v1,_,rfl,_,x,_,rfl,hx,y,_,rfl,hy,z,_,rfl,hz,v5,_,rfl,_,rfl⟩:=h;have sx:=H5 hI p1 hx;have sy:=H5 hI p2 hy;have sz:=H5 hI p3 hz;obtain⟨rfl,kx,gx⟩:=apK hI y z sx p4;obtain⟨rfl,ky,g⟩:=apJ hI x z sy p5;obtain⟨rfl,gz⟩:=apG sz p6;refine⟨oU w x y z,v0,v1,x,y,z,v5,rfl,?_,?_,?_⟩
  ·rw[Tree.items,aR,aR,aC]
   rfl
  ·intro q hq
   simp only[Tree.items,Tree.iP,Tree.iM,Tree.iX,Tree.iS,Tree.iC,Tree.iV,Tree.iE,dx,mW,dQ,nU,ed]at hq;rcases hq with⟨i,hi,rfl|⟨k,hk,rfl⟩⟩|⟨m,hm,rfl|⟨c,hc,k,hk,e,he,rfl⟩⟩|⟨k,hk,rfl⟩
   ·exact(gx i hi).1
   ·exact(gx i hi).2 k hk
   ·exact(g m hm).1
   ·exact((g m hm).2.2 c hc).2 k hk e he
   ·exact gz k hk
  ·intro w' hb hS
   have up:∀{v:Value}{n t m i:Nat},Kids w v n t m->i<lenOf v->Dg w' (w.heap.size+1) (lC v) (pU v+i*n+t) (lenOf (kid w v n t i)) (lC (kid w v n t i)) (pU (kid w v n t i)):=by
    intro v n t m i hk hi;obtain⟨h1,h2,F,els,h3⟩:=hk i hi;exact Jc (by omega) ((hb.cell (p:=⟨lC v,pU v+i*n+t,none⟩) h1).trans h2) h3
   exact⟨Jc (by omega) (by simp[World.cell?,hS]) sx,fun i hi=>up kx hi,Jc (by omega) (by simp[World.cell?,hS]) sy,fun i hi=>up ky hi,
    fun i j hi hj=>up (g i hi).2.1 hj,fun i j k hi hj hk=>up ((g i hi).2.2 j hj).1 hk,Jc (by omega) (by simp[World.cell?,hS]) sz⟩
 ·cases hp
theorem ab1{id:Vi->Int×Int}{E:Env}:∀{xs:List Vi}{l:List Value},l.take (xs.length*2)=wm id xs->dF (xs.map fun x=>[V.i (id x).1,V.i (id x).2]) E 2 l
 |[],l,_=>by simp[dF]
 |x::t,l,h=>by
  have e:wm id (x::t)=[.int .i64 (id x).1,.int .i64 (id x).2]++wm id t:=rfl;rw[e]at h;have h5:l.take 2=[.int .i64 (id x).1,.int .i64 (id x).2]:=by
   have:=eU (List.take 2) h;rw[nQ,eH (by simp only[aS];omega)]at this;rw[this,gm (by simp)];exact aO (by simp)
  have h6:(l.drop 2).take (t.length*2)=wm id t:=by
   have:=eU (List.drop 2) h;rw[A9,show(x::t).length*2-2=t.length*2 by simp only[aS];omega]at this;rw[this];simp
  rw[bO];simp only[dF];refine⟨rfl,?_,ab1 h6⟩;rw[h5];simp[dY,VR]
theorem apL{s:List V}{l:List (List V×List V)}(hs:OW s=some l)(hl:l.length<=1000000){E:Env}{w:World}{M:List Mem}{L:Mem}{H:List Mem}(hM:eD E M w){xs:List Value}(hx:dY [.agg s] E xs):
  Calls Tryz.prog 114 xs.toArray w (Ht.Leaves E L H w (kK 2 (l.map Prod.snd),none)):=by
 simp only[dY,VR]at hx;obtain⟨x1,l1,rfl,⟨c,rfl,hc⟩,rfl⟩:=hx;obtain⟨T,v0,v1,v2,v3,v4,v5,he,rfl,hg,hok⟩:=Xa (eD.agy hM) hc hs;have hc':c= #[v0,v1,v2,v3,v4,v5]:=by
  apply Array.ext';rw[he]
 subst hc';rw[aG]at hl;have e1:(T.items.map (FT w)).map Prod.snd=T.items.map fun x=>[V.i (Dh w x).1,V.i (Dh w x).2]:=by
  rw[jy];rfl
 rw[e1];refine P8 (args:=[.agg #[v0,v1,v2,v3,v4,v5]]) (t:=47) (lo:=w.heap.size+1) (cells:=wm (Dh w) T.items) hM (Nat.le_succ _) ?_ ?_ (fun F l h=>ab1 (by rw[aG]at h;exact h))
 ·refine(callsIn_wide.1 (akp T (Dh w) v0 v1 v2 v3 v4 v5 w hok hg hl)).mono ?_
  rintro e w' ⟨v,he,h1,h2,h3⟩;exact⟨v,he,by rw[aG];exact h1,by rw[h2,kC],h3⟩
 ·rw[aV]
  intro e he;obtain⟨x,_,rfl⟩:=dQ.1 he;rfl
theorem Sm{w:World}{a b:Int}{v:V}:∀{xs:List Vi},uW a b (xs.map (FT w))=some v->∃p x r,xs=p++x::r∧Dh w x=(a,b)∧(∀y∈p,Dh w y≠(a,b))∧v= .eT [.agg (FT w x).1,.bool true]
 |[],h=>by simp[uW]at h
 |x::xs,h=>by
  rw[bO]at h;change ((Gh [V.i (Dh w x).1,V.i (Dh w x).2] a b).bind fun t=>if t then some (.eT [.agg (FT w x).1,.bool true])else uW a b (xs.map (FT w)))=some v at h;simp only[Gh,bG]at h;split at h
  ·rename_i hc
   cases h;simp only[aH,bN]at hc;exact⟨[],x,xs,rfl,Prod.ext hc.1 hc.2,by simp,rfl⟩
  ·rename_i hc
   obtain⟨p,y,r,rfl,h1,h2,h3⟩:=Sm h;refine⟨x::p,y,r,rfl,h1,fun z hz=> ?_,h3⟩;cases hz with
   |head=>exact fun hh=>hc (by rw[hh];simp)
   |tail _ hz=>exact h2 z hz
theorem apM{s:List V}{a b:Int}(ha:¬a=0){l:List (List V×List V)}(hs:OW s=some l){v:V}(hv:uW a b l=some v){E:Env}{w:World}{M:List Mem}{L:Mem}{H:List Mem}(hM:eD E M w){xs:List Value}(hx:dY [.agg s,.agg [V.i a,V.i b]] E xs):
  Calls Tryz.prog 247 xs.toArray w (Ht.Leaves E L H w (v,none)):=by
 simp only[dY,VR]at hx;obtain⟨x1,l1,rfl,⟨c,rfl,hc⟩,x2,l2,rfl,⟨c2,rfl,y1,l3,hc2,rfl,y2,l4,rfl,rfl,rfl⟩,rfl⟩:=hx;obtain⟨T,v0,v1,v2,v3,v4,v5,he,rfl,hg,hok⟩:=Xa (eD.agy hM) hc hs;have hc':c= #[v0,v1,v2,v3,v4,v5]:=by
  apply Array.ext';rw[he]
 subst hc';have hc2':c2= #[.int .i64 a,.int .i64 b]:=by
  apply Array.ext';rw[hc2]
 subst hc2';obtain⟨p,x,r,hit,h1,h2,rfl⟩:=Sm hv;refine Si (args:=[.agg #[v0,v1,v2,v3,v4,v5],.agg #[.int .i64 a,.int .i64 b]]) (x:= .tuple #[.agg (NU x),.bool true]) (callsIn_wide.1 (afl T (Dh w) a b ha v0 v1 v2 v3 v4 v5 w hok hg p x r hit h1 h2)) (fun lo w'=> ?_);show VR (.eT [.agg (FT w x).1,.bool true]) _ _;simp only[VR,dY,FT,NU];refine⟨_,rfl,_,_,rfl,⟨_,rfl,?_⟩,_,_,rfl,rfl,rfl⟩;exact⟨_,_,rfl,rfl,_,_,rfl,rfl,_,_,rfl,rfl,_,_,rfl,rfl,_,_,rfl,rfl,_,_,rfl,rfl,_,_,rfl,rfl,rfl⟩
end Go.Proofs.YtnahpjebkgbedaaGreat

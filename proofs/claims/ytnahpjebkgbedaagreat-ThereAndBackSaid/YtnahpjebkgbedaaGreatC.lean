/- Part of the proof of ThereAndBack: an abstract machine for the program, and what relates it to the model. No condition. -/
import Derived.Test.YtnahpjebkgbedaaGreatB
set_option linter.all false
set_option maxRecDepth 100000
set_option maxHeartbeats 16000000
namespace Go.Ht
open Go Go.RowKit
theorem uS{P:Program}{m:Mode}{ops:Array Oper}{n:Nat}:∀{l:List Oper}{site:Nat}{r:List bL×Nat},vQ P m ops n site l=some r->r.1.length=l.length
 |[],site,r,h=>by simp only[vQ,aA]at h;subst h;rfl
 |o::l,site,r,h=>by
  simp only[vQ,aj,ae]at h;obtain⟨a,_,c,hr,rfl⟩:=h;simp[uS hr]
theorem uG{P:Program}{m:Mode}{ops:Array Oper}{n:Nat}:∀{l:List Oper}{site:Nat}{r:List bL×Nat},vQ P m ops n site l=some r->0<site->
  site<=r.2∧∀{i:Nat}{o:Oper},l[i]? =some o->∃ao s,r.1[i]? =some ao∧0<s∧EK P m s ops n o=some ao
 |[],site,r,h,_=>by simp only[vQ,aA]at h;subst h;simp
 |o::l,site,r,h,u=>by
  simp only[vQ,aj,ae]at h;obtain⟨a,g,A,hr,rfl⟩:=h;have F:site<=(if a.op.site=0 then site else site+1):=by split<;>omega
  obtain⟨C,j⟩:=uG hr (by omega);refine⟨by simp only;omega,fun{i B}c=> ?_⟩;cases i with
  |zero=>simp only[dI,aA]at c;subst c;exact⟨a,site,rfl,u,g⟩
  |succ i=>simp only[di]at c⊢;exact j c
theorem Ve{P:Program}{m:Mode}{n:Nat}{ops:Array Oper}{w0:jT}{cf:fU}{H:List Mem}(F:iy P cf){Q:Exit->Act->World->Prop}:
  ∀(aEp:List bL)(k:Nat)(st c:St)(E:Env)(w:World)(a:Act),(∀i ao,aEp[i]? =some ao->∃o s,ops[k+i]? =some o∧0<s∧EK P m s ops n o=some ao)->
   iA cf H aEp st=some c->dR w0 E st.2 H w->fD E st.1 a n->(∀a' w' j,E.Le j->dR w0 j c.2 H w'->fD j c.1 a' n->Q .normal a' w')->
   wpOps P ops Q (List.range' k aEp.length) a w
 |[],k,st,c,E,w,a,_,g,u,hF,A=>by
  simp only[iA,aA]at g;subst g;simp only[ek,List.range'_zero,wpOps];exact A a w E (.refl _) u hF
 |ao::aEp,k,st,c,E,w,a,hc,g,u,hF,A=>by
  simp only[iA,aj]at g;obtain⟨DZ,T,R⟩:=g;obtain⟨o,s,ho,hs,W⟩:=hc 0 ao rfl;simp only[nR]at ho;rw[aS,List.range'_succ];simp only[wpOps,ho];obtain⟨fr,L⟩:=st;obtain⟨N,X⟩:=DZ;refine JR F W hs T u hF ?_;intro a' w' j r I B;refine Ve (m:=m) F aEp (k+1) (N,X) c j w' a' ?_ R I B (fun a2 J Z Y=>A a2 J Z (r.trans Y));intro i C8 O;obtain⟨K,s',U,l,C⟩:=hc (i+1) C8 (by simpa using O);exact⟨K,s',by rw[<-U];congr 1;omega,l,C⟩
theorem QS{w0:jT}{E:Env}{L:Mem}{H:List Mem}{w:World}(h:dR w0 E L H w)(k:Nat):dR w0 E (bu L (.o k) ⟨(ax L (.o k)).ver+1,0,[],false⟩) H w:=by
 refine h.keep h.below (h.mem.change fun d s' o ho=> ?_) (fun _ _ _ x=> .inl x) (Nat.le_succ _) (fun o _ ho _ e=>by cases e) (fun _ _ _ _ x=>x) (fun _ _ x=> .inl x) (fun _ _=>rfl);cases d with
 |succ d=>rfl
 |zero=>
  simp only[df,ay]at ho⊢;split at ho
  ·rename_i e;subst e
   rw[h.fresh _ (p9 _)]at ho;cases ho
  ·rename_i e;rw[aP e]
def acW(ks:List Ix):Prop:=∀s∈ks,∃k,s= .o k
theorem QT{w0:jT}{E:Env}{H:List Mem}{w:World}:∀(c:List Ix){L:Mem},acW c->dR w0 E L H w->dR w0 E (iZ c L) H w
 |[],_,_,h=>h
 |s::c,L,ho,h=>by
  obtain⟨k,rfl⟩:=ho s (by simp);exact QT c (fun s hs=>ho s (by simp[hs])) (QS h k)
theorem y8(f:Edge->Nat)(p:Edge->Prop)[DecidablePred p](j:Nat):∀(l:List Edge)(m:Nat),
  (l.foldl (fun m e=>if p e then m|||2^e.on|||f e else m) m).testBit j=true->m.testBit j=true∨∃e∈l,p e∧(e.on=j∨(f e).testBit j=true)
 |[],m,h=> .inl h
 |e::l,m,h=>by
  rw[jG]at h;rcases y8 f p j l _ h with h|⟨r,g,c⟩
  ·split at h
   ·rename_i hp
    rw[Nat.testBit_or,Nat.testBit_or,fI,fI]at h;rcases h with(h|h)|h
    ·exact .inl h
    ·rw[Nat.testBit_two_pow,bN]at h
     exact .inr ⟨e,by simp,hp,.inl h⟩
    ·exact .inr ⟨e,by simp,hp,.inr h⟩
   ·exact .inl h
  ·exact .inr ⟨r,by simp[g],c⟩
def xw(ops:List Oper)(S:Nat->Prop):Prop:=∀i o,ops[i]? =some o->S i->∀e∈o.after,Region.binds .any e=true->S e.on
def Pre(ops:List Oper)(S:Nat->Prop)(i:Nat):Prop:=∀o,ops[i]? =some o->∀e∈o.after,Region.binds .any e=true->S e.on
theorem xw.pre{ops:List Oper}{S:Nat->Prop}(hS:xw ops S){i:Nat}(h:S i):Pre ops S i:=fun o ho=>hS i o ho h
theorem OA{ops:List Oper}{S:Nat->Prop}(hS:xw ops S){ms:List Nat}{i:Nat}{o:Oper}(ho:ops[i]? =some o)(B:∀j m,ms.reverse[j]? =some m->∀b,m.testBit b=true->Pre ops S j->S b)
  (u:Pre ops S i):∀b,(Od ms o).testBit b=true->S b:=by
 intro b r;unfold Od at r;rcases y8 (fun e=>ms.reverse.getD e.on 0) (fun e=>Region.binds .any e=true∧e.on<ms.length) b o.after.toList 0 r with h|⟨e,A,⟨C,l⟩,h⟩
 ·simp at h
 ·have c:=u o ho e (by simpa using A) C
  rcases h with h|h
  ·rw[<-h];exact c
  ·have g:e.on<ms.reverse.length:=by simpa using l
   rw[fA,ak g,dU]at h;exact B e.on _ (ak g) b h (hS.pre c)
theorem BJ{ops:List Oper}{S:Nat->Prop}(hS:xw ops S):∀(l:List Oper)(ms:List Nat),(∀i,l[i]? =ops[ms.length+i]?)->
  (∀j m,ms.reverse[j]? =some m->∀b,m.testBit b=true->Pre ops S j->S b)->∀j m,(mQ ms l)[j]? =some m->∀b,m.testBit b=true->Pre ops S j->S b
 |[],ms,_,B,j,m,r=>by simp only[mQ]at r;exact B j m r
 |o::l,ms,hl,B,j,m,r=>by
  simp only[mQ]at r;have ho:ops[ms.length]? =some o:=by have:=hl 0;simpa using this.symm
  refine BJ hS l (Od ms o::ms) ?_ ?_ j m r
  ·intro i
   have:=hl (i+1);simp only[di]at this;rw[this];congr 1;simp only[aS];omega
  ·intro A J c b I u
   rw[List.reverse_cons]at c;by_cases g:A<ms.reverse.length
   ·rw[jW g]at c
    exact B A J c b I u
   ·rw[jb (by omega)]at c
    have F:A-ms.reverse.length=0:=by
     have:=(au.1 c).1;simp at this⊢;omega
    rw[F]at c;simp only[dI,aA]at c;subst c;have C:A=ms.length:=by simp at F g;omega
    subst C;exact OA hS ho B u b I
theorem mF{n:Nat}{p:Nat->Bool}(h:vS n p=true){i:Nat}(c:i<n):p i=true:=by
 unfold vS at h;rw[aV]at h;exact h i (by simpa using c)
theorem BK:∀{l:List Oper}{k:Nat},Jm k l=true->∀{i:Nat}{o:Oper},l[i]? =some o->∀e∈o.after,Region.binds .any e=true->e.on<k+i
 |[],_,_,i,o,h=>by simp at h
 |p::l,k,g,i,o,h=>by
  simp only[Jm,aH]at g;cases i with
  |zero=>
   simp only[dI,aA]at h;subst h;intro e c j;have:=aV.1 g.1 e (by simpa using c);simpa[j]using this
  |succ i=>
   simp only[di]at h;intro e c j;have:=BK g.2 h e c j;omega
theorem BL:∀{l:List bL}{i:Nat}{ao:bL},l[i]? =some ao->ao.op.site≠0->ao.op.site∈qL l
 |[],i,ao,h,_=>by simp at h
 |p::l,i,ao,h,c=>by
  unfold qL;cases i with
  |zero=>
   simp only[dI,aA]at h;subst h;rw[aP c];simp
  |succ i=>
   simp only[di]at h;have:=BL h c;split
   ·exact this
   ·simp[this]
theorem G5(s:Ix):∀(c:List Ix)(L:Mem),(ax L s).ver<=(ax (iZ c L) s).ver
 |[],L=>aJ _
 |k::c,L=>by
  refine eO ?_ (G5 s c _);rw[ay];split
  ·rename_i e;subst e;simp
  ·exact aJ _
theorem G6{w0:jT}{E:Env}{H:List Mem}{w:World}:∀(c:List Ix){L:Mem},acW c->dR w0 E L H w->∀s∈c,∀v o,E.own 0 s v=some o->v<(ax (iZ c L) s).ver
 |[],_,_,_,s,hs,_,_,_=>by cases hs
 |k::c,L,g,h,s,hs,v,o,ho=>by
  simp only[iZ];rcases ed.1 hs with rfl|E8
  ·have l:=(h.bnd s v o ho).1
   have j:=G5 s c (bu L s ⟨(ax L s).ver+1,0,[],false⟩);rw[ay,aX rfl]at j;simp only at j;omega
  ·obtain⟨q,rfl⟩:=g k (by simp)
   exact G6 c (fun s hs=>g s (by simp[hs])) (QS h q) s E8 v o ho
theorem yB:∀(l:List bL),acW (qL l)
 |[]=>fun s hs=>by cases hs
 |o::l=>by
  intro s hs;unfold qL at hs;split at hs
  ·exact yB l s hs
  ·rcases ed.1 hs with rfl|hs
   ·cases ho:o.op<;>simp only[gJ.site]<;>first|exact⟨_,rfl⟩|exact⟨0,rfl⟩
   ·exact yB l s hs
theorem Y3{cf:fU}{H:List Mem}:∀{aEp:List bL}{st c:St},iA cf H aEp st=some c->
  ∃S:Nat->St,S 0=st∧S aEp.length=c∧∀i ao,aEp[i]? =some ao->cO cf H ao (S i)=some (S (i+1))
 |[],st,c,h=>by
  simp only[iA,aA]at h;subst h;exact⟨fun _=>st,rfl,rfl,by simp⟩
 |ao::aEp,st,c,h=>by
  simp only[iA,aj]at h;obtain⟨C,l,j⟩:=h;obtain⟨S,A,u,r⟩:=Y3 j;refine⟨fun i=>match i with|0=>st|i+1=>S i,rfl,u,fun i B g=> ?_⟩;cases i with
  |zero=>simp only[dI,aA]at g;subst g;simp only[A];exact l
  |succ i=>simp only[di]at g;exact r i B g
theorem Y4{a:Act}{d:Nat}{x:Value}(h:d<a.tmps.size):(a.put (some d) x).tmps.getD d undef=x:=by
 simp[Act.put,dO,h]
theorem Nc{a:Act}{dst:Option Nat}{x:Value}{t:Nat}(h:dst≠some t):(a.put dst x).tmps.getD t undef=a.tmps.getD t undef:=by
 cases dst with
 |none=>rfl
 |some d=>
  have:d≠t:=fun e=>h (by rw[e]);simp[Act.put,dO,this]
section draw
variable{P:Program}{m:Mode}{n:Nat}{ops:Array Oper}{aEp:List bL}{w0:jT}{cf:fU}{H:List Mem}{S:Nat->St}{k:Nat}{ms:List Nat}
structure y9(P:Program)(m:Mode)(n:Nat)(ops:Array Oper)(aEp:List bL)(cf:fU)(H:List Mem)(S:Nat->St)(k:Nat)(ms:List Nat):Prop where
 len:aEp.length=ops.size
 kn:k<=ops.size
 comp:∀(i:Nat)(ao:bL),aEp[i]? =some ao->∃o s,ops[i]? =some o∧0<s∧EK P m s ops n o=some ao
 ev:∀(i:Nat)(ao:bL),aEp[i]? =some ao->cO cf H ao (S i)=some (S (i+1))
 back:∀(i:Nat)(o:Oper),ops[i]? =some o->∀e∈o.after,Region.binds .any e=true->e.on<i
 mask:∀T:Nat->Prop,xw ops.toList T->∀i j:Nat,i<ops.size->(ms.getD i 0).testBit j=true->Pre ops.toList T i->T j
 tail:∀i j:Nat,k<=j->j<ops.size->i<j->(ms.getD j 0).testBit i=true
 still:∀(i:Nat)(ao:bL),i<k->aEp[i]? =some ao->ao.op.mY=false
 alA:∀(i:Nat)(ao:bL),i<k->aEp[i]? =some ao->ao.op.DT=true
 pair:∀(i j:Nat)(x y:bL),i<k->j<k->aEp[i]? =some x->aEp[j]? =some y->Jl ms i j x y=true
variable(D:y9 P m n ops aEp cf H S k ms)
include D
theorem y9.slot{i:Nat}{ao:bL}(j:aEp[i]? =some ao){t:Nat}(h:ao.dst≠some t):ag (S (i+1)).1 t=ag (S i).1 t:=by
 have c:=D.ev i ao j;unfold cO at c;obtain⟨b,_,c⟩:=aj.1 c;have g:∀v,ag (gW (S i).1 ao.dst v) t=ag (S i).1 t:=by
  intro v;cases hd:ao.dst with
  |none=>rfl
  |some d=>
   simp only[gW,qJ];rw[aP (fun e=>h (by rw[hd,e]))]
 split at c
 ·obtain⟨r,_,hr⟩:=ae.1 c
  rw[<-hr];exact g _
 ·simp only[aA]at c;rw[<-c];exact g _
theorem y9.row{i:Nat}{ao:bL}(g:aEp[i]? =some ao)(j:i<k)(s:Ix):ax (S (i+1)).2 s=ax (S i).2 s∨(s=ao.op.site∧s≠0∧(ax (S (i+1)).2 s).ver=(ax (S i).2 s).ver+1):=by
 have c:=D.ev i ao g;unfold cO at c;obtain⟨b,_,c⟩:=aj.1 c;split at c
 ·obtain⟨⟨v,L'⟩,l,hr⟩:=ae.1 c
  rw[<-hr];by_cases u:ao.op.site=0
  ·rw[GZ (D.still i ao j g) (D.alA i ao j g) l u];exact .inl rfl
  ·rcases TB (D.still i ao j g) l s with h|⟨r,A⟩
   ·exact .inl h
   ·exact .inr ⟨r,by rw[r];exact u,A⟩
 ·simp only[aA]at c;rw[<-c];exact .inl rfl
theorem y9.Xp{i:Nat}:i<=k->(S i).2.D=(S 0).2.D∧(S i).2.b=(S 0).2.b:=by
 induction i with
 |zero=>intro _;exact⟨rfl,rfl⟩
 |succ i l=>
  intro F;have A:=D.kn;have g:=D.len;obtain⟨ao,j⟩:∃ao,aEp[i]? =some ao:=⟨_,ak (by omega)⟩
  have hs:=l (by omega);have c:=D.ev i ao j;unfold cO at c;obtain⟨b,_,c⟩:=aj.1 c;split at c
  ·obtain⟨⟨v,L'⟩,u,hr⟩:=ae.1 c
   rw[<-hr];rcases xZ (D.still i ao (by omega) j) u with⟨h,_⟩|⟨q,r,C,B,_⟩
   ·rw[h];exact hs
   ·rw[B,C];exact hs
  ·simp only[aA]at c;rw[<-c];exact hs
theorem y9.apart{i j:Nat}{x y:bL}(r:i<k)(l:j<k)(hx:aEp[i]? =some x)(g:aEp[j]? =some y)(A:i≠j):
  (∀d,y.dst=some d->x.dst≠some d)∧(y.op.site≠0->x.op.site≠y.op.site):=by
 have:=D.pair i j x y r l hx g;unfold Jl at this;rw[aP A,aH]at this;constructor
 ·intro d hd
  rw[hd]at this;simp only[aH,bne_iff_ne,ne_eq]at this;exact this.1.2
 ·intro u
  have c:=this.2;simp only[fI,AP,bne_iff_ne,ne_eq]at c;exact c.resolve_left u
theorem y9.reads{i j:Nat}{x y:bL}(l:i<k)(g:j<k)(hx:aEp[i]? =some x)(c:aEp[j]? =some y)(r:i≠j){t:Nat}(hd:y.dst=some t)(hr:t∈x.reads):
  (j<i∧(ms.getD i 0).testBit j=true)∨(i<j∧(ms.getD j 0).testBit i=true):=by
 have:=D.pair i j x y l g hx c;unfold Jl at this;rw[aP r,aH,hd]at this;simp only[aH,fI,ry]at this;have h1:=this.1.1;rcases h1 with h1|h1
 ·have:x.reads.contains t=true:=by simpa using hr
  rw[this]at h1;cases h1
 ·split at h1
  ·exact .inl ⟨‹_›,h1⟩
  ·exact .inr ⟨by omega,h1⟩
theorem y9.yc{t:Nat}{i:Nat}:∀{j:Nat},i<=j->j<=aEp.length->(∀m ao,i<=m->m<j->aEp[m]? =some ao->ao.dst≠some t)->ag (S j).1 t=ag (S i).1 t
 |0,h,_,_=>by
  have:i=0:=by omega
  subst this;rfl
 |j+1,h,hl,c=>by
  by_cases e:i=j+1
  ·subst e;rfl
  ·obtain⟨ao,g⟩:∃ao,aEp[j]? =some ao:=⟨_,ak (by omega)⟩
   rw[D.slot g (c j ao (by omega) (by omega) g)];exact y9.yc (by omega) (by omega) (fun m r l u=>c m r l (by omega))
theorem y9.rows{s:Ix}{i:Nat}:∀{j:Nat},i<=j->j<=k->(s≠0->∀m ao,i<=m->m<j->aEp[m]? =some ao->ao.op.site≠s)->ax (S j).2 s=ax (S i).2 s
 |0,h,_,_=>by
  have:i=0:=by omega
  subst this;rfl
 |j+1,h,hl,c=>by
  by_cases e:i=j+1
  ·subst e;rfl
  ·have:=D.kn
   have:=D.len;obtain⟨ao,r⟩:∃ao,aEp[j]? =some ao:=⟨_,ak (by omega)⟩
   have u:=y9.rows (s:=s) (i:=i) (j:=j) (by omega) (by omega) (fun l m A g B=>c l m A g (by omega));rcases D.row r (by omega) s with g|⟨g,l,_⟩
   ·rw[g,u]
   ·exact absurd g.symm (c l j ao (by omega) (by omega) r)
structure Head(P:Program)(n:Nat)(ops:Array Oper)(aEp:List bL)(w0:jT)(H:List Mem)(S:Nat->St)(k:Nat)(E:Env)(w:World)(a:Act)(T:Nat->Prop):Prop where
 closed:xw ops.toList T
 below:kr w0.G w0.w.heap.size w0.w w
 mem:eD E ((S k).2::H) w
 wr:∀n o,(S 0).2.b<=n->(eP (S 0).2.D n).fz=false->E.own 0 (.g n) (eP (S 0).2.D n).ver=some o->w0.w.heap.size<=o.blk∨w0.G o.blk
 Ez:∀n,(eP (S 0).2.D n).els.all (fun e=>e.all V.qW)=true
 BC:∀n,E.own 0 (.g n) 0=none
 keys:∀s v o,E.own 0 s v=some o->(∀n,s= .o n->w0.w.heap.size<=o.blk)∧
  (((∃j ao,j<k∧aEp[j]? =some ao∧ao.op.site=s∧s≠0)->v<(ax (S 0).2 s).ver∨(∃j ao,j<k∧T j∧aEp[j]? =some ao∧ao.op.site=s∧v=(ax (S (j+1)).2 s).ver))∧
   ((¬∃j ao,j<k∧aEp[j]? =some ao∧ao.op.site=s∧s≠0)->v<=(ax (S 0).2 s).ver))
 out:∀d s v o,E.own (d+1) s v=some o->w0.E.own (d+1) s v=some o
 new:∀b cs,E.iY b=some cs->w0.E.iY b=some cs∨w0.w.heap.size<=b∨w0.G b
 size:n<=a.tmps.size
 defers:a.defers=[]
 done:∀j ao t,j<k->T j->aEp[j]? =some ao->ao.dst=some t->VR (ag (S (j+1)).1 t) E (a.tmps.getD t undef)
 open_:∀t,(∀j ao,j<k->T j->aEp[j]? =some ao->ao.dst≠some t)->VR (ag (S 0).1 t) E (a.tmps.getD t undef)
theorem Head.agW{E:Env}{w:World}{a:Act}{T:Nat->Prop}(h:Head P n ops aEp w0 H S k E w a T){i:Nat}{x:bL}(X:i<k)(hx:aEp[i]? =some x)(R:¬T i)
  (Z:∀j,(ms.getD i 0).testBit j=true->T j):∀t∈x.reads,VR (ag (S i).1 t) E (a.tmps.getD t undef):=by
 intro t U;have W:=D.kn;have N:=D.len;have at_:∀{m:Nat},m<k->∃ao,aEp[m]? =some ao:=fun h=>⟨_,ak (by omega)⟩
 by_cases u:∃j y,j<k∧j≠i∧aEp[j]? =some y∧y.dst=some t
 ·obtain⟨j,y,C,Y,r,hd⟩:=u
  have c:∀m ao,m<k->m≠j->aEp[m]? =some ao->ao.dst≠some t:=fun m ao hm A g=>(D.apart hm C g r A).1 t hd;rcases D.reads X C hx r (Ne.symm Y) hd U with⟨B,F⟩|⟨B,F⟩
  ·have J:=Z j F
   rw[D.yc (i:=j+1) (j:=i) (by omega) (by omega) (fun m ao Q O g=>c m ao (by omega) (by omega) g)];exact h.done j y t C J r hd
  ·have I:¬T j:=fun J=>R (D.mask T h.closed j i (by omega) F (h.closed.pre J))
   rw[D.yc (i:=0) (j:=i) (by omega) (by omega) (fun m ao Q O g=>c m ao (by omega) (by omega) g)];refine h.open_ t fun m ao hm l g=> ?_;by_cases e:m=j
   ·subst e;exact absurd l I
   ·exact c m ao hm e g
 ·rw[D.yc (i:=0) (j:=i) (by omega) (by omega) (fun m ao Q O g K=>u ⟨m,ao,by omega,by omega,g,K⟩)]
  refine h.open_ t fun m ao hm l g K=> ?_;by_cases e:m=i
  ·subst e;exact R l
  ·exact u ⟨m,ao,hm,e,g,K⟩
theorem Head.frame{E B:Env}{w:World}{a:Act}{T:Nat->Prop}(h:Head P n ops aEp w0 H S k E w a T){i:Nat}{ao:bL}(F:i<k)(hx:aEp[i]? =some ao)(u:E.Le B)
  (hd:ao.dst.all (·<n)=true){x:Value}(I:∀t,ao.dst=some t->VR (ag (S (i+1)).1 t) B x):
  n<=(a.put ao.dst x).tmps.size∧(a.put ao.dst x).defers=[]∧
  (∀j g t,j<k->(T j∨j=i)->aEp[j]? =some g->g.dst=some t->VR (ag (S (j+1)).1 t) B ((a.put ao.dst x).tmps.getD t undef))∧
  (∀t,(∀j g,j<k->(T j∨j=i)->aEp[j]? =some g->g.dst≠some t)->VR (ag (S 0).1 t) B ((a.put ao.dst x).tmps.getD t undef)):=by
 refine⟨?_,?_,?_,?_⟩
 ·have:=h.size
  cases ao.dst<;>simpa[Act.put]using this
 ·have:=h.defers
  cases ao.dst<;>simpa[Act.put]using this
 ·intro j g t A C l c
  by_cases e:j=i
  ·subst e
   rw[hx]at l;cases l;have J:t<n:=by simpa[c]using hd
   rw[c,Y4 (by have:=h.size;omega)];exact I t c
  ·have:=(D.apart F A hx l (Ne.symm e)).1 t c
   rw[Nc this];exact VR.mono u _ _ (h.done j g t A (C.resolve_right e) l c)
 ·intro t r
  rw[Nc (r i ao F (.inr rfl) hx)];exact VR.mono u _ _ (h.open_ t fun j g A C l=>r j g A (.inl C) l)
theorem Head.step{E:Env}{w:World}{a:Act}{T:Nat->Prop}(yA:iy P cf)(h:Head P n ops aEp w0 H S k E w a T){i:Nat}(U:i<k)(Sv:¬T i)
  (D5:∀o,ops[i]? =some o->∀e∈o.after,Region.binds .any e=true->T e.on){K:Act->World->Prop}{Q:Exit->Act->World->Prop}
  (hK:∀a' w' O,E.Le O->Head P n ops aEp w0 H S k O w' a' (fun j=>T j∨j=i)->K a' w'):wpOp P ops Q i K a w:=by
 have hkn:=D.kn;have hlen:=D.len;obtain⟨ao,hx⟩:∃ao,aEp[i]? =some ao:=⟨_,ak (by omega)⟩
 obtain⟨o,site,ho,hs,Y2⟩:=D.comp i ao hx;obtain⟨hop,BI,hd,hg⟩:=zS Y2;have R:Pre ops.toList T i:=fun c l=>D5 c (by simpa using l);have E9:xw ops.toList (fun j=>T j∨j=i):=by
  intro j c r J e B W;rcases J with J|rfl
  ·exact .inl (h.closed j c r J e B W)
  ·exact .inl (R c r e B W)
 have JS:∀j,(ms.getD i 0).testBit j=true->T j:=fun j W=>D.mask T h.closed i j (by omega) W R;have Dn:=h.agW D U hx Sv JS;have B:=D.ev i ao hx;unfold cO at B;obtain⟨b,W,B⟩:=aj.1 B;unfold wpOp;rw[ho];simp only;rw[DY (P:=P) hg (fun d w hgd=>Dn d (by simp[bL.reads,hgd])) W];have F:∀j y,j<k->aEp[j]? =some y->y.op.site=ao.op.site->ao.op.site≠0->j=i:=by
  intro j y r C hs A;by_cases e:j=i
  ·exact e
  ·exact absurd hs ((D.apart r U C hx e).2 A)
 cases b with
 |false=>
  simp only[bq,bZ,aA]at B⊢;rw[<-BI];obtain⟨f1,f2,f3,f4⟩:=h.frame D U hx (.refl E) (by rw[BI];exact hd) (x:=undef) (fun t Z=>by
   rw[<-B];simp only[Z,gW,qJ,bK];exact Na E)
  refine hK _ w E (.refl _) ⟨E9,h.below,h.mem,h.wr,h.Ez,h.BC,fun s v c l=> ?_,h.out,h.new,f1,f2,f3,f4⟩;obtain⟨k1,Y,k3⟩:=h.keys s v c l;refine⟨k1,fun hk=> ?_,k3⟩;rcases Y hk with h1|⟨j,y,r,J,I⟩
  ·exact .inl h1
  ·exact .inr ⟨j,y,r,.inl J,I⟩
 |true=>
  simp only[bK]at B⊢;refine .inl ?_;obtain⟨⟨v,L1⟩,lM,B⟩:=ae.1 B;have hmu:=D.still i ao U hx;have hL1:(S (i+1)).2=L1:=by rw[<-B]
  have alB:∀t,ao.dst=some t->ag (S (i+1)).1 t=v:=by
   intro t Z;rw[<-B];simp only[Z,gW,qJ,bK]
  have QU:ao.op.site≠0->ax (S i).2 ao.op.site=ax (S 0).2 ao.op.site:=fun A=>
   D.rows (i:=0) (j:=i) (by omega) (by omega) (fun _ m y h1 u C e=>by
    have:=F m y (by omega) C e A;omega)
  have QV:ao.op.site≠0->ax (S k).2 ao.op.site=ax (S (i+1)).2 ao.op.site:=fun A=>
   D.rows (i:=i+1) (j:=k) (by omega) (by omega) (fun _ m y h1 u C e=>by
    have:=F m y (by omega) C e A;omega)
  have BF:ao.op.site≠0->(ax (S i).2 ao.op.site).ver<(ax L1 ao.op.site).ver->E.own 0 ao.op.site (ax L1 ao.op.site).ver=none:=by
   intro A hlt;cases l:E.own 0 ao.op.site (ax L1 ao.op.site).ver with
   |none=>rfl
   |some c=>
    obtain⟨_,Y,_⟩:=h.keys _ _ _ l;rw[QU A]at hlt;rcases Y ⟨i,ao,U,hx,rfl,A⟩with h1|⟨j,y,r,J,C,Oq,_⟩
    ·omega
    ·have:=F j y r C Oq A
     subst this;exact absurd J Sv
  have hL:eD E ((S i).2::H) w:=by
   refine h.mem.change fun d s c l=> ?_;cases d with
   |succ d=>rfl
   |zero=>
    simp only[df]at l⊢;by_cases hw:∃j y,i<=j∧j<k∧aEp[j]? =some y∧y.op.site=s∧s≠0
    ·obtain⟨j,y,hij,r,C,Oq,EW⟩:=hw
     obtain⟨_,Y,_⟩:=h.keys _ _ _ l;have G7:∀m z,m<k->aEp[m]? =some z->z.op.site=s->m=j:=by
      intro m z DV N hzs;by_cases e:m=j
      ·exact e
      ·exact absurd (hzs.trans Oq.symm) ((D.apart DV r N C e).2 (by rw[Oq];exact EW))
     have hb4:ax (S i).2 s=ax (S 0).2 s:=D.rows (i:=0) (j:=i) (by omega) (by omega) (fun _ m z h1 u N e=>by
      have:=G7 m z (by omega) N e;omega)
     have hb5:ax (S k).2 s=ax (S (j+1)).2 s:=D.rows (i:=j+1) (j:=k) (by omega) (by omega) (fun _ m z h1 u N e=>by
      have:=G7 m z (by omega) N e;omega)
     have hb6:ax (S j).2 s=ax (S 0).2 s:=D.rows (i:=0) (j:=j) (by omega) (by omega) (fun _ m z h1 u N e=>by
      have:=G7 m z (by omega) N e;omega)
     rcases Y ⟨j,y,r,C,Oq,EW⟩with h1|⟨j',y',hj',J,MN,agY,kH⟩
     ·rw[hb4]at h1;omega
     ·have:=G7 j' y' hj' MN agY
      subst this;rcases D.row C r s with u|⟨_,_,u⟩
      ·rw[hb4,hb5,u,hb6]
      ·rw[hb4]at kH
       rw[hb6]at u;omega
    ·exact(D.rows (i:=i) (j:=k) (by omega) (by omega) (fun EW m z h1 u N e=>hw ⟨m,z,h1,u,N,e,EW⟩)).symm
  have TF:Bz E (S i).1 a (fO ao.op.dC):=fun t Z=>Dn t (by simp[bL.reads,Z]);have hop:Ex P m site o=some ao.op:=by
   rcases hop with hop|hop
   ·exact hop
   ·rw[hop]at lM;cases lM
  have hGl:Gb E (S i).2:=by
   obtain⟨d1,d2⟩:=D.Xp (i:=i) (by omega);refine⟨fun n=>by rw[d1];exact h.Ez n,fun n v c l=> ?_,h.BC⟩;rw[d1];obtain⟨_,_,k3⟩:=h.keys (.g n) v c l;refine k3 ?_;rintro⟨j,y,r,C,Oq,_⟩;revert Oq;cases y.op<;>simp only[gJ.site]<;>(intro hh;cases hh)
  refine Vb yA hop hs hmu lM TF hL hGl h.mem (fun A hlt=>⟨by rw[df,QV A,hL1],BF A hlt⟩) K Q ?_;intro x w' O hle uF wN hv E5;rw[<-BI];obtain⟨f1,f2,f3,f4⟩:=h.frame D U hx hle (by rw[BI];exact hd) (x:=x) (fun t Z=>by rw[alB t Z];exact hv);have Ii:∀d s v o,O.own (d+1) s v=some o->w0.E.own (d+1) s v=some o:=by
   intro d s v' c l;rcases E5.own (d+1) s v' c l with h1|⟨h1,_⟩
   ·exact h.out d s v' c h1
   ·cases h1
  have wL:∀b cs,O.iY b=some cs->w0.E.iY b=some cs∨w0.w.heap.size<=b∨w0.G b:=by
   intro b cs W;rcases E5.iY b cs W with h1|h1
   ·exact h.new b cs h1
   ·exact .inr (.inl (eO h.below.size h1))
  have YZ:∀n o,(S 0).2.b<=n->(eP (S 0).2.D n).fz=false->O.own 0 (.g n) (eP (S 0).2.D n).ver=some o->w0.w.heap.size<=o.blk∨w0.G o.blk:=by
   intro n q h1 u h3;rcases E5.own 0 (.g n) _ q h3 with X|⟨_,X,_⟩
   ·exact h.wr n q h1 u X
   ·revert X
    cases ao.op<;>simp only[gJ.site]<;>(intro hh;cases hh)
  have alD:∀n,O.own 0 (.g n) 0=none:=by
   intro n;cases l:O.own 0 (.g n) 0 with
   |none=>rfl
   |some q=>
    rcases E5.own 0 (.g n) _ q l with X|⟨_,X,_⟩
    ·rw[h.BC n]at X;cases X
    ·revert X
     cases ao.op<;>simp only[gJ.site]<;>(intro hh;cases hh)
  refine hK _ w' O hle ⟨E9,h.below.then wN h.below.size,uF,YZ,h.Ez,alD,fun s v' c l=> ?_,Ii,wL,f1,f2,f3,f4⟩;rcases E5.own 0 s v' c l with h1|⟨_,rfl,rfl,A,h1⟩
  ·obtain⟨k1,Y,k3⟩:=h.keys s v' c h1
   refine⟨k1,fun hk=> ?_,k3⟩;rcases Y hk with u|⟨j,y,r,J,I⟩
   ·exact .inl u
   ·exact .inr ⟨j,y,r,.inl J,I⟩
  ·refine⟨fun _ _=>eO h.below.size h1,fun _=> .inr ⟨i,ao,U,.inr rfl,hx,rfl,by rw[hL1]⟩,fun hno=>absurd ⟨i,ao,U,hx,rfl,A⟩ hno⟩
theorem Head.toSeq{E:Env}{w:World}{a:Act}{T:Nat->Prop}(Y:∀n v,¬w0.R n v)(h:Head P n ops aEp w0 H S k E w a T)(gB:∀j,j<k->T j):dR w0 E (S k).2 H w∧fD E (S k).1 a n:=by
 have hkn:=D.kn;have W:=D.len;have at_:∀{m:Nat},m<k->∃ao,aEp[m]? =some ao:=fun h=>⟨_,ak (by omega)⟩
 obtain⟨d1,d2⟩:=D.Xp (i:=k) (aJ _);refine⟨⟨h.below,h.mem,fun s v o ho=> ?_,fun n o u c h3=>h.wr n o (by rw[<-d2];exact u) (by rw[<-d1];exact c) (by rw[<-d1];exact h3),h.out,h.new,fun n=>by rw[d1];exact h.Ez n,h.BC,fun n v hr=>absurd hr (Y n v)⟩,⟨h.size,h.defers,fun t=> ?_⟩⟩
 ·obtain⟨k1,k2,k3⟩:=h.keys s v o ho
  refine⟨?_,k1⟩;by_cases l:∃j y,j<k∧aEp[j]? =some y∧y.op.site=s∧s≠0
  ·obtain⟨j,y,r,A,Q,I⟩:=l
   have U:∀m z,m<k->aEp[m]? =some z->z.op.site=s->m=j:=by
    intro m z DV g J;by_cases e:m=j
    ·exact e
    ·exact absurd (J.trans Q.symm) ((D.apart DV r g A e).2 (by rw[Q];exact I))
   have F:ax (S k).2 s=ax (S (j+1)).2 s:=D.rows (i:=j+1) (j:=k) (by omega) (by omega) (fun _ m z u c g e=>by
    have:=U m z (by omega) g e;omega)
   have C:ax (S j).2 s=ax (S 0).2 s:=D.rows (i:=0) (j:=j) (by omega) (by omega) (fun _ m z u c g e=>by
    have:=U m z (by omega) g e;omega)
   rcases k2 ⟨j,y,r,A,Q,I⟩with u|⟨j',X,K,hT,MN,N,Z⟩
   ·rw[F]
    rcases D.row A r s with c|⟨_,_,c⟩
    ·rw[c,C];omega
    ·rw[c,C];omega
   ·have:=U j' X K MN N
    subst this;rw[Z,F];exact aJ _
  ·rw[D.rows (i:=0) (j:=k) (by omega) (by omega) (fun I m z u c g e=>l ⟨m,z,c,g,e,I⟩)]
   exact k3 l
 ·by_cases l:∃j y,j<k∧aEp[j]? =some y∧y.dst=some t
  ·obtain⟨j,y,r,A,hd⟩:=l
   rw[D.yc (i:=j+1) (j:=k) (by omega) (by omega) (fun m ao u c B=>(D.apart (by omega) r B A (by omega)).1 t hd)];exact h.done j y t r (gB j r) A hd
  ·rw[D.yc (i:=0) (j:=k) (by omega) (by omega) (fun m ao u c B O=>l ⟨m,ao,c,B,O⟩)]
   exact h.open_ t fun m ao hm _ B O=>l ⟨m,ao,hm,B,O⟩
def Aw(listed:Array Bool)(m:Nat):Nat:=(List.range m).countP fun i=>listed.getD i false
omit D in
theorem OB{listed:Array Bool}{i:Nat}(j:listed.getD i false=false)(hs:i<listed.size):∀m:Nat,Aw (listed.setIfInBounds i true) m=Aw listed m+if i<m then 1 else 0
 |0=>by simp[Aw]
 |m+1=>by
  have g:=OB j hs m;unfold Aw at g⊢;rw[gK,List.countP_append,List.countP_append,g];by_cases e:i=m
  ·subst e
   have c:(listed.setIfInBounds i true).getD i false=true:=by simp[dO,hs]
   rw[ve,ve,c,j];simp
  ·have c:(listed.setIfInBounds i true).getD m false=listed.getD m false:=getD_set_ne false e
   rw[ve,ve,c];have:(i<m+1)↔(i<m):=by omega
   simp only[this];omega
omit D in
theorem JU{listed:Array Bool}:∀{m:Nat},m<=Aw listed m->∀i,i<m->listed.getD i false=true
 |0,_,i,g=>by omega
 |m+1,h,i,g=>by
  unfold Aw at h;rw[gK,List.countP_append,ve]at h;have c:(List.range m).countP (fun i=>listed.getD i false)<=m:=by
   have:=List.countP_le_length (p:=fun i=>listed.getD i false) (l:=List.range m);simpa using this
  by_cases hm:listed.getD m false=true
  ·rcases jq i m with h1|h1
   ·rw[aX hm]at h
    exact JU (m:=m) (by unfold Aw;omega) i h1
   ·have:i=m:=by omega
    subst this;exact hm
  ·rw[aP hm]at h
   omega
theorem y9.progress{listed:Array Bool}(l:listed.size=ops.size)(hr:Region.ready .any ops listed=[]):∀i,i<ops.size->listed.getD i false=true:=by
 intro i;induction i using Nat.strongRecOn with
 |_ i j=>
  intro g;cases hl:listed.getD i false with
  |true=>rfl
  |false=>
   exfalso;have c:i∈Region.ready .any ops listed:=by
    rw[mem_ready];refine⟨?_,ops[i],eB g,fun e r u=> ?_⟩
    ·have:i<listed.size:=by omega
     simp only[dO,eB this,dU]at hl⊢;exact hl
    ·have:=D.back i ops[i] (eB g) e r u
     exact j e.on this (by omega)
   rw[hr]at c;cases c
omit D in
theorem zT{listed:Array Bool}{i:Nat}(c:i<listed.size):listed.getD i true=listed.getD i false:=by
 simp[dO,eB c]
theorem y9.any(kS:∀n v,¬w0.R n v)(yA:iy P cf){Q:Exit->Act->World->Prop}{E0:Env}(hQ:∀a w E,E0.Le E->dR w0 E (S ops.size).2 H w->fD E (S ops.size).1 a n->Q .normal a w):
  ∀(c:Nat)(listed:Array Bool)(a:Act)(w:World)(E:Env),listed.size=ops.size->ops.size<=c+Aw listed ops.size->E0.Le E->
   ((Head P n ops aEp w0 H S k E w a (fun j=>listed.getD j false=true)∧∀j,listed.getD j false=true->j<k)∨
    (∃j,k<=j∧j<=ops.size∧(∀i,listed.getD i false=true↔i<j)∧dR w0 E (S j).2 H w∧fD E (S j).1 a n))->
   wpAny P .any ops Q c listed a w:=by
 have hkn:=D.kn;have hlen:=D.len;have u:∀(listed:Array Bool)(a:Act)(w:World)(E:Env),E0.Le E->(∀i,i<ops.size->listed.getD i false=true)->
   ((Head P n ops aEp w0 H S k E w a (fun j=>listed.getD j false=true)∧∀j,listed.getD j false=true->j<k)∨
    (∃j,k<=j∧j<=ops.size∧(∀i,listed.getD i false=true↔i<j)∧dR w0 E (S j).2 H w∧fD E (S j).1 a n))->Q .normal a w:=by
  intro listed a w E g F Y;rcases Y with⟨hH,r⟩|⟨j,h1,h2,C,W,U⟩
  ·have hk:k=ops.size:=by
    rcases jq k ops.size with h|h
    ·have:=r k (F k h);omega
    ·omega
   obtain⟨r1,r2⟩:=hH.toSeq D kS (fun j N=>F j (by omega));rw[hk]at r1 r2;exact hQ a w E g r1 r2
  ·have N:j=ops.size:=by
    rcases jq j ops.size with h|h
    ·have:=(C j).1 (F j h);omega
    ·omega
   subst N;exact hQ a w E g W U
 intro c;induction c with
 |zero=>
  intro listed a w E A Y5 g Y;have F:=JU (listed:=listed) (m:=ops.size) (by omega);refine⟨?_,u listed a w E g F Y⟩;cases hr:Region.ready .any ops listed with
  |nil=>rfl
  |cons j rest=>
   exfalso;have uD:j∈Region.ready .any ops listed:=by rw[hr];simp
   rw[mem_ready]at uD;obtain⟨J,o,ho,_⟩:=uD;have N:j<ops.size:=(ic.1 ho).1;rw[zT (by omega),F j N]at J;cases J
 |succ c ih=>
  intro listed a w E A Y5 g Y;refine⟨fun hr=>u listed a w E g (D.progress A hr) Y,fun i I=> ?_⟩;rw[mem_ready]at I;obtain⟨J,oi,B,l⟩:=I;have I:i<ops.size:=(ic.1 B).1;rw[zT (by omega)]at J;have Vg:ops.size<=c+Aw (listed.setIfInBounds i true) ops.size:=by
   rw[OB J (by omega),aX I];omega
  have qw:∀j,(listed.setIfInBounds i true).getD j false=true↔(listed.getD j false=true∨j=i):=by
   intro j;by_cases e:i=j
   ·subst e
    simp[dO,show i<listed.size by omega]
   ·rw[getD_set_ne false e]
    constructor
    ·exact .inl
    ·intro h;exact h.resolve_right (Ne.symm e)
  have QW:∀j,k<=j->j<=ops.size->(∀i,listed.getD i false=true↔i<j)->dR w0 E (S j).2 H w->fD E (S j).1 a n->wpOp P ops Q i (wpAny P .any ops Q c (listed.setIfInBounds i true)) a w:=by
   intro j h1 h2 C W U;have hij:i=j:=by
    have hge:¬i<j:=fun h=>by rw[(C i).2 h]at J;cases J
    rcases jq j i with h|h
    ·exfalso
     have Z:=D.tail j i (by omega) I h;have hcl:xw ops.toList (fun q=>listed.getD q false=true):=by
      intro q K hq hT e O AV;have Qe:ops[q]? =some K:=by simpa using hq
      have r:=D.back q K Qe e O AV;exact(C e.on).2 (by have:=(C q).1 hT;omega)
     have:=D.mask _ hcl i j I Z (fun K X e O AV=>by
      have:ops[i]? =some K:=by simpa using X
      rw[B]at this;cases this;exact l e O AV)
     have:=(C j).1 this;omega
    ·omega
   subst hij;obtain⟨ao,hx⟩:∃ao,aEp[i]? =some ao:=⟨_,ak (by omega)⟩
   obtain⟨o,site,ho,hs,Y2⟩:=D.comp i ao hx;unfold wpOp;rw[ho];obtain⟨⟨fr',L'⟩,T⟩:∃s,S (i+1)=s:=⟨_,rfl⟩
   obtain⟨⟨fr,L⟩,hS0⟩:∃s,S i=s:=⟨_,rfl⟩
   have lM:=D.ev i ao hx;rw[hS0,T]at lM;rw[hS0]at W U;refine JR yA Y2 hs lM W U ?_;intro a' w' E' arI wZ hF';refine ih _ a' w' E' (by simpa using A) Vg (g.trans arI) (.inr ⟨i+1,by omega,by omega,fun q=> ?_,?_,?_⟩)
   ·rw[qw,C];omega
   ·rw[T];exact wZ
   ·rw[T];exact hF'
  rcases Y with⟨hH,r⟩|⟨j,h1,h2,C,W,U⟩
  ·by_cases hik:i<k
   ·refine hH.step D yA hik (by simp[J]) (fun K X e O Z=> ?_) ?_
    ·rw[B]at X;cases X
     exact l e O Z
    ·intro a' w' E' Y6 hH'
     refine ih _ a' w' E' (by simpa using A) Vg (g.trans Y6) (.inl ⟨?_,fun j N=> ?_⟩)
     ·have:(fun j=>(listed.setIfInBounds i true).getD j false=true)=(fun j=>listed.getD j false=true∨j=i):=by
       funext j;exact propext (qw j)
      rw[this];exact hH'
     ·rcases(qw j).1 N with h|h
      ·exact r j h
      ·omega
   ·
    have F:∀j,j<k->listed.getD j false=true:=by
     intro j N;have Z:=D.tail j i (by omega) I (by omega);exact D.mask _ hH.closed i j I Z (fun K X e O AV=>by
      have:ops[i]? =some K:=by simpa using X
      rw[B]at this;cases this;exact l e O AV)
    obtain⟨r1,r2⟩:=hH.toSeq D kS F;exact QW k (aJ _) hkn (fun q=>⟨r q,F q⟩) r1 r2
  ·exact QW j h1 h2 C W U
end draw
theorem uH{fr fr':List V}:∀{l:List Arg},(∀t∈fO l,ag fr t=ag fr' t)->UY fr l=UY fr' l
 |[],_=>rfl
 | .t i::l,h=>by
  simp only[UY,ev];rw[h i (by simp[fO]),uH (l:=l) (fun t g=>h t (by simp[fO,g]))]
 | .c v::l,h=>by
  simp only[UY,ev];rw[uH (l:=l) (fun t g=>h t (by simpa[fO]using g))]
theorem iT{fr fr':List V}{x:Arg}{l:List Arg}(h:∀t∈fO l,ag fr t=ag fr' t)(hx:x∈l):ev fr x=ev fr' x:=by
 cases x with
 |c v=>rfl
 |t i=>
  refine h i ?_;clear h;induction l with
  |nil=>cases hx
  |cons y l g=>
   rcases ed.1 hx with rfl|hx
   ·simp[fO]
   ·have:=g hx
    cases y<;>simp[fO,this]
theorem yf{fr fr':List V}:∀{ps:List (Nat×Nat×Arg)}{cs:List V},(∀x∈ps.map (·.2.2),ev fr x=ev fr' x)->wz fr cs ps=wz fr' cs ps
 |[],_,_=>rfl
 |(off,n,x)::ps,cs,h=>by
  simp only[wz];rw[h x (by simp)];split
  ·exact yf (fun y c=>h y (by simp at c⊢;exact .inr c))
  ·rfl
theorem JV{sh:Bool}{fr fr':List V}:∀{ps:List (Nat×Nat×Arg)}{L:Mem},(∀x∈ps.map (·.2.2),ev fr x=ev fr' x)->qg sh L fr ps=qg sh L fr' ps
 |[],_,_=>rfl
 |(off,n,x)::ps,L,h=>by
  simp only[qg];rw[h x (by simp)];congr 1;funext r;rw[JV (fun y c=>h y (by simp at c⊢;exact .inr c))]
theorem OC{cf:fU}{H:List Mem}{fr fr':List V}{L:Mem}{o:gJ}(h:∀t∈fO o.dC,ag fr t=ag fr' t):cZ cf H fr L o=cZ cf H fr' L o:=by
 have e:= @iT fr fr';cases o<;>simp only[cZ,gJ.dC]at h⊢;case build z ps=>rw[yf (fun x hx=>iT h hx)]
 case lit fu sz z len ps=>rw[yf (fun x hx=>iT h hx)]
 case litf sh sz z len ps=>rw[JV (fun x hx=>iT h hx)]
 case litr st sz z len ps=>rw[yf (fun x hx=>iT h hx)]
 case call f aEp=>
  rw[iT h (x:=f) (by simp),uH (fun t r=>h t (by cases f<;>simp[fO,r]))]
 case calla fz gl s f aEp=>
  rw[iT h (x:=f) (by simp),uH (fun t r=>h t (by cases f<;>simp[fO,r]))]
 case mkfn f cs=>rw[uH h]
 case mkmth f cs=>rw[uH h]
 case mm b xs=>rw[uH h]
 case sub sz x lo l mx=>
  rw[iT h (x:=x) (by simp)];have j:∀(o:Option Arg),(∀y∈o.toList,y∈x::(lo.toList++l.toList++mx.toList))->o.map (ev fr)=o.map (ev fr'):=by
   intro o ho;cases o with
   |none=>rfl
   |some y=>simp only[aU];rw[iT h (ho y (by simp))]
  rw[j lo (fun y g=>by simp at g⊢;simp[g]),j l (fun y g=>by simp at g⊢;simp[g]),j mx (fun y g=>by simp at g⊢;simp[g])]
 case strSub x lo l=>
  rw[iT h (x:=x) (by simp)];have j:∀(o:Option Arg),(∀y∈o.toList,y∈x::(lo.toList++l.toList))->o.map (ev fr)=o.map (ev fr'):=by
   intro o ho;cases o with
   |none=>rfl
   |some y=>simp only[aU];rw[iT h (ho y (by simp))]
  rw[j lo (fun y g=>by simp at g⊢;simp[g]),j l (fun y g=>by simp at g⊢;simp[g])]
 case pick a b c=>rw[iT h (x:=a) (by simp),iT h (x:=b) (by simp),iT h (x:=c) (by simp)]
 case mins m a b c=>rw[iT h (x:=a) (by simp),iT h (x:=b) (by simp),iT h (x:=c) (by simp)]
 case mput m a b c=>rw[iT h (x:=a) (by simp),iT h (x:=b) (by simp),iT h (x:=c) (by simp)]
 all_goals
  first
   |(rename_i x y;rw[iT h (x:=x) (by simp),iT h (x:=y) (by simp)];done)
   |(rename_i x;rw[iT h (x:=x) (by simp)];done)
   |(rename_i x y;rw[iT h (x:=x) (by simp)];done)
theorem lH{cf:fU}{H:List Mem}{fr fr2 fr':List V}{L L':Mem}{o:bL}(h:∀t∈o.reads,ag fr t=ag fr2 t)(c:cO cf H o (fr,L)=some (fr',L')):
  ∃v,fr'=gW fr o.dst v∧cO cf H o (fr2,L)=some (gW fr2 o.dst v,L'):=by
 have l:wanted fr o.guard=wanted fr2 o.guard:=by
  unfold wanted;cases A:o.guard with
  |none=>rfl
  |some B=>
   obtain⟨d,w⟩:=B;simp only;rw[h d (by simp[bL.reads,A])]
 have ho:cZ cf H fr L o.op=cZ cf H fr2 L o.op:=OC (fun t u=>h t (by simp[bL.reads,u]));unfold cO at c⊢;obtain⟨b,g,c⟩:=aj.1 c;simp only at g c⊢;rw[<-l,g,bG];cases b with
 |false=>
  simp only[bq,bZ,aA,aN]at c⊢;obtain⟨rfl,rfl⟩:=c;exact⟨_,rfl,rfl,rfl⟩
 |true=>
  simp only[bK]at c⊢;obtain⟨r,hr,j⟩:=ae.1 c;rw[<-ho,hr,aU];simp only[aN]at j;obtain⟨rfl,rfl⟩:=j;exact⟨_,rfl,rfl⟩
theorem G8{cf:fU}{H:List Mem}{fr:List V}{L L':Mem}{ao:gJ}{v:V}(hm:ao.changes=false)(c:cZ cf H fr L ao=some (v,L')):L'=L:=by
 have l:ao.mY=false:=by cases ao<;>simp_all [gJ.changes,gJ.mY]
 have j:ao.DT=true:=by cases ao<;>simp_all [gJ.changes,gJ.DT]
 have g:ao.site=0:=by cases ao<;>simp_all [gJ.changes,gJ.site]
 exact GZ l j c g
theorem QX{cf:fU}{H:List Mem}{fr:List V}{L L':Mem}{ao:gJ}{v:V}(hm:ao.changes=false)(hl:ao.vT=false)(l:∀k z,ao≠.allocd k z)(c:cZ cf H fr L ao=some (v,L'))(j:Mem):cZ cf H fr j ao=some (v,j):=by
 have hs:=G8 hm c;subst hs;cases ao<;>simp only[gJ.changes,yQ]at hm<;>simp only[gJ.vT,yQ]at hl<;>simp only[cZ,one]at c⊢;case mv=>cases c;rfl
 case pick=>obtain⟨t,g,h⟩:=ae.1 c;cases h;rw[g];rfl
 case eqb=>split at c<;>cases c;rfl
 case eqagg=>
  split at c
  ·obtain⟨t,g,h⟩:=ae.1 c;cases h;rw[g];rfl
  ·cases c
 case neg=>split at c<;>cases c;rfl
 case conv=>split at c<;>cases c;rfl
 case lit=>
  obtain⟨t,g,h⟩:=aj.1 c;rw[g,bG];split at h
  ·rename_i hc;cases h;rw[aX hc]
  ·cases h
 case ext=>
  split at c
  ·obtain⟨t,g,h⟩:=ae.1 c;cases h;rw[g];rfl
  ·cases c
 case mkfn=>cases c;rfl
 case mkmth=>cases c;rfl
 case allocd=>exact absurd rfl (l _ _)
 case mm=>
  split at c
  ·obtain⟨t,g,h⟩:=ae.1 c;cases h;rw[g];rfl
  ·cases c
 case nilck=>split at c<;>cases c<;>rfl
 case bad=>cases c
 all_goals (obtain⟨t,g,h⟩:=ae.1 c;cases h;rw[g];rfl)
theorem TG{M:List Mem}{g:Bool}{n:Nat}{v u:V}(h:SL g n v=some u):xi M g n v=some u:=by
 unfold SL at h;split at h
 ·exact h
 ·cases h
theorem QY{cf:fU}{H:List Mem}{fr:List V}{L:Mem}{ao:gJ}{r:V×Mem}(hl:ao.vT=true)(c:cZ cf H fr L ao.YJ=some r):r.2=L∧∀j,cZ cf H fr j ao=some (r.1,j):=by
 cases ao<;>simp only[gJ.vT,bq]at hl
 ·rename_i g n x
  simp only[gJ.YJ,cZ,one]at c⊢;obtain⟨t,l,h⟩:=ae.1 c;subst h;exact⟨rfl,fun j=>by rw[TG l];rfl⟩
 ·simp[gJ.YJ,cZ]at c
theorem IL{c:Prop}[Decidable c]{α:Type}{x:Option α}{y:α}(h:(if c then x else none)=some y):c∧x=some y:=by
 split at h
 ·exact⟨‹c›,h⟩
 ·cases h
theorem Fa{L:Mem}{s:Ix}{r:Row}(h:r.fz=(ax L s).fz):(bu L s r).ok s=L.ok s:=by
 unfold Mem.ok;simp only[ay,bK,eG,h]
def gJ.JW:gJ->Bool
 | .mins .. =>true
 |_=>false
section float
variable{P:Program}{m:Mode}{n:Nat}{ops:Array Oper}{aEp:List bL}{w0:jT}{cf:fU}{H:List Mem}{S:Nat->St}{ms:List Nat}
structure oG(P:Program)(m:Mode)(n:Nat)(ops:Array Oper)(aEp:List bL)(cf:fU)(H:List Mem)(S:Nat->St)(ms:List Nat):Prop where
 len:aEp.length=ops.size
 comp:∀(i:Nat)(ao:bL),aEp[i]? =some ao->∃o s,ops[i]? =some o∧0<s∧(EK P m s ops n o=some ao∨∃d k z,ao=⟨some d,.allocd k z,none⟩∧EK P m s ops n o=some ⟨some d,.alloc k z,none⟩)
 late:∀(i j:Nat)(x y:bL)(k:Nat)(z:List V),i≠j->aEp[i]? =some x->x.op= .allocd k z->aEp[j]? =some y->y.op.changes=true->y.op.Jn=true∨(i<j∧qK ms i j=true)
 sites:∀(i j:Nat)(x y:bL)(k:Nat)(z z':List V),aEp[i]? =some x->aEp[j]? =some y->x.op= .allocd k z->y.op= .allocd k z'->i=j
 ev:∀(i:Nat)(ao:bL),aEp[i]? =some ao->cO cf H ao (S i)=some (S (i+1))
 back:∀(i:Nat)(o:Oper),ops[i]? =some o->∀e∈o.after,Region.binds .any e=true->e.on<i
 mask:∀T:Nat->Prop,xw ops.toList T->∀i j:Nat,i<ops.size->(ms.getD i 0).testBit j=true->Pre ops.toList T i->T j
 pair:∀(i j:Nat)(x y:bL),aEp[i]? =some x->aEp[j]? =some y->Qs ms i j x y=true
structure Float(P:Program)(m:Mode)(n:Nat)(ops:Array Oper)(aEp:List bL)(cf:fU)(H:List Mem)(S:Nat->St)(ms:List Nat):Prop extends oG P m n ops aEp cf H S ms where
 calm:∀(i:Nat)(ao:bL),aEp[i]? =some ao->ao.op.changes=false->(∀L2,cO cf H ao ((S i).1,L2)=some ((S (i+1)).1,L2))∨
  (∀(j:Nat)(y:bL),i≠j->aEp[j]? =some y->y.op.changes=true->qK ms i j=true∨(y.op.JW=false∧∀u,cO cf H ao ((S i).1,(S j).2)=some (u,(S j).2)↔cO cf H ao ((S i).1,(S (j+1)).2)=some (u,(S (j+1)).2)))
section base
variable(D:oG P m n ops aEp cf H S ms)
include D
theorem oG.same{i:Nat}{ao:bL}(j:aEp[i]? =some ao)(hc:ao.op.changes=false):(S (i+1)).2=(S i).2:=by
 have c:=D.ev i ao j;unfold cO at c;obtain⟨b,_,c⟩:=aj.1 c;split at c
 ·obtain⟨⟨v,L'⟩,g,hr⟩:=ae.1 c
  rw[<-hr];exact G8 hc g
 ·simp only[aA]at c;rw[<-c]
theorem oG.rows{i:Nat}:∀{j:Nat},i<=j->j<=aEp.length->(∀m ao,i<=m->m<j->aEp[m]? =some ao->ao.op.changes=false)->(S j).2=(S i).2
 |0,h,_,_=>by
  have:i=0:=by omega
  subst this;rfl
 |j+1,h,hl,c=>by
  by_cases e:i=j+1
  ·subst e;rfl
  ·obtain⟨ao,g⟩:∃ao,aEp[j]? =some ao:=⟨_,ak (by omega)⟩
   rw[D.same g (c j ao (by omega) (by omega) g)];exact oG.rows (by omega) (by omega) (fun m r l u=>c m r l (by omega))
theorem oG.slot{i:Nat}{ao:bL}(g:aEp[i]? =some ao){t:Nat}(h:ao.dst≠some t):ag (S (i+1)).1 t=ag (S i).1 t:=by
 have j:=D.ev i ao g;obtain⟨v,c,_⟩:=lH (fr:=(S i).1) (fr2:=(S i).1) (fr':=(S (i+1)).1) (L:=(S i).2) (L':=(S (i+1)).2) (fun _ _=>rfl) j;rw[c];cases hd:ao.dst with
 |none=>rfl
 |some d=>
  simp only[gW,qJ];rw[aP (fun e=>h (by rw[hd,e]))]
theorem oG.yc{t:Nat}{i:Nat}:∀{j:Nat},i<=j->j<=aEp.length->(∀m ao,i<=m->m<j->aEp[m]? =some ao->ao.dst≠some t)->ag (S j).1 t=ag (S i).1 t
 |0,h,_,_=>by
  have:i=0:=by omega
  subst this;rfl
 |j+1,h,hl,c=>by
  by_cases e:i=j+1
  ·subst e;rfl
  ·obtain⟨ao,g⟩:∃ao,aEp[j]? =some ao:=⟨_,ak (by omega)⟩
   rw[D.slot g (c j ao (by omega) (by omega) g)];exact oG.yc (by omega) (by omega) (fun m r l u=>c m r l (by omega))
theorem oG.apart{i j:Nat}{x y:bL}(hx:aEp[i]? =some x)(c:aEp[j]? =some y)(g:i≠j):∀d,y.dst=some d->x.dst≠some d:=by
 have:=D.pair i j x y hx c;unfold Qs at this;rw[aP g,aH]at this;intro d hd;rw[hd]at this;simp only[aH,bne_iff_ne,ne_eq]at this;exact this.1.2
theorem oG.reads{i j:Nat}{x y:bL}(hx:aEp[i]? =some x)(c:aEp[j]? =some y)(g:i≠j){t:Nat}(hd:y.dst=some t)(hr:t∈x.reads):
  (j<i∧(ms.getD i 0).testBit j=true)∨(i<j∧(ms.getD j 0).testBit i=true):=by
 have:=D.pair i j x y hx c;unfold Qs at this;rw[aP g,aH,hd]at this;simp only[aH,fI,ry]at this;have h1:=this.1.1;rcases h1 with h1|h1
 ·have:x.reads.contains t=true:=by simpa using hr
  rw[this]at h1;cases h1
 ·split at h1
  ·exact .inl ⟨‹_›,h1⟩
  ·exact .inr ⟨by omega,h1⟩
omit D in
theorem Fb{x y:bL}(h:xR x y=true):∃m a j v1 g l,x=⟨none,.mins m (.t a) (.c j) (.c v1),none⟩∧y=⟨none,.mins m (.t a) (.c g) (.c l),none⟩∧wC m j g=some false∧wC m g j=some false:=by
 obtain⟨W,T,U⟩:=x;obtain⟨R,O,Q⟩:=y;unfold xR at h;split at h
 ·rename_i m a j v1 J b g l I F C e4 B A
  simp only[aH,AP]at h;obtain⟨⟨⟨u,r⟩,N⟩,K⟩:=h;simp only at I F C e4 B A;subst I F C e4 B A;have u:m=J:=by simpa using u
  have r:a=b:=by simpa using r
  subst u r;exact⟨m,a,j,v1,g,l,rfl,rfl,N,K⟩
 ·cases h
theorem oG.order{i j:Nat}{x y:bL}(hx:aEp[i]? =some x)(g:aEp[j]? =some y)(c:i<j)(r:x.op.changes=true)(l:y.op.changes=true):(ms.getD j 0).testBit i=true∨(j=i+1∧xR x y=true):=by
 have:=D.pair i j x y hx g;unfold Qs at this;rw[aP (by omega),aH,r,l]at this;have h3:=this.2;simp only[bR,nL,iK,qK,fI,aH,AP]at h3;rcases h3 with(h3|h3)|h3
 ·rw[aX c]at h3
  exact .inl h3
 ·exact .inr h3
 ·omega
omit D in
theorem D6{m:MK}{k k':V}(v:V):∀{es:List (List V)}{i:Nat},oZ m k (es++[[k',v]]) i=some none↔(oZ m k es i=some none∧wC m k k'=some false)
 |[],i=>by
  simp only[dm,oZ,true_and];cases wC m k k' with
  |none=>simp
  |some b=>cases b<;>simp
 |[a,b]::es,i=>by
  have g:=D6 (m:=m) (k:=k) (k':=k') v (es:=es) (i:=i+1);simp only[aW,oZ];cases wC m k a with
  |none=>simp
  |some c=>
   cases c
   ·simpa using g
   ·constructor
    ·intro h
     exfalso;revert h;cases oZ m k (es++[[k',v]]) (i+1)with
     |none=>simp
     |some r=>cases r<;>simp
    ·rintro⟨h,_⟩
     exfalso;revert h;cases oZ m k es (i+1)with
     |none=>simp
     |some r=>cases r<;>simp
 |[]::es,i=>by simp[oZ]
 |[a]::es,i=>by simp[oZ]
 |(a::b::c::t)::es,i=>by simp[oZ]
theorem oG.swap{g:Nat}{x y:bL}(hx:aEp[g]? =some x)(hy:aEp[g+1]? =some y)(hc:xR x y=true):
  ∃(a:Nat)(R' F:Mem),x.dst=none∧y.dst=none∧a∈x.reads∧x.op.changes=true∧y.op.changes=true∧(S (g+1)).1=(S g).1∧(S (g+2)).1=(S g).1∧cO cf H y ((S g).1,(S g).2)=some ((S g).1,R')∧cO cf H x ((S g).1,R')=some ((S g).1,F)∧
   ∀(w0:jT)(E:Env)(w:World)(u:Value),VR (ag (S g).1 a) E u->dR w0 E F H w->dR w0 E (S (g+2)).2 H w:=by
 obtain⟨m,a,J,v1,I,B,rfl,rfl,lT,oH⟩:=Fb hc;have Z:=D.ev g _ hx;have Y:=D.ev (g+1) _ hy;have A:∀(st:St)(k v:V),cO cf H ⟨none,.mins m (.t a) (.c k) (.c v),none⟩ st=(Bq st.2 m (ag st.1 a) k v).map fun L'=>(st.1,L'):=by
  intro st k v;simp only[cO,wanted,bG,bK,cZ,ev,Option.map_map];rfl
 rw[A]at Z Y;obtain⟨L1,m1,W⟩:=ae.1 Z;obtain⟨L2,m2,U⟩:=ae.1 Y;have T:(S (g+1)).1=(S g).1:=by rw[<-W]
 have r1:(S (g+1)).2=L1:=by rw[<-W]
 have f2:(S (g+2)).1=(S g).1:=by rw[<-T,<-U]
 have r2:(S (g+2)).2=L2:=by rw[<-U]
 rw[T,r1]at m2;generalize (S g).1=R at*;generalize (S g).2=j at*;cases C:ag R a with
 |mp d s ver=>
  rw[C]at m1 m2;cases d with
  |succ d=>simp[Bq]at m1
  |zero=>
   simp only[Bq]at m1;split at m1
   ·rename_i X
    split at m1
    ·rename_i Q
     simp only[aA]at m1;subst m1;simp only[Bq,ay,bK]at m2;rw[Fa (r:={ax j s with els:=(ax j s).els++[[J,v1]]}) rfl]at m2;obtain⟨K,m2⟩:=IL m2;split at m2
     ·rename_i l
      simp only[aA]at m2;obtain⟨l,_⟩:=(D6 _).1 l;have O:=(D6 B).2 ⟨Q,lT⟩;refine⟨a,bu j s {ax j s with els:=(ax j s).els++[[I,B]]},bu j s {ax j s with els:=(ax j s).els++[[I,B]]++[[J,v1]]},rfl,rfl,by simp[bL.reads,gJ.dC,fO],rfl,rfl,T,f2,?_,?_,?_⟩
      ·rw[A,C]
       simp only[Bq,aX K,l,aU]
      ·rw[A,C]
       simp only[Bq,ay,bK];rw[Fa (r:={ax j s with els:=(ax j s).els++[[I,B]]}) rfl,aX X];simp only[O,aU,F8]
      ·intro w0 E w u N hR
       rw[C]at N;simp only[VR]at N;obtain⟨o,ho,pF,_⟩:=N;have:=hR.perm (s:=s) (o:=o) (row:={ax j s with els:=(ax j s).els++[[J,v1]]++[[I,B]]}) (by simp only[ay,bK];rw[X.1];exact ho) pF (by simp only[ay,bK]) (by simp only[ay,bK])
        (by simp only[ay,bK,aC];exact(List.Perm.swap _ _ _).append_left _)
       rw[r2,<-m2];rw[F8]at this⊢;exact this
     ·cases m2
    ·cases m1
   ·cases m1
 |_=>rw[C]at m1;simp[Bq]at m1
def arJ(aEp:List bL)(cf:fU)(H:List Mem)(S:Nat->St)(g:Nat)(R:Mem):Prop:=
 ∃x y,aEp[g]? =some x∧aEp[g+1]? =some y∧xR x y=true∧cO cf H y ((S g).1,(S g).2)=some ((S g).1,R)
def Now(aEp:List bL)(cf:fU)(H:List Mem)(S:Nat->St)(T:Nat->Prop)(R:Mem):Prop:=
 (∃pt,pt<=aEp.length∧R=(S pt).2∧∀(i:Nat)(ao:bL),aEp[i]? =some ao->ao.op.changes=true->(T i↔i<pt))∨
 (∃g,arJ aEp cf H S g R∧¬T g∧T (g+1)∧∀(i:Nat)(ao:bL),aEp[i]? =some ao->ao.op.changes=true->i≠g->i≠g+1->(T i↔i<g))
theorem oG.chain{i:Nat}{ao:bL}{u:List V}{p:Nat}:∀{q:Nat},p<=q->q<=aEp.length->
  (∀m y,p<=m->m<q->aEp[m]? =some y->y.op.changes=true->∀u,cO cf H ao ((S i).1,(S m).2)=some (u,(S m).2)↔cO cf H ao ((S i).1,(S (m+1)).2)=some (u,(S (m+1)).2))->
  (cO cf H ao ((S i).1,(S p).2)=some (u,(S p).2)↔cO cf H ao ((S i).1,(S q).2)=some (u,(S q).2))
 |0,h,_,_=>by
  have:p=0:=by omega
  subst this;exact Iff.rfl
 |q+1,h,hl,hc=>by
  by_cases e:p=q+1
  ·subst e;exact Iff.rfl
  ·have j:=oG.chain (i:=i) (ao:=ao) (u:=u) (p:=p) (q:=q) (by omega) (by omega) (fun m y l r=>hc m y l (by omega))
   obtain⟨y,g⟩:∃y,aEp[q]? =some y:=⟨_,ak (by omega)⟩
   refine j.trans ?_;cases c:y.op.changes with
   |true=>exact hc q y (by omega) (by omega) g c u
   |false=>rw[D.same g c]
end base
variable(D:Float P m n ops aEp cf H S ms)
include D
omit D in
theorem QZ{P:Program}{m:Mode}{site:Nat}{o:Oper}{k:Nat}{z:List V}(c:Ex P m site o=some (.alloc k z)):∃t,o.op= .alloc t∧nG P t=some z:=by
 cases g:o.op;case alloc t=>
  simp only[Ex,g,ae]at c;obtain⟨l,j,c⟩:=c;split at c
  ·cases c
  ·cases c
   exact⟨t,rfl,j⟩
 all_goals
  exfalso;simp only[Ex,g]at c;revert c;(repeat' split)<;>simp[aj,ae,uf,qh]<;>intros<;>(repeat' split)<;>first|contradiction|simp
omit D in
theorem Vh{L L':Mem}{gl:Bool}{H:List Mem}{cf:fU}{f:V}{args:List V}{v:V}(h:wD cf H L gl 0 f args=some (v,L')):L'.O=L.O:=by
 unfold wD at h;split at h
 ·obtain⟨⟨u,d⟩,_,c⟩:=ae.1 h
  have g:(L.Jk d).O=L.O:=by cases d<;>rfl
  cases gl with
  |false=>
   simp only[bq,bZ,bK]at c;rw[xY c,g]
  |true=>
   simp only[bK]at c;have j:∀r,(bu (L.Jk d) (fq (L.Jk d) 0) r).O=L.O:=fun r=>g;unfold iG at c;split at c<;>(cases c;first|exact j _|exact g)
 ·cases h
omit D in
theorem G9{cf:fU}{H:List Mem}{y:bL}{st l:St}(h:y.op.Jn=true)(c:cO cf H y st=some l):l.2.O=st.2.O:=by
 unfold cO at c;obtain⟨b,_,c⟩:=aj.1 c;split at c
 ·obtain⟨⟨v,L'⟩,j,hr⟩:=ae.1 c
  rw[<-hr];cases g:y.op with
  |calla fz gl s f args=>
   rw[g]at h j;cases fz with
   |true=>cases h
   |false=>
    cases s with
    |succ s=>cases h
    |zero=>
     simp only[cZ,bq,bZ]at j;exact Vh j
  |_=>rw[g]at h;cases h
 ·cases c;rfl
omit D in
theorem Q0{cf:fU}{H:List Mem}{fr:List V}{ao:bL}{k:Nat}{z:List V}(h:ao.op= .allocd k z){L L':Mem}(g:L'.O=L.O)(u:List V):cO cf H ao (fr,L)=some (u,L)↔cO cf H ao (fr,L')=some (u,L'):=by
 have hr:ax L' (.o k)=ax L (.o k):=by simp only[ax,g]
 unfold cO;cases c:wanted fr ao.guard with
 |none=>simp[c]
 |some b=>
  cases b with
  |false=>simp[c]
  |true=>
   simp only[c,bG,bK,h,cZ,hr];split<;>simp
omit D in
theorem OD{P:Program}{m:Mode}{site:Nat}{o:Oper}{k:Nat}{z:List V}(c:Ex P m site o=some (.allocd k z)):False:=by
 cases g:o.op;all_goals
  simp only[Ex,g]at c;revert c;(repeat' split)<;>simp[aj,ae,uf,qh]<;>intros<;>(repeat' split)<;>first|contradiction|simp
def RT(aEp:List bL)(S:Nat->St)(w0:jT)(T:Nat->Prop)(n v:Nat):Prop:=w0.R n v∨∃(i:Nat)(x:bL)(z:List V),aEp[i]? =some x∧x.op= .allocd n z∧¬T i∧v=(ax (S 0).2 (.o n)).ver
def wT(aEp:List bL)(S:Nat->St)(w0:jT)(T:Nat->Prop):jT:={w0 with R:=RT aEp S w0 T}
omit D in
theorem dR.less{w0:jT}{R R':Nat->Nat->Prop}{E:Env}{L:Mem}{H:List Mem}{w:World}(h:dR {w0 with R:=R} E L H w)(hs:∀n v,R' n v->R n v):dR {w0 with R:=R'} E L H w:=
 ⟨h.below,h.mem,h.bnd,h.wr,h.out,h.new,h.Ez,h.BC,fun n v hr=>h.res n v (hs n v hr)⟩
omit D in
theorem dR.acY{w0:jT}{R R':Nat->Nat->Prop}{E:Env}{L:Mem}{H:List Mem}{w:World}(h:dR {w0 with R:=R} E L H w)(hs:∀n v,R' n v->R n v){k:Nat}{c:Array Value}{t:TypeId}{z:List V}
  (u:R k (ax L (.o k)).ver)(J:¬R' k (ax L (.o k)).ver)(g:(ax L (.o k)).sz=z.length)(A:(ax L (.o k)).els=[z])(K:(ax L (.o k)).fz=false)(hc:dY z E c.toList):
  E.Le (E.fG (.o k) (ax L (.o k)).ver ⟨w.heap.size,z.length,c.size,false⟩)∧dR {w0 with R:=R'} (E.fG (.o k) (ax L (.o k)).ver ⟨w.heap.size,z.length,c.size,false⟩) L H (w.alloc (.cells c t)):=by
 have hf:=(h.res k _ u).2;have B:=h.mem.Cw (aJ w.heap.size);have j:=Env.uC (o:=⟨w.heap.size,z.length,c.size,false⟩) hf;have hm:=(h.mem.below (nY w (.cells c t))).fG (b:=w.heap.size) (c:=c) (t:=t) (sz:=z.length) hf B (rO _ _) (fun d s v o ho=>h.mem.zM d s v o ho)
  (fun _=>⟨g.symm,K,by
   rw[df,A];simp only[dF];exact⟨trivial,by rw[<-hc.length,aT];exact hc,trivial⟩⟩)
 refine⟨j,h.below.then (nY _ _) h.below.size,hm,fun s v o ho=> ?_,fun n o F C l=> ?_,fun d s v o ho=> ?_,h.new,h.Ez,fun n=> ?_,fun n v hr=>⟨(h.res n v (hs n v hr)).1,?_⟩⟩
 ·simp only[Env.fG]at ho
  split at ho
  ·rename_i e;obtain⟨_,rfl,rfl⟩:=e
   cases ho;exact⟨aJ _,fun _ _=>h.below.size⟩
  ·exact h.bnd s v o ho
 ·simp only[Env.fG]at l
  rw[aP (by simp)]at l;exact h.wr n o F C l
 ·simp only[Env.fG]at ho
  rw[aP (by simp)]at ho;exact h.out d s v o ho
 ·simp only[Env.fG]
  rw[aP (by simp)];exact h.BC n
 ·simp only[Env.fG]
  rw[aP]
  ·exact(h.res n v (hs n v hr)).2
  ·rintro⟨_,r,I⟩
   injection r with r
   subst r I;exact J hr
omit D in
theorem ag0{a b:V}(h:Ym a b=true):a=b:=by
 unfold Ym at h;split at h
 ·simp only[AP]at h;rw[h]
 ·simp only[aH,bN,AP]at h;rw[h.1,h.2]
 ·simp only[aH,AP]at h
  rename_i a b;have g:a=ByteArray.empty:=ByteArray.ext (jQ h.1);have c:b=ByteArray.empty:=ByteArray.ext (jQ h.2);rw[g,c]
 all_goals first|rfl|cases h
omit D in
theorem Vj:∀{a b:List V},DK a b=true->a=b
 |[],[],_=>rfl
 |[],_::_,h=>by simp[DK]at h
 |_::_,[],h=>by simp[DK]at h
 |x::a,y::b,h=>by
  simp only[DK,aH]at h;rw[ag0 h.1,Vj h.2]
omit D in
theorem acZ{a:List (List V)}{z:List V}(h:zK a z=true):a=[z]:=by
 unfold zK at h;split at h
 ·rw[Vj h]
 ·cases h
structure Inv(n:Nat)(ops:Array Oper)(aEp:List bL)(w0:jT)(cf:fU)(H:List Mem)(S:Nat->St)(E:Env)(w:World)(a:Act)(T:Nat->Prop)(fr:List V)(R:Mem):Prop where
 closed:xw ops.toList T
 rel:dR (wT aEp S w0 T) E R H w
 frame:fD E fr a n
 now:Now aEp cf H S T R
 done:∀j ao t,T j->aEp[j]? =some ao->ao.dst=some t->ag fr t=ag (S (j+1)).1 t
 open_:∀t,(∀j ao,T j->aEp[j]? =some ao->ao.dst≠some t)->ag fr t=ag (S 0).1 t
theorem Inv.agW{E:Env}{w:World}{a:Act}{T:Nat->Prop}{fr:List V}{R:Mem}(h:Inv n ops aEp w0 cf H S E w a T fr R){i:Nat}{x:bL}(hx:aEp[i]? =some x)(Q:¬T i)
  (X:∀j,(ms.getD i 0).testBit j=true->T j):∀t∈x.reads,ag (S i).1 t=ag fr t:=by
 intro t U;have K:=D.len;have Z:i<aEp.length:=(au.1 hx).1;by_cases u:∃(j:Nat)(y:bL),j≠i∧aEp[j]? =some y∧y.dst=some t
 ·obtain⟨j,y,W,r,hd⟩:=u
  have Y:j<aEp.length:=(au.1 r).1;have c:∀m ao,m≠j->aEp[m]? =some ao->ao.dst≠some t:=fun m ao A g=>D.apart g r A t hd;rcases D.reads hx r (Ne.symm W) hd U with⟨B,C⟩|⟨B,C⟩
  ·have I:=X j C
   rw[D.yc (i:=j+1) (j:=i) (by omega) (by omega) (fun m ao O N g=>c m ao (by omega) g)];exact(h.done j y t I r hd).symm
  ·have F:¬T j:=fun I=>Q (D.mask T h.closed j i (by omega) C (h.closed.pre I))
   rw[D.yc (i:=0) (j:=i) (by omega) (by omega) (fun m ao O N g=>c m ao (by omega) g)];refine(h.open_ t fun m ao l g=> ?_).symm;by_cases e:m=j
   ·subst e;exact absurd l F
   ·exact c m ao e g
 ·rw[D.yc (i:=0) (j:=i) (by omega) (by omega) (fun m ao O N g J=>u ⟨m,ao,by omega,g,J⟩)]
  refine(h.open_ t fun m ao l g J=> ?_).symm;by_cases e:m=i
  ·subst e;exact Q l
  ·exact u ⟨m,ao,e,g,J⟩
theorem Float.afE{i:Nat}{x:bL}{k:Nat}{z:List V}(hx:aEp[i]? =some x)(ho:x.op= .allocd k z):∀{j:Nat},j<=i->(S j).2.O=(S 0).2.O
 |0,_=>rfl
 |j+1,r=>by
  have l:=(au.1 hx).1;obtain⟨y,c⟩:∃y,aEp[j]? =some y:=⟨_,ak (by omega)⟩
  rw[<-Float.afE hx ho (j:=j) (by omega)];cases hc:y.op.changes with
  |false=>rw[D.same c hc]
  |true=>
   rcases D.late i j x y k z (by omega) hx ho c hc with g|⟨g,_⟩
   ·exact G9 g (D.ev j y c)
   ·omega
theorem Inv.step{E:Env}{w:World}{a:Act}{T:Nat->Prop}{fr:List V}{R:Mem}(kS:∀n v,¬w0.R n v)(yA:iy P cf)(h:Inv n ops aEp w0 cf H S E w a T fr R){i:Nat}(hi:i<ops.size)(Sv:¬T i)
  (D5:∀o,ops[i]? =some o->∀e∈o.after,Region.binds .any e=true->T e.on){K:Act->World->Prop}{Q:Exit->Act->World->Prop}
  (hK:∀a' w' C fr' R',E.Le C->Inv n ops aEp w0 cf H S C w' a' (fun j=>T j∨j=i) fr' R'->K a' w'):wpOp P ops Q i K a w:=by
 have hlen:=D.len;obtain⟨ao,hx⟩:∃ao,aEp[i]? =some ao:=⟨_,ak (by omega)⟩
 obtain⟨o,site,ho,hs,Y2⟩:=D.comp i ao hx;have hpre:Pre ops.toList T i:=fun o' eX=>D5 o' (by simpa using eX);have E9:xw ops.toList (fun j=>T j∨j=i):=by
  intro j o' hj hT e he hb;rcases hT with hT|rfl
  ·exact .inl (h.closed j o' hj hT e he hb)
  ·exact .inl (hpre o' hj e he hb)
 have JS:∀j,(ms.getD i 0).testBit j=true->T j:=fun j hb=>D.mask T h.closed i j (by omega) hb hpre;have Dn:=h.agW D hx Sv JS;have he:=D.ev i ao hx;have alE:∀j,i<j->(ms.getD j 0).testBit i=true->j<ops.size->¬T j:=fun j _ hb hj hT=>Sv (D.mask T h.closed j i hj hb (h.closed.pre hT));have key:∃v R' R2,ag (S (i+1)).1=ag (gW (S i).1 ao.dst v)∧cO cf H ao (fr,R)=some (gW fr ao.dst v,R')∧Now aEp cf H S (fun j=>T j∨j=i) R2∧
   (∀(C:Env)(w':World)(a':Act),dR (wT aEp S w0 (fun j=>T j∨j=i)) C R' H w'->fD C (gW fr ao.dst v) a' n->dR (wT aEp S w0 (fun j=>T j∨j=i)) C R2 H w'):=by
  rcases h.now with⟨pt,B,rfl,J⟩|⟨g,⟨gx,gy,X,Z,O,hgR⟩,hTg,Y7,J⟩
  ·cases hc:ao.op.changes with
   |true=>
    have hpt:pt<=i:=by
     rcases jq i pt with N|hge
     ·exact absurd ((J i ao hx hc).2 N) Sv
     ·exact hge
    have Y8:∀m y,pt<=m->m<i->aEp[m]? =some y->y.op.changes=true->i=m+1∧xR y ao=true:=by
     intro m y h1 I r A;rcases D.order r hx I A hc with h3|h3
     ·have:=JS m h3
      have:=(J m y r A).1 this;omega
     ·exact h3
    by_cases hex:∃m y,pt<=m∧m<i∧aEp[m]? =some y∧y.op.changes=true
    ·obtain⟨g,gx,hg1,hg2,X,hgc⟩:=hex
     obtain⟨rfl,O⟩:=Y8 g gx hg1 hg2 X hgc;have hTg:¬T g:=fun hT=>by have:=(J g gx X hgc).1 hT;omega
     have hr:(S g).2=(S pt).2:=D.rows (i:=pt) (j:=g) hg1 (by omega) (fun m y h1 I r=>by
      cases A:y.op.changes with
      |false=>rfl
      |true=>have:=(Y8 m y h1 (by omega) r A).1;omega)
     obtain⟨c,R',R'',d1,d2,_,_,_,f1,f2,ev1,_,_⟩:=D.swap X hx O;have TF:∀t∈ao.reads,ag (S g).1 t=ag fr t:=fun t ht=>by rw[<-f1];exact Dn t ht
     obtain⟨v,W,F⟩:=lH (fr:=(S g).1) (fr2:=fr) (fr':=(S g).1) (L:=(S g).2) (L':=R') TF ev1;rw[hr]at F;refine⟨v,R',R',?_,F,.inr ⟨g,⟨gx,ao,X,hx,O,ev1⟩,fun hT=> ?_,.inr rfl,fun j y r A n1 n2=> ?_⟩,fun _ _ _ hR _=>hR⟩
     ·rw[d2,f1,f2];rfl
     ·rcases hT with hT|hT
      ·exact hTg hT
      ·omega
     ·constructor
      ·rintro(hT|rfl)
       ·have:=(J j y r A).1 hT;omega
       ·exact absurd rfl n2
      ·intro N
       refine .inl ((J j y r A).2 ?_);rcases jq j pt with h1|h1
       ·exact h1
       ·have:=(Y8 j y h1 (by omega) r A).1;omega
    ·have Y:∀m y,pt<=m->m<i->aEp[m]? =some y->y.op.changes=false:=by
      intro m y h1 I r;cases A:y.op.changes with
      |false=>rfl
      |true=>exact absurd ⟨m,y,h1,I,r,A⟩ hex
     have hr:=D.rows (i:=pt) (j:=i) hpt (by omega) Y;obtain⟨v,W,F⟩:=lH (fr:=(S i).1) (fr2:=fr) (fr':=(S (i+1)).1) (L:=(S i).2) (L':=(S (i+1)).2) Dn he;rw[hr]at F;refine⟨v,_,_,by rw[W],F,.inl ⟨i+1,by omega,rfl,fun j y r A=> ?_⟩,fun _ _ _ hR _=>hR⟩;constructor
     ·rintro(hT|rfl)
      ·have:=(J j y r A).1 hT;omega
      ·omega
     ·intro N
      by_cases e:j=i
      ·exact .inr e
      ·refine .inl ((J j y r A).2 ?_)
       rcases jq j pt with h1|h1
       ·exact h1
       ·have:=Y j y h1 (by omega) r
        rw[A]at this;cases this
   |false=>
    have alH:=D.calm i ao hx hc;have JO:=D.same hx hc;have Yt:∀(j:Nat)(y:bL),aEp[j]? =some y->y.op.changes=true->((T j∨j=i)↔j<pt):=by
     intro j y r A;rw[<-J j y r A];constructor
     ·rintro(hT|rfl)
      ·exact hT
      ·rw[hx]at r;cases r;rw[hc]at A;cases A
     ·exact .inl
    rcases alH with kS|OE
    ·have CZ:=kS (S pt).2
     obtain⟨v,W,F⟩:=lH (fr:=(S i).1) (fr2:=fr) (fr':=(S (i+1)).1) (L:=(S pt).2) (L':=(S pt).2) Dn CZ;exact⟨v,_,_,by rw[W],F,.inl ⟨pt,B,rfl,Yt⟩,fun _ _ _ hR _=>hR⟩
    ·have Ii:∀(j:Nat)(y:bL),aEp[j]? =some y->y.op.changes=true->¬(j<i↔j<pt)->∀u,cO cf H ao ((S i).1,(S j).2)=some (u,(S j).2)↔cO cf H ao ((S i).1,(S (j+1)).2)=some (u,(S (j+1)).2):=by
      intro j y r A fP;have Qh:i≠j:=by rintro rfl;rw[hx]at r;cases r;rw[hc]at A;cases A
      rcases OE j y Qh r A with U|⟨_,h9⟩
      ·exfalso
       apply fP;unfold qK at U;rw[<-J j y r A];have hj:j<ops.size:=by have:=(au.1 r).1;omega
       split at U
       ·rename_i N
        constructor
        ·intro;omega
        ·intro hT;exact absurd hT (alE j N U hj)
       ·exact⟨fun _=>JS j U,fun _=>by omega⟩
      ·exact h9
     have he3:cO cf H ao ((S i).1,(S i).2)=some ((S (i+1)).1,(S i).2):=by
      have e9:((S (i+1)).1,(S i).2)=S (i+1):=by rw[<-JO]
      rw[e9];exact he
     have he4:cO cf H ao ((S i).1,(S pt).2)=some ((S (i+1)).1,(S pt).2):=by
      rcases Nat.le_total pt i with EZ|EZ
      ·exact(D.chain (i:=i) (ao:=ao) (p:=pt) (q:=i) EZ (by omega) (fun j y h1 I r A=>Ii j y r A (by omega))).2 he3
      ·exact(D.chain (i:=i) (ao:=ao) (p:=i) (q:=pt) EZ B (fun j y h1 I r A=>Ii j y r A (by omega))).1 he3
     obtain⟨v,W,F⟩:=lH (fr:=(S i).1) (fr2:=fr) (fr':=(S (i+1)).1) (L:=(S pt).2) (L':=(S pt).2) Dn he4;exact⟨v,_,_,by rw[W],F,.inl ⟨pt,B,rfl,Yt⟩,fun _ _ _ hR _=>hR⟩
  ·
   obtain⟨c,R',R'',d1,d2,hcr,gc1,gc2,f1,f2,ev1,ev2,alI⟩:=D.swap X Z O;have hRR:R=R':=by
    rw[hgR]at ev1;simpa using ev1
   subst hRR;cases hc:ao.op.changes with
   |true=>
    have hig:i=g:=by
     by_cases e:i=g
     ·exact e
     ·exfalso
      have e2:i≠g+1:=by rintro rfl;exact Sv Y7
      have h1:=J i ao hx hc e e2;have I:g<i:=by
       rcases jq i g with h3|h3
       ·exact absurd (h1.2 h3) Sv
       ·omega
      rcases D.order X hx I gc1 hc with h3|h3
      ·exact hTg (JS g h3)
      ·exact e2 h3.1
    subst hig;rw[X]at hx;cases hx;obtain⟨v,W,F⟩:=lH (fr:=(S i).1) (fr2:=fr) (fr':=(S i).1) (L:=R) (L':=R'') Dn ev2;refine⟨v,R'',(S (i+2)).2,?_,F,.inl ⟨i+2,by have:=(au.1 Z).1;omega,rfl,fun j y r A=> ?_⟩,fun C w' a' hR hF=>alI _ C w' (a'.tmps.getD c undef) ?_ hR⟩
    ·rw[d1,f1];rfl
    ·by_cases e1:j=i
     ·subst e1;exact⟨fun _=>by omega,fun _=> .inr rfl⟩
     ·by_cases e2:j=i+1
      ·subst e2;exact⟨fun _=>by omega,fun _=> .inl Y7⟩
      ·have:=J j y r A e1 e2
       constructor
       ·rintro(hT|hT)
        ·have:=this.1 hT;omega
        ·exact absurd hT e1
       ·intro N
        exact .inl (this.2 (by omega))
    ·have:=hF.slot c
     rw[d1]at this;rw[Dn c hcr];exact this
   |false=>
    have hig:i≠g:=by rintro rfl;rw[hx]at X;cases X;rw[hc]at gc1;cases gc1
    have arK:i≠g+1:=by rintro rfl;exact Sv Y7
    rcases D.calm i ao hx hc with kS|OE
    ·have CZ:=kS R
     obtain⟨v,W,F⟩:=lH (fr:=(S i).1) (fr2:=fr) (fr':=(S (i+1)).1) (L:=R) (L':=R) Dn CZ;refine⟨v,R,R,by rw[W],F,.inr ⟨g,⟨gx,gy,X,Z,O,hgR⟩,fun hT=> ?_,.inl Y7,fun j y r A n1 n2=> ?_⟩,fun _ _ _ hR _=>hR⟩
     ·rcases hT with hT|hT
      ·exact hTg hT
      ·exact hig hT.symm
     ·rw[<-J j y r A n1 n2]
      constructor
      ·rintro(hT|rfl)
       ·exact hT
       ·rw[hx]at r;cases r;rw[hc]at A;cases A
      ·exact .inl
    ·exfalso
     have hg1:g+1<ops.size:=by have:=(au.1 Z).1;omega
     obtain⟨qm,qa,q1,q2,q3,q4,EA,Qi,_⟩:=Fb O;have hm1:gx.op.JW=true:=by rw[EA];rfl
     have hm2:gy.op.JW=true:=by rw[Qi];rfl
     rcases jq i g with h1|h1
     ·have U:=(OE (g+1) gy arK Z gc2).resolve_right (fun q=>by rw[hm2]at q;cases q.1)
      unfold qK at U;rw[aX (by omega)]at U;exact alE (g+1) (by omega) U hg1 Y7
     ·have U:=(OE g gx hig X gc1).resolve_right (fun q=>by rw[hm1]at q;cases q.1)
      unfold qK at U;rw[aP (by omega)]at U;exact hTg (JS g U)
 obtain⟨v,R',R2,W,F,arL,alJ⟩:=key;have Q3:∀n v,RT aEp S w0 (fun j=>T j∨j=i) n v->RT aEp S w0 T n v:=by
  rintro n v (h1|⟨q,x,z,h1,I,h3,h4⟩)
  ·exact .inl h1
  ·exact .inr ⟨q,x,z,h1,I,fun h5=>h3 (.inl h5),h4⟩
 have fin:∀a' w' C,E.Le C->dR (wT aEp S w0 (fun j=>T j∨j=i)) C R' H w'->fD C (gW fr ao.dst v) a' n->K a' w':=by
  intro a' w' C Y6 wZ hF';refine hK a' w' C _ R2 Y6 ⟨E9,alJ C w' a' wZ hF',hF',arL,fun j y t hT r hd=> ?_,fun t Y=> ?_⟩
  ·by_cases e:j=i
   ·subst e
    rw[hx]at r;cases r;rw[W,hd];simp only[gW,qJ,bK]
   ·have fP:=D.apart hx r (Ne.symm e) t hd
    have:ag (gW fr ao.dst v) t=ag fr t:=by
     cases hda:ao.dst with
     |none=>rfl
     |some d=>
      simp only[gW,qJ];rw[aP (fun z=>fP (by rw[hda,z]))]
    rw[this];exact h.done j y t (hT.resolve_right e) r hd
  ·have fP:=Y i ao (.inr rfl) hx
   have:ag (gW fr ao.dst v) t=ag fr t:=by
    cases hda:ao.dst with
    |none=>rfl
    |some d=>
     simp only[gW,qJ];rw[aP (fun z=>fP (by rw[hda,z]))]
   rw[this];exact h.open_ t fun j y hT r=>Y j y (.inl hT) r
 unfold wpOp;rw[ho];simp only;rcases Y2 with Y2|⟨d,k,z,rfl,Y2⟩
 ·exact JR yA Y2 hs F h.rel h.frame (fun a' w' C B wZ hF'=>fin a' w' C B (wZ.less Q3) hF')
 ·obtain⟨hop,BI,hd,hg⟩:=zS Y2
  rw[DY (P:=P) hg (fun d w _=>h.frame.slot d) (b:=true) rfl];simp only[bK];refine .inl ?_;have hop:Ex P m site o=some (.alloc k z):=by
   rcases hop with hop|hop
   ·exact hop
   ·cases hop
  obtain⟨t,hot,hz⟩:=QZ hop;have ev':∀(st:St)(jS:St),cO cf H ⟨some d,.allocd k z,none⟩ st=some jS->(0<(ax st.2 (.o k)).ver∧(ax st.2 (.o k)).sz=z.length∧zK (ax st.2 (.o k)).els z=true∧(ax st.2 (.o k)).fz=false)∧jS=(set st.1 d (.ptr 0 (.o k) (ax st.2 (.o k)).ver 0 0),st.2):=by
   intro st jS hh;simp only[cO,wanted,bG,bK,cZ,ae]at hh;obtain⟨q,hq,hh⟩:=hh;obtain⟨hc,hq⟩:=IL hq;cases hq;exact⟨hc,hh.symm⟩
  obtain⟨_,hSi⟩:=ev' _ _ he;obtain⟨⟨c1,c2,c3,c4⟩,sW⟩:=ev' _ _ F;simp only[gW,aN]at sW c1 c2 c3 c4;obtain⟨sW,rfl⟩:=sW;have hvp:v= .ptr 0 (.o k) (ax R' (.o k)).ver 0 0:=by
   have:=eU (fun l=>ag l d) sW;simpa only[qJ,bK]using this
  have kH:(ax R' (.o k)).ver=(ax (S 0).2 (.o k)).ver:=by
   have h1:v= .ptr 0 (.o k) (ax (S i).2 (.o k)).ver 0 0:=by
    have I:=congrFun W d;rw[hSi]at I;simpa only[gW,qJ,bK]using I.symm
   rw[hvp]at h1;injection h1 with _ _ h1
   rw[h1];have:=D.afE hx rfl (aJ i);simp only[ax,this]
  obtain⟨x,hxz,MO⟩:=vF (P:=P) (w:=w) hz;have hrun:(execOp a.eval o).run P w= .ok (.value (.pointer (some ⟨w.heap.size,0,none⟩))) (w.alloc (.cells x.cells t)):=by simp[execOp,hot,Instr.alloc,hxz,newVar,newRow]
  have hrel:dR {w0 with R:=RT aEp S w0 T} E R' H w:=h.rel;obtain⟨B,jc⟩:=hrel.acY (R':=RT aEp S w0 (fun j=>T j∨j=i)) (t:=t) Q3 (k:=k) (.inr ⟨i,_,z,hx,rfl,Sv,kH⟩) (by
   rintro(h1|⟨q,y,z',h1,I,h3,_⟩)
   ·exact kS _ _ h1
   ·exact h3 (.inr (D.sites q i y _ k z' z h1 hx I rfl))) c2 (acZ c3) c4 (MO E)
  unfold Oper.wp;rw[hrun];refine fin _ _ _ B jc ?_;rw[<-BI];have hd':=hd;rw[<-BI]at hd';refine(h.frame.mono B).put hd' ?_;rw[hvp];simp only[VR];exact⟨⟨w.heap.size,z.length,x.cells.size,false⟩,by simp[Env.fG],rfl,by simp⟩
theorem Inv.fin{E:Env}{w:World}{a:Act}{T:Nat->Prop}{fr:List V}{R:Mem}(h:Inv n ops aEp w0 cf H S E w a T fr R)(O:∀n v,¬w0.R n v)(B:∀j,j<ops.size->T j):dR w0 E (S ops.size).2 H w∧fD E (S ops.size).1 a n:=by
 have F:=D.len;have hr:(S ops.size).2=R:=by
  rcases h.now with⟨pt,Q,rfl,K⟩|⟨g,⟨Z,Y,W,U,_,_⟩,A,_⟩
  ·exact D.rows (i:=pt) (j:=ops.size) (by omega) (by omega) (fun m y J I l=>by
    cases N:y.op.changes with
    |false=>rfl
    |true=>have:=(K m y l N).1 (B m (by omega));omega)
  ·exact absurd (B g (by have:=(au.1 W).1;omega)) A
 have r:dR {w0 with R:=w0.R} E R H w:=dR.less (R:=RT aEp S w0 T) h.rel (fun n v hr=>absurd hr (O n v));refine⟨hr▸r,h.frame.size,h.frame.defers,fun t=> ?_⟩;have:ag (S ops.size).1 t=ag fr t:=by
  by_cases u:∃(j:Nat)(y:bL),aEp[j]? =some y∧y.dst=some t
  ·obtain⟨j,y,l,hd⟩:=u
   have X:=(au.1 l).1;rw[D.yc (i:=j+1) (j:=ops.size) (by omega) (by omega) (fun m ao J I c=>D.apart c l (by omega) t hd)];exact(h.done j y t (B j (by omega)) l hd).symm
  ·rw[D.yc (i:=0) (j:=ops.size) (by omega) (by omega) (fun m ao J I c C=>u ⟨m,ao,c,C⟩)]
   exact(h.open_ t fun m ao _ c C=>u ⟨m,ao,c,C⟩).symm
 rw[this];exact h.frame.slot t
theorem Float.progress{listed:Array Bool}(l:listed.size=ops.size)(hr:Region.ready .any ops listed=[]):∀i,i<ops.size->listed.getD i false=true:=by
 intro i;induction i using Nat.strongRecOn with
 |_ i j=>
  intro g;cases hl:listed.getD i false with
  |true=>rfl
  |false=>
   exfalso;have c:i∈Region.ready .any ops listed:=by
    rw[mem_ready];refine⟨?_,ops[i],eB g,fun e r u=> ?_⟩
    ·have:i<listed.size:=by omega
     simp only[dO,eB this,dU]at hl⊢;exact hl
    ·have:=D.back i ops[i] (eB g) e r u
     exact j e.on this (by omega)
   rw[hr]at c;cases c
theorem Float.any(N:∀n v,¬w0.R n v)(T:iy P cf){Q:Exit->Act->World->Prop}{E0:Env}(hQ:∀a w E,E0.Le E->dR w0 E (S ops.size).2 H w->fD E (S ops.size).1 a n->Q .normal a w):
  ∀(c:Nat)(listed:Array Bool)(a:Act)(w:World)(E:Env)(fr:List V)(R:Mem),listed.size=ops.size->ops.size<=c+Aw listed ops.size->E0.Le E->
   Inv n ops aEp w0 cf H S E w a (fun j=>listed.getD j false=true) fr R->wpAny P .any ops Q c listed a w:=by
 have l:∀(listed:Array Bool)(a:Act)(w:World)(E:Env)(fr:List V)(R:Mem),E0.Le E->(∀i,i<ops.size->listed.getD i false=true)->Inv n ops aEp w0 cf H S E w a (fun j=>listed.getD j false=true) fr R->Q .normal a w:=by
  intro listed a w E fr R g I A;obtain⟨W,U⟩:=A.fin D N I;exact hQ a w E g W U
 intro c;induction c with
 |zero=>
  intro listed a w E fr R r Y5 g A;have I:=JU (listed:=listed) (m:=ops.size) (by omega);refine⟨?_,l listed a w E fr R g I A⟩;cases hr:Region.ready .any ops listed with
  |nil=>rfl
  |cons j K=>
   exfalso;have J:j∈Region.ready .any ops listed:=by rw[hr];simp
   rw[mem_ready]at J;obtain⟨u,o,ho,_⟩:=J;have Z:j<ops.size:=(ic.1 ho).1;rw[zT (by omega),I j Z]at u;cases u
 |succ c Y=>
  intro listed a w E fr R r Y5 g A;refine⟨fun hr=>l listed a w E fr R g (D.progress r hr) A,fun i F=> ?_⟩;rw[mem_ready]at F;obtain⟨u,oi,C,B⟩:=F;have F:i<ops.size:=(ic.1 C).1;rw[zT (by omega)]at u;have Vg:ops.size<=c+Aw (listed.setIfInBounds i true) ops.size:=by
   rw[OB u (by omega),aX F];omega
  have X:∀j,(listed.setIfInBounds i true).getD j false=true↔(listed.getD j false=true∨j=i):=by
   intro j;by_cases e:i=j
   ·subst e
    simp[dO,show i<listed.size by omega]
   ·rw[getD_set_ne false e]
    constructor
    ·exact .inl
    ·intro h;exact h.resolve_right (Ne.symm e)
  refine A.step D N T F (by simp[u]) (fun o' O e he hb=> ?_) ?_
  ·rw[C]at O;cases O
   exact B e he hb
  ·intro a' w' E' fr' R' Y6 hI
   refine Y _ a' w' E' fr' R' (by simpa using r) Vg (g.trans Y6) ?_;have:(fun j=>(listed.setIfInBounds i true).getD j false=true)=(fun j=>listed.getD j false=true∨j=i):=by
    funext j;exact propext (X j)
   rw[this];exact hI
end float
theorem tF{fr:List V}:∀{c d:List (Nat×Nat)},l5 fr (c++d)=(l5 fr c&&l5 fr d)
 |[],d=>by simp[l5]
 |(a,b)::c,d=>by simp only[aW,l5,tF,Bool.and_assoc]
theorem Dp{cf:fU}{H:List Mem}{ms:List Nat}{all:List bL}:∀{l:List bL}{k:Nat}{st F:St},iA cf H (iO ms all k l).1 st=some F->
  ∃S:Nat->St,S 0=st∧S l.length=F∧∀i ao,l[i]? =some ao->cO cf H ao (S i)=some (S (i+1))∧
   (ao.op.vT=true->sK ms all (k+i)=false->(∀j,cO cf H ao ((S i).1,j)=some ((S (i+1)).1,j))∨
    ∃c,Cu ms all (k+i) ao=some c∧∀fr,l5 fr (iO ms all k l).2=true->l5 fr c=true)
 |[],k,st,F,h=>by
  simp only[iO,iA,aA]at h;subst h;exact⟨fun _=>st,rfl,rfl,by simp⟩
 |ao::l,k,st,F,h=>by
  have W:∀{B F:St},iA cf H (iO ms all (k+1) l).1 B=some F->(∀fr,l5 fr (iO ms all k (ao::l)).2=true->l5 fr (iO ms all (k+1) l).2=true)->
    (cO cf H ao st=some B∧(ao.op.vT=true->sK ms all k=false->(∀j,cO cf H ao (st.1,j)=some (B.1,j))∨
     ∃c,Cu ms all k ao=some c∧∀fr,l5 fr (iO ms all k (ao::l)).2=true->l5 fr c=true))->
    ∃S:Nat->St,S 0=st∧S (ao::l).length=F∧∀i N,(ao::l)[i]? =some N->cO cf H N (S i)=some (S (i+1))∧
     (N.op.vT=true->sK ms all (k+i)=false->(∀j,cO cf H N ((S i).1,j)=some ((S (i+1)).1,j))∨
      ∃c,Cu ms all (k+i) N=some c∧∀fr,l5 fr (iO ms all k (ao::l)).2=true->l5 fr c=true):=by
   intro B F K Q3 Tn;obtain⟨S,e1,e2,e3⟩:=Dp K;refine⟨fun i=>match i with|0=>st|i+1=>S i,rfl,e2,fun i N Q=> ?_⟩;cases i with
   |zero=>
    simp only[dI,aA]at Q;subst Q;simp only[e1,nR];exact Tn
   |succ i=>
    simp only[di]at Q;obtain⟨T,R⟩:=e3 i N Q;refine⟨T,fun U X=> ?_⟩;have e9:k+(i+1)=k+1+i:=by omega
    rw[e9]at X⊢;rcases R U X with q|⟨c,q,Z⟩
    ·exact .inl q
    ·exact .inr ⟨c,q,fun fr g=>Z fr (Q3 fr g)⟩
  by_cases O:ao.op.vT=true∧sK ms all k=false
  ·have J:(ao.op.vT&& !sK ms all k)=true:=by simp[O.1,O.2]
   cases I:Cu ms all k ao with
   |some c=>
    have C:iO ms all k (ao::l)=(ao::(iO ms all (k+1) l).1,c++(iO ms all (k+1) l).2):=by
     simp only[iO,J,bK,I]
    have A:=h;rw[C]at A;simp only[iA,aj]at A;obtain⟨B,u,K⟩:=A;refine W K (fun fr g=> ?_) ⟨u,fun _ _=> .inr ⟨c,I,fun fr g=> ?_⟩⟩
    ·rw[C]at g
     simp only[tF,aH]at g;exact g.2
    ·rw[C]at g
     simp only[tF,aH]at g;exact g.1
   |none=>
    have C:iO ms all k (ao::l)=({ao with op:=ao.op.YJ}::(iO ms all (k+1) l).1,(iO ms all (k+1) l).2):=by
     simp only[iO,J,bK,I]
    have A:=h;rw[C]at A;simp only[iA,aj]at A;obtain⟨B,u,K⟩:=A;have Y:∀j,cO cf H ao (st.1,j)=some (B.1,j)∧B.2=st.2:=by
     intro j;unfold cO at u⊢;obtain⟨b,J,u⟩:=aj.1 u;simp only at J⊢;rw[J,bG];cases b with
     |false=>
      simp only[bq,bZ,aA]at u⊢;rw[<-u];exact⟨rfl,rfl⟩
     |true=>
      simp only[bK]at u⊢;obtain⟨r,hr,U⟩:=ae.1 u;obtain⟨T,R⟩:=QY O.1 hr;rw[R j,aU,<-U];exact⟨rfl,T⟩
    refine W K (fun fr g=>by rw[C]at g;exact g) ⟨?_,fun _ _=> .inl fun j=>(Y j).1⟩;have:=Y st.2;rw[show B=(B.1,st.2) by rw[<-this.2]];exact this.1
  ·have J:¬((ao.op.vT&& !sK ms all k)=true):=by simp only[aH,ry];exact O
   have C:iO ms all k (ao::l)=(ao::(iO ms all (k+1) l).1,(iO ms all (k+1) l).2):=by
    simp only[iO,aP J]
   have A:=h;rw[C]at A;simp only[iA,aj]at A;obtain⟨B,u,K⟩:=A;exact W K (fun fr g=>by rw[C]at g;exact g) ⟨u,fun a b=>absurd ⟨a,b⟩ O⟩
theorem OG{l:List bL}{i a:Nat}(h:yt l i a=true){j:Nat}{y:bL}(hij:i<=j)(c:l[j]? =some y):y.dst≠some a:=by
 unfold yt at h;rw[aV]at h;have hm:y∈l.drop i:=by
  refine List.mem_iff_getElem?.2 ⟨j-i,?_⟩;rw[iU,<-c];congr 1;omega
 have:=h y hm;simpa using this
theorem oG.later{P:Program}{m:Mode}{n:Nat}{ops:Array Oper}{aEp:List bL}{cf:fU}{H:List Mem}{S:Nat->St}{ms:List Nat}(D:oG P m n ops aEp cf H S ms){i a:Nat}(h:yt aEp i a=true)(g:i<=aEp.length):ag (S aEp.length).1 a=ag (S i).1 a:=
 D.yc g (aJ _) (fun q ao j _ c=>OG h j c)
theorem Ha{ms:List Nat}{all:List bL}{i a:Nat}:∀{l:List bL}{k:Nat}{c:List (Nat×Nat)},Oh ms all i a k l=some c->∀{j:Nat}{y:bL},l[j]? =some y->∃d,U1 ms all i a (k+j) y=some d∧∀fr,l5 fr c=true->l5 fr d=true
 |[],_,_,_,j,y,h=>by simp at h
 |z::l,k,c,hc,j,y,h=>by
  simp only[Oh,aj,ae]at hc;obtain⟨d,hd,e,u,rfl⟩:=hc;cases j with
  |zero=>
   simp only[dI,aA]at h;subst h;exact⟨d,hd,fun fr g=>by rw[tF,aH]at g;exact g.1⟩
  |succ j=>
   simp only[di]at h;obtain⟨q,r,A⟩:=Ha u h;refine⟨q,by rw[<-r];congr 1;omega,fun fr g=>A fr (by rw[tF,aH]at g;exact g.2)⟩
theorem Nf{cf:fU}{H:List Mem}{fr:List V}{ao:gJ}{a:Nat}(hl:ao.loadAt=some a){L L':Mem}(h:∀s,V.row (ag fr a)=some (0,s)->(ax L' s).ver=(ax L s).ver∧(ax L' s).els=(ax L s).els)(u:V):
  cZ cf H fr L ao=some (u,L)↔cZ cf H fr L' ao=some (u,L'):=by
 have B:∀{o:Option V}{A:Mem},one A o=some (u,A)↔o=some u:=by
  intro o A;unfold one;cases o<;>simp
 cases ao<;>simp only[gJ.loadAt]at hl<;>try(cases hl;done)
 ·rename_i g n x
  cases x with
  |c v=>simp[gJ.loadAt]at hl
  |t b=>
   simp only[gJ.loadAt,aA]at hl;subst hl;simp only[cZ,B,ev];have:xi (L::H) g n (ag fr b)=xi (L'::H) g n (ag fr b):=by
    unfold xi;split
    ·rename_i d s ver i off j
     cases d with
     |zero=>
      obtain⟨r,l⟩:=h s (by rw[j];rfl);dsimp only;rw[df,df,r,l]
     |succ d=>rfl
    ·rfl
    ·rfl
   rw[this]
 ·rename_i k ok z x y
  cases x with
  |c v=>simp[gJ.loadAt]at hl
  |t b=>
   simp only[gJ.loadAt,aA]at hl;subst hl;simp only[cZ,B,ev];have:∀q,Ar (L::H) k ok z (ag fr b) q=Ar (L'::H) k ok z (ag fr b) q:=by
    intro q;unfold Ar;split
    ·rename_i d s ver j
     cases d with
     |zero=>
      obtain⟨r,l⟩:=h s (by rw[j];rfl);dsimp only;rw[df,df,r,l]
     |succ d=>rfl
    ·rfl
    ·rfl
   rw[this]
theorem JX{cf:fU}{H:List Mem}{fr:List V}{ao:bL}{a:Nat}(hl:ao.op.loadAt=some a){L L':Mem}(h:∀s,V.row (ag fr a)=some (0,s)->(ax L' s).ver=(ax L s).ver∧(ax L' s).els=(ax L s).els)(u:List V):
  cO cf H ao (fr,L)=some (u,L)↔cO cf H ao (fr,L')=some (u,L'):=by
 unfold cO;cases c:wanted fr ao.guard with
 |none=>simp[c]
 |some b=>
  cases b with
  |false=>simp[c]
  |true=>
   simp only[c,bG,bK,ae,aN];constructor
   ·rintro⟨⟨v,A⟩,j,g,rfl⟩
    exact⟨(v,L'),(Nf hl h v).1 j,g,rfl⟩
   ·rintro⟨⟨v,A⟩,j,g,rfl⟩
    exact⟨(v,L),(Nf hl h v).2 j,g,rfl⟩
theorem Xt{x y:V}(h:Br x y=true){s t:Ix}{d e:Nat}(hx:V.row x=some (d,s))(c:V.row y=some (e,t)):(d,s)≠(e,t):=by
 unfold Br at h;rw[hx,c]at h;simpa using h
theorem Ng{L L':Mem}{v v':V}(h:uy L v=some (v',L'))(s:Ix):(ax L' s).ver=(ax L s).ver∧(ax L' s).els=(ax L s).els:=by
 unfold uy at h;split at h
 ·dsimp only at h
  obtain⟨_,h⟩:=IL h;cases h;split
  ·exact⟨rfl,rfl⟩
  ·rw[ay]
   split
   ·rename_i e;subst e;exact⟨rfl,rfl⟩
   ·exact⟨rfl,rfl⟩
 ·cases h;exact⟨rfl,rfl⟩
theorem Nh:∀{vs g:List V}{L L':Mem},kJ L vs=some (g,L')->∀s,(ax L' s).ver=(ax L s).ver∧(ax L' s).els=(ax L s).els
 |[],_,_,_,h,s=>by simp only[kJ,aA,aN]at h;rw[h.2];exact⟨rfl,rfl⟩
 |v::vs,_,_,_,h,s=>by
  simp only[kJ,aj,ae,aN]at h;obtain⟨⟨v1,A⟩,l,⟨r,u⟩,j,_,rfl⟩:=h;obtain⟨a,b⟩:=Ng l s;obtain⟨c,d⟩:=Nh j s;exact⟨c.trans a,d.trans b⟩
theorem Xu{L L':Mem}{v v':V}(h:jR L v=some (v',L'))(s:Ix):(ax L' s).ver=(ax L s).ver∧(ax L' s).els=(ax L s).els:=by
 unfold jR at h;split at h
 ·obtain⟨⟨q,g⟩,c,h⟩:=ae.1 h
  cases h;exact Nh c s
 ·exact Ng h s
theorem Ni{fr:List V}:∀{ps:List (Nat×Nat×Arg)}{q:List (Nat×Nat×V)}{L L':Mem},qg true L fr ps=some (q,L')->∀s,(ax L' s).ver=(ax L s).ver∧(ax L' s).els=(ax L s).els
 |[],_,_,_,h,s=>by simp only[qg,aA,aN]at h;rw[h.2];exact⟨rfl,rfl⟩
 |(o,n,x)::ps,_,_,_,h,s=>by
  simp only[qg,bK,aj,ae,aN]at h;obtain⟨⟨v1,u⟩,j,⟨l,r⟩,g,_,rfl⟩:=h;obtain⟨a,b⟩:=Xu j s;obtain⟨c,d⟩:=Ni g s;exact⟨c.trans a,d.trans b⟩
theorem oG.free{P:Program}{m:Mode}{n:Nat}{ops:Array Oper}{aEp:List bL}{cf:fU}{H:List Mem}{S:Nat->St}{ms:List Nat}(D:oG P m n ops aEp cf H S ms){i j a:Nat}{x y:bL}(hx:aEp[i]? =some x)(hy:aEp[j]? =some y)
  (hl:x.op.loadAt=some a)(qw:yt aEp i a=true)(fP:i≠j)(U:y.op.changes=true){d:List (Nat×Nat)}(hd:U1 ms aEp i a j y=some d)(A:l5 (S aEp.length).1 d=true):
  qK ms i j=true∨(y.op.JW=false∧∀u,cO cf H x ((S i).1,(S j).2)=some (u,(S j).2)↔cO cf H x ((S i).1,(S (j+1)).2)=some (u,(S (j+1)).2)):=by
 by_cases zH:qK ms i j=true
 ·exact .inl zH
 right;unfold U1 at hd;rw[aP (by simp[fP,U,zH])]at hd;have He:=(au.1 hx).1;have YK:=(au.1 hy).1;have Q:=D.later qw (by omega);have I:=D.ev j y hy;have Y:(∀s,V.row (ag (S i).1 a)=some (0,s)->(ax (S (j+1)).2 s).ver=(ax (S j).2 s).ver∧(ax (S (j+1)).2 s).els=(ax (S j).2 s).els)->∀u,cO cf H x ((S i).1,(S j).2)=some (u,(S j).2)↔cO cf H x ((S i).1,(S (j+1)).2)=some (u,(S (j+1)).2):=
  fun h u=>JX hl h u
 have K:(∀s,V.row (ag (S i).1 a)=some (0,s)->ax (S (j+1)).2 s=ax (S j).2 s)->∀u,cO cf H x ((S i).1,(S j).2)=some (u,(S j).2)↔cO cf H x ((S i).1,(S (j+1)).2)=some (u,(S (j+1)).2):=
  fun h u=>JX hl (fun s hs=>by rw[h s hs];exact⟨rfl,rfl⟩) u
 have N:(∀v L',cZ cf H (S j).1 (S j).2 y.op=some (v,L')->(∀t,y.dst=some t->ag (S (j+1)).1 t=v)->∀s,V.row (ag (S i).1 a)=some (0,s)->ax L' s=ax (S j).2 s)->
   ∀s,V.row (ag (S i).1 a)=some (0,s)->ax (S (j+1)).2 s=ax (S j).2 s:=by
  intro h s hs;unfold cO at I;obtain⟨b,_,I⟩:=aj.1 I;split at I
  ·obtain⟨⟨v,L'⟩,J,R⟩:=ae.1 I
   have e2:(S (j+1)).2=L':=by rw[<-R]
   have e1:(S (j+1)).1=gW (S j).1 y.dst v:=by rw[<-R]
   rw[e2];refine h v L' J (fun t W=> ?_) s hs;rw[e1,W];simp only[gW,qJ,bK]
  ·simp only[aA]at I
   rw[<-I]
 have Z:∀{q:V}{s t:Ix},Br (ag (S i).1 a) q=true->V.row (ag (S i).1 a)=some (0,s)->V.row q=some (0,t)->s≠t:=by
  intro q s t J R h3 e;exact Xt J R h3 (by rw[e])
 cases F:y.op<;>rw[F]at hd U<;>(try simp only at hd)<;>(try(cases hd;done))<;>(try(cases U;done));case store nn p v=>
  cases p with
  |c q=>simp at hd
  |t b=>
   simp only at hd;split at hd
   ·rename_i C
    cases hd;refine⟨rfl,K (N fun v' L' l T s hs=> ?_)⟩;rw[F]at l;simp only[cZ,ev,ae,aN]at l;obtain⟨L2,B,_,rfl⟩:=l;simp only[l5,aP C.1,jK]at A;rw[Q,D.later C.2 (by omega)]at A;unfold DI at B;split at B
    ·rename_i s2 ver q off X
     dsimp only at B;split at B
     ·simp only[aj]at B
      obtain⟨e,_,B⟩:=B;split at B
      ·cases B
       rw[ay,aP];exact fun e=>Z A hs (by rw[show ag (S j).1 b=_ from X];rfl) e.symm
      ·cases B
     ·cases B
    ·cases B
   ·cases hd
 case app st sz by' p q=>
  obtain⟨t,W,hd⟩:=aj.1 hd;split at hd
  ·rename_i C
   cases hd;refine⟨rfl,K (N fun v' L' l T s hs=> ?_)⟩;rw[F]at l;simp only[cZ]at l;simp only[l5,aP C.1,jK]at A;rw[Q,D.later C.2 (by omega),T t W]at A;have hL:L'=(S j).2∨∃s2 ver sz len r,v'= .ref 0 s2 ver sz 0 len∧L'=bu (S j).2 s2 r:=by
    simp only[DJ,EE,aj]at l;obtain⟨new,_,l⟩:=l;split at l
    ·split at l
     ·cases l;exact .inl rfl
     ·split at l
      ·cases l;exact .inr ⟨_,_,_,_,_,rfl,rfl⟩
      ·cases l
    ·split at l
     ·cases l;exact .inl rfl
     ·split at l
      ·cases l;exact .inr ⟨_,_,_,_,_,rfl,rfl⟩
      ·cases l
    ·split at l
     ·cases l;exact .inr ⟨_,_,_,_,_,rfl,rfl⟩
     ·cases l
    ·cases l
   rcases hL with rfl|⟨s2,ver,sz,len,r,rfl,rfl⟩
   ·rfl
   ·rw[ay,aP]
    exact fun e=>Z A hs rfl e.symm
  ·cases hd
 case litf sh nn z len q=>
  cases sh with
  |false=>simp at hd
  |true=>
   refine⟨rfl,Y fun s hs=> ?_⟩;unfold cO at I;obtain⟨b,_,I⟩:=aj.1 I;split at I
   ·obtain⟨⟨v,L'⟩,J,R⟩:=ae.1 I
    rw[F]at J;simp only[cZ]at J;obtain⟨⟨q1,L1⟩,EA,J⟩:=aj.1 J;obtain⟨cs,_,J⟩:=aj.1 J;obtain⟨_,J⟩:=IL J;cases J;rw[<-R];exact Ni EA s
   ·simp only[aA]at I
    rw[<-I];exact⟨rfl,rfl⟩
 case mput mk p q v=>
  cases p with
  |c q=>simp at hd
  |t b=>
   simp only at hd;split at hd
   ·rename_i C
    cases hd;refine⟨rfl,K (N fun v' L' l T s hs=> ?_)⟩;rw[F]at l;simp only[cZ,ev,ae,aN]at l;obtain⟨L2,B,_,rfl⟩:=l;simp only[l5,aP C.1,jK]at A;rw[Q,D.later C.2 (by omega)]at A;unfold Dj at B;split at B
    ·rename_i s2 ver X
     dsimp only at B;split at B
     ·simp only[ae]at B
      obtain⟨e,_,B⟩:=B;have:∃r,L2=bu (S j).2 s2 r:=by
       split at B<;>exact⟨_,B.symm⟩
      obtain⟨r,rfl⟩:=this;rw[ay,aP];exact fun e=>Z A hs (by rw[show ag (S j).1 b=_ from X];rfl) e.symm
     ·cases B
    ·cases B
   ·cases hd
 case call f args=>
  refine⟨rfl,K (N fun v' L' l T s hs=> ?_)⟩;rw[F]at l;simp only[cZ]at l;unfold yU at l;split at l
  ·split at l
   ·rw[xY (iL l)]
   ·cases l
  ·cases l
 case calla fz gl st f args=>
  cases fz with
  |true=>simp at hd
  |false=>
   cases st with
   |succ st=>simp at hd
   |zero=>
    simp only[aA]at hd;subst hd;refine⟨rfl,K (N fun v' L' l T s hs=> ?_)⟩;rw[F]at l;simp only[cZ,bq,bZ]at l;have hO:=Vh l;simp only[l5,bK,jK]at A;rw[Q]at A;cases s with
    |g k=>
     exfalso;revert A hs;cases ag (S i).1 a<;>simp only[V.row,V.stat,aA,aN,bq,reduceCtorEq,false_implies,implies_true];all_goals (rintro h ⟨_,rfl⟩;revert h;simp[V.stat])
    |o k=>show eP L'.O k=eP _ k;rw[hO]
def Aq.to:Aq->Exit
 | .normal=> .normal
 | .exit id=> .exit id
 | .ret=> .ret
section
variable{P:Program}{md:Mode}{n:Nat}{w0:jT}{cf:fU}{H:List Mem}
theorem TH(u:iy P cf){id:Nat}{ops:Array Oper}{s:Nat}{r:List bL×Nat}(hr:vQ P md ops n s ops.toList=some r)(hs:0<s){st c:St}{E:Env}{w:World}{a:Act}
  (B:iA cf H r.1 st=some c)(C:dR w0 E st.2 H w)(hF:fD E st.1 a n){Q:Exit->Act->World->Prop}
  (F:∀a' w' g,E.Le g->dR w0 g c.2 H w'->fD g c.1 a' n->Q .normal a' w'):(Code.region id ops false).wp P Q a w:=by
 have hl:=uS hr;simp only[bQ]at hl;refine wp_region ?_;rw[List.range_eq_range',<-hl];refine Ve (m:=md) u r.1 0 st c E w a (fun i ao j=> ?_) B C hF F;have A:=(au.1 j).1;have ho:ops.toList[i]? =some ops[i]:=by simp[eB (show i<ops.size by omega)]
 obtain⟨K,s',l,J,I⟩:=(uG hr hs).2 ho;rw[j]at l;cases l;exact⟨ops[i],s',by simpa using ho,J,I⟩
theorem Q4(kS:∀n v,¬w0.R n v)(hm:P.follows .mixedOrders=true)(yA:iy P cf){id:Nat}{ops:Array Oper}{s:Nat}{r:List bL×Nat}(hr:vQ P md ops n s ops.toList=some r)(hs:0<s)(Y:Oe ops.toList r.1=true)
  {st Z:St}{E:Env}{w:World}{a:Act}{k:Nat}(hk:k=EL (mQ [] ops.toList) ops.size ops.size)
  (he:iA cf H r.1 (st.1,iZ (qL (r.1.take k)) st.2)=some Z)(C:dR w0 E st.2 H w)(hF:fD E st.1 a n){Q:Exit->Act->World->Prop}
  (hQ:∀a' w' W,E.Le W->dR w0 W Z.2 H w'->fD W Z.1 a' n->Q .normal a' w'):(Code.region id ops true).wp P Q a w:=by
 have hl:=uS hr;simp only[bQ]at hl;obtain⟨S,J,O,hSe⟩:=Y3 he;unfold Oe at Y;simp only[aH,bN,bQ]at Y;rw[<-hk]at Y;obtain⟨⟨⟨hkn,Za⟩,alL⟩,alM⟩:=Y;have Vf:(mQ [] ops.toList).length=ops.size:=by
  have:∀(l:List Oper)(ms:List Nat),(mQ ms l).length=ms.length+l.length:=by
   intro l;induction l with
   |nil=>intro ms;simp[mQ]
   |cons o l ih=>intro ms;simp only[mQ,ih,aS];omega
  rw[this];simp
 have B:∀{i:Nat},i<k->∃x,r.1[i]? =some x∧x.op.mY=false∧x.op.DT=true∧∀{j:Nat}{y:bL},j<k->r.1[j]? =some y->Jl (mQ [] ops.toList) i j x y=true:=by
  intro i g;have c:=mF alM g;cases hx:r.1[i]?with
  |none=>simp[hx]at c
  |some x=>
   simp only[hx,aH,ry]at c;refine⟨x,rfl,c.1.1,c.1.2,fun{j y}A hy=> ?_⟩;have u:=mF c.2 A;simpa[hy]using u
 have D:y9 P md n ops r.1 cf H S k (mQ [] ops.toList):=by
  refine⟨hl,hkn,fun i ao g=> ?_,hSe,fun i o ho e Ie X=> ?_,fun T N i j g X hp=> ?_,fun i j hkj A hij=> ?_,fun i ao g hx=> ?_,fun i ao g hx=> ?_,fun i j x y g A hx hy=> ?_⟩
  ·have hlt:=(au.1 g).1
   have ho:ops.toList[i]? =some ops[i]:=by simp[eB (show i<ops.size by omega)]
   obtain⟨C8,s',c,u,h3⟩:=(uG hr hs).2 ho;rw[g]at c;cases c;exact⟨ops[i],s',by simpa using ho,u,h3⟩
  ·have:=BK Za (i:=i) (o:=o) (by simpa using ho) e Ie X
   omega
  ·rw[fA,ak (by omega),dU]at X
   exact BJ N ops.toList [] (by simp) (by simp) i _ (ak (by omega)) j X hp
  ·have c:=mF alL A
   simp only[fI,bN]at c;exact mF (c.resolve_left (by omega)) hij
  ·obtain⟨x,I,c,_⟩:=B g
   rw[hx]at I;cases I;exact c
  ·obtain⟨x,I,_,c,_⟩:=B g
   rw[hx]at I;cases I;exact c
  ·obtain⟨x',I,_,_,c⟩:=B g
   rw[hx]at I;cases I;exact c A hy
 have Q5:dR w0 E st.2 H {w with drawn:=w.drawn+1}:=⟨C.below.drew,C.mem.drew,C.bnd,C.wr,C.out,C.new,C.Ez,C.BC,C.res⟩
 have U:acW (qL (r.1.take k)):=yB _;have F:dR w0 E (S 0).2 H {w with drawn:=w.drawn+1}:=by rw[J];exact QT _ U Q5
 have hrk:∀s,(¬∃j ao,j<k∧r.1[j]? =some ao∧ao.op.site=s∧s≠0)->ax (S k).2 s=ax (S 0).2 s:=fun s hno=>
  D.rows (i:=0) (j:=k) (by omega) (by omega) (fun h0 m z c u hz e=>hno ⟨m,z,u,hz,e,h0⟩)
 have K:∀s,(∃j ao,j<k∧r.1[j]? =some ao∧ao.op.site=s∧s≠0)->∀v o,E.own 0 s v=some o->v<(ax (S 0).2 s).ver:=by
  rintro s ⟨j,ao,A,hx,rfl,h0⟩ v o ho;rw[J];exact G6 _ U Q5 _ (BL (i:=j) (by rw[fQ A];exact hx) h0) v o ho
 have JY:∀j:Nat,(Array.replicate ops.size false).getD j false=false:=fun j=>by
  simp only[dO,Array.getElem?_replicate];split<;>rfl
 refine wp_region_any hm (D.any (E0:=E) (w0:=w0) kS yA (fun a' w' W hle c u=>hQ a' w' W hle (by rw[<-hl,O]at c;exact c) (by rw[<-hl,O]at u;exact u)) ops.size _ a _ E (by simp) (by omega) (.refl _) (.inl ⟨?_,fun j A=>by simp[JY]at A⟩));refine⟨fun i o g N=>by simp[JY]at N,F.below,F.mem.change fun d s o ho=> ?_,F.wr,F.Ez,F.BC,fun s v o ho=>⟨(F.bnd s v o ho).2,fun hk=> .inl (K s hk v o ho),fun _=>(F.bnd s v o ho).1⟩,F.out,F.new,hF.size,hF.defers,
  fun j ao t _ N=>by simp[JY]at N,fun t _=>by rw[J];exact hF.slot t⟩
 cases d with
 |succ d=>rfl
 |zero=>
  simp only[df]at ho⊢;by_cases hw:∃j ao,j<k∧r.1[j]? =some ao∧ao.op.site=s∧s≠0
  ·have hlt:=K s hw _ _ ho
   have alN:∀m,m<=k->(ax (S 0).2 s).ver<=(ax (S m).2 s).ver:=by
    intro m;induction m with
    |zero=>intro _;exact aJ _
    |succ m ih=>
     intro DV;have c:=ih (by omega);obtain⟨x,hx,_⟩:=B (i:=m) (by omega);rcases D.row hx (by omega) s with u|⟨_,_,u⟩<;>rw[u]<;>omega
   have:=alN k (aJ _);omega
  ·exact hrk s hw
theorem Fe{ms:List Nat}{l:List bL}(h:U0 ms l=true){i:Nat}{d:Option Nat}{k:Nat}{z:List V}{g:Option (Nat×Bool)}(hx:l[i]? =some ⟨d,.alloc k z,g⟩):
  (∃K,d=some K)∧g=none∧z.all V.scalar=true∧∀j y,i≠j->l[j]? =some y->y.op.changes=true->y.op.Jn=true∨(∃k' u,y.op= .alloc k' u)∨(i<j∧qK ms i j=true):=by
 have B:=(au.1 hx).1;have c:=mF h B;simp only[hx,aH,Option.isNone_iff_eq_none,Option.isSome_iff_exists]at c;obtain⟨⟨⟨c,I⟩,F⟩,C⟩:=c;refine⟨c,I,F,fun j y J r A=> ?_⟩;have h5:=mF C (au.1 r).1;simp only[r,A,fI,AP,nL,bq,false_or,aH,bN]at h5;rcases h5 with h5|((h5|h5)|h5)
 ·exact absurd h5 J
 ·exact .inl h5
 ·refine .inr (.inl ?_)
  revert h5;cases y.op<;>simp
 ·exact .inr (.inr h5)
theorem JZ{o:bL}(h:(Jo o).op.changes=true):Jo o=o∧∀k z,o.op≠.alloc k z:=by
 obtain⟨d,op,g⟩:=o;cases op<;>first|exact⟨rfl,fun _ _ e=>by cases e⟩|(simp[Jo,gJ.changes]at h)
theorem Gd:∀{l:List bL}{i:Nat}{x:bL}{k:Nat}{z:List V},l[i]? =some x->x.op= .alloc k z->(k,z)∈Bw l
 |[],i,x,k,z,h,_=>by simp at h
 |o::l,0,x,k,z,h,e=>by
  simp only[dI,aA]at h;subst h;simp[Bw,e]
 |o::l,i+1,x,k,z,h,e=>by
  simp only[di]at h;have:=Gd h e;unfold Bw;split<;>simp[this]
theorem J2:∀{l:List bL}{i j:Nat}{x y:bL}{k:Nat}{z c:List V},zL (Bw l)=true->l[i]? =some x->l[j]? =some y->x.op= .alloc k z->y.op= .alloc k c->i=j
 |[],i,_,x,_,k,z,_,_,h,_,_,_=>by simp at h
 |o::l,i,j,x,y,k,z,c,hs,hx,g,A,u=>by
  have r:zL (Bw l)=true:=by
   unfold Bw at hs;split at hs
   ·simp only[zL,aH]at hs;exact hs.2
   ·exact hs
  have no:∀{q:Nat}{w:bL}{z c:List V},o.op= .alloc k z->l[q]? =some w->w.op= .alloc k c->False:=by
   intro q w z c F C B;simp only[Bw,F,zL,aH,aV]at hs;have:=hs.1.2 _ (Gd C B);simp at this
  cases i with
  |zero=>
   simp only[dI,aA]at hx;subst hx;cases j with
   |zero=>rfl
   |succ j=>exact(no A (by simpa using g) u).elim
  |succ i=>
   simp only[di]at hx;cases j with
   |zero=>
    simp only[dI,aA]at g;subst g;exact(no u hx A).elim
   |succ j=>rw[J2 r hx (by simpa using g) A u]
theorem J3(k:Nat):∀(l:List (Nat×List V))(L:Mem),(ax L (.o k)).ver<=(ax (jZ l L) (.o k)).ver
 |[],L=>aJ _
 |(s,z)::l,L=>by
  refine eO ?_ (J3 k l _);rw[ay];split
  ·rename_i e;injection e with e;subst e;simp
  ·exact aJ _
theorem OH{E:Env}{H:List Mem}{w:World}:∀(l:List (Nat×List V)){L:Mem},dR w0 E L H w->dR w0 E (jZ l L) H w
 |[],_,h=>h
 |(s,z)::l,L,h=>by
  refine OH l (h.keep h.below (h.mem.change fun d s' o ho=> ?_) (fun _ _ _ x=> .inl x) (Nat.le_succ _) (fun o _ ho _ e=>by cases e) (fun _ _ _ _ x=>x) (fun _ _ x=> .inl x) (fun _ e=>by cases e));cases d with
  |succ d=>rfl
  |zero=>
   simp only[df,ay]at ho⊢;split at ho
   ·rename_i e;subst e
    rw[h.fresh _ (p9 _)]at ho;cases ho
   ·rename_i e;rw[aP e]
theorem Nj{E:Env}{H:List Mem}{w:World}:∀(l:List (Nat×List V)){L:Mem},dR w0 E L H w->∀k z,(k,z)∈l->E.own 0 (.o k) (ax (jZ l L) (.o k)).ver=none
 |[],_,_,_,_,hm=>by cases hm
 |(s,c)::l,L,h,k,z,hm=>by
  by_cases e:s=k
  ·subst e
   refine h.fresh _ (uq ?_ (J3 s l _));rw[ay,aX rfl];exact p9 _
  ·have g:(k,z)∈l:=by
    rcases ed.1 hm with h1|h1
    ·cases h1;exact absurd rfl e
    ·exact h1
   exact Nj l (OH [(s,c)] h) k z g
theorem OI(kS:∀n v,¬w0.R n v)(hm:P.follows .mixedOrders=true)(yA:iy P cf){id:Nat}{ops:Array Oper}{s:Nat}{r:List bL×Nat}(hr:vQ P md ops n s ops.toList=some r)(hs:0<s){al:List bL}{pre:List (Nat×List V)}
  (J:xQ (mQ [] ops.toList) r.1=(al,pre))(D7:Og ops.toList al=true)(Zb:zL pre=true)
  {st jS:St}{E:Env}{w:World}{a:Act}(he:iA cf H (iO (mQ [] ops.toList) al 0 al).1 (st.1,jZ pre st.2)=some jS)(ag4:l5 jS.1 (iO (mQ [] ops.toList) al 0 al).2=true)(X:dR w0 E st.2 H w)(hF:fD E st.1 a n){Q:Exit->Act->World->Prop}
  (hQ:∀a' w' E',E.Le E'->dR w0 E' jS.2 H w'->fD E' jS.1 a' n->Q .normal a' w'):(Code.region id ops true).wp P Q a w:=by
 have hl:=uS hr;simp only[bQ]at hl;have hno:∀{i:Nat}{x:bL},r.1[i]? =some x->∀k z,x.op≠.allocd k z:=by
  intro i x hx k z e;have hlt:=(au.1 hx).1;have ho:ops.toList[i]? =some ops[i]:=by simp[eB (show i<ops.size by omega)]
  obtain⟨C8,s',A,N,F⟩:=(uG hr hs).2 ho;rw[hx]at A;cases A;obtain⟨hop,_⟩:=zS F;rw[e]at hop;rcases hop with hop|hop
  ·exact OD hop
  ·cases hop
 have Z:al.length=r.1.length:=by
  unfold xQ at J;split at J<;>(cases J;simp)
 have Q7:∀(i:Nat)(x:bL),al[i]? =some x->(r.1[i]? =some x∧∀k z,x.op≠.allocd k z)∨∃d k z,x=⟨some d,.allocd k z,none⟩∧r.1[i]? =some ⟨some d,.alloc k z,none⟩∧(k,z)∈pre∧z.all V.scalar=true:=by
  intro i x hx;unfold xQ at J;split at J
  ·rename_i gB
   cases J;rw[aK,ae]at hx;obtain⟨y,C,rfl⟩:=hx;by_cases hd:∃k z,y.op= .alloc k z
   ·obtain⟨k,z,I⟩:=hd
    obtain⟨d,op,g⟩:=y;simp only at I;subst I;obtain⟨⟨d',rfl⟩,rfl,hz,_⟩:=Fe gB C;exact .inr ⟨d',k,z,rfl,C,Gd C rfl,hz⟩
   ·have e:Jo y=y:=by
     obtain⟨d,op,g⟩:=y;cases op<;>first|rfl|(exact absurd ⟨_,_,rfl⟩ hd)
    rw[e];exact .inl ⟨C,hno C⟩
  ·cases J
   exact .inl ⟨hx,hno hx⟩
 obtain⟨S,hS0,hSn,hSe⟩:=Dp he;unfold Og at D7;simp only[aH,bQ]at D7;obtain⟨Za,alO⟩:=D7;have Vf:(mQ [] ops.toList).length=ops.size:=by
  have:∀(l:List Oper)(ms:List Nat),(mQ ms l).length=ms.length+l.length:=by
   intro l;induction l with
   |nil=>intro ms;simp[mQ]
   |cons o l ih=>intro ms;simp only[mQ,ih,aS];omega
  rw[this];simp
 have B:oG P md n ops al cf H S (mQ [] ops.toList):=by
  refine⟨by omega,fun i ao U=> ?_,fun i j x y k z fP hx O C W=> ?_,fun i j x y k z z' hx C O I=> ?_,fun i ao U=>(hSe i ao U).1,fun i o ho e Ie hb=> ?_,fun T hT i j U hb hp=> ?_,fun i j x y hx C=> ?_⟩
  ·have hlt:=(au.1 U).1
   have ho:ops.toList[i]? =some ops[i]:=by simp[eB (show i<ops.size by omega)]
   obtain⟨C8,s',A,N,F⟩:=(uG hr hs).2 ho;refine⟨ops[i],s',by simpa using ho,N,?_⟩;rcases Q7 i ao U with⟨K,_⟩|⟨d,k,z,rfl,K,_⟩
   ·rw[K]at A;cases A
    exact .inl F
   ·rw[K]at A;cases A
    exact .inr ⟨d,k,z,rfl,F⟩
  ·rcases Q7 i x hx with⟨K,Y⟩|⟨d,k',z',rfl,K,_⟩
   ·exact absurd O (Y _ _)
   ·unfold xQ at J
    split at J
    ·rename_i gB
     cases J;rw[aK,ae]at C;obtain⟨y',MN,rfl⟩:=C;obtain⟨e1,e2⟩:=JZ W;rw[e1]at W⊢;rcases(Fe gB K).2.2.2 j y' fP MN W with h6|⟨k2,z2,h6⟩|h6
     ·exact .inl h6
     ·exact absurd h6 (e2 _ _)
     ·exact .inr h6
    ·cases J
     rw[K]at hx;cases hx
  ·rcases Q7 i x hx with⟨K,Y⟩|⟨d,k1,z1,rfl,K,_⟩
   ·exact absurd O (Y _ _)
   rcases Q7 j y C with⟨h6,h7⟩|⟨d2,k2,z2,rfl,h6,_⟩
   ·exact absurd I (h7 _ _)
   simp only[gJ.allocd.injEq]at O I;obtain⟨rfl,rfl⟩:=O;obtain⟨rfl,rfl⟩:=I;have hpre:pre=Bw r.1:=by
    unfold xQ at J;split at J
    ·cases J;rfl
    ·cases J
     rw[K]at hx;cases hx
   rw[hpre]at Zb;exact J2 Zb K h6 rfl rfl
  ·have:=BK Za (i:=i) (o:=o) (by simpa using ho) e Ie hb
   omega
  ·rw[fA,ak (by omega),dU]at hb
   exact BJ hT ops.toList [] (by simp) (by simp) i _ (ak (by omega)) j hb hp
  ·have hxl:=(au.1 hx).1
   have hyl:=(au.1 C).1;have A:=mF alO (i:=i) (by omega);simp only[hx]at A;have N:=mF A (i:=j) (by omega);simpa only[C]using N
 have D:Float P md n ops al cf H S (mQ [] ops.toList):=by
  refine⟨B,fun i ao U hc=> ?_⟩;obtain⟨A,N⟩:=hSe i ao U;rw[dV]at N;by_cases hld:ao.op.vT=true
  ·cases ht:sK (mQ [] ops.toList) al i with
   |false=>
    rcases N hld ht with F|⟨c,F,K⟩
    ·exact .inl F
    ·right
     intro j y fP C W;have Y:=K _ ag4;unfold Cu at F;obtain⟨q,hq,F⟩:=aj.1 F;obtain⟨qw,F⟩:=ft F;obtain⟨d,hd,TI⟩:=Ha F C;rw[dV]at hd;refine B.free U C hq qw fP W hd ?_;rw[hSn];exact TI _ Y
   |true=>
    refine .inr fun j y fP C W=> .inl ?_;have F:=mF ht (i:=j) (au.1 C).1;simp only[C,W,nL,iK,fI,AP]at F;exact F.resolve_left fP
  ·by_cases Yn:∃k z,ao.op= .allocd k z
   ·obtain⟨k,z,pW⟩:=Yn
    right;intro j y fP C W;rcases B.late i j ao y k z fP U pW C W with F|⟨_,F⟩
    ·refine .inr ⟨by cases I:y.op<;>simp_all [gJ.Jn,gJ.JW],fun u=> ?_⟩
     exact Q0 pW (G9 F (B.ev j y C)) u
    ·exact .inl F
   ·left
    intro L2;unfold cO at A⊢;obtain⟨b,hb,A⟩:=aj.1 A;simp only at hb⊢;rw[hb,bG];cases b with
    |false=>
     simp only[bq,bZ,aA]at A⊢;rw[<-A]
    |true=>
     simp only[bK]at A⊢;obtain⟨q,hq,F⟩:=ae.1 A;have:=QX hc (by simpa using hld) (fun k z e=>Yn ⟨k,z,e⟩) (v:=q.1) (L':=q.2) hq L2;rw[this,aU,<-F]
 have Q5:dR w0 E st.2 H {w with drawn:=w.drawn+1}:=⟨X.below.drew,X.mem.drew,X.bnd,X.wr,X.out,X.new,X.Ez,X.BC,X.res⟩
 have JY:∀j:Nat,(Array.replicate ops.size false).getD j false=false:=fun j=>by
  simp only[dO,Array.getElem?_replicate];split<;>rfl
 refine wp_region_any hm (D.any (E0:=E) (w0:=w0) kS yA (fun a' w' E' hle A N=>hQ a' w' E' hle (by rw[<-hl,<-Z,hSn]at A;exact A) (by rw[<-hl,<-Z,hSn]at N;exact N)) ops.size _ a _ E st.1 (S 0).2 (by simp) (by omega) (.refl _) ?_);refine⟨fun i o U hT=>by simp[JY]at hT,?_,hF,.inl ⟨0,by omega,rfl,fun i ao U hc=>by simp[JY]⟩,fun j ao t hT=>by simp[JY]at hT,fun t _=>by rw[hS0]⟩;have hp:=OH pre Q5;rw[hS0];refine⟨hp.below,hp.mem,hp.bnd,hp.wr,hp.out,hp.new,hp.Ez,hp.BC,fun k v hr=> ?_⟩;rcases hr with A|⟨i,x,z,A,N,_,rfl⟩
 ·exact absurd A (kS _ _)
 ·rcases Q7 i x A with⟨_,Y⟩|⟨d,k',z',rfl,K,Y,_⟩
  ·exact absurd N (Y _ _)
  ·simp only[gJ.allocd.injEq]at N
   obtain⟨rfl,rfl⟩:=N;rw[hS0];exact⟨aJ _,Nj pre Q5 _ _ Y⟩
def Gf(P:Program)(m:Nat)(lf:xO):Prop:=
 ∀(md:Mode)(n s:Nat)(c:Code)(ac:eu)(s':Nat)(w0:jT)(H:List Mem)(st jS:St)(e:Aq)(E:Env)(w:World)(a:Act)(Q:Exit->Act->World->Prop),
  (∀n v,¬w0.R n v)->kY P md n s c=some (ac,s')->0<s->lf ac H st=some (e,jS)->dR w0 E st.2 H w->fD E st.1 a n->
  (∀a' w' E',E.Le E'->dR w0 E' jS.2 H w'->fD E' jS.1 a' n->Q e.to a' w')->Code.rounds P c Q m a w
theorem qO{P:Program}{md:Mode}{n:Nat}:∀{c:Code}{s s':Nat}{g:eu},kY P md n s c=some (g,s')->0<s->0<s'
 | .skip,s,s',g,h,hs| .label _,s,s',g,h,hs| .exit _,s,s',g,h,hs| .ret,s,s',g,h,hs=>by
  simp only[kY,aA,aN]at h;omega
 | .region id ops u,s,s',g,h,hs=>by
  simp only[kY,aj]at h;obtain⟨r,hr,h⟩:=h;have:=(uG hr hs).1;split at h
  ·obtain⟨q,B,h⟩:=aj.1 h
   have:=(uG B hs).1;split at h
   ·cases h;omega
   ·split at h
    ·cases h;omega
    ·cases h
  ·cases h;omega
 | .seq x y,s,s',g,h,hs=>by
  simp only[kY,aj,ae,aN]at h;obtain⟨⟨j,s1⟩,hx,⟨A,s2⟩,l,_,rfl⟩:=h;exact qO l (qO hx hs)
 | .cond c x y,s,s',g,h,hs=>by
  simp only[kY,aj,ae,aN]at h;obtain⟨_,_,⟨j,s1⟩,hx,⟨A,s2⟩,l,_,rfl⟩:=h;exact qO l (qO hx hs)
 | .block id c,s,s',g,h,hs=>by
  simp only[kY,ae,aN]at h;obtain⟨⟨j,s1⟩,hx,_,rfl⟩:=h;exact qO hx hs
 | .loop c,s,s',g,h,hs=>by
  simp only[kY,ae,aN]at h;obtain⟨⟨j,s1⟩,hx,_,rfl⟩:=h;exact qO hx hs
 | .scope c,s,s',g,h,hs=>by
  simp only[kY,ae,aN]at h;obtain⟨⟨j,s1⟩,hx,_,rfl⟩:=h;exact qO hx hs
 | .goto _,s,s',g,h,hs| .refuse _,s,s',g,h,hs| .rangeFunc ..,s,s',g,h,hs=>by simp[kY]at h
theorem qx(O:∀n v,¬w0.R n v)(hm:P.follows .mixedOrders=true)(J:iy P cf){m:Nat}{lf:xO}(U:Gf P m lf):
  ∀(c:Code)(s s':Nat)(F:eu)(st u:St)(e:Aq)(E:Env)(w:World)(a:Act)(Q:Exit->Act->World->Prop),kY P md n s c=some (F,s')->0<s->
   jV cf lf H F st=some (e,u)->dR w0 E st.2 H w->fD E st.1 a n->(∀a' w' I,E.Le I->dR w0 I u.2 H w'->fD I u.1 a' n->Q e.to a' w')->c.wp P Q a w
 | .skip,s,s',F,st,u,e,E,w,a,Q,hc,hs,g,l,hF,j=>by
  simp only[kY,aA,aN]at hc;obtain⟨rfl,rfl⟩:=hc;simp only[jV,aA,aN]at g;obtain⟨rfl,rfl⟩:=g;exact wp_skip (j a w E (.refl _) l hF)
 | .label _,s,s',F,st,u,e,E,w,a,Q,hc,hs,g,l,hF,j=>by
  simp only[kY,aA,aN]at hc;obtain⟨rfl,rfl⟩:=hc;simp only[jV,aA,aN]at g;obtain⟨rfl,rfl⟩:=g;exact wp_label (j a w E (.refl _) l hF)
 | .ret,s,s',F,st,u,e,E,w,a,Q,hc,hs,g,l,hF,j=>by
  simp only[kY,aA,aN]at hc;obtain⟨rfl,rfl⟩:=hc;simp only[jV,aA,aN]at g;obtain⟨rfl,rfl⟩:=g;exact wp_ret (j a w E (.refl _) l hF)
 | .exit id,s,s',F,st,u,e,E,w,a,Q,hc,hs,g,l,hF,j=>by
  simp only[kY,aA,aN]at hc;obtain⟨rfl,rfl⟩:=hc;simp only[jV,aA,aN]at g;obtain⟨rfl,rfl⟩:=g;exact wp_exit (j a w E (.refl _) l hF)
 | .region id ops Z,s,s',F,st,u,e,E,w,a,Q,hc,hs,g,l,hF,j=>by
  simp only[kY,aj]at hc;obtain⟨r,hr,hc⟩:=hc;cases Z with
  |false=>
   simp only[bq,bZ,aA,aN]at hc;obtain⟨rfl,rfl⟩:=hc;simp only[jV,iZ,jZ,l5,bK,aj,aA,aN]at g;obtain⟨W,T,rfl,rfl⟩:=g;exact TH J hr hs T l hF j
  |true=>
   simp only[bK,aj]at hc;obtain⟨q,hq,hc⟩:=hc;split at hc
   ·rename_i X
    cases hc;simp only[jV,jZ,l5,bK,aj,aA,aN]at g;obtain⟨W,T,rfl,rfl⟩:=g;simp only[aH]at X;exact Q4 O hm J hq hs X.2 rfl T l hF j
   ·split at hc
    ·rename_i X
     cases hc;simp only[aH]at X;simp only[jV,iZ,aj]at g;obtain⟨W,T,g⟩:=g;obtain⟨ag4,g⟩:=ft g;cases g;exact OI O hm J hr hs (al:=(xQ (mQ [] ops.toList) r.1).1) (pre:=(xQ (mQ [] ops.toList) r.1).2) rfl X.1 X.2 T ag4 l hF j
    ·cases hc
 | .seq x y,s,s',F,st,u,e,E,w,a,Q,hc,hs,g,l,hF,j=>by
  simp only[kY,aj,ae,aN]at hc;obtain⟨⟨K,s1⟩,hx,⟨y',s2⟩,hy,rfl,rfl⟩:=hc;simp only[jV,aj]at g;obtain⟨⟨Y,W⟩,T,C⟩:=g;refine wp_seq (qx O hm J U x s s1 K st W Y E w a _ hx hs T l hF fun a' w' I A N B=> ?_);cases Y with
  |normal=>
   simp only at C;exact qx O hm J U y s1 s2 y' W u e I w' a' Q hy (qO hx hs) C N B fun a2 w2 E2 EZ=>j a2 w2 E2 (A.trans EZ)
  |exit id=>simp only[aA,aN]at C;obtain⟨rfl,rfl⟩:=C;exact j a' w' I A N B
  |ret=>simp only[aA,aN]at C;obtain⟨rfl,rfl⟩:=C;exact j a' w' I A N B
 | .cond c x y,s,s',F,st,u,e,E,w,a,Q,hc,hs,g,l,hF,j=>by
  simp only[kY,aj,ae,aN]at hc;obtain⟨c',IJ,⟨K,s1⟩,hx,⟨y',s2⟩,hy,rfl,rfl⟩:=hc;simp only[jV,aj]at g;obtain⟨t,ht,g⟩:=g;have hv:=Oj (E:=E) (fr:=st.1) (a:=a) IJ (fun t _=>hF.slot t);rw[Ju ht]at hv;simp only[VR]at hv;refine wp_cond hv ?_;cases t with
  |true=>simp only[bK]at g⊢;exact qx O hm J U x s s1 K st u e E w a Q hx hs g l hF j
  |false=>simp only[bq,bZ]at g⊢;exact qx O hm J U y s1 s2 y' st u e E w a Q hy (qO hx hs) g l hF j
 | .block id c,s,s',F,st,u,e,E,w,a,Q,hc,hs,g,l,hF,j=>by
  simp only[kY,ae,aN]at hc;obtain⟨⟨K,s1⟩,hx,rfl,rfl⟩:=hc;simp only[jV,ae]at g;obtain⟨⟨Y,W⟩,T,C⟩:=g;refine wp_block (qx O hm J U c s s1 K st W Y E w a _ hx hs T l hF fun a' w' I A N B=> ?_);cases Y with
  |normal=>simp only[aN]at C;obtain⟨rfl,rfl⟩:=C;exact j a' w' I A N B
  |ret=>simp only[aN]at C;obtain⟨rfl,rfl⟩:=C;exact j a' w' I A N B
  |exit i=>
   simp only[aN]at C;obtain⟨C,rfl⟩:=C;have:=j a' w' I A N B;simp only[Aq.to,Exit.inBlock];split
   ·rename_i h;rw[aX h]at C;subst C;exact this
   ·rename_i h;rw[aP h]at C;subst C;exact this
 | .loop c,s,s',F,st,u,e,E,w,a,Q,hc,hs,g,l,hF,j=>by
  simp only[kY,ae,aN]at hc;obtain⟨⟨K,s1⟩,hx,rfl,rfl⟩:=hc;simp only[jV]at g;exact wp_loop_rounds m (U md n s c K s1 w0 H st u e E w a Q O hx hs g l hF j)
 | .scope c,s,s',F,st,u,e,E,w,a,Q,hc,hs,g,l,hF,j=>by
  simp only[kY,ae,aN]at hc;obtain⟨⟨K,s1⟩,hx,rfl,rfl⟩:=hc;simp only[jV]at g;refine wp_scope_straight (qx O hm J U c s s1 K st u e E w a _ hx hs g l hF fun a' w' I A N B=> ?_);have:=j a' w' I A N B;cases e<;>exact this
 | .goto _,s,s',F,st,u,e,E,w,a,Q,hc,hs,g,l,hF,j=>by simp[kY]at hc
 | .refuse _,s,s',F,st,u,e,E,w,a,Q,hc,hs,g,l,hF,j=>by simp[kY]at hc
 | .rangeFunc ..,s,s',F,st,u,e,E,w,a,Q,hc,hs,g,l,hF,j=>by simp[kY]at hc
def CR(F:Env)(lo:Nat)(w:World)(u:V)(x:Value):Prop:=
 match u with
 | .sl .own sz els=>GV F lo w sz els x
 |u=>VR u F x
theorem CR.vr{F:Env}{lo:Nat}{w:World}{u:V}{x:Value}(h:CR F lo w u x)(c:∀sz els,u≠.sl .own sz els):VR u F x:=by
 unfold CR at h;split at h
 ·exact absurd rfl (c _ _)
 ·exact h
theorem CR.of{F:Env}{lo:Nat}{w:World}{u:V}{x:Value}(h:VR u F x):CR F lo w u x:=by
 unfold CR;split
 ·simp only[VR]at h;exact absurd rfl h.1
 ·exact h
structure ac0(am:Bool)(b:Nat)(E F:Env):Prop where
 iY:F.iY=E.iY
 up:∀d n v,F.own d (.o n) v=E.own (d+1) (.o n) v
 qW:am=true->∀n v,F.own 0 (.g n) v=E.own 0 (.g n) v
 old:∀n v o,F.own 0 (.g n) v=some o->E.own 0 (.g n) v=some o
 gz:∀d n v,F.own (d+1) (.g n) v=none
 low:am=false->∀n v o,F.own 0 (.g n) v=some o->n<b
theorem Zc{am:Bool}{E F:Env}{L:Mem}{w:World}{v u:V}{x:Value}(C:ac0 am L.b E F)(ac1:am=false->∀b,¬w0.G b)(O:dR w0 E L H w)(j:VR v E x)(h:pG am L v=some u):CR F w0.w.heap.size w u x∧(∀l,u≠.eT l):=by
 have I:∀b c,E.iY b=some c->F.iY b=some c:=fun b c h=>by rw[C.iY];exact h
 have N:am=true->∀n v o,E.own 0 (.g n) v=some o->F.own 0 (.g n) v=some o:=fun e n v o h=>by rw[C.qW e];exact h
 have own:∀{s:Ix}{ver sz off len:Nat},(am=true->∀n,s≠.g n)->VR (.ref 0 s ver sz off len) E x->
   (if(ax L s).ver=ver∧0<ver∧off=0∧len=(ax L s).els.length∧0<(ax L s).sz∧((ax L s).els.all fun e=>e.all (if am=true then V.gL else V.pure))=true∧L.ok s=true then some (V.sl .own (ax L s).sz (ax L s).els)else none)=some u->
   CR F w0.w.heap.size w u x∧(∀l,u≠.eT l):=by
  intro s ver szr off len R j h;obtain⟨⟨kH,h0,W,TK,F9,Zd,B⟩,h2⟩:=ft h;clear h;subst W TK;cases h2;refine⟨?_,by intro l;simp⟩;simp only[VR]at j;obtain⟨o,a,cap,ho,pF,rfl,yx,Y,Z⟩:=j;rw[<-kH]at ho;have Cx:=Mem.JH B;obtain⟨c,t,hb,U,J,A⟩:=O.mem.cur 0 s o ho pF;simp only[df,Env.pQ]at A J;have T:(ax L s).els.all (fun e=>e.all V.gL)=true:=by
   cases am with
   |true=>exact Zd
   |false=>exact ja Zd
  have X:w0.w.heap.size<=o.blk:=by
   cases s with
   |o n=>exact(O.bnd _ _ _ ho).2 n rfl
   |g n=>
    cases am with
    |true=>exact(R rfl n rfl).elim
    |false=>
     rcases O.may B ho with h1|h1
     ·exact h1
     ·exact absurd h1 (ac1 rfl _)
  simp only[CR,GV];refine⟨o.blk,c,t,cap,a,rfl,Y,?_,X,hb,?_,?_,T,?_⟩
  ·rcases Z with h|⟨h1,h2⟩
   ·exact .inl h
   ·refine .inr ⟨by simpa using h1,?_⟩
    rw[<-J,U];simpa using h2
  ·rw[C.iY];exact O.mem.LH 0 s o ho Cx
  ·intro d s' v' o' Q he
   cases s' with
   |o n=>
    rw[C.up]at Q;have:=(O.mem.inj _ _ _ _ _ _ _ _ Q ho he).1;omega
   |g n=>
    cases d with
    |succ d=>rw[C.gz]at Q;cases Q
    |zero=>
     have h3:=(O.mem.inj _ _ _ _ _ _ _ _ (C.old _ _ _ Q) ho he).2;subst h3;cases am with
     |true=>exact R rfl n rfl
     |false=>
      have h4:=C.low rfl _ _ _ Q;unfold Mem.ok at B;simp only[aH,bN]at B;omega
  ·rw[<-J]
   cases am with
   |true=>
    have h9:dF (ax L s).els E.bare o.sz c.toList:=dF.pure T A;refine dF.mono (E:=E.bare) (F:=F.bare) ⟨fun d s v o x=> ?_,I⟩ _ _ _ h9;obtain⟨n,rfl,rfl,x⟩:=Env.EJ x;exact N rfl _ _ _ x
   |false=>exact dF.deep (E:=E) (F:=F.bare) I _ _ _ (by rw[V.mM];exact Zd) A
 cases v with
 |bool|int|str|nA|aL|pO|nW=>
  simp only[pG,aA]at h;subst h;exact⟨.of (by simpa[VR]using j),by intro l;simp⟩
 |undef|eT|eptr|mth=>simp[pG]at h
 |sl k sz els=>
  simp only[pG]at h;cases am with
  |true=>
   simp only[bK]at h;split at h
   ·cases h
   ·rename_i hk
    cases h;exact⟨.of (VR.gL (N rfl) I (by simpa[V.gL]using hk) j),by intro l;simp⟩
  |false=>
   simp only[bq,bZ]at h;split at h
   ·rename_i hp
    cases h;exact⟨.of (VR.deep I _ _ hp j),by intro l;simp⟩
   ·cases h
 |ref d s ver sz off len=>
  cases d with
  |zero=>
   cases am with
   |false=>
    cases s<;>exact own (fun e=>by cases e) j (by simpa only[pG]using h)
   |true=>
    cases s with
    |o n=>exact own (fun _ n e=>by cases e) j (by simpa only[pG]using h)
    |g n=>
     simp only[pG,aA]at h;subst h;refine⟨.of ?_,by intro l;simp⟩;simp only[VR]at j⊢;obtain⟨o,a,cap,ho,r⟩:=j;exact⟨o,a,cap,N rfl _ _ _ ho,r⟩
  |succ d=>
   cases s with
   |g n=>simp[pG]at h
   |o n=>
    simp only[pG,aA]at h;subst h;refine⟨.of ?_,by intro l;simp⟩;simp only[VR,C.up]at j⊢;exact j
 |ptr d s ver i off=>
  cases d with
  |zero=>
   cases s with
   |o n=>simp[pG]at h
   |g n=>
    simp only[pG]at h;obtain⟨K,h⟩:=ft h;cases h;refine⟨.of ?_,by intro l;simp⟩;simp only[VR]at j⊢;obtain⟨o,ho,r⟩:=j;exact⟨o,N K _ _ _ ho,r⟩
  |succ d=>
   cases s with
   |g n=>simp[pG]at h
   |o n=>
    simp only[pG,aA]at h;subst h;refine⟨.of ?_,by intro l;simp⟩;simp only[VR,C.up]at j⊢;exact j
 |mp d s ver=>
  cases d with
  |zero=>
   cases s with
   |o n=>simp[pG]at h
   |g n=>
    simp only[pG]at h;obtain⟨K,h⟩:=ft h;cases h;refine⟨.of ?_,by intro l;simp⟩;simp only[VR]at j⊢;obtain⟨o,ho,r⟩:=j;exact⟨o,N K _ _ _ ho,r⟩
  |succ d=>simp[pG]at h
 |fn f caps=>
  simp only[pG]at h;obtain⟨hp,h⟩:=ft h;cases h;refine⟨.of ?_,by intro l;simp⟩;simp only[VR]at j⊢;obtain⟨c,rfl,hc⟩:=j;refine⟨c,rfl,?_⟩;cases am with
  |true=>exact dY.gL (N rfl) I hp hc
  |false=>exact dY.calm I hp hc
 |agg cs=>
  simp only[pG]at h;obtain⟨hp,h⟩:=ft h;cases h;refine⟨.of ?_,by intro l;simp⟩;simp only[VR]at j⊢;obtain⟨c,rfl,hc⟩:=j;refine⟨c,rfl,?_⟩;cases am with
  |true=>exact dY.gL (N rfl) I hp hc
  |false=>exact dY.deep I _ _ (by rw[V.wY];exact hp) hc
inductive CRs(F:Env)(lo:Nat)(w:World):List V->List Value->Prop
 |nil:CRs F lo w [] []
 |cons {u us x xs}:CR F lo w u x->(∀l,u≠.eT l)->CRs F lo w us xs->CRs F lo w (u::us) (x::xs)
theorem Gg{am:Bool}{E F:Env}{L:Mem}{w:World}(r:ac0 am L.b E F)(g:am=false->∀b,¬w0.G b)(l:dR w0 E L H w):∀{vs us:List V}{xs:List Value},dY vs E xs->wE am L vs=some us->CRs F w0.w.heap.size w us xs
 |[],us,xs,c,h=>by
  simp only[wE,aA]at h;subst h;simp only[dY]at c;subst c;exact .nil
 |v::vs,us,xs,c,h=>by
  simp only[wE,aj,ae]at h;obtain⟨u,B,A,j,rfl⟩:=h;simp only[dY]at c;obtain⟨x,K,rfl,hx,J⟩:=c;obtain⟨I,C⟩:=Zc r g l hx B;exact .cons I C (Gg r g l J j)
theorem CRs.vrs{F:Env}{lo:Nat}{w:World}:∀{us:List V}{xs:List Value},CRs F lo w us xs->us.all (fun v=>match v with| .sl .own _ _=>false|_=>true)=true->dY us F xs
 |_,_,.nil,_=>rfl
 |_,_,.cons (u:=u) (us:=us) g j c,h=>by
  simp only[aZ,aH]at h;exact⟨_,_,rfl,g.vr (fun sz els e=>by subst e;simp at h),c.vrs h.2⟩
theorem CRs.length{F:Env}{lo:Nat}{w:World}:∀{us:List V}{xs:List Value},CRs F lo w us xs->xs.length=us.length
 |_,_,.nil=>rfl
 |_,_,.cons _ _ h=>by simp[h.length]
theorem Vm{F:Env}{lo:Nat}{w:World}{us:List V}{xs:List Value}{v:V}(h:CRs F lo w us xs)(ho:lD us=true)(c:yV us=v):
  zR F lo w v (if h:xs.toArray.size=1 then xs.toArray[0]else .tuple xs.toArray):=by
 match us,h,ho,c with
 |[],h,ho,c=>
  subst c;cases h;exact⟨#[],rfl,rfl⟩
 |[u],h,ho,c=>
  subst c;show zR F lo w u _;cases h with
  |cons j B r=>
   cases r;rw[dif_pos (by simp)];simp only[List.getElem_toArray,List.getElem_cons_zero];cases u with
   |sl k sz els=>cases k<;>exact j
   |eT l=>exact absurd rfl (B l)
   |_=>exact j
 |u::A::us,h,ho,c=>
  subst c;show zR F lo w (.eT (u::A::us)) _;have g:=h.length;rw[dif_neg (by simp only[fT,g,aS];omega)];cases h with
  |cons j B r=>
   rename_i x xs;simp only[lD]at ho;have C:=r.vrs ho;have plain:(∀sz els,u≠.sl .own sz els)->VR (.eT (u::A::us)) F (.tuple (x::xs).toArray):=fun I=>⟨_,rfl,x,xs,rfl,j.vr I,C⟩
   cases u with
   |sl k sz els=>
    cases k with
    |own=>exact⟨_,x,xs,rfl,rfl,j,C⟩
    |any=>exact plain (by simp)
    |full=>exact plain (by simp)
   |_=>exact plain (by simp)
theorem TL{L:Mem}{g:Bool}{k:Nat}{v u:V}(h:xi [L] g k v=some u):xi (L::H) g k v=some u:=by
 unfold xi at h⊢;split at h
 ·rename_i d s ver i off
  dsimp only at h⊢;cases d with
  |zero=>exact h
  |succ d=>
   split at h
   ·rename_i hc
    have:(iH [L] (d+1) s).ver=0:=by cases s<;>rfl
    omega
   ·cases h
 ·exact h
 ·cases h
theorem BM{E:Env}{L:Mem}{w:World}{fr:List V}{a:Act}(J:dR w0 E L H w)(hF:fD E fr a n):∀{l:List ResultVar}{rs:List sU}{vs:List V},SS P l=some rs->EI L fr rs=some vs->
  ∃xs:List Value,(l.mapM (fun r=>match r with| .tmp t=>pure (a.tmps.getD t undef)| .cell b t=>do loadVar t (<-asAddr (a.tmps.getD b undef)):ResultVar->Sem Value)).run P w= .ok xs w∧dY vs E xs
 |[],rs,vs,h,c=>by
  simp only[SS,aA]at h;subst h;simp only[EI,aA]at c;subst c;exact⟨[],rfl,rfl⟩
 | .tmp t::l,rs,vs,h,c=>by
  simp only[SS,ae]at h;obtain⟨C,R,rfl⟩:=h;simp only[EI,acJ,bG,ae]at c;obtain⟨B,Q,rfl⟩:=c;obtain⟨xs,hx,T⟩:=BM J hF R Q;exact⟨a.tmps.getD t undef::xs,by simp only[List.mapM_cons,bJ,dz,aQ,hx],_,_,rfl,hF.slot t,T⟩
 | .cell b t::l,rs,vs,h,c=>by
  simp only[SS,aj,ae]at h;obtain⟨g,W,k,U,C,R,rfl⟩:=h;simp only[EI,acJ,aj,ae]at c;obtain⟨u,A,B,Q,rfl⟩:=c;obtain⟨xs,hx,T⟩:=BM J hF R Q;obtain⟨y,I,F⟩:=Dl (P:=P) J.mem W U (hF.slot b) (TL A);have hp:∃O,a.tmps.getD b undef= .pointer (some O):=by
   have hs:=hF.slot b;unfold xi at A;split at A
   ·rename_i e;rw[e]at hs;simp only[VR]at hs
    obtain⟨o,_,K⟩:=hs;exact⟨_,K.2⟩
   ·rename_i e;rw[e]at hs;simp only[VR]at hs
    obtain⟨_,_,_,_,K,_⟩:=hs;exact⟨_,K⟩
   ·cases A
  obtain⟨O,j⟩:=hp;rw[j]at I;simp only[Instr.loadAt,Instr.sureAddr,bJ,dz,aQ]at I;have N:(asAddr (a.tmps.getD b undef)).run P w= .ok O w:=by rw[j];rfl
  exact⟨y::xs,by simp only[List.mapM_cons,bJ,N,dz,aQ,I,hx],_,_,rfl,F,T⟩
def Q9(P:Program)(bn:yw):Prop:=∀f af,bn f=some af->∃fn keep,P.funcs[f]? =some fn∧U2 P keep fn=some af
def Ze(P:Program)(bn:yw):Prop:=iy P fun f args _=>(bn.pr f args).map fun v=>(v,none)
theorem Vn{f:Mem->V->Option (V×Mem)}(hf:∀{L v v' L'},f L v=some (v',L')->L'.b=L.b):∀{vs c:List V}{L L':Mem},vB f L vs=some (c,L')->L'.b=L.b
 |[],_,_,_,h=>by simp only[vB,aA,aN]at h;rw[h.2]
 |v::vs,_,_,_,h=>by
  simp only[vB,aj,ae,aN]at h;obtain⟨⟨v1,u⟩,j,⟨l,r⟩,g,_,rfl⟩:=h;exact(Vn hf g).trans (hf j)
theorem OJ{f:Mem->V->Option (V×Mem)}(hf:∀{L v v' L'},f L v=some (v',L')->L'.b=L.b):∀{vs c:List (List V)}{L L':Mem},rD f L vs=some (c,L')->L'.b=L.b
 |[],_,_,_,h=>by simp only[rD,aA,aN]at h;rw[h.2]
 |v::vs,_,_,_,h=>by
  simp only[rD,aj,ae,aN]at h;obtain⟨⟨v1,u⟩,j,⟨l,r⟩,g,_,rfl⟩:=h;exact(OJ hf g).trans (Vn hf j)
theorem Zf:∀(n:Nat){L L':Mem}{v v':V},jJ n L v=some (v',L')->L'.b=L.b:=by
 intro n;induction n with
 |zero=>
  intro L L' v v' h;unfold jJ at h;split at h
  ·dsimp only at h
   obtain⟨_,h⟩:=ft h;split at h
   ·cases h;split<;>simp
   ·cases h
  ·split at h
   ·cases h;rfl
   ·cases h
  ·cases h;rfl
 |succ n g=>
  intro L L' v v' h;unfold jJ at h;split at h
  ·dsimp only at h
   obtain⟨_,h⟩:=ft h;split at h
   ·cases h;split<;>simp
   ·obtain⟨⟨q,l⟩,c,h⟩:=aj.1 h
    obtain⟨_,h⟩:=ft h;cases h;have:=OJ (fun h=>g h) c;split
    ·exact this
    ·simpa using this
  ·rename_i k sz els
   split at h
   ·cases h;rfl
   ·by_cases j:k= .own
    ·simp[j]at h
    ·simp only[aP j]at h
     obtain⟨⟨q,l⟩,c,h⟩:=aj.1 h;obtain⟨_,h⟩:=ft h;cases h;exact OJ (fun h=>g h) c
  ·cases h;rfl
theorem Zg:∀{vs c:List V}{L L':Mem},zJ L vs=some (c,L')->L'.b=L.b
 |[],_,_,_,h=>by simp only[zJ,aA,aN]at h;rw[h.2]
 |v::vs,_,_,_,h=>by
  simp only[zJ,aj,ae,aN]at h;obtain⟨⟨v1,u⟩,j,⟨l,r⟩,g,_,rfl⟩:=h;exact(Zg g).trans (Zf 8 j)
theorem TM{v v':V}{L L':Mem}(h:sG L v=some (v',L')):L'.b=L.b:=by
 unfold sG at h;split at h
 ·obtain⟨⟨q,g⟩,c,h⟩:=ae.1 h
  cases h;exact Zg c
 ·exact Zf 8 h
theorem Vp:∀{vs c:List V}{L L':Mem},qd L vs=some (c,L')->L'.b=L.b
 |[],_,_,_,h=>by simp only[qd,aA,aN]at h;rw[h.2]
 |v::vs,_,_,_,h=>by
  simp only[qd,aj,ae,aN]at h;obtain⟨⟨v1,u⟩,j,⟨l,r⟩,g,_,rfl⟩:=h;exact(Vp g).trans (TM j)
theorem ac3{v v':V}{L L':Mem}(h:MI L v=some (v',L')):L'.b=L.b:=by
 unfold MI at h;split at h
 ·dsimp only at h
  obtain⟨_,h⟩:=ft h;split at h
  ·obtain⟨q,c,h⟩:=ae.1 h
   cases h;rfl
  ·split at h
   ·obtain⟨q,c,h⟩:=ae.1 h
    cases h;simp
   ·cases h
 ·cases h;rfl
theorem Zh:∀{vs c:List V}{L L':Mem},N8 L vs=some (c,L')->L'.b=L.b
 |[],_,_,_,h=>by simp only[N8,aA,aN]at h;rw[h.2]
 |v::vs,_,_,_,h=>by
  simp only[N8,aj,ae,aN]at h;obtain⟨⟨v1,u⟩,j,⟨l,r⟩,g,_,rfl⟩:=h;exact(Zh g).trans (ac3 j)
theorem ag6{v v':V}{L L':Mem}(h:wJ L v=some (v',L')):L'.b=L.b:=by
 unfold wJ at h;split at h
 ·obtain⟨⟨q,g⟩,c,h⟩:=ae.1 h
  cases h;exact Zh c
 ·exact TM h
theorem Vq:∀{vs c:List V}{L L':Mem},rF L vs=some (c,L')->L'.b=L.b
 |[],_,_,_,h=>by simp only[rF,aA,aN]at h;rw[h.2]
 |v::vs,_,_,_,h=>by
  simp only[rF,aj,ae,aN]at h;obtain⟨⟨v1,u⟩,j,⟨l,r⟩,g,_,rfl⟩:=h;exact(Vq g).trans (ag6 j)
theorem Vr{v v':V}{L L':Mem}(h:uy L v=some (v',L')):L'.D=L.D∧L'.b=L.b:=by
 unfold uy at h;split at h
 ·dsimp only at h
  obtain⟨_,h⟩:=ft h;cases h;split<;>exact⟨rfl,rfl⟩
 ·cases h;exact⟨rfl,rfl⟩
theorem Vt:∀{vs g:List V}{L L':Mem},kJ L vs=some (g,L')->L'.D=L.D∧L'.b=L.b
 |[],_,_,_,h=>by simp only[kJ,aA,aN]at h;rw[h.2];exact⟨rfl,rfl⟩
 |v::vs,_,_,_,h=>by
  simp only[kJ,aj,ae,aN]at h;obtain⟨⟨v1,A⟩,l,⟨r,u⟩,j,_,rfl⟩:=h;obtain⟨a,b⟩:=Vr l;obtain⟨c,d⟩:=Vt j;exact⟨c.trans a,d.trans b⟩
theorem Vu{v v':V}{L L':Mem}(h:jR L v=some (v',L')):L'.D=L.D∧L'.b=L.b:=by
 unfold jR at h;split at h
 ·obtain⟨⟨q,g⟩,c,h⟩:=ae.1 h
  cases h;exact Vt c
 ·exact Vr h
theorem Ra:∀{vs g:List V}{L L':Mem},nD L vs=some (g,L')->L'.D=L.D∧L'.b=L.b
 |[],_,_,_,h=>by simp only[nD,aA,aN]at h;rw[h.2];exact⟨rfl,rfl⟩
 |v::vs,_,_,_,h=>by
  simp only[nD,aj,ae,aN]at h;obtain⟨⟨v1,A⟩,l,⟨r,u⟩,j,_,rfl⟩:=h;obtain⟨c,d⟩:=Ra j;have:=Vu l;exact⟨c.trans this.1,d.trans this.2⟩
theorem Zi{sh:Bool}{fr:List V}:∀{ps:List (Nat×Nat×Arg)}{q:List (Nat×Nat×V)}{L L':Mem},qg sh L fr ps=some (q,L')->L'.b=L.b
 |[],_,_,_,h=>by simp only[qg,aA,aN]at h;rw[h.2]
 |(o,n,x)::ps,_,_,_,h=>by
  simp only[qg,aj,ae,aN]at h;obtain⟨⟨v1,r⟩,c,⟨j,l⟩,g,_,rfl⟩:=h;refine(Zi g).trans ?_;split at c
  ·exact(Vu c).2
  ·exact TM c
theorem Zj{to:Option Ix}{L L':Mem}{u v:V}(h:iG to L u=(v,L')):L'.b=L.b:=by
 unfold iG at h;split at h
 ·split at h<;>(cases h;simp)
 ·split at h<;>(cases h;simp)
 ·cases h;rfl
 ·cases h;rfl
theorem ag7(L:Mem)(d:Option (List Row)):(L.Jk d).b=L.b:=by cases d<;>rfl
theorem Vv{H:List Mem}{L L':Mem}{gl:Bool}{site:Nat}{f v:V}{args:List V}(h:wD cf H L gl site f args=some (v,L')):L'.b=L.b:=by
 unfold wD at h;split at h
 ·obtain⟨r,_,h⟩:=ae.1 h
  rw[Zj h,ag7]
 ·cases h
theorem Zk{fr:List V}{L L':Mem}{ao:gJ}{v:V}(c:cZ cf H fr L ao=some (v,L')):L'.b=L.b:=by
 by_cases hm:ao.mY=false
 ·rcases xZ hm c with⟨rfl,_⟩|⟨k,r,_,rfl,_⟩
  ·rfl
  ·simp
 cases ao<;>simp only[gJ.mY,oq,Je]at hm<;>simp only[cZ]at c;case store=>
  obtain⟨g,h,c⟩:=ae.1 c;cases c;unfold DI at h;split at h
  ·dsimp only at h
   obtain⟨_,h⟩:=ft h;obtain⟨e,_,h⟩:=aj.1 h;obtain⟨_,h⟩:=ft h;cases h;simp
  ·cases h
 case app=>
  simp only[DJ,EE,aj]at c;obtain⟨new,_,c⟩:=c;split at c
  ·split at c
   ·cases c;rfl
   ·obtain⟨_,c⟩:=ft c
    cases c;simp
  ·split at c
   ·cases c;rfl
   ·obtain⟨_,c⟩:=ft c
    cases c;simp
  ·obtain⟨_,c⟩:=ft c
   cases c;simp
  ·cases c
 case litf=>
  obtain⟨⟨q,g⟩,j,c⟩:=aj.1 c;obtain⟨cs,_,c⟩:=aj.1 c;obtain⟨_,c⟩:=ft c;cases c;exact Zi j
 case calla fz gl site f args=>
  split at c
  ·obtain⟨⟨q,g⟩,j,c⟩:=aj.1 c
   exact(Vv c).trans (Vp j)
  ·exact Vv c
 case mput=>
  obtain⟨g,h,c⟩:=ae.1 c;cases c;unfold Dj at h;split at h
  ·dsimp only at h
   obtain⟨_,h⟩:=ft h;obtain⟨e,_,h⟩:=ae.1 h;split at h<;>(cases h;simp)
  ·cases h
 case mins=>
  obtain⟨g,h,c⟩:=ae.1 c;cases c;unfold Bq at h;split at h
  ·dsimp only at h
   obtain⟨_,h⟩:=ft h;split at h
   ·cases h;simp
   ·cases h
  ·cases h
 case galloc=>obtain⟨_,c⟩:=ft c;cases c;simp
 case gbox=>obtain⟨_,c⟩:=ft c;cases c;simp
 case gmks=>
  unfold Ji at c;split at c
  ·obtain⟨_,c⟩:=ft c;cases c;simp
  ·cases c
 case gmkmap=>cases c;simp
 case litr=>
  obtain⟨cs,_,c⟩:=aj.1 c;obtain⟨_,c⟩:=ft c;cases c;simp
 case clr=>
  obtain⟨g,h,c⟩:=ae.1 c;cases c;unfold YG at h;split at h
  ·cases h;rfl
  ·dsimp only at h
   obtain⟨_,h⟩:=ft h;cases h;simp
  ·cases h
theorem Nl:∀{os:List bL}{st g:St},iA cf H os st=some g->g.2.b=st.2.b
 |[],_,_,h=>by simp only[iA,aA]at h;rw[h]
 |o::os,st,g,h=>by
  simp only[iA,aj]at h;obtain⟨s1,c,l⟩:=h;refine(Nl l).trans ?_;unfold cO at c;obtain⟨b,_,c⟩:=aj.1 c;split at c
  ·obtain⟨⟨v,L'⟩,j,hr⟩:=ae.1 c
   rw[<-hr];exact Zk j
  ·cases c;rfl
theorem Nn:∀(c:List Ix)(L:Mem),(iZ c L).b=L.b
 |[],_=>rfl
 |k::c,L=>by rw[iZ,Nn c];simp
theorem Rb:∀(l:List (Nat×List V))(L:Mem),(jZ l L).b=L.b
 |[],_=>rfl
 |(s,z)::l,L=>by rw[jZ,Rb l];simp
theorem mG{lf:xO}(j:∀c H st e g,lf c H st=some (e,g)->g.2.b=st.2.b):∀{u:eu}{st g:St}{e:Aq},jV cf lf H u st=some (e,g)->g.2.b=st.2.b
 | .skip,_,_,_,h| .exit _,_,_,_,h| .ret,_,_,_,h=>by simp only[jV,aA,aN]at h;rw[h.2]
 | .region A pre ops Sr,st,_,_,h=>by
  simp only[jV,aj]at h;obtain⟨s1,l,h⟩:=h;obtain⟨_,h⟩:=ft h;cases h;have:=Nl l;simp only at this;rw[this,Rb,Nn]
 | .seq a b,st,g,e,h=>by
  simp only[jV,aj]at h;obtain⟨⟨r,s1⟩,l,h⟩:=h;have:=mG j l;cases r with
  |normal=>exact(mG j h).trans this
  |exit _=>cases h;exact this
  |ret=>cases h;exact this
 | .cond c a b,st,g,e,h=>by
  simp only[jV,aj]at h;obtain⟨t,_,h⟩:=h;split at h
  ·exact mG j h
  ·exact mG j h
 | .block id c,st,g,e,h=>by
  simp only[jV,ae]at h;obtain⟨⟨r,s1⟩,l,h⟩:=h;have:=mG j l;cases r<;>(cases h;exact this)
 | .loop c,st,g,e,h=>j _ _ _ _ _ h
 | .scope c,st,g,e,h=>by
  simp only[jV]at h;exact mG j h
theorem OL(bn:yw):∀m c H st e g,(jf bn m).2 c H st=some (e,g)->g.2.b=st.2.b
 |0,_,_,_,_,_,h=>by simp[jf]at h
 |m+1,c,H,st,e,g,h=>by
  simp only[jf,Au,aj]at h;obtain⟨⟨l,s1⟩,j,h⟩:=h;have:=mG (OL bn m) j;cases l with
  |normal=>exact(OL bn m _ _ _ _ _ h).trans this
  |exit _=>cases h;exact this
  |ret=>cases h;exact this
theorem J4(pm:Bool)(H:List Mem)(s:Ix):ax (start pm H) s=ax (start false H) s:=by
 cases H<;>cases s<;>rfl
theorem Vw(pm:Bool)(H:List Mem):(start pm H).D=(start false H).D:=by cases H<;>rfl
theorem Rc(H:List Mem):(start true H).b=(start false H).D.length:=by cases H<;>rfl
theorem Re(hm:P.follows .mixedOrders=true){bn:yw}(Xv:Q9 P bn)(hpr:Ze P bn)(yA:iy P cf){m:Nat}{lf:xO}(Vl:Gf P m lf)(Tc:∀c H st e jS,lf c H st=some (e,jS)->jS.2.b=st.2.b):iy P (xk bn cf lf):=by
 intro f args H r j;unfold xk at j;cases U:bn.fn f with
 |none=>rw[U]at j;exact hpr f args H r j
 |some af=>
 rw[U]at j;simp only[aj]at j;obtain⟨⟨e,st⟩,R,j⟩:=j;obtain⟨fn,md,hfn,Zl⟩:=Xv f af U;unfold U2 at Zl;split at Zl
 ·cases Zl
 ·rename_i U9
  simp only[aj,ae]at Zl;obtain⟨c,Va,rs,Nk,⟨ac,s'⟩,alS,rfl⟩:=Zl;refine⟨⟨fn,hfn,fun e=>U9 (.inl e),by simp[Va]⟩,fun E w xs GY uD Z hown=> ?_⟩;simp only at R j;obtain⟨G,hG⟩:∃G:Nat->Prop,G=if md.pm then(fun _=>False)else Gof E (start false H):=⟨_,rfl⟩
  have Q6:dR ⟨w,E,G,fun _ _=>False⟩ E (start md.pm H) H w:=by
   refine⟨kr.refl _ _ _,uD.change fun d s o _=> ?_,fun s v o ho=> ?_,fun n o Y F N=> ?_,fun _ _ _ _ h=>h,fun _ _ h=> .inl h,fun n=>by rw[Vw];exact Z.Ez n,Z.pos,fun _ _ h=>h.elim⟩
   ·cases d with
    |zero=>exact J4 _ _ _
    |succ d=>rfl
   ·cases s with
    |o n=>rw[hown]at ho;cases ho
    |g n=>exact⟨by rw[J4];exact Z.bnd n v o ho,fun m hm=>by cases hm⟩
   ·rw[Vw]at F N
    simp only[hG];cases J:md.pm with
    |true=>
     exfalso;rw[J,Rc]at Y;rw[rA _ Y]at N;rw[Z.pos n]at N;cases N
    |false=>
     rw[J]at Y;exact .inr ⟨n,o,Y,F,N,rfl⟩
  have hF0:fD E args {tmps:=xs.toArray++Array.replicate (fn.ntmps-xs.toArray.size) undef,defers:=[]} fn.ntmps:=by
   refine⟨by simp;omega,rfl,fun i=> ?_⟩;have xL:∀{vs:List V}{i:Nat},ag vs i=(vs[i]?).getD .undef:=by
    intro vs;induction vs with
    |nil=>intro i;simp[ag]
    |cons v vs ih=>intro i;cases i<;>simp[ag,ih]
   rw[xL];cases hi:args[i]?with
   |none=>trivial
   |some u=>
    obtain⟨x,hx,MO⟩:=GY.at hi;have hlt:=(au.1 hx).1;simp only[dU,dO];rw[Array.getElem?_append_left (by simpa using hlt)];simpa[hx]using MO
  have alT:e= .normal∨e= .ret:=by
   cases e with
   |normal=>exact .inl rfl
   |ret=>exact .inr rfl
   |exit i=>cases j
  have hvv:Ao md.pm rs st=some r:=by rcases alT with rfl|rfl<;>exact j
  clear j;have alU:st.2.b=(start md.pm H).b:=mG Tc R;simp only[Ao,aj]at hvv;obtain⟨vs,Y,j⟩:=hvv;have F7:∃l L' us,(∀(A:Env)(w':World)(B:List Value),dR ⟨w,E,G,fun _ _=>False⟩ A st.2 H w'->dY vs A B->∃C,A.Le C∧dR ⟨w,E,G,fun _ _=>False⟩ C L' H w'∧dY l C B)∧
    wE (!md.pm) L' l=some us∧lD us=true∧r=(yV us,if md.pm then none else some L'.D)∧(md.pm=false->L'.b=st.2.b)∧(md.pm=true->st.2.b<=L'.b):=by
   cases J:md.pm with
   |true=>
    rw[J]at j;simp only[bK,ae]at j;obtain⟨v,j,rfl⟩:=j;have Zm:yu st.2 vs=some v->∃l L' us,(∀(A:Env)(w':World)(B:List Value),dR ⟨w,E,G,fun _ _=>False⟩ A st.2 H w'->dY vs A B->∃C,A.Le C∧dR ⟨w,E,G,fun _ _=>False⟩ C L' H w'∧dY l C B)∧
      wE false L' l=some us∧lD us=true∧yV us=v∧L'.b=st.2.b:=by
     intro j;simp only[yu,aj]at j;obtain⟨⟨l,L'⟩,F,us,N,j⟩:=j;obtain⟨h4,j⟩:=ft j;exact⟨l,L',us,fun A w' B W j=>M8 W j F,N,h4,iL j,Vq F⟩
    have X:∃l L' us,(∀(A:Env)(w':World)(B:List Value),dR ⟨w,E,G,fun _ _=>False⟩ A st.2 H w'->dY vs A B->∃C,A.Le C∧dR ⟨w,E,G,fun _ _=>False⟩ C L' H w'∧dY l C B)∧
      wE false L' l=some us∧lD us=true∧yV us=v∧L'.b=st.2.b:=by
     unfold YH at j;split at j
     ·rename_i us F
      split at j
      ·exact⟨vs,st.2,us,fun A w' B W j=>⟨A,.refl _,W,j⟩,F,‹_›,iL j,rfl⟩
      ·exact Zm j
     ·exact Zm j
    obtain⟨l,L',us,k1,k2,k3,rfl,k4⟩:=X;exact⟨l,L',us,k1,k2,k3,rfl,(fun h=>by cases h),(fun _=>by rw[k4];exact aJ _)⟩
   |false=>
    rw[J]at j;simp only[bq,bZ,ae]at j;obtain⟨v,j,rfl⟩:=j;have Zm:AR st.2 vs=some v->∃l L' us,(∀(A:Env)(w':World)(B:List Value),dR ⟨w,E,G,fun _ _=>False⟩ A st.2 H w'->dY vs A B->∃C,A.Le C∧dR ⟨w,E,G,fun _ _=>False⟩ C L' H w'∧dY l C B)∧
      wE true L' l=some us∧lD us=true∧yV us=v∧L'.b=st.2.b∧L'.D=st.2.D:=by
     intro j;simp only[AR,aj]at j;obtain⟨⟨l,L'⟩,F,us,N,j⟩:=j;obtain⟨h4,j⟩:=ft j;obtain⟨q1,q2⟩:=Ra F;exact⟨l,L',us,fun A w' B W j=>(JL W j F).1,N,h4,iL j,q2,q1⟩
    have X:∃l L' us,(∀(A:Env)(w':World)(B:List Value),dR ⟨w,E,G,fun _ _=>False⟩ A st.2 H w'->dY vs A B->∃C,A.Le C∧dR ⟨w,E,G,fun _ _=>False⟩ C L' H w'∧dY l C B)∧
      wE true L' l=some us∧lD us=true∧yV us=v∧L'.b=st.2.b∧L'.D=st.2.D:=by
     unfold YI at j;split at j
     ·rename_i us F
      split at j
      ·exact⟨vs,st.2,us,fun A w' B W j=>⟨A,.refl _,W,j⟩,F,‹_›,iL j,rfl,rfl⟩
      ·exact Zm j
     ·exact Zm j
    obtain⟨l,L',us,k1,k2,k3,rfl,k4,k5⟩:=X;exact⟨l,L',us,k1,k2,k3,(by rw[k5];rfl),(fun _=>k4),(fun h=>by cases h)⟩
  obtain⟨l,L',us,Cx,F,N,hr,o7,hb2⟩:=F7;refine calls_of_wp hfn Va (qx (md:=md) (n:=fn.ntmps) (w0:=⟨w,E,G,fun _ _=>False⟩) (fun _ _ h=>h) hm yA Vl c 1 s' ac (args,start md.pm H) st e E w _ _ alS (by omega) R Q6 hF0 fun a' w' Eo arR hRo hF'=> ?_);obtain⟨B,Oq,alV⟩:=BM (P:=P) hRo hF' Nk Y;obtain⟨A,arS,K,alW⟩:=Cx Eo w' B hRo alV;have arT:=hF'.defers;have Q:=arR.trans arS;have ac4:(results fn a'.tmps).run P w'= .ok (if h:B.toArray.size=1 then B.toArray[0]else .tuple B.toArray) w':=by
   unfold results;rw[<-jr (xs:=fn.results),List.mapM_toArray];simp only[bJ,Sem.run_map,dz];erw[Oq];rfl
  have afH:∀d s v,A.own (d+1) s v=E.own (d+1) s v:=by
   intro d s v;cases ho:A.own (d+1) s v with
   |some o=>exact(K.out d s v o ho).symm
   |none=>
    cases Yr:E.own (d+1) s v with
    |none=>rfl
    |some o=>rw[Q.own _ _ _ _ Yr]at ho;cases ho
  have ac5:Leaves E (start false H) H w r (.returned (if h:B.toArray.size=1 then B.toArray[0]else .tuple B.toArray)) w':=by
   subst hr;cases J:md.pm with
   |true=>
    have I:G=fun _=>False:=by rw[hG,J];rfl
    have hO:ac0 false L'.b A {E.up 1 with iY:=A.iY}:=by
     refine⟨rfl,fun d n v=> ?_,(fun e=>by cases e),fun n v o ho=>Q.own _ _ _ _ ho,fun d n v=>uD.IG d n v,fun _ n v o ho=> ?_⟩
     ·exact(afH d (.o n) v).symm
     ·have h5:E.own 0 (.g n) v=some o:=ho
      have h6:=hb2 J;rw[alU,J,Rc]at h6;rcases jq n (start false H).D.length with h7|h7
      ·omega
      ·have h8:=Z.bnd n v o h5
       rw[rA _ h7]at h8;have:v=0:=by simpa using h8
       subst this;rw[Z.pos n]at h5;cases h5
    rw[J]at F;have Oz:=Vm (Gg hO (fun _ b T=>by rw[I]at T;exact T) K alW F) N rfl;have wN:Below w.heap.size w w':=by
     have:=K.below;simp only[I]at this;exact this.plain
    refine⟨_,A.iY,rfl,wN,Q.iY,fun b cs T=> ?_,Oz⟩;rcases K.new b cs T with h|h|h
    ·exact .inl h
    ·exact .inr ⟨h,K.mem.iY b cs T⟩
    ·simp only[I]at h
   |false=>
    have I:G=Gof E (start false H):=by rw[hG,J];rfl
    have hO:ac0 true L'.b A (A.up 1):=⟨rfl,fun d n v=>rfl,fun _ n v=>rfl,fun n v o h=>h,fun d n v=>K.mem.IG d n v,(fun e=>by cases e)⟩
    rw[J]at F;have Oz:=Vm (Gg hO (fun e=>by cases e) K alW F) N rfl;have hbL:L'.b=(start false H).b:=by rw[o7 J,alU,J]
    have wN:=K.below;simp only[I]at wN;have hL:L'=⟨L'.D,L'.O,(start false H).b⟩:=by rw[<-hbL]
    refine⟨_,A,L'.O,rfl,wN,Q,by rw[<-hL];exact K.mem,by rw[<-hL];exact K.Xp,fun d s v o ho=>by rw[<-afH];exact ho,fun n o q1 q2 q3=> ?_,fun b cs T=> ?_,Oz⟩
    ·have:=K.wr n o (by rw[hbL];exact q1) q2 q3
     simp only[I]at this;exact this
    ·have:=K.new b cs T
     simp only[I]at this;exact this
  have hbp:∀e':Aq,(e'= .normal∨e'= .ret)->bodyPost P fn (Leaves E (start false H) H w r) e'.to a' w':=by
   intro e' Ie;have key:a'.defers=[]∧∃v',(results fn a'.tmps).run P w'= .ok v' w'∧Leaves E (start false H) H w r (.returned v') w':=⟨arT,_,ac4,ac5⟩
   rcases Ie with rfl|rfl<;>exact key
  exact hbp e alT
theorem Hf(hm:P.follows .mixedOrders=true){bn:yw}(N:Q9 P bn)(r:Ze P bn):∀m,iy P (jf bn m).1∧Gf P m (jf bn m).2
 |0=>⟨fun _ _ _ _ h=>by simp[jf]at h,fun _ _ _ _ _ _ _ _ _ _ _ _ _ _ _ _ _ _ h=>by simp[jf]at h⟩
 |m+1=>by
  obtain⟨I,B⟩:=Hf hm N r m;refine⟨Re hm N r I B (OL bn m),?_⟩;intro md n s c K s' w0 H st T e E w a Q F hc hs g U hF A;simp only[jf,Au,aj]at g;obtain⟨⟨J,O⟩,hx,g⟩:=g;rw[rounds_succ];refine qx (md:=md) (n:=n) F hm I B c s s' K st O J E w a _ hc hs hx U hF fun a' w' C j u l=> ?_;cases J with
  |normal=>
   simp only at g;exact B md n s c K s' w0 H O T e C w' a' Q F hc hs g u l fun a2 R X W=>A a2 R X (j.trans W)
  |exit id=>simp only[aA,aN]at g;obtain⟨rfl,rfl⟩:=g;exact A a' w' C j u l
  |ret=>simp only[aA,aN]at g;obtain⟨rfl,rfl⟩:=g;exact A a' w' C j u l
end
def Vy(cf Ip:fU):Prop:=∀f a H v,cf f a H=some v->Ip f a H=some v
def LeL(lf lf':xO):Prop:=∀c H st r,lf c H st=some r->lf' c H st=some r
theorem TN{cf j:fU}(h:Vy cf j){H:List Mem}{L:Mem}{f:V}{args:List V}{r:V×Mem}(c:yU cf H L f args=some r):yU j H L f args=some r:=by
 unfold yU at c⊢;split at c
 ·rename_i g aEp A
  split at c
  ·rename_i u l
   simp only[h _ _ _ _ l];exact c
  ·cases c
 ·cases c
theorem J5{cf g:fU}(h:Vy cf g){H:List Mem}{L:Mem}{gl:Bool}{site:Nat}{f:V}{args:List V}{r:V×Mem}(c:wD cf H L gl site f args=some r):wD g H L gl site f args=some r:=by
 unfold wD at c⊢;split at c
 ·obtain⟨u,j,hr⟩:=ae.1 c
  simp only[h _ _ _ _ j,aU,hr]
 ·cases c
theorem Rf{cf g:fU}(h:Vy cf g){H:List Mem}{fr:List V}{L:Mem}{o:gJ}{r:V×Mem}(c:cZ cf H fr L o=some r):cZ g H fr L o=some r:=by
 cases o<;>try exact c
 case call f args=>exact TN h c
 case calla fz gl site f args=>
  simp only[cZ]at c⊢;split
  ·rename_i e
   rw[aX e]at c;obtain⟨q,l,j⟩:=aj.1 c;rw[l,bG];exact J5 h j
  ·rename_i e
   rw[aP e]at c;exact J5 h c
theorem Dq{cf j:fU}(h:Vy cf j){H:List Mem}{o:bL}{st g:St}(c:cO cf H o st=some g):cO j H o st=some g:=by
 unfold cO at c⊢;obtain⟨b,r,c⟩:=aj.1 c;rw[r,bG];split
 ·rename_i e
  rw[aX e]at c;obtain⟨u,l,hr⟩:=ae.1 c;rw[Rf h l,aU,hr]
 ·rename_i e
  rw[aP e]at c;exact c
theorem zU{cf j:fU}(h:Vy cf j){H:List Mem}:∀{os:List bL}{st g:St},iA cf H os st=some g->iA j H os st=some g
 |[],_,_,c=>c
 |o::os,st,g,c=>by
  simp only[iA,aj]at c⊢;obtain⟨s1,r,l⟩:=c;exact⟨s1,Dq h r,zU h l⟩
theorem nH{cf A:fU}{lf u:xO}(h:Vy cf A)(k:LeL lf u){H:List Mem}:∀{c:eu}{st:St}{r:Aq×St},jV cf lf H c st=some r->jV A u H c st=some r
 | .skip,_,_,g| .exit _,_,_,g| .ret,_,_,g=>g
 | .region B pre ops Sr,st,r,g=>by
  simp only[jV,aj]at g⊢;obtain⟨s1,l,j⟩:=g;exact⟨s1,zU h l,j⟩
 | .seq a b,st,r,g=>by
  simp only[jV,aj]at g⊢;obtain⟨⟨e,s1⟩,l,j⟩:=g;refine⟨⟨e,s1⟩,nH h k l,?_⟩;cases e with
  |normal=>exact nH h k j
  |exit _=>exact j
  |ret=>exact j
 | .cond c a b,st,r,g=>by
  simp only[jV,aj]at g⊢;obtain⟨t,l,j⟩:=g;refine⟨t,l,?_⟩;split
  ·rename_i e;rw[aX e]at j;exact nH h k j
  ·rename_i e;rw[aP e]at j;exact nH h k j
 | .block id c,st,r,g=>by
  simp only[jV,ae]at g⊢;obtain⟨s1,l,j⟩:=g;exact⟨s1,nH h k l,j⟩
 | .loop c,st,r,g=>k _ _ _ _ g
 | .scope c,st,r,g=>by
  simp only[jV]at g⊢;exact nH h k g
theorem D8{bn:yw}{cf j:fU}{lf g:xO}(h:Vy cf j)(k:LeL lf g):Vy (xk bn cf lf) (xk bn j g):=by
 intro f a H v c;unfold xk at c⊢;cases hf:bn.fn f with
 |none=>rw[hf]at c;exact c
 |some A=>
  rw[hf]at c;simp only[aj]at c⊢;obtain⟨r,u,l⟩:=c;exact⟨r,nH h k u,l⟩
theorem D9{cf r:fU}{lf g:xO}(h:Vy cf r)(k:LeL lf g):LeL (Au cf lf) (Au r g):=by
 intro c H st v l;simp only[Au,aj]at l⊢;obtain⟨⟨e,s1⟩,u,j⟩:=l;refine⟨⟨e,s1⟩,nH h k u,?_⟩;cases e with
 |normal=>exact k _ _ _ _ j
 |exit _=>exact j
 |ret=>exact j
theorem J6(bn:yw):∀n,Vy (jf bn n).1 (jf bn (n+1)).1∧LeL (jf bn n).2 (jf bn (n+1)).2
 |0=>⟨fun _ _ _ _ h=>by simp[jf]at h,fun _ _ _ _ h=>by simp[jf]at h⟩
 |n+1=>by
  obtain⟨g,c⟩:=J6 bn n;exact⟨D8 g c,D9 g c⟩
theorem rQ(bn:yw){m n:Nat}(h:m<=n):Vy (jf bn m).1 (jf bn n).1∧LeL (jf bn m).2 (jf bn n).2:=by
 induction h with
 |refl=>exact⟨fun _ _ _ _ h=>h,fun _ _ _ _ h=>h⟩
 |step _ g=>
  obtain⟨l,j⟩:=J6 bn _;exact⟨fun f a H v h=>l _ _ _ _ (g.1 _ _ _ _ h),fun c H st r h=>j _ _ _ _ (g.2 _ _ _ _ h)⟩
open Classical in
noncomputable def call(bn:yw):fU:=fun f a H=>if h:∃v n,(jf bn n).1 f a H=some v then some (Classical.choose h)else none
open Classical in
noncomputable def loop(bn:yw):xO:=fun c H st=>if h:∃v n,(jf bn n).2 c H st=some v then some (Classical.choose h)else none
theorem ze{bn:yw}{f:FuncId}{a:List V}{H:List Mem}{v:V×Option (List Row)}:call bn f a H=some v↔∃n,(jf bn n).1 f a H=some v:=by
 unfold call;split
 ·rename_i h
  have hs:=Classical.choose_spec h;constructor
  ·intro e;cases e;exact hs
  ·rintro⟨n,hn⟩
   obtain⟨m,hm⟩:=hs;have g:=(rQ bn (EF m n)).1 _ _ _ _ hm;have c:=(rQ bn (CW m n)).1 _ _ _ _ hn;rw[g]at c;exact c
 ·rename_i h
  constructor
  ·intro e;cases e
  ·rintro⟨n,hn⟩;exact absurd ⟨v,n,hn⟩ h
theorem Ff{bn:yw}{c:eu}{H:List Mem}{st:St}{v:Aq×St}:loop bn c H st=some v↔∃n,(jf bn n).2 c H st=some v:=by
 unfold loop;split
 ·rename_i h
  have hs:=Classical.choose_spec h;constructor
  ·intro e;cases e;exact hs
  ·rintro⟨n,hn⟩
   obtain⟨m,hm⟩:=hs;have j:=(rQ bn (EF m n)).2 _ _ _ _ hm;have g:=(rQ bn (CW m n)).2 _ _ _ _ hn;rw[j]at g;exact g
 ·rename_i h
  constructor
  ·intro e;cases e
  ·rintro⟨n,hn⟩;exact absurd ⟨v,n,hn⟩ h
theorem OM(bn:yw)(n:Nat):Vy (jf bn n).1 (call bn)∧LeL (jf bn n).2 (loop bn):=
 ⟨fun f a H v h=>ze.2 ⟨n,h⟩,fun c H st r h=>Ff.2 ⟨n,h⟩⟩
theorem OO{bn:yw}{H:List Mem}{o:bL}{st K:St}(l:cO (call bn) H o st=some K):∃n,cO (jf bn n).1 H o st=some K:=by
 obtain⟨d,op,g⟩:=o;have A:∀{L:Mem}{gl:Bool}{s:Nat}{c:V}{j:List V}{r:V×Mem},wD (call bn) H L gl s c j=some r->∃n,wD (jf bn n).1 H L gl s c j=some r:=by
  intro L gl s c j r hr;unfold wD at hr⊢;split at hr
  ·obtain⟨u,C,O⟩:=ae.1 hr
   obtain⟨n,hn⟩:=ze.1 C;exact⟨n,by simp only[hn,aU,O]⟩
  ·cases hr
 have J:∀{L:Mem}{c:V}{j:List V}{r:V×Mem},yU (call bn) H L c j=some r->∃n,yU (jf bn n).1 H L c j=some r:=by
  intro L c j r hr;unfold yU at hr⊢;split at hr
  ·split at hr
   ·rename_i u C
    obtain⟨n,hn⟩:=ze.1 C;exact⟨n,by simp only[hn];exact hr⟩
   ·cases hr
  ·cases hr
 have I:∀{fr:List V}{L:Mem}{r:V×Mem},cZ (call bn) H fr L op=some r->∃n,cZ (jf bn n).1 H fr L op=some r:=by
  intro fr L r hr;by_cases hc:∃f aEp,op= .call f aEp
  ·obtain⟨f,aEp,rfl⟩:=hc
   simp only[cZ]at hr⊢;exact J hr
  by_cases B:∃fz gl s f aEp,op= .calla fz gl s f aEp
  ·obtain⟨fz,gl,s,f,aEp,rfl⟩:=B
   simp only[cZ]at hr⊢;split at hr
   ·rename_i e
    simp only[aX e];obtain⟨q,Q,F⟩:=aj.1 hr;obtain⟨n,hn⟩:=A F;exact⟨n,by rw[Q,bG];exact hn⟩
   ·rename_i e
    simp only[aP e];exact A hr
  refine⟨0,?_⟩;rw[<-hr];cases op<;>try rfl
  ·exact absurd ⟨_,_,rfl⟩ hc
  ·exact absurd ⟨_,_,_,_,_,rfl⟩ B
 unfold cO at l⊢;obtain⟨b,N,l⟩:=aj.1 l;cases b with
 |false=>exact⟨0,by rw[N];exact l⟩
 |true=>
  simp only[bK]at l;obtain⟨r,hr,F⟩:=ae.1 l;obtain⟨n,hn⟩:=I hr;exact⟨n,by rw[N,bG];simp only[bK,hn,aU,F]⟩
theorem Hg{bn:yw}{H:List Mem}:∀{os:List bL}{st g:St},iA (call bn) H os st=some g->∃n,iA (jf bn n).1 H os st=some g
 |[],_,_,c=>⟨0,c⟩
 |o::os,st,g,c=>by
  simp only[iA,aj]at c⊢;obtain⟨s1,l,j⟩:=c;obtain⟨n,hn⟩:=OO l;obtain⟨m,hm⟩:=Hg j;exact⟨max n m,s1,Dq (rQ bn (EF n m)).1 hn,zU (rQ bn (CW n m)).1 hm⟩
theorem vH{bn:yw}{H:List Mem}:∀{c:eu}{st:St}{r:Aq×St},jV (call bn) (loop bn) H c st=some r->∃n,jV (jf bn n).1 (jf bn n).2 H c st=some r
 | .skip,_,_,g| .exit _,_,_,g| .ret,_,_,g=>⟨0,g⟩
 | .region A pre ops Sr,st,r,g=>by
  simp only[jV,aj]at g⊢;obtain⟨s1,l,j⟩:=g;obtain⟨n,hn⟩:=Hg l;exact⟨n,s1,hn,j⟩
 | .seq a b,st,r,g=>by
  simp only[jV,aj]at g⊢;obtain⟨⟨e,s1⟩,l,j⟩:=g;obtain⟨n,hn⟩:=vH l;cases e with
  |normal=>
   obtain⟨m,hm⟩:=vH j;obtain⟨a1,a2⟩:=rQ bn (EF n m);obtain⟨b1,u⟩:=rQ bn (CW n m);exact⟨max n m,⟨.normal,s1⟩,nH a1 a2 hn,nH b1 u hm⟩
  |exit _=>exact⟨n,⟨_,s1⟩,hn,j⟩
  |ret=>exact⟨n,⟨_,s1⟩,hn,j⟩
 | .cond c a b,st,r,g=>by
  simp only[jV,aj]at g⊢;obtain⟨t,l,j⟩:=g;cases t with
  |true=>
   simp only[bK]at j;obtain⟨n,hn⟩:=vH j;exact⟨n,true,l,by simpa using hn⟩
  |false=>
   simp only[bq,bZ]at j;obtain⟨n,hn⟩:=vH j;exact⟨n,false,l,by simpa using hn⟩
 | .block id c,st,r,g=>by
  simp only[jV,ae]at g⊢;obtain⟨s1,l,j⟩:=g;obtain⟨n,hn⟩:=vH l;exact⟨n,s1,hn,j⟩
 | .loop c,st,r,g=>by
  simp only[jV]at g⊢;exact Ff.1 g
 | .scope c,st,r,g=>by
  simp only[jV]at g⊢;exact vH g
theorem OP(bn:yw)(f:FuncId)(a:List V)(H:List Mem):call bn f a H=xk bn (call bn) (loop bn) f a H:=by
 apply Option.ext;intro v;rw[ze];constructor
 ·rintro⟨n,hn⟩
  cases n with
  |zero=>simp[jf]at hn
  |succ n=>exact D8 (OM bn n).1 (OM bn n).2 _ _ _ _ hn
 ·intro h
  unfold xk at h;cases hf:bn.fn f with
  |none=>
   rw[hf]at h;refine⟨1,?_⟩;simp only[jf,xk,hf];exact h
  |some j=>
   rw[hf]at h;simp only[aj]at h;obtain⟨r,g,c⟩:=h;obtain⟨n,hn⟩:=vH g;refine⟨n+1,?_⟩;simp only[jf,xk,hf,hn,bG];exact c
theorem Vz(bn:yw)(c:eu)(H:List Mem)(st:St):loop bn c H st=Au (call bn) (loop bn) c H st:=by
 apply Option.ext;intro v;rw[Ff];constructor
 ·rintro⟨n,hn⟩
  cases n with
  |zero=>simp[jf]at hn
  |succ n=>exact D9 (OM bn n).1 (OM bn n).2 _ _ _ _ hn
 ·intro h
  simp only[Au,aj]at h;obtain⟨⟨e,s1⟩,j,g⟩:=h;obtain⟨n,hn⟩:=vH j;cases e with
  |normal=>
   obtain⟨m,hm⟩:=Ff.1 g;obtain⟨a1,a2⟩:=rQ bn (EF n m);obtain⟨b1,l⟩:=rQ bn (CW n m);refine⟨max n m+1,?_⟩;simp only[jf,Au,nH a1 a2 hn,bG];exact l _ _ _ _ hm
  |exit _=>exact⟨n+1,by simp only[jf,Au,hn,bG];exact g⟩
  |ret=>exact⟨n+1,by simp only[jf,Au,hn,bG];exact g⟩
theorem J7{P:Program}(hm:P.follows .mixedOrders=true){bn:yw}(g:Q9 P bn)(c:Ze P bn):iy P (call bn):=by
 intro f args H v h;obtain⟨n,hn⟩:=ze.1 h;exact(Hf hm g c n).1 f args H v hn
theorem Fg{bn:yw}{f:FuncId}{a:List V}{H:List Mem}(h:bn.fn f=none):call bn f a H=(bn.pr f a).map fun v=>(v,none):=by
 rw[OP,xk,h]
theorem mH{bn:yw}{f:FuncId}{a:List V}{H:List Mem}{v:V×Option (List Row)}(n:Nat)(h:(jf bn n).1 f a H=some v):call bn f a H=some v:=ze.2 ⟨n,h⟩
end Go.Ht

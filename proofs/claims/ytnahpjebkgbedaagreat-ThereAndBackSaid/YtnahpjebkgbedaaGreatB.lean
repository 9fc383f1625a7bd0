/- Part of the proof of ThereAndBack: an abstract machine for the program, and what relates it to the model. No condition. -/
import Derived.Test.YtnahpjebkgbedaaGreatA
set_option linter.all false
set_option maxRecDepth 100000
set_option maxHeartbeats 16000000
namespace Go.Ht
open Go Go.RowKit
def gJ.plain:gJ->Bool
 | .store .. | .app .. | .call .. | .litf .. | .calla .. | .mput .. | .mins .. | .galloc .. | .gbox .. | .gmks .. | .gmkmap| .litr .. | .clr .. | .bad=>false
 |_=>true
theorem BB{E:Env}{fr:List V}{a:Act}{x:Option Operand}{y:Option Arg}{l:List Arg}(h:Qr x=some y)(hs:Bz E fr a (fO l))(hl:∀z,y=some z->z∈l):VRo E (y.map (ev fr)) (x.map a.eval):=by
 cases x with
 |none=>simp only[Qr,aA]at h;subst h;trivial
 |some x=>
  simp only[Qr,ae]at h;obtain⟨z,c,rfl⟩:=h;exact hs.arg (hl z rfl) c
theorem lG{L L':Mem}{v v':V}{o:Option V}(h:one L o=some (v,L')):o=some v∧L'=L:=by
 unfold one at h;obtain⟨u,c,h⟩:=ae.1 h;cases h;exact⟨c,rfl⟩
theorem YN{P:Program}{m:Mode}{site:Nat}{o:Oper}{ao:gJ}{E:Env}{M:List Mem}{w:World}{a:Act}{fr:List V}{cf:fU}{H:List Mem}{L L':Mem}{v:V}
  (j:Ex P m site o=some ao)(QB:0<site)(hp:ao.plain=true)(A:cZ cf H fr L ao=some (v,L'))(hs:Bz E fr a (fO ao.dC))
  (hL:eD E (L::H) w)(I:eD E M w)(Y:ao.site≠0->(ax L ao.site).ver<(ax L' ao.site).ver->iH M 0 ao.site=ax L' ao.site∧E.own 0 ao.site (ax L' ao.site).ver=none):
  Dk P E M w o a v ao.site (ax L' ao.site).ver:=by
 have EW:Ix.o site≠0:=Ix.pos QB;unfold Ex at j;split at j
 ·
  rename_i x ho;obtain⟨y,U,rfl⟩:=ae.1 j;simp only[cZ,aA,aN]at A;obtain⟨rfl,rfl⟩:=A;exact .same I (by simp[execOp,ho]) (hs.arg (by simp[gJ.dC]) U)
 ·
  rename_i x ho;obtain⟨y,U,rfl⟩:=ae.1 j;simp only[cZ,aA,aN]at A;obtain⟨rfl,rfl⟩:=A;exact .same I (by simp[execOp,ho]) (hs.arg (by simp[gJ.dC]) U)
 ·
  rename_i c x y ho;simp only[aj,ae]at j;obtain⟨c',hc,K,hx,y',U,rfl⟩:=j;simp only[cZ,ae,aN]at A;obtain⟨t,F,rfl,rfl⟩:=A;exact Td ho I (hs.arg (by simp[gJ.dC]) hc) (hs.arg (by simp[gJ.dC]) hx) (hs.arg (by simp[gJ.dC]) U) F
 ·
  rename_i op t x y u ho;simp only[aj]at j;obtain⟨K,hx,y',U,j⟩:=j;have N:∀{u:Value},(do eqGuard op t x y (a.eval x) (a.eval y);binOp op t (a.eval x) (a.eval y):Sem Value).run P w= .ok u w->(execOp a.eval o).run P w= .ok (.value u) w:=by
   intro u h;exact kR (by simp only[execOp,ho]) h
  split at j
  ·cases j
   obtain⟨C,rfl⟩:=lG (v':=v) A;obtain⟨u,J,hr⟩:=Qu (P:=P) (w:=w) (t:=t) (hs.arg (by simp[gJ.dC]) hx) (hs.arg (by simp[gJ.dC]) U) C x y;exact .same I (N J) (hr E)
  ·cases j
   obtain⟨C,rfl⟩:=lG (v':=v) A;obtain⟨u,J,hr⟩:=Qu (P:=P) (w:=w) (t:=t) (hs.arg (by simp[gJ.dC]) hx) (hs.arg (by simp[gJ.dC]) U) C x y;exact .same I (N J) (hr E)
  ·rename_i F
   split at j
   ·rename_i arh
    cases j;simp only[cZ]at A;split at A
    ·rename_i p q ui Qe
     cases A;have B:=hs.arg (y:=K) (by simp[gJ.dC]) hx;have O:=hs.arg (y:=y') (by simp[gJ.dC]) U;rw[ui]at B;rw[Qe]at O;simp only[VR]at B O;refine .same I (N ?_) (x:= .bool (if op== .neq then !(p==q)else(p==q))) rfl;rw[B,O];exact acK arh F x y
    ·cases A
   ·cases j
  case h_6=>
   rename_i F;split at j
   ·split at j
    ·rename_i rP
     cases j;simp only[cZ,ae,aN]at A;obtain⟨b,C,rfl,rfl⟩:=A;have B:=hs.arg (y:=K) (by simp[gJ.dC]) hx;have O:=Oj (E:=E) (fr:=fr) (a:=a) U (fun t F=>by simp[fO]at F);simp only[Ht.ev,VR]at O;have heq:(Op.equal t (a.eval x) (a.eval y)).run P w= .ok b w:=by
      rw[O];show(Op.equalIn (9999+1) t (a.eval x) (.slice none 0 0)).run P w= .ok b w;unfold Op.equalIn;simp only[bJ,run_underlying F,aQ];unfold Ia at C;split at C
      ·rename_i R
       rw[R]at B;simp only[VR]at B;cases C;rw[B];rfl
      ·rename_i R
       rw[R]at B;simp only[VR]at B;obtain⟨_,ad,cap,LQ,_⟩:=B;split at C
       ·cases C
       ·cases C
        rw[LQ];rfl
      ·rename_i R
       rw[R]at B;simp only[VR]at B;obtain⟨_,ad,cap,_,_,LQ,_⟩:=B;split at C
       ·cases C
       ·cases C
        rw[LQ];rfl
      ·cases C
     have hno:∀cs,a.eval y≠.agg cs:=fun cs e=>by rw[O]at e;cases e
     refine .same I (N ?_) (x:= .bool (if op== .neq then !b else b)) rfl;have hg:(eqGuard op t x y (a.eval x) (a.eval y)).run P w= .ok () w:=by
      rw[O];unfold eqGuard;rcases rP with rfl|rfl<;>cases a.eval x<;>rfl
     simp only[bJ,hg,aQ];have hx2:∃ad n c,a.eval x= .slice ad n c:=by
      unfold Ia at C;split at C
      ·rename_i R;rw[R]at B;exact⟨_,_,_,B⟩
      ·rename_i R;rw[R]at B;simp only[VR]at B;obtain⟨_,ad,cap,LQ,_⟩:=B;exact⟨_,_,_,LQ⟩
      ·rename_i R;rw[R]at B;simp only[VR]at B;obtain⟨_,ad,cap,_,_,LQ,_⟩:=B;exact⟨_,_,_,LQ⟩
      ·cases C
     obtain⟨ad,n',c',LQ⟩:=hx2;rw[LQ,O]at heq⊢;rcases rP with rfl|rfl
     ·simp only[binOp,bJ,heq,aQ];rfl
     ·simp only[binOp,bJ,heq,aQ];rfl
    ·cases j
   ·cases j
  all_goals first
   |(cases j;done)
   |skip
  all_goals
   split at j
   ·rename_i rP
    obtain⟨lay,arj,rfl⟩:=ae.1 j;simp only[cZ]at A;split at A
    ·rename_i p q ui Qe
     simp only[ae,aN]at A;obtain⟨r,hr,rfl,rfl⟩:=A;have B:=hs.arg (y:=K) (by simp[gJ.dC]) hx;have O:=hs.arg (y:=y') (by simp[gJ.dC]) U;rw[ui]at B;rw[Qe]at O;simp only[VR]at B O;obtain⟨c1,W,B⟩:=B;obtain⟨c2,e2,O⟩:=O;have YM:rH P t=some true:=by unfold rH;simp only[‹P.underlying t=_›]
     have Z:=xU (P:=P) (E:=E) 20 t lay arj w 10000 (by omega) p q c1.toList c2.toList r B O hr;rw[vD YM,vD YM]at Z;simp only[jr]at Z;refine .same I (N ?_) (x:= .bool (if op== .neq then !r else r)) rfl;rw[W,e2];simp only[bJ,run_eqGuard_agg (P:=P) w op t x y c1 c2 rP.2,aQ];rcases rP.1 with rfl|rfl
     ·rw[run_eql_struct,Z];rfl
     ·rw[run_neq_struct,Z];rfl
    ·cases A
   ·cases j
 ·
  rename_i _ x ho;obtain⟨K,hx,rfl⟩:=ae.1 j;simp only[cZ,ae,aN]at A;obtain⟨b,C,rfl,rfl⟩:=A;have B:=hs.arg (y:=K) (by simp[gJ.dC]) hx;rw[Ju C]at B;simp only[VR]at B;exact .same I (x:= .bool (!b)) (by simp[execOp,ho,B,Op.unary]) rfl
 ·
  rename_i _ x ho;obtain⟨K,hx,rfl⟩:=ae.1 j;simp only[cZ]at A;have B:=hs.arg (y:=K) (by simp[gJ.dC]) hx;split at A
  ·rename_i k n R
   cases A;rw[R]at B;simp only[VR]at B;exact .same I (x:= .int k (k.wrap (0-n))) (by simp[execOp,ho,B,Op.unary,Op.intArith]) rfl
  ·cases A
 ·
  rename_i t d x ho;split at j
  ·rename_i k' k F hd
   obtain⟨K,hx,rfl⟩:=ae.1 j;simp only[cZ]at A;have B:=hs.arg (y:=K) (by simp[gJ.dC]) hx;split at A
   ·rename_i k'' n R
    cases A;rw[R]at B;simp only[VR]at B;exact .same I (x:= .int k (k.wrap n)) (by simp[execOp,ho,B,convert,run_underlying F,run_underlying hd,Conv.intToInt]) rfl
   ·cases A
  ·cases j
 ·
  rename_i t ho;obtain⟨z,T,j⟩:=ae.1 j;split at j
  ·subst j;simp[gJ.plain]at hp
  subst j;simp only[cZ]at A;split at A
  ·cases A
   obtain⟨B,O⟩:=Y EW (by simp[gJ.site,ay]);simp only[gJ.site,ay,bK]at B O;obtain⟨x,hx,MO⟩:=vF (P:=P) (w:=w) T;have:=FY (P:=P) (o:=o) (a:=a) (s:= .o site) (row:=⟨(ax L (.o site)).ver+1,z.length,[z],false⟩) (c:=x.cells) (t:=t) (v:= .ptr 0 (.o site) ((ax L (.o site)).ver+1) 0 0) (x:= .pointer (some ⟨w.heap.size,0,none⟩))
    I I rfl (jh _ _) (by simp[execOp,ho,Instr.alloc,hx,newVar,newRow]) EW B rfl O
    (by simp only[dF];have:=MO E;exact⟨trivial,by rw[<-this.length,aT];exact this,trivial⟩)
    (fun E' h=>by simp only[VR];exact⟨_,h,by simp⟩)
   simpa[gJ.site,ay]using this
  ·cases A
 ·
  rename_i t x ho;obtain⟨K,hx,j⟩:=ae.1 j;split at j
  ·subst j;simp[gJ.plain]at hp
  subst j;simp only[cZ]at A;split at A
  ·rename_i Lt
   cases A;obtain⟨B,O⟩:=Y EW (by simp[gJ.site,ay]);simp only[gJ.site,ay,bK]at B O;have hx1:=VR.cells Lt (hs.arg (y:=K) (by simp[gJ.dC]) hx);have:=FY (P:=P) (o:=o) (a:=a) (s:= .o site) (row:=⟨(ax L (.o site)).ver+1,(ev fr K).cells.length,[(ev fr K).cells],false⟩) (c:=(a.eval x).cells) (t:=t) (v:= .ptr 0 (.o site) ((ax L (.o site)).ver+1) 0 0) (x:= .pointer (some ⟨w.heap.size,0,none⟩))
    I I rfl (jh _ _) (by simp[execOp,ho,Instr.box,newVar,newRow]) EW B rfl O
    (by simp only[dF];exact⟨trivial,by rw[<-hx1.length,aT];exact hx1,trivial⟩)
    (fun E' h=>by simp only[VR];exact⟨_,h,by simp⟩)
   simpa[gJ.site,ay]using this
  ·cases A
 ·
  rename_i t X ho;obtain⟨z,T,j⟩:=aj.1 j;have F7:∀{q:List (Nat×Nat×Arg)},ao= .build z q->((∃fs ps,P.underlying t=some (.struct fs)∧DN P fs.toList=some ps∧oD (ps[·]?) X.toList=some q)∨
   (∃len e n,P.underlying t=some (.array len e)∧jL P e=some n∧oD (fun i=>some (i*n,n)) X.toList=some q))->Dk P E M w o a v ao.site (ax L' ao.site).ver:=by
   intro q Z ui;subst Z;simp only[cZ,ae,aN]at A;obtain⟨r,hr,rfl,rfl⟩:=A;obtain⟨u,J,Q⟩:=Om (P:=P) (w:=w) (E:=E) (a:=a) T hs hr ui;exact .same I (kR (by simp only[execOp,ho]) J) Q
  split at j
  ·rename_i fs F
   simp only[aj,ae]at j;obtain⟨ps,hps,q,Z,rfl⟩:=j;exact F7 rfl (.inl ⟨fs,ps,F,hps,Z⟩)
  ·rename_i len e F
   simp only[aj,ae]at j;obtain⟨n,hn,q,Z,rfl⟩:=j;exact F7 rfl (.inr ⟨len,e,n,F,hn,Z⟩)
  ·cases j
 ·
  rename_i t len X ho;split at j
  ·rename_i e F
   simp only[aj]at j;obtain⟨n,hn,z,T,j⟩:=j;split at j
   ·rename_i hc
    obtain⟨q,Z,j⟩:=ae.1 j;unfold uf at j;split at j
    ·subst j
     simp[gJ.plain]at hp
    split at j
    ·subst j
     simp[gJ.plain]at hp
    split at j
    ·subst j
     simp[gJ.plain]at hp
    subst j;simp only[cZ,aj]at A;obtain⟨cs,hcs,A⟩:=A;split at A
    ·rename_i hc2
     cases A;obtain⟨d,hd,Jy,hl⟩:=Jz (P:=P) (w:=w) (E:=E) (a:=a) F hn T hc.1 hc.2.1 hc.2.2 Z hs hcs;exact MQ I (kR (by simp only[execOp,ho]) hd) Jy hl (DL hc2.2.2) (by split<;>simp)
    ·cases A
   ·cases j
  ·cases j
 ·
  rename_i t x ho;simp only[aj,ae]at j;obtain⟨g,hg,n,hn,K,hx,rfl⟩:=j;obtain⟨C,rfl⟩:=lG (v':=v) A;obtain⟨u,J,Q⟩:=Dl (P:=P) hL hg hn (hs.arg (by simp[gJ.dC]) hx) C;exact .same I (kR (by simp only[execOp,ho]) J) Q
 ·
  simp only[aj,ae]at j;obtain⟨_,_,_,_,_,_,rfl⟩:=j;simp[gJ.plain]at hp
 ·
  rename_i x ho;obtain⟨K,hx,rfl⟩:=ae.1 j;simp only[cZ]at A;have B:=hs.arg (y:=K) (by simp[gJ.dC]) hx;split at A
  ·rename_i d s ver i off R
   cases A;rw[R]at B;have h1':=B;simp only[VR]at B;obtain⟨o',_,_,W⟩:=B;exact .same I (x:=a.eval x) (by simp[execOp,ho,W]) h1'
  ·rename_i e off R
   cases A;rw[R]at B;have h1':=B;simp only[VR]at B;obtain⟨b,o',cs,_,W,_⟩:=B;exact .same I (x:=a.eval x) (by simp[execOp,ho,W]) h1'
  ·cases A
 ·
  rename_i t x f ho;split at j
  ·rename_i fs F
   simp only[aj]at j;obtain⟨fd,hf,n,hn,j⟩:=j;split at j
   ·cases j
   ·rename_i h0
    obtain⟨K,hx,rfl⟩:=ae.1 j;obtain⟨C,rfl⟩:=lG (v':=v) A;obtain⟨u,J,Q⟩:=Jv (P:=P) (w:=w) F hf hn h0 (hs.arg (by simp[gJ.dC]) hx) C;exact .same I (kR (by simp only[execOp,ho]) J) Q
  ·cases j
 ·
  rename_i t x i ho;split at j
  ·rename_i e F
   simp only[aj,ae]at j;obtain⟨n,hn,K,hx,i',hi,rfl⟩:=j;obtain⟨C,rfl⟩:=lG (v':=v) A;obtain⟨u,J,Q⟩:=Qw (P:=P) (w:=w) F hn (hs.arg (by simp[gJ.dC]) hx) (hs.arg (by simp[gJ.dC]) hi) C;exact .same I (kR (by simp only[execOp,ho]) J) Q
  ·rename_i len e F
   simp only[aj,ae]at j;obtain⟨n,hn,K,hx,i',hi,rfl⟩:=j;obtain⟨C,rfl⟩:=lG (v':=v) A;obtain⟨u,J,Q⟩:=Te (P:=P) (w:=w) F hn (hs.arg (by simp[gJ.dC]) hx) (hs.arg (by simp[gJ.dC]) hi) C;exact .same I (kR (by simp only[execOp,ho]) J) Q
  ·cases j
 ·
  rename_i t x i ho;split at j
  ·rename_i len e F
   simp only[aj,ae]at j;obtain⟨n,hn,g,hg,K,hx,i',hi,rfl⟩:=j;obtain⟨C,rfl⟩:=lG (v':=v) A;obtain⟨u,J,Q⟩:=Tf (P:=P) (w:=w) F hg hn (hs.arg (by simp[gJ.dC]) hx) (hs.arg (by simp[gJ.dC]) hi) C;exact .same I (kR (by simp only[execOp,ho]) J) Q
  ·rename_i F
   simp only[aj,ae]at j;obtain⟨K,hx,i',hi,rfl⟩:=j;obtain⟨C,rfl⟩:=lG (v':=v) A;obtain⟨u,J,Q⟩:=LM (P:=P) (w:=w) F (hs.arg (by simp[gJ.dC]) hx) (hs.arg (by simp[gJ.dC]) hi) C;exact .same I (kR (by simp only[execOp,ho]) J) Q
  ·cases j
 ·
  rename_i t x lo hi mx ho;split at j
  ·rename_i e F
   simp only[aj,ae]at j;obtain⟨n,hn,K,hx,lo',hlo,hi',hhi,mx',hmx,rfl⟩:=j;obtain⟨C,rfl⟩:=lG (v':=v) A;obtain⟨u,J,Q⟩:=Tg (P:=P) (w:=w) F hn (hs.arg (by simp[gJ.dC]) hx)
    (BB hlo hs (fun z T=>by simp[gJ.dC,T])) (BB hhi hs (fun z T=>by simp[gJ.dC,T])) (BB hmx hs (fun z T=>by simp[gJ.dC,T])) C
   exact .same I (kR (by simp only[execOp,ho]) J) Q
  ·rename_i F
   split at j
   ·cases j
   ·rename_i hno
    have:mx=none:=by cases mx<;>simp_all
    subst this;simp only[aj,ae]at j;obtain⟨K,hx,lo',hlo,hi',hhi,rfl⟩:=j;obtain⟨C,rfl⟩:=lG (v':=v) A;obtain⟨u,J,Q⟩:=LP (P:=P) (w:=w) F (hs.arg (by simp[gJ.dC]) hx)
     (BB hlo hs (fun z T=>by simp[gJ.dC,T])) (BB hhi hs (fun z T=>by simp[gJ.dC,T])) C
    exact .same I (kR (by simp only[execOp,ho,Option.map_none]) J) Q
  ·cases j
 ·
  rename_i f first caps ho
  split at j
  ·rename_i h0
   obtain⟨cs,hcs,rfl⟩:=ae.1 j;simp only[cZ,aA,aN]at A;obtain⟨rfl,rfl⟩:=A;have hf:first= #[]:=by simpa using h0
   subst hf;refine .same I (x:= .func (.func f) #[] (caps.map a.eval)) (by simp[execOp,ho,Instr.makeFunc]) ⟨_,rfl,?_⟩;simpa using xn hcs hs
  ·split at j
   ·rename_i h0
    obtain⟨cs,hcs,rfl⟩:=ae.1 j;simp only[cZ,aA,aN]at A;obtain⟨rfl,rfl⟩:=A;have hf:caps= #[]:=by simpa using h0
    subst hf;refine .same I (x:= .func (.func f) (first.map a.eval) #[]) (by simp[execOp,ho,Instr.makeFunc]) ⟨_,rfl,?_⟩;simpa using xn hcs hs
   ·cases j
 ·
  rename_i t len cap ho;split at j
  ·rename_i e F
   simp only[aj]at j;obtain⟨i,hi,z,T,l',FX,c',hc',j⟩:=j;split at j
   ·rename_i rP
    simp only[aA]at j;split at j
    ·subst j;simp[gJ.plain]at hp
    subst j;simp only[cZ]at A;unfold Ji at A;split at A
    ·rename_i l c hl hc
     split at A
     ·rename_i IJ
      cases A;obtain⟨B,O⟩:=Y EW (by simp[gJ.site,ay]);simp only[gJ.site,ay,bK]at B O;have W:=hs.arg (y:=l') (by simp[gJ.dC]) FX;have e2:=hs.arg (y:=c') (by simp[gJ.dC]) hc';rw[hl]at W;rw[hc]at e2;simp only[VR]at W e2;obtain⟨d,hd,Jy⟩:=JG (P:=P) (w:=w) (E:=E) F hi T rP.1 rP.2 IJ.1 IJ.2.1 IJ.2.2.1 IJ.2.2.2.1;have hdl:=Jy.length;rw[sP,yO,uk,rP.1]at hdl;have QC:dF (List.replicate c.toNat z) E i.size d.toList:=by
       refine dF.of_flat (fun e A=>by rw[mP A];exact rP.1) ?_;rw[List.length_replicate,aO (by omega)];exact Jy
      have htk:=QC.take l.toNat;rw[List.take_replicate,eH (by omega)]at htk;have:=FY (P:=P) (o:=o) (a:=a) (s:= .o site) (row:=⟨(ax L (.o site)).ver+1,i.size,List.replicate l.toNat z,false⟩) (c:=d) (t:=e) (v:= .ref 0 (.o site) ((ax L (.o site)).ver+1) i.size 0 l.toNat) (x:= .slice (some ⟨w.heap.size,0,none⟩) l.toNat c.toNat)
       I I rfl (jh _ _) (kR (by simp only[execOp,ho,W,e2]) hd) EW B rfl O htk
       (fun E' h=>by
        simp only[VR];refine⟨_,_,c.toNat,h,rfl,rfl,rfl,by omega,.inr ⟨by simp,?_⟩⟩;simp only[bQ]at hdl;simp only[dV];omega)
      simpa[gJ.site,ay]using this
     ·cases A
    ·cases A
   ·cases j
  ·cases j
 ·
  rename_i x i ho;obtain⟨K,hx,rfl⟩:=ae.1 j;simp only[cZ]at A;have B:=hs.arg (y:=K) (by simp[gJ.dC]) hx;split at A
  ·rename_i vs R
   simp only[ae,aN]at A;obtain⟨u,J,rfl,rfl⟩:=A;rw[R]at B;simp only[VR]at B;obtain⟨c,W,B⟩:=B;obtain⟨y,U,hyr⟩:=B.at J;have MN:c[i]? =some y:=by simpa using U
   exact .same I (x:=y) (by simp[execOp,ho,W,Instr.extract,MN]) hyr
  ·cases A
 ·
  rename_i t r ho;split at j
  ·rename_i k e F
   obtain⟨mk,hm,j⟩:=ae.1 j;split at j
   ·subst j;simp[gJ.plain]at hp
   subst j;simp only[cZ,aA,aN]at A;obtain⟨rfl,rfl⟩:=A;obtain⟨B,O⟩:=Y EW (by simp[gJ.site,ay]);simp only[gJ.site,ay,bK]at B O⊢;exact Xg I (by simp[execOp,ho,Instr.makeMap]) EW B O
  ·cases j
 ·
  rename_i t x i ok ho;split at j
  ·rename_i k e F
   simp only[aj,ae]at j;obtain⟨m,hm,z,T,K,hx,i',hi,rfl⟩:=j;obtain⟨C,rfl⟩:=lG (v':=v) A;obtain⟨u,J,Q⟩:=QA (P:=P) (w:=w) F hm T hL (hs.arg (y:=K) (by simp[gJ.dC]) hx) (hs.arg (y:=i') (by simp[gJ.dC]) hi) C;exact .same I (kR (by simp only[execOp,ho]) J) Q
  ·cases j
 ·
  split at j
  ·simp only[aj,ae]at j
   obtain⟨_,_,_,_,_,_,_,_,rfl⟩:=j;simp[gJ.plain]at hp
  ·cases j
 ·
  split at j
  ·simp only[aj,ae]at j
   obtain⟨_,_,_,_,_,_,_,_,rfl⟩:=j;simp[gJ.plain]at hp
  ·cases j
 ·
  rename_i c ho;split at j
  ·simp only[aj,ae]at j
   obtain⟨_,_,_,_,rfl⟩:=j;unfold qh at hp;split at hp<;>simp[gJ.plain]at hp
  ·
   rename_i hcl;split at j
   ·rename_i t x ht' Ig
    have W:c.argTypes= #[t]:=by rw[<-jr (xs:=c.argTypes),ht']
    have e2:c.args= #[x]:=by rw[<-jr (xs:=c.args),Ig]
    have N:∀{u:Value},(Builtin.len_ #[t] o.type #[a.eval x]).run P w= .ok u w->(execOp a.eval o).run P w= .ok (.value u) w:=by
     intro u h;simp[execOp,ho,resolve,hcl,invoke,builtin,W,e2,h]
    split at j
    ·rename_i F
     obtain⟨K,hx,rfl⟩:=ae.1 j;obtain⟨C,rfl⟩:=lG (v':=v) A;obtain⟨u,J,Q⟩:=Qz (P:=P) (w:=w) (ty:=o.type) F (hs.arg (by simp[gJ.dC]) hx) C;exact .same I (N J) Q
    ·rename_i e F
     obtain⟨K,hx,rfl⟩:=ae.1 j;obtain⟨C,rfl⟩:=lG (v':=v) A;obtain⟨u,J,Q⟩:=Ti (P:=P) (w:=w) (ty:=o.type) F (hs.arg (by simp[gJ.dC]) hx) C;exact .same I (N J) Q
    ·rename_i n e F
     cases j;simp only[cZ,aA,aN]at A;obtain⟨rfl,rfl⟩:=A;exact .same I (N (u:=goInt n) (by simp[Builtin.len_,run_underlying F])) rfl
    ·cases j
   ·cases j
  ·
   split at j
   ·split at j
    ·simp only[aj]at j
     obtain⟨_,_,_,_,_,_,_,_,j⟩:=j;split at j
     ·cases j
      simp[gJ.plain]at hp
     ·cases j
    ·cases j
   ·cases j
  ·
   split at j
   ·split at j
    ·simp only[aj]at j
     obtain⟨_,_,_,_,_,_,j⟩:=j;split at j
     ·cases j
      simp[gJ.plain]at hp
     ·cases j
    ·cases j
   ·cases j
  ·
   rename_i hcl;obtain⟨xs,LU,rfl⟩:=ae.1 j;simp only[cZ]at A;split at A
   ·rename_i x l hxl
    obtain⟨C,rfl⟩:=lG (v':=v) A;have hr:=xn LU hs;rw[hxl]at hr;simp only[dY]at hr;obtain⟨y,ys,W,U,Oq⟩:=hr;obtain⟨u,J,Q⟩:=FZ (P:=P) (w:=w) U Oq C;refine .same I ?_ Q;simp only[bq,bZ]at J;simp[execOp,ho,resolve,hcl,invoke,builtin,Builtin.min_,W,J]
   ·cases A
  ·
   rename_i hcl;obtain⟨xs,LU,rfl⟩:=ae.1 j;simp only[cZ]at A;split at A
   ·rename_i x l hxl
    obtain⟨C,rfl⟩:=lG (v':=v) A;have hr:=xn LU hs;rw[hxl]at hr;simp only[dY]at hr;obtain⟨y,ys,W,U,Oq⟩:=hr;obtain⟨u,J,Q⟩:=FZ (P:=P) (w:=w) U Oq C;refine .same I ?_ Q;simp only[bK]at J;simp[execOp,ho,resolve,hcl,invoke,builtin,Builtin.max_,W,J]
   ·cases A
  ·cases j
 ·cases j
structure kr(G:Nat->Prop)(B:Nat)(w w':World):Prop where
 os:w'.os=w.os
 tape:w'.tape=w.tape
 output:w'.output=w.output
 size:w.heap.size<=w'.heap.size
 block:∀k,k<B->¬G k->w'.heap[k]? =w.heap[k]?
theorem kr.refl(G:Nat->Prop)(B:Nat)(w:World):kr G B w w:=⟨rfl,rfl,rfl,aJ _,fun _ _ _=>rfl⟩
theorem kr.of{G:Nat->Prop}{B:Nat}{w w':World}(h:Below B w w'):kr G B w w':=⟨h.os,h.tape,h.output,h.size,fun k c _=>h.block k c⟩
theorem kr.plain{B:Nat}{w w':World}(h:kr (fun _=>False) B w w'):Below B w w':=⟨h.os,h.tape,h.output,h.size,fun k c=>h.block k c id⟩
theorem kr.trans{G:Nat->Prop}{B:Nat}{a b c:World}(h:kr G B a b)(k:kr G B b c):kr G B a c:=
 ⟨k.os.trans h.os,k.tape.trans h.tape,k.output.trans h.output,eO h.size k.size,fun i g j=>(k.block i g j).trans (h.block i g j)⟩
theorem kr.then{G:Nat->Prop}{B B':Nat}{a b c:World}(h:kr G B a b)(k:Below B' b c)(g:B<=B'):kr G B a c:=h.trans (.of (k.mono g))
theorem kr.drew{G:Nat->Prop}{B:Nat}{a w:World}(h:kr G B a w):kr G B a w.drew:=⟨h.os,h.tape,h.output,h.size,h.block⟩
theorem kr.alloc{G:Nat->Prop}{B:Nat}{a w:World}(h:kr G B a w)(c:B<=w.heap.size)(o:Obj):kr G B a (w.alloc o):=
 h.then ((jh _ w).alloc (aJ _) o) c
structure jT where
 w:World
 E:Env
 G:Nat->Prop
 R:Nat->Nat->Prop
structure dR(w0:jT)(E:Env)(L:Mem)(H:List Mem)(w:World):Prop where
 below:kr w0.G w0.w.heap.size w0.w w
 mem:eD E (L::H) w
 bnd:∀s v o,E.own 0 s v=some o->v<=(ax L s).ver∧∀n,s= .o n->w0.w.heap.size<=o.blk
 wr:∀n o,L.b<=n->(eP L.D n).fz=false->E.own 0 (.g n) (eP L.D n).ver=some o->w0.w.heap.size<=o.blk∨w0.G o.blk
 out:∀d s v o,E.own (d+1) s v=some o->w0.E.own (d+1) s v=some o
 new:∀b cs,E.iY b=some cs->w0.E.iY b=some cs∨w0.w.heap.size<=b∨w0.G b
 Ez:∀n,(eP L.D n).els.all (fun e=>e.all V.qW)=true
 BC:∀n,E.own 0 (.g n) 0=none
 res:∀n v,w0.R n v->v<=(eP L.O n).ver∧E.own 0 (.o n) v=none
theorem YO(L:Mem)(n:Nat):eP L.O n=ax L (.o n):=rfl
theorem dR.may{w0:jT}{E:Env}{L:Mem}{H:List Mem}{w:World}(h:dR w0 E L H w){s:Ix}{o:Own}(c:L.ok s=true)(ho:E.own 0 s (ax L s).ver=some o):w0.w.heap.size<=o.blk∨w0.G o.blk:=by
 unfold Mem.ok at c;simp only[aH,ry]at c;cases s with
 |o n=>exact .inl ((h.bnd _ _ _ ho).2 n rfl)
 |g n=>exact h.wr n o (by simpa using c.2) c.1 ho
theorem Mem.JH{L:Mem}{s:Ix}(h:L.ok s=true):(ax L s).fz=false:=by
 unfold Mem.ok at h;simp only[aH,ry]at h;exact h.1
theorem BD(L:Mem)(n:Nat):eP L.D n=ax L (.g n):=rfl
theorem dR.keep{w0:jT}{E l:Env}{L:Mem}{H:List Mem}{w w':World}(h:dR w0 E L H w){s:Ix}{row:Row}(J:kr w0.G w0.w.heap.size w0.w w')(hm:eD l (bu L s row::H) w')
  (c:∀s' v o,l.own 0 s' v=some o->E.own 0 s' v=some o∨(s'=s∧(ax L s).ver<v∧v<=row.ver∧(w0.w.heap.size<=o.blk∨(w0.G o.blk∧∃n,s= .g n))))
  (A:(ax L s).ver<=row.ver)
  (C:∀o,row.fz=false->E.own 0 s row.ver=some o->(∀n,s= .g n->L.b<=n->w0.w.heap.size<=o.blk∨w0.G o.blk))
  (K:∀d s v o,l.own (d+1) s v=some o->E.own (d+1) s v=some o)
  (F:∀b cs,l.iY b=some cs->E.iY b=some cs∨w0.w.heap.size<=b∨w0.G b)
  (B:∀n,s= .g n->row.els.all (fun e=>e.all V.qW)=true):dR w0 l (bu L s row) H w':=by
 refine⟨J,hm,fun s' v o ho=> ?_,fun n o hn r ho=> ?_,fun d s v o ho=>h.out d s v o (K d s v o ho),fun b cs I=> ?_,fun n=> ?_,fun n=> ?_,fun n v hr=> ?_⟩
 ·rcases c s' v o ho with h1|⟨rfl,_,h1,j⟩
  ·have:=h.bnd s' v o h1
   refine⟨?_,this.2⟩;rw[ay];split
   ·rename_i e;subst e;exact eO this.1 A
   ·exact this.1
  ·rw[ay,aX rfl]
   refine⟨h1,fun m hm=> ?_⟩;rcases j with j|⟨_,n,j⟩
   ·exact j
   ·rw[hm]at j;cases j
 ·rw[BD,ay]at r ho
  simp only[eG]at hn;split at r
  ·rename_i e
   rw[aX e]at ho;rcases c _ _ _ ho with h1|⟨_,_,_,h1⟩
   ·rw[<-e]at h1
    exact C o r h1 n e hn
   ·exact h1.imp id (·.1)
  ·rename_i e
   rw[aP e]at ho;rcases c _ _ _ ho with h1|⟨h1,_⟩
   ·exact h.wr n o hn r h1
   ·exact absurd h1.symm e
 ·rcases F b cs I with h1|h1
  ·exact h.new b cs h1
  ·exact .inr h1
 ·rw[BD,ay]
  split
  ·rename_i e;exact B n e
  ·exact h.Ez n
 ·cases ho:l.own 0 (.g n) 0 with
  |none=>rfl
  |some o=>
   rcases c _ _ _ ho with h1|⟨_,h1,_⟩
   ·rw[h.BC n]at h1;cases h1
   ·omega
 ·obtain⟨h1,j⟩:=h.res n v hr
  rw[YO]at h1⊢;rw[ay];refine⟨?_,?_⟩
  ·split
   ·rename_i e;rw[e]at A;exact eO h1 A
   ·exact h1
  ·cases ho:l.own 0 (.o n) v with
   |none=>rfl
   |some o=>
    rcases c _ _ _ ho with u|⟨e,u,_⟩
    ·rw[j]at u;cases u
    ·rw[<-e]at u;omega
theorem iq(L:List Row)(s:Nat)(j g:Row):dE (dE L s j) s g=dE L s g:=by
 induction L generalizing s with
 |nil=>
  induction s with
  |zero=>rfl
  |succ s c=>simp[dE,c]
 |cons q L c=>cases s<;>simp[dE,c]
theorem F8(L:Mem)(s:Ix)(g c:Row):bu (bu L s g) s c=bu L s c:=by
 cases s<;>simp[bu,iq]
theorem eD.drew{E:Env}{M:List Mem}{w:World}(h:eD E M w):eD E M w.drew:=⟨h.iY,h.blk,h.cur,h.Oi,h.inj,h.LH,h.LJ,h.IG⟩
theorem V.LW(d:Nat)(l:List V):(V.bW d l).length=l.length:=by
 induction l with
 |nil=>rfl
 |cons a l c=>simp[V.bW,c]
theorem dF.shift{E:Env}{d sz:Nat}:∀{es:List (List V)}{l:List Value},dF es (E.up d) sz l->dF (es.map (V.bW d)) E sz l
 |[],_,_=>trivial
 |e::es,l,h=>by
  simp only[dF]at h;simp only[bO,dF,V.LW];exact⟨h.1,(dY.shift d _ _).2 h.2.1,dF.shift h.2.2⟩
theorem eD.others{L:Mem}{H:List Mem}{s:Ix}{row:Row}:∀d s',¬(d=0∧s'=s)->iH (bu L s row::H) d s'=iH (L::H) d s':=by
 intro d s' e;cases d with
 |zero=>simp only[df,ay];rw[aP (fun x=>e ⟨rfl,x.symm⟩)]
 |succ d=>rfl
theorem eD.write{E:Env}{L:Mem}{H:List Mem}{w:World}(h:eD E (L::H) w){s:Ix}{o:Own}{c c':Array Value}{t:TypeId}{row:Row}
  (ho:E.own 0 s (ax L s).ver=some o)(U:o.mp=false)(hz:(ax L s).fz=false)(MP:row.fz=false)(W:w.heap[o.blk]? =some (.cells c t (0,0)))(J:c'.size=c.size)(C:row.ver=(ax L s).ver)(F:o.sz=row.sz)
  (hr:dF row.els E o.sz c'.toList):eD E (bu L s row::H) (w.setRow o.blk c'):=by
 have wL:=setRow_heap w o.blk c c' t (0,0) W;have B:=h.LH 0 s o (by simpa using ho) (by simpa using hz);refine⟨fun b cs I=> ?_,fun d s' v j g=> ?_,fun d s' j g u=> ?_,fun d s' j g u=> ?_,h.inj,fun d s' j g l=> ?_,fun d s' j g l=> ?_,h.IG⟩
 ·have A:b≠o.blk:=by
   intro e;rw[e,B]at I;cases I
  obtain⟨t',fr,hc⟩:=h.iY b cs I;exact⟨t',fr,by rw[setRow_other w o.blk b c' A];exact hc⟩
 ·have:=h.blk d s' v j g
  simpa using this
 ·by_cases e:d=0∧s'=s
  ·obtain⟨rfl,rfl⟩:=e
   simp only[df,ay,bK]at g⊢;rw[C,ho]at g;cases g;obtain⟨X,T,r,Q,Y,_⟩:=h.cur 0 s' o (by simpa using ho) U;rw[W]at r;cases r;exact⟨c',t,wL,by rw[J];exact Q,F,by simpa using hr⟩
  ·rw[eD.others d s' e]at g⊢
   obtain⟨X,T,r,Q,Y,R⟩:=h.cur d s' j g u;have A:j.blk≠o.blk:=fun O=>by
    obtain⟨N,K⟩:=h.inj _ _ _ _ _ _ _ _ g ho O;exact e ⟨N,K⟩
   exact⟨X,T,by rw[setRow_other w o.blk j.blk c' A];exact r,Q,Y,R⟩
 ·by_cases e:d=0∧s'=s
  ·obtain⟨rfl,rfl⟩:=e
   simp only[df,ay,bK]at g⊢;rw[C,ho]at g;cases g;rw[U]at u;cases u
  ·rw[eD.others d s' e]at g⊢
   obtain⟨es,Z,r,R⟩:=h.Oi d s' j g u;have A:j.blk≠o.blk:=fun O=>by
    obtain⟨N,K⟩:=h.inj _ _ _ _ _ _ _ _ g ho O;exact e ⟨N,K⟩
   exact⟨es,Z,by rw[setRow_other w o.blk j.blk c' A];exact r,R⟩
 ·by_cases e:d=0∧s'=s
  ·obtain⟨rfl,rfl⟩:=e
   simp only[df,ay,bK]at g;rw[C,ho]at g;cases g;exact B
  ·rw[eD.others d s' e]at g l
   exact h.LH d s' j g l
 ·by_cases e:d=0∧s'=s
  ·obtain⟨rfl,rfl⟩:=e
   simp only[df,ay,bK]at l;rw[MP]at l;cases l
  ·rw[eD.others d s' e]at g l⊢
   exact h.LJ d s' j g l
theorem eD.agJ{E:Env}{L:Mem}{H:List Mem}{w:World}(h:eD E (L::H) w){s:Ix}{o:Own}{es es':Array MapEntry}{R clk':Nat}{row:Row}
  (ho:E.own 0 s (ax L s).ver=some o)(X:o.mp=true)(Y:(ax L s).fz=false)(MP:row.fz=false)(Q:w.heap[o.blk]? =some (.map es R))(B:row.ver=(ax L s).ver)
  (hr:rG row.els E es'.toList):eD E (bu L s row::H) {w with heap:=w.heap.setIfInBounds o.blk (.map es' clk')}:=by
 have C:=rY Q;have T:(w.heap.setIfInBounds o.blk (.map es' clk'))[o.blk]? =some (.map es' clk'):=by simp[C]
 have r:∀b,b≠o.blk->(w.heap.setIfInBounds o.blk (.map es' clk'))[b]? =w.heap[b]? :=fun b l=>by
  rw[Array.getElem?_setIfInBounds];rw[aP (fun e=>l e.symm)]
 refine⟨fun b cs Z=> ?_,fun d s' v g c=> ?_,fun d s' g c u=> ?_,fun d s' g c u=> ?_,h.inj,fun d s' g c j=> ?_,fun d s' g c j=> ?_,h.IG⟩
 ·obtain⟨W,fr,hc⟩:=h.iY b cs Z
  have l:b≠o.blk:=by intro e;subst e;rw[Q]at hc;cases hc
  exact⟨W,fr,by rw[r b l];exact hc⟩
 ·have:=h.blk d s' v g c
  simpa using this
 ·by_cases e:d=0∧s'=s
  ·obtain⟨rfl,rfl⟩:=e
   simp only[df,ay,bK]at c⊢;rw[B,ho]at c;cases c;rw[X]at u;cases u
  ·rw[eD.others d s' e]at c⊢
   obtain⟨c0,U,A,Xi,F9,O⟩:=h.cur d s' g c u;have l:g.blk≠o.blk:=fun K=>by
    obtain⟨J,I⟩:=h.inj _ _ _ _ _ _ _ _ c ho K;exact e ⟨J,I⟩
   exact⟨c0,U,by rw[r _ l];exact A,Xi,F9,O⟩
 ·by_cases e:d=0∧s'=s
  ·obtain⟨rfl,rfl⟩:=e
   simp only[df,ay,bK]at c⊢;rw[B,ho]at c;cases c;exact⟨es',clk',T,by simpa using hr⟩
  ·rw[eD.others d s' e]at c⊢
   obtain⟨F,N,A,O⟩:=h.Oi d s' g c u;have l:g.blk≠o.blk:=fun K=>by
    obtain⟨J,I⟩:=h.inj _ _ _ _ _ _ _ _ c ho K;exact e ⟨J,I⟩
   exact⟨F,N,by rw[r _ l];exact A,O⟩
 ·by_cases e:d=0∧s'=s
  ·obtain⟨rfl,rfl⟩:=e
   simp only[df,ay,bK]at c;rw[B]at c;exact h.LH 0 s' g (by simpa using c) (by simpa using Y)
  ·rw[eD.others d s' e]at c j
   exact h.LH d s' g c j
 ·by_cases e:d=0∧s'=s
  ·obtain⟨rfl,rfl⟩:=e
   simp only[df,ay,bK]at j;rw[MP]at j;cases j
  ·rw[eD.others d s' e]at c j⊢
   exact h.LJ d s' g c j
theorem eD.ars{E:Env}{L:Mem}{H:List Mem}{w:World}(h:eD E (L::H) w){s:Ix}{o:Own}
  (ho:E.own 0 s (ax L s).ver=some o)(R:(ax L s).fz=false)(hf:E.own 0 s ((ax L s).ver+1)=none):
  eD (E.fG s ((ax L s).ver+1) o) (bu L s {ax L s with ver:=(ax L s).ver+1}::H) w:=by
 have g:=Env.uC (o:=o) hf;have N:=h.LH 0 s o (by simpa using ho) (by simpa using R);refine⟨h.iY,fun d s' v j c=> ?_,fun d s' j c J=> ?_,fun d s' j c J=> ?_,fun d Z alc W d' Y X U B A K=> ?_,fun d s' j c l=> ?_,fun d s' j c l=> ?_,fun d n v=> ?_⟩
 ·simp only[Env.fG]at c
  split at c
  ·cases c;exact h.blk _ _ _ _ ho
  ·exact h.blk d s' v j c
 ·simp only[Env.fG]at c
  by_cases e:d=0∧s'=s
  ·obtain⟨rfl,rfl⟩:=e
   simp only[df,ay,bK,Bc]at c⊢;cases c;obtain⟨C,u,r,O,Q,F⟩:=h.cur 0 s' _ (by simpa using ho) J;exact⟨C,u,r,O,Q,dF.mono (g.up 0) _ _ _ F⟩
  ·rw[eD.others d s' e]at c⊢
   rw[aP (fun x=>e ⟨x.1,x.2.1⟩)]at c;obtain⟨C,u,r,O,Q,F⟩:=h.cur d s' j c J;exact⟨C,u,r,O,Q,dF.mono (g.up d) _ _ _ F⟩
 ·simp only[Env.fG]at c
  by_cases e:d=0∧s'=s
  ·obtain⟨rfl,rfl⟩:=e
   simp only[df,ay,bK,Bc]at c⊢;cases c;obtain⟨C,u,r,F⟩:=h.Oi 0 s' _ (by simpa using ho) J;exact⟨C,u,r,rG.mono (g.up 0) F⟩
  ·rw[eD.others d s' e]at c⊢
   rw[aP (fun x=>e ⟨x.1,x.2.1⟩)]at c;obtain⟨C,u,r,F⟩:=h.Oi d s' j c J;exact⟨C,u,r,rG.mono (g.up d) F⟩
 ·simp only[Env.fG]at B A
  split at B<;>split at A
  ·rename_i e I;exact⟨e.1.trans I.1.symm,e.2.1.trans I.2.1.symm⟩
  ·rename_i e I;cases B
   have:=h.inj _ _ _ _ _ _ _ _ ho A K;exact⟨e.1.trans this.1,e.2.1.trans this.2⟩
  ·rename_i e I;cases A
   have:=h.inj _ _ _ _ _ _ _ _ B ho K;exact⟨this.1.trans I.1.symm,this.2.trans I.2.1.symm⟩
  ·exact h.inj _ _ _ _ _ _ _ _ B A K
 ·simp only[Env.fG]at c
  by_cases e:d=0∧s'=s
  ·obtain⟨rfl,rfl⟩:=e
   simp only[df,ay,bK,Bc]at c;cases c;exact N
  ·rw[eD.others d s' e]at c l
   rw[aP (fun x=>e ⟨x.1,x.2.1⟩)]at c;exact h.LH d s' j c l
 ·simp only[Env.fG]at c
  by_cases e:d=0∧s'=s
  ·obtain⟨rfl,rfl⟩:=e
   simp only[df,ay,bK]at l;rw[R]at l;cases l
  ·rw[eD.others d s' e]at c l⊢
   rw[aP (fun x=>e ⟨x.1,x.2.1⟩)]at c;obtain⟨B,c',A,T⟩:=h.LJ d s' j c l;exact⟨B,c',A,dF.mono g.bare _ _ _ T⟩
 ·simp only[Env.fG]
  rw[aP (by simp)];exact h.IG d n v
theorem zQ{G:Nat->Prop}{B:Nat}{w0 w:World}(h:kr G B w0 w){b:Nat}(hb:B<=b∨G b)(c:Array Value):kr G B w0 (w.setRow b c):=
 ⟨h.os,h.tape,h.output,by simpa using h.size,fun k j g=>by
  have l:k≠b:=by
   rintro rfl;rcases hb with hb|hb
   ·omega
   ·exact g hb
  rw[setRow_other w b k c l];exact h.block k j g⟩
theorem xX{s:Ix}{p:List V}(h:uP s p=true):p.all V.scalar=true:=by
 unfold uP at h;simp only[aH]at h;exact h.1
theorem xt{n:Nat}{p:List V}(h:uP (.g n) p=true):p.all V.qW=true:=by
 unfold uP at h;simp only[aH]at h;exact h.2
theorem Ot{α:Type}{p:α->Bool}:∀{l:List α}{i:Nat}{a:α},l.all p=true->p a=true->(l.set i a).all p=true
 |[],_,_,_,_=>rfl
 |b::l,0,a,h,c=>by
  simp only[aZ,aH]at h;simp[c,h.2]
 |b::l,i+1,a,h,c=>by
  simp only[aZ,aH]at h;simp only[uu,aZ,aH];exact⟨h.1,Ot h.2 c⟩
theorem EX{α:Type}{p:α->Bool}{l:List α}{n:Nat}(h:l.all p=true):(l.take n).all p=true:=by
 rw[aV]at h⊢;exact fun x hx=>h x (fH hx)
theorem JI{α:Type}{p:α->Bool}{l:List α}{n:Nat}(h:l.all p=true):(l.drop n).all p=true:=by
 rw[aV]at h⊢;exact fun x hx=>h x (List.mem_of_mem_drop hx)
theorem Tm{p:V->Bool}{cs q:List V}{off:Nat}(h:cs.all p=true)(c:q.all p=true):(qc cs off q).all p=true:=by
 unfold qc;rw[rz,rz,EX h,c,JI h];rfl
def xu(P:Program)(w0:jT)(E:Env)(L':Mem)(H:List Mem)(w:World)(o:Oper)(a:Act)(v:V):Prop:=
 ∃nx w' E' x,(execOp a.eval o).run P w= .ok nx w'∧(nx= .value x∨(nx= .skip∧x=undef))∧E.Le E'∧dR w0 E' L' H w'∧VR v E' x
theorem dF.qj{E:Env}:∀{es:List (List V)}{sz:Nat}{l:List Value},dF es E sz l->∀e∈es,e.length=sz
 |[],_,_,_,e,he=>by cases he
 |a::es,sz,l,h,e,he=>by
  simp only[dF]at h;rcases ed.1 he with rfl|he
  ·exact h.1
  ·exact dF.qj h.2.2 e he
theorem dF.set{E:Env}:∀{es:List (List V)}{sz:Nat}{l:List Value}{i:Nat}{e:List V}{m:List Value},dF es E sz l->i<es.length->e.length=sz->dY e E m->
  dF (es.set i e) E sz (l.take (i*sz)++m++l.drop (i*sz+sz))
 |[],_,_,i,_,_,_,c,_,_=>by simp at c
 |a::es,sz,l,0,e,m,h,_,g,hm=>by
  have u:=hm.length;simp only[dF]at h;simp only[yP,Bi,fZ,dm,dV,dF];refine⟨g,?_,?_⟩
  ·rw[gm (by omega),aO (by omega)];exact hm
  ·rw[sZ (by omega),NW (by omega),dm];exact h.2.2
 |a::es,sz,l,i+1,e,m,h,c,g,hm=>by
  simp only[dF]at h;have r:=h.2.1.length;simp only[bf]at r;simp only[aS]at c;have j:=dF.set h.2.2 (i:=i) (by omega) g hm;simp only[uu,dF];refine⟨h.1,?_,?_⟩
  ·rw[aC,gm (by simp[jF];omega),nQ,eH (by rw[jF];omega)]
   exact h.2.1
  ·rw[aC,sZ (by simp[jF];omega),<-aC,A9,show(i+1)*sz-sz=i*sz by rw[jF];omega]
   rw[show(i+1)*sz+sz=sz+(i*sz+sz) by rw[jF];omega,<-jm];exact j
theorem LX{cs p:List V}{off:Nat}(h:off+p.length<=cs.length):(qc cs off p).length=cs.length:=by
 simp[qc];omega
theorem YP{α:Type}(l q:List α)(base off sz:Nat)(r:off+q.length<=sz)(j:base+sz<=l.length):
  l.take (base+off)++q++l.drop (base+off+q.length)=
   l.take base++((l.drop base).take off++q++((l.drop base).take sz).drop (off+q.length))++l.drop (base+sz):=by
 have g:l.drop (base+off+q.length)=((l.drop base).take sz).drop (off+q.length)++l.drop (base+sz):=by
  have c:l.drop base=(l.drop base).take sz++l.drop (base+sz):=by
   rw[<-jm,mq]
  rw[jd,<-jm];conv=>lhs;rw[c]
  rw[sZ (by simp;omega)]
 rw[g,List.take_add];simp[aC]
theorem QD{P:Program}{E:Env}{w0:jT}{w:World}{o:Oper}{a:Act}{t:TypeId}{n:Nat}{x y:Operand}{v1 Q:V}{L L':Mem}{H:List Mem}(ho:o.op= .store t x y)(hn:jL P t=some n)
  (h:dR w0 E L H w)(Y:VR v1 E (a.eval x))(h2:VR Q E (a.eval y))(r:DI L n v1 Q=some L'):xu P w0 E L' H w o a (.eT []):=by
 unfold DI at r;split at r
 ·rename_i s ver i off
  dsimp only at r;split at r
  ·rename_i hc
   obtain⟨kH,h0,hpl,DW,u⟩:=hc;have Z:=xX DW;have Cx:=Mem.JH u;simp only[aj]at r;obtain⟨e,A,r⟩:=r;split at r
   ·rename_i hle
    cases r;simp only[VR]at Y;obtain⟨ow,l,W,hx⟩:=Y;rw[<-kH]at l;obtain⟨c,t',X,hcs,C,j⟩:=h.mem.cur 0 s ow l W;simp only[df,Env.pQ]at j C;have g:=VR.cells Z h2;have K:=g.length;obtain⟨MM,lM⟩:=j.at A;have B:=(au.1 A).1;have hbound:=j.bound;have I:(i+1)*ow.sz<=(ax L s).els.length*ow.sz:=ny _ B;rw[jF]at I;simp only[bQ]at hbound;obtain⟨ti,Ij,htn⟩:=ae.1 hn;have O:=run_storeCells_at P ow.blk (i*ow.sz+off) t' (a.eval y).cells.toList 0 c w X (by omega) (dY.Ct Z g);simp only[nR]at O;rw[YP c.toList (a.eval y).cells.toList (i*ow.sz) off ow.sz (by omega) (by simp;omega)]at O;generalize T:(c.toList.take (i*ow.sz)++((c.toList.drop (i*ow.sz)).take off++(a.eval y).cells.toList++((c.toList.drop (i*ow.sz)).take ow.sz).drop (off+(a.eval y).cells.toList.length))++c.toList.drop (i*ow.sz+ow.sz)).toArray=c' at O;have N:c'.toList=c.toList.take (i*ow.sz)++((c.toList.drop (i*ow.sz)).take off++(a.eval y).cells.toList++((c.toList.drop (i*ow.sz)).take ow.sz).drop (off+(a.eval y).cells.toList.length))++c.toList.drop (i*ow.sz+ow.sz):=by
     rw[<-T]
    have F:=lM.qc off g;rw[nQ,eH (by omega)]at F;have U:=j.set B (by rw[LX (by omega)];exact MM) F;rw[<-N]at U;have J:c'.size=c.size:=by
     have:c'.toList.length=c.toList.length:=by
      rw[N,<-YP c.toList (a.eval y).cells.toList (i*ow.sz) off ow.sz (by omega) (by simp;omega)];simp only[aF,bf,eY,K,bQ];rw[eH (by omega)];omega
     simpa using this
    have uD:=h.mem.write (row:={ax L s with els:=(ax L s).els.set i (qc e off Q.cells)}) l W Cx Cx X J rfl C U;refine⟨.skip,w.setRow ow.blk c',E,undef,?_,.inr ⟨rfl,rfl⟩,.refl _,?_,⟨#[],rfl,rfl⟩⟩
    ·simp only[execOp,ho,Instr.storeAt,hx,Instr.sureAddr,storeVar,bJ,dz,aQ,jP hn]
     rw[aP (by simp only[bQ]at K;omega),O];rfl
    ·refine h.keep (zQ h.below (h.may u l) _) uD (fun _ _ _ x=> .inl x) (aJ _) (fun o' _ eX _ _ _=>h.may u eX) (fun _ _ _ _ x=>x) (fun _ _ x=> .inl x) (fun n e'=> ?_)
     subst e';have R:=h.Ez n;rw[BD]at R;exact Ot R (Tm (aV.1 R e (gP.2 ⟨i,B,(au.1 A).2⟩)) (xt DW))
   ·cases r
  ·cases r
 ·cases r
theorem rG.modify{E:Env}{k v:V}{x y:Value}{j r:Nat}{e:MapEntry}(I:VR k E x)(F:VR v E y){es:List (List V)}{l:Array MapEntry}{u:List MapEntry}(hp:u.Perm l.toList)(h:um es E u)(B:u[j]? =some e)(g:l.toList[r]? =some e):
  rG (es.set j [k,v]) E (l.modify r fun e=>{e with key:=x,val:=y}).toList:=by
 have c:=(au.1 g).1;have N:=(au.1 B).1;have A:=h.length;have K:(l.modify r fun e=>{e with key:=x,val:=y}).toList=l.toList.set r {e with key:=x,val:=y}:=by
  have C:l[r]? =some e:=by simpa using g
  apply vN;intro n;simp only[Array.getElem?_toList,Array.getElem?_modify,List.getElem?_set,bQ];split
  ·rename_i J;subst J
   simp only[bQ]at c;have O:l[r]=e:=by simpa[c]using C
   simp[c,C,O]
  ·rfl
 rw[K];refine⟨u.set j {e with key:=x,val:=y},?_,h.set (m:={e with key:=x,val:=y}) (by simp only[dY];exact⟨_,_,rfl,I,_,_,rfl,F,rfl⟩) (by omega)⟩;refine(JC N).trans (.trans ?_ (JC c).symm);have:=((uR B).symm.trans hp).trans (uR g);exact(this.cons_inv).cons _
theorem MS{P:Program}{E:Env}{w0:jT}{w:World}{o:Oper}{a:Act}{t:TypeId}{x y z:Operand}{L L':Mem}{H:List Mem}(ho:o.op= .mapUpdate t x y z∨o.op= .insert t x y z)
  (h:dR w0 E L H w){s:Ix}{ow:Own}{es es':Array MapEntry}{B clk':Nat}{row:Row}(c:E.own 0 s (ax L s).ver=some ow)(F:ow.mp=true)(j:L.ok s=true)(Q:row.fz=false)(K:w.heap[ow.blk]? =some (.map es B))
  (u:row.ver=(ax L s).ver)(hr:rG row.els E es'.toList)(J:∀n,s= .g n->row.els.all (fun e=>e.all V.qW)=true)(N:L'=bu L s row)
  (l:(Instr.mapUpdate t (a.eval x) (a.eval y) (a.eval z)).run P w= .ok () {w with heap:=w.heap.setIfInBounds ow.blk (.map es' clk')}):xu P w0 E L' H w o a (.eT []):=by
 have A:∀{w':World},(Instr.mapUpdate t (a.eval x) (a.eval y) (a.eval z)).run P w= .ok () w'->(execOp a.eval o).run P w= .ok .skip w':=by
  intro w' hr;rcases ho with ho|ho<;>simp[execOp,ho,hr]
 have C:=h.mem.agJ (row:=row) (es':=es') (clk':=clk') c F (Mem.JH j) Q K u hr;subst N;refine⟨.skip,_,E,undef,A l,.inr ⟨rfl,rfl⟩,.refl _,?_,⟨#[],rfl,rfl⟩⟩;refine h.keep ?_ C (fun _ _ _ x=> .inl x) (Nat.le_of_eq u.symm) (fun R _ O _ _ _=>h.may j (by rw[<-u];exact O)) (fun _ _ _ _ x=>x) (fun _ _ x=> .inl x) J;have hbb:=h.may j c;refine⟨h.below.os,h.below.tape,h.below.output,by simpa using h.below.size,fun k I r=> ?_⟩;have:=h.below.block k I r;rw[<-this];show(w.heap.setIfInBounds ow.blk _)[k]? =_;rw[Array.getElem?_setIfInBounds,aP (fun e=> ?_)];subst e;rcases hbb with hbb|hbb
 ·omega
 ·exact r hbb
theorem JJ{P:Program}{E:Env}{w0:jT}{w:World}{o:Oper}{a:Act}{t Y et:TypeId}{m:MK}{x y z:Operand}{v1 F v3:V}{L L':Mem}{H:List Mem}(ho:o.op= .mapUpdate t x y z∨o.op= .insert t x y z)
  (ht:P.underlying t=some (.map Y et))(hk:LG P Y=some m)
  (h:dR w0 E L H w)(h1:VR v1 E (a.eval x))(O:VR F E (a.eval y))(h3:VR v3 E (a.eval z))(l:Dj L m v1 F v3=some L'):xu P w0 E L' H w o a (.eT []):=by
 unfold Dj at l;split at l
 ·rename_i s ver
  dsimp only at l;split at l
  ·rename_i hc
   obtain⟨kH,h0,R,B,U⟩:=hc;have Cx:=Mem.JH B;obtain⟨r,hf,l⟩:=ae.1 l;simp only[VR]at h1;obtain⟨ow,c,T,hx⟩:=h1;rw[<-kH]at c;obtain⟨es,N,C,A⟩:=h.mem.Oi 0 s ow c T;simp only[df,Env.pQ]at A;obtain⟨kd,hd,hm⟩:=Tj hk;obtain⟨r',J,Q⟩:=JE (P:=P) (w:=w) hd hm O A hf;have K:=vU (P:=P) (w:=w) hd hm O U false;have I:∀n,s= .g n->([F,v3]:List V).all V.qW=true∧(ax L s).els.all (fun e=>e.all V.qW)=true:=by
    intro n e;subst e;refine⟨?_,h.Ez n⟩;unfold Qo at R;simp only[aH]at R;simp[R.1,R.2]
   unfold Tk at Q;split at Q
   ·simp only at l
    refine MS ho h (row:={ax L s with els:=(ax L s).els++[[F,v3]]}) (es':=es.push {key:=a.eval y,val:=a.eval z,born:=N}) (clk':=N+1) c T B Cx C rfl ?_ (fun n e=> ?_) l.symm ?_
    ·rw[Array.toList_push]
     exact rG.snoc (m:={key:=a.eval y,val:=a.eval z,born:=N}) (by simp only[dY];exact⟨_,_,rfl,O,_,_,rfl,h3,rfl⟩) A
    ·obtain⟨X,W⟩:=I n e
     simp only[rz,W,aZ,cB,jK,l9];simpa using X
    ·simp only[Instr.mapUpdate,bJ,run_underlying ht,aQ,hx,zP C,K,J]
     exact JF _ C
   ·rename_i j u Z u'
    obtain⟨hv,e,l',e2,e3,e4,e5,e6,e7⟩:=Q;simp only at l;refine MS ho h (row:={ax L s with els:=(ax L s).els.set j [F,v3]}) (es':=es.modify Z fun e=>{e with key:=a.eval y,val:=a.eval z}) (clk':=N) c T B Cx C rfl (rG.modify O h3 e5 e6 e7 e2) (fun n e=> ?_) l.symm ?_
    ·obtain⟨X,W⟩:=I n e
     exact Ot W X
    ·have e8:es[Z]? =some e:=by simpa using e2
     simp only[Instr.mapUpdate,bJ,run_underlying ht,aQ,hx,zP C,K,J,e8,aU,dU,Instr.keyThatStays,e4,bK,dz];exact JF _ C
   ·exact Q.elim
  ·cases l
 ·cases l
theorem Xj{L L':Mem}{m:MK}{v1 g v3:V}(c:Bq L m v1 g v3=some L'):Dj L m v1 g v3=some L':=by
 unfold Bq at c;split at c
 ·dsimp only at c
  split at c
  ·rename_i hc
   split at c
   ·rename_i hf
    cases c;unfold Dj;simp only[hc,Bc,bK,hf,aU]
   ·cases c
  ·cases c
 ·cases c
theorem eD.perm{E:Env}{L:Mem}{H:List Mem}{w:World}(h:eD E (L::H) w){s:Ix}{o:Own}{row:Row}
  (ho:E.own 0 s (ax L s).ver=some o)(u:o.mp=true)(r:row.ver=(ax L s).ver)(A:row.fz=(ax L s).fz)(hp:row.els.Perm (ax L s).els):eD E (bu L s row::H) w:=by
 refine⟨h.iY,h.blk,fun d s' j c l=> ?_,fun d s' j c l=> ?_,h.inj,fun d s' j c g=> ?_,fun d s' j c g=> ?_,h.IG⟩
 ·by_cases e:d=0∧s'=s
  ·obtain⟨rfl,rfl⟩:=e
   simp only[df,ay,bK]at c⊢;rw[r,ho]at c;cases c;rw[u]at l;cases l
  ·rw[eD.others d s' e]at c⊢
   exact h.cur d s' j c l
 ·by_cases e:d=0∧s'=s
  ·obtain⟨rfl,rfl⟩:=e
   simp only[df,ay,bK]at c⊢;rw[r,ho]at c;cases c;obtain⟨es,B,C,hr⟩:=h.Oi 0 s' _ (by simpa using ho) l;exact⟨es,B,C,hr.perm hp⟩
  ·rw[eD.others d s' e]at c⊢
   exact h.Oi d s' j c l
 ·by_cases e:d=0∧s'=s
  ·obtain⟨rfl,rfl⟩:=e
   simp only[df,ay,bK]at c g;rw[r]at c;exact h.LH 0 s' j (by simpa using c) (by simpa[A]using g)
  ·rw[eD.others d s' e]at c g
   exact h.LH d s' j c g
 ·by_cases e:d=0∧s'=s
  ·obtain⟨rfl,rfl⟩:=e
   simp only[df,ay,bK]at c g;rw[r]at c;have:=(h.LJ 0 s' j (by simpa using c) (by rw[df,<-A];exact g)).1;rw[ho]at c;cases c;rw[u]at this;cases this
  ·rw[eD.others d s' e]at c g⊢
   exact h.LJ d s' j c g
theorem dR.perm{w0:jT}{E:Env}{L:Mem}{H:List Mem}{w:World}(h:dR w0 E L H w){s:Ix}{o:Own}{row:Row}
  (ho:E.own 0 s (ax L s).ver=some o)(j:o.mp=true)(c:row.ver=(ax L s).ver)(g:row.fz=(ax L s).fz)(hp:row.els.Perm (ax L s).els):dR w0 E (bu L s row) H w:=by
 refine h.keep h.below (h.mem.perm ho j c g hp) (fun _ _ _ x=> .inl x) (Nat.le_of_eq c.symm) (fun l u A n e r=> ?_) (fun _ _ _ _ x=>x) (fun _ _ x=> .inl x) (fun n e=> ?_)
 ·subst e
  exact h.wr n l r (by rw[BD,<-g];exact u) (by rw[BD,<-c];exact A)
 ·subst e
  have:=h.Ez n;rw[BD]at this;rw[aV]at this⊢;exact fun x hx=>this x (hp.subset hx)
theorem Ov{P:Program}{E:Env}{w:World}{L:Mem}{H:List Mem}{u e':TypeId}{sz:Nat}{y:V}{x:Value}{new:List (List V)}(I:P.underlying u=some (.slice e'))(hm:eD E (L::H) w)(O:VR y E x)
  (r:wB (L::H) y=some new)(gB:new=[]∨new.all (fun e=>e.length=sz∧e.all V.scalar)=true):∃B,Src P sz u x new.length B w∧dY new.flatten E B∧(∀e∈new,e.length=sz):=by
 have Tn:∀{l:List Value},dY new.flatten E l->∀z∈l,z.oneCell'=true:=by
  intro l hl;refine dY.Ct ?_ hl;rcases gB with rfl|gB
  ·rfl
  ·rw[aV]at gB⊢
   intro v hv;obtain⟨e,X,CZ⟩:=tq.1 hv;have:=gB e X;simp only[bN,aV]at this;exact this.2 v CZ
 have A:∀e∈new,e.length=sz:=by
  intro e F;rcases gB with rfl|gB
  ·cases F
  ·rw[aV]at gB
   have:=gB e F;simp only[bN]at this;exact this.1
 unfold wB at r;split at r
 ·cases r
  simp only[VR]at O;subst O;exact⟨[],Src.ofNil (P:=P) w I 0,rfl,A⟩
 ·rename_i k U els
  split at r
  ·cases r
  ·cases r
   simp only[VR]at O;obtain⟨_,⟨b,off,sp⟩,cap,rfl,W,_,g⟩:=O;rcases g with rfl|⟨cs,Q,Xh,g⟩
   ·exact⟨[],Src.ofSlice (P:=P) w I _ _ _ [] (by simp) (by simp) (by simp),rfl,A⟩
   ·simp only at Q Xh g;subst Q
    obtain⟨t',fr',Y⟩:=hm.iY b cs Xh;by_cases hn:new=[]
    ·subst hn
     exact⟨[],Src.ofSlice (P:=P) w I _ _ _ [] (by simp) (by simp) (by simp),rfl,A⟩
    ·have Z:U=sz:=by
      obtain⟨e,F⟩:=H8 _ hn;rw[<-g.qj e F,A e F]
     subst Z;have N:=dY.mono E.xP _ _ g.flat;have hbd:=g.bound;simp only[eY,bQ]at hbd;refine⟨_,Src.ofSlice (P:=P) w I _ _ _ _ (by simp;omega) ?_ (Tn N),N,A⟩;intro j z J;rw[rZ,CU Y];have YK:=(au.1 J).1;simp only[bf,eY]at YK;rw[fQ (by omega),iU]at J;exact J
 ·rename_i d s ver szr off len
  dsimp only at r;split at r
  ·rename_i hc
   cases r;simp only[VR]at O;obtain⟨ow,ad,cap,C,pF,rfl,aru,W,g⟩:=O;rw[<-hc.1]at C;obtain⟨c,t',hb,hcsz,hsz,R⟩:=hm.cur d s ow C pF;have K:=((R.drop off).take len).shift;have T:((((iH (L::H) d s).els.drop off).take len).map (V.bW d)).length=len:=by simp;omega
   rcases g with rfl|⟨rfl,g⟩
   ·have GQ:len=0:=by omega
    subst GQ;exact⟨[],by rw[T];exact Src.ofSlice (P:=P) w I _ _ _ [] (by simp) (by simp) (by simp),by simp[dY],A⟩
   ·by_cases hn:(((iH (L::H) d s).els.drop off).take len).map (V.bW d)=[]
    ·have GQ:len=0:=by rw[<-T,hn];rfl
     subst GQ;exact⟨[],by rw[T];exact Src.ofSlice (P:=P) w I _ _ _ [] (by simp) (by simp) (by simp),by simp[dY],A⟩
    ·have Z:ow.sz=sz:=by
      obtain⟨e,F⟩:=H8 _ hn;rw[<-K.qj e F,A e F]
     have N:=K.flat;have hbd:=K.bound;rw[T]at N hbd⊢;simp only[eY,bQ]at hbd;rw[Z]at N hbd⊢;refine⟨_,Src.ofSlice (P:=P) w I _ _ _ _ (by simp;omega) ?_ (Tn N),N,A⟩;intro j z J;rw[rZ,CU hb];have YK:=(au.1 J).1;simp only[bf,eY]at YK;rw[fQ (by omega),iU]at J;exact J
  ·cases r
 ·cases r
theorem dR.fresh{w0:jT}{E:Env}{L:Mem}{H:List Mem}{w:World}(h:dR w0 E L H w)(s:Ix){v:Nat}(c:(ax L s).ver<v):E.own 0 s v=none:=by
 cases ho:E.own 0 s v with
 |none=>rfl
 |some o=>have:=(h.bnd s v o ho).1;omega
theorem V.JK{v:V}(h:v.gL=true):v.qW=true:=by
 cases v<;>first|exact h|(simp[V.gL]at h)
theorem JK{l:List V}(h:l.all V.gL=true):l.all V.qW=true:=by
 rw[aV]at h⊢;exact fun v c=>V.JK (h v c)
theorem MU{l:List (List V)}(h:l.all (fun e=>e.all V.gL)=true):l.all (fun e=>e.all V.qW)=true:=by
 rw[aV]at h⊢;exact fun v c=>JK (h v c)
theorem eD.freeze{E:Env}{L:Mem}{H:List Mem}{w:World}(h:eD E (L::H) w){s:Ix}{o:Own}{c:Array Value}{t:TypeId}{els':List (List V)}
  (ho:E.own 0 s (ax L s).ver=some o)(F:o.mp=false)(T:(ax L s).fz=false)(I:w.heap[o.blk]? =some (.cells c t (0,0)))(hr:dF els' E.bare o.sz c.toList):
  E.Le (E.kg o.blk c)∧eD (E.kg o.blk c) (bu L s {ax L s with els:=els',fz:=true}::H) w:=by
 have U:=h.LH 0 s o (by simpa using ho) (by simpa using T);have j:=Env.qM (c:=c) U;refine⟨j,⟨fun b cs C=> ?_,h.blk,fun d s' l g B=> ?_,fun d s' l g B=> ?_,h.inj,fun d s' l g u=> ?_,fun d s' l g u=> ?_,h.IG⟩⟩
 ·simp only[Env.kg]at C
  split at C
  ·rename_i e;subst e;cases C;exact⟨t,(0,0),I⟩
  ·exact h.iY b cs C
 ·by_cases e:d=0∧s'=s
  ·obtain⟨rfl,rfl⟩:=e
   simp only[df,ay,bK]at g⊢;have r:E.own 0 s' (ax L s').ver=some l:=g;rw[ho]at r;cases r;obtain⟨Q,O,A,J,N,_⟩:=h.cur 0 s' o (by simpa using ho) F;rw[I]at A;cases A;exact⟨c,t,I,J,by simpa using N,by simpa using dF.mono (E.xP.trans j) _ _ _ hr⟩
  ·rw[eD.others d s' e]at g⊢
   obtain⟨Q,O,A,J,N,K⟩:=h.cur d s' l g B;exact⟨Q,O,A,J,N,dF.mono (j.up d) _ _ _ K⟩
 ·by_cases e:d=0∧s'=s
  ·obtain⟨rfl,rfl⟩:=e
   simp only[df,ay,bK]at g;have r:E.own 0 s' (ax L s').ver=some l:=g;rw[ho]at r;cases r;rw[F]at B;cases B
  ·rw[eD.others d s' e]at g⊢
   obtain⟨es,R,A,K⟩:=h.Oi d s' l g B;exact⟨es,R,A,K.mono (j.up d)⟩
 ·by_cases e:d=0∧s'=s
  ·obtain⟨rfl,rfl⟩:=e
   simp[ay]at u
  ·rw[eD.others d s' e]at g u
   have Z:l.blk≠o.blk:=fun e'=>by
    obtain⟨e1,e2⟩:=h.inj _ _ _ _ _ _ _ _ g ho e';exact e ⟨e1,e2⟩
   simp only[Env.kg,aP Z];exact h.LH d s' l g u
 ·by_cases e:d=0∧s'=s
  ·obtain⟨rfl,rfl⟩:=e
   simp only[df,ay,bK]at g⊢;have r:E.own 0 s' (ax L s').ver=some l:=g;rw[ho]at r;cases r;exact⟨F,c,by simp[Env.kg],dF.mono j.bare _ _ _ hr⟩
  ·rw[eD.others d s' e]at g u⊢
   obtain⟨Y,c',X,W⟩:=h.LJ d s' l g u;exact⟨Y,c',j.iY _ _ X,dF.mono j.bare _ _ _ W⟩
theorem dR.freeze{E:Env}{w0:jT}{w:World}{L:Mem}{H:List Mem}(h:dR w0 E L H w){s:Ix}{o:Own}{c:Array Value}{t:TypeId}{els':List (List V)}
  (ho:E.own 0 s (ax L s).ver=some o)(l:o.mp=false)(g:L.ok s=true)(r:w.heap[o.blk]? =some (.cells c t (0,0)))(hp:els'.all (fun e=>e.all V.gL)=true)(hr:dF els' E.bare o.sz c.toList):
  E.Le (E.kg o.blk c)∧dR w0 (E.kg o.blk c) (bu L s {ax L s with els:=els',fz:=true}) H w:=by
 obtain⟨A,u⟩:=h.mem.freeze ho l (Mem.JH g) r hr;refine⟨A,h.keep h.below u (fun _ _ _ x=> .inl x) (aJ _) (fun _ x=>by cases x) (fun _ _ _ _ x=>x) (fun b cs j=> ?_) (fun _ _=>MU hp)⟩;simp only[Env.kg]at j;split at j
 ·rename_i e;subst e;exact .inr (h.may g ho)
 ·exact .inl j
theorem ft{c:Prop}[Decidable c]{α:Type}{x:Option α}{y:α}(h:(if c then x else none)=some y):c∧x=some y:=by
 split at h
 ·exact⟨‹c›,h⟩
 ·cases h
def Frz(w0:jT)(w:World)(H:List Mem)(f:Mem->V->Option (V×Mem)):Prop:=
 ∀{E:Env}{L L':Mem}{v v':V}{x:Value},dR w0 E L H w->VR v E x->f L v=some (v',L')->∃E',E.Le E'∧dR w0 E' L' H w∧VR v' E' x
theorem MV{w0:jT}{w:World}{H:List Mem}{f:Mem->V->Option (V×Mem)}(hf:Frz w0 w H f):∀{vs c:List V}{xs:List Value}{E:Env}{L L':Mem},dR w0 E L H w->dY vs E xs->vB f L vs=some (c,L')->
  ∃l,E.Le l∧dR w0 l L' H w∧dY c l xs
 |[],c,xs,E,L,L',h,j,g=>by
  simp only[vB,aA,aN]at g;obtain⟨rfl,rfl⟩:=g;exact⟨E,.refl _,h,j⟩
 |v::vs,c,xs,E,L,L',h,j,g=>by
  simp only[vB,aj,ae,aN]at g;obtain⟨⟨v1,T⟩,J,⟨Q,R⟩,I,rfl,rfl⟩:=g;simp only[dY]at j;obtain⟨x,K,rfl,hx,N⟩:=j;obtain⟨U,u,B,F⟩:=hf h hx J;obtain⟨O,r,A,C⟩:=MV hf B (dY.mono u _ _ N) I;exact⟨O,u.trans r,A,⟨x,K,rfl,VR.mono r _ _ F,C⟩⟩
theorem Cy{w0:jT}{w:World}{H:List Mem}{f:Mem->V->Option (V×Mem)}(hf:Frz w0 w H f){sz:Nat}:∀{es es':List (List V)}{l:List Value}{E:Env}{L L':Mem},dR w0 E L H w->dF es E sz l->rD f L es=some (es',L')->
  ∃j,E.Le j∧dR w0 j L' H w∧dF es' j sz l
 |[],es',l,E,L,L',h,c,g=>by
  simp only[rD,aA,aN]at g;obtain⟨rfl,rfl⟩:=g;exact⟨E,.refl _,h,c⟩
 |e::es,es',l,E,L,L',h,c,g=>by
  simp only[rD,aj,ae,aN]at g;obtain⟨⟨v1,Q⟩,J,⟨N,O⟩,I,rfl,rfl⟩:=g;simp only[dF]at c;obtain⟨R,A,C,r⟩:=MV hf h c.2.1 J;obtain⟨K,u,B,F⟩:=Cy hf C (dF.mono A _ _ _ c.2.2) I;refine⟨K,A.trans u,B,?_,dY.mono u _ _ r,F⟩;have l1:=c.2.1.length;have l2:(l.take sz).length=v1.length:=r.length;show v1.length=sz;omega
theorem Ga{f:Mem->V->Option (V×Mem)}:∀{es es':List (List V)}{A B:Mem},rD f A es=some (es',B)->es'.length=es.length
 |[],_,_,_,c=>by simp only[rD,aA,aN]at c;rw[<-c.1]
 |e::es,es',A,B,c=>by
  simp only[rD,aj,ae,aN]at c;obtain⟨⟨a1,a2⟩,_,⟨b1,j⟩,g,rfl,_⟩:=c;simp only[aS,Ga g]
theorem GU{E:Env}{o:Own}{c:Array Value}{els:List (List V)}{a:Addr}{sz off len cap:Nat}(u:o.sz=sz)(g:len<=cap)(A:off+len<=els.length)(B:E.iY o.blk=some c)(hr:dF els E.bare o.sz c.toList)
  (j:cap=0∨(a=⟨o.blk,off*o.sz,none⟩∧(off+cap)*o.sz<=o.cs)):VR (.sl .any sz ((els.drop off).take len)) E (.slice (some a) len cap):=by
 simp only[VR];have r:((els.drop off).take len).length=len:=by simp;omega
 refine⟨by simp,a,cap,by rw[r],by rw[r];exact g,by simp,?_⟩;rcases j with F|⟨rfl,C⟩
 ·left
  exact mV (by omega)
 ·right
  refine⟨c,rfl,B,?_⟩;have l:=(hr.drop off).take len;rw[u]at l⊢;exact l
theorem YR{w0:jT}{w:World}{H:List Mem}:∀n:Nat,Frz w0 w H (jJ n):=by
 intro n;induction n with
 |zero=>
  intro E L L' v v' x h F g;unfold jJ at g;split at g
  ·rename_i L q2 q3 q4 s ver sz off len
   dsimp only at g;obtain⟨⟨kH,h0,r,I⟩,g⟩:=ft g;simp only[VR]at F;obtain⟨o,a,cap,ho,R,rfl,Q,u,A⟩:=F;rw[<-kH]at ho;split at g
   ·rename_i hp
    cases g;cases J:(ax L s).fz with
    |true=>
     simp only[bK];obtain⟨_,c,B,C⟩:=h.mem.LJ 0 s o (by simpa using ho) (by simpa using J);exact⟨E,.refl _,h,GU Q u r B (by simpa using C) A⟩
    |false=>
     simp only[bq,bZ];rw[J,iK]at I;obtain⟨c,t,hb,N,Y,j⟩:=h.mem.cur 0 s o (by simpa using ho) R;simp only[df,Env.pQ]at j;obtain⟨B,C⟩:=h.freeze ho R I hb (ja hp) (dF.pure (ja hp) j);exact⟨_,B,C,GU Q u r (by simp[Env.kg]) (dF.mono B.bare _ _ _ (dF.pure (ja hp) j)) A⟩
   ·cases g
  ·split at g
   ·cases g
    exact⟨E,.refl _,h,F⟩
   ·cases g
  ·cases g
   exact⟨E,.refl _,h,F⟩
 |succ n ih=>
  intro E L L' v v' x h F g;unfold jJ at g;split at g
  ·rename_i L q2 q3 q4 s ver sz off len
   dsimp only at g;obtain⟨⟨kH,h0,r,I⟩,g⟩:=ft g;simp only[VR]at F;obtain⟨o,a,cap,ho,R,rfl,Q,u,A⟩:=F;rw[<-kH]at ho;split at g
   ·rename_i hp
    cases g;cases J:(ax L s).fz with
    |true=>
     simp only[bK];obtain⟨_,c,B,C⟩:=h.mem.LJ 0 s o (by simpa using ho) (by simpa using J);exact⟨E,.refl _,h,GU Q u r B (by simpa using C) A⟩
    |false=>
     simp only[bq,bZ];rw[J,iK]at I;obtain⟨c,t,hb,N,Y,j⟩:=h.mem.cur 0 s o (by simpa using ho) R;simp only[df,Env.pQ]at j;obtain⟨B,C⟩:=h.freeze ho R I hb (ja hp) (dF.pure (ja hp) j);exact⟨_,B,C,GU Q u r (by simp[Env.kg]) (dF.mono B.bare _ _ _ (dF.pure (ja hp) j)) A⟩
   ·obtain⟨⟨els',L1⟩,K,g⟩:=aj.1 g
    obtain⟨⟨hp,X,hf2,T⟩,g⟩:=ft g;cases g;simp only at hp T X hf2;have l:=Ga K;cases J:(ax L s).fz with
    |true=>
     simp only[bK];obtain⟨_,c,B,C⟩:=h.mem.LJ 0 s o (by simpa using ho) (by simpa using J);simp only[df]at C;obtain⟨E1,O,W,U⟩:=Cy ih h (dF.mono E.xP _ _ _ C) K;exact⟨E1,O,W,GU Q u (by rw[l];exact r) (O.iY _ _ B) (dF.pure (ja hp) U) A⟩
    |false=>
     simp only[bq,bZ];rw[J,iK]at T;obtain⟨c,t,hb,N,Y,j⟩:=h.mem.cur 0 s o (by simpa using ho) R;simp only[df,Env.pQ]at j;obtain⟨E1,O,W,U⟩:=Cy ih h j K;have Yr:E1.own 0 s (ax L1 s).ver=some o:=by
      rw[X,<-kH];exact O.own _ _ _ _ ho
     obtain⟨B,C⟩:=W.freeze Yr R T hb (ja hp) (dF.pure (ja hp) U);exact⟨_,O.trans B,C,GU Q u (by rw[l];exact r) (by simp[Env.kg]) (dF.mono B.bare _ _ _ (dF.pure (ja hp) U)) A⟩
  ·rename_i L q2 q3 q4 k sz els
   split at g
   ·cases g
    exact⟨E,.refl _,h,F⟩
   ·by_cases Z:k= .own
    ·simp[Z]at g
    ·simp only[aP Z]at g
     obtain⟨⟨els',L1⟩,K,g⟩:=aj.1 g;obtain⟨hp,g⟩:=ft g;cases g;simp only at hp;have l:=Ga K;simp only[VR]at F⊢;obtain⟨hk,a,cap,rfl,hl,hf,hc⟩:=F;rcases hc with rfl|⟨cs,hs,hi,U4⟩
     ·simp only[rD,aA,aN]at K
      obtain⟨rfl,rfl⟩:=K;exact⟨E,.refl _,h,by simp,a,cap,rfl,hl,by simp,.inl rfl⟩
     ·obtain⟨E1,O,W,U⟩:=Cy ih h (dF.mono E.xP _ _ _ U4) K
      exact⟨E1,O,W,by simp,a,cap,by rw[l],by rw[l];exact hl,by simp,.inr ⟨cs,hs,O.iY _ _ hi,dF.pure (ja hp) U⟩⟩
  ·cases g
   exact⟨E,.refl _,h,F⟩
theorem MW{E:Env}{w0:jT}{w:World}{L L':Mem}{H:List Mem}{v v':V}{x:Value}(h:dR w0 E L H w)(C:VR v E x)(j:uy L v=some (v',L')):
  (∃I,E.Le I∧dR w0 I L' H w∧VR v' I x)∧L'.D=L.D∧L'.b=L.b:=by
 unfold uy at j;split at j
 ·rename_i n ver sz off len
  dsimp only at j;obtain⟨⟨Q,U,r,hp,l⟩,j⟩:=ft j;simp only[VR]at C;obtain⟨o,a,cap,ho,K,rfl,J,u,A⟩:=C;rw[<-Q]at ho;cases j;cases N:(ax L (.o n)).fz with
  |true=>
   simp only[bK];obtain⟨_,c,B,F⟩:=h.mem.LJ 0 _ o (by simpa using ho) (by simpa using N);exact⟨⟨E,.refl _,h,GU J u r B (by simpa using F) A⟩,trivial,trivial⟩
  |false=>
   simp only[bq,bZ];rw[N,iK]at l;obtain⟨c,t,T,O,R,g⟩:=h.mem.cur 0 _ o (by simpa using ho) K;simp only[df,Env.pQ]at g;obtain⟨B,F⟩:=h.freeze ho K l T hp (dF.pure hp g);exact⟨⟨_,B,F,GU J u r (by simp[Env.kg]) (dF.mono B.bare _ _ _ (dF.pure hp g)) A⟩,rfl,rfl⟩
 ·cases j
  exact⟨⟨E,.refl _,h,C⟩,rfl,rfl⟩
theorem MX{w0:jT}{w:World}{H:List Mem}:∀{vs c:List V}{xs:List Value}{E:Env}{L L':Mem},dR w0 E L H w->dY vs E xs->kJ L vs=some (c,L')->
  (∃l,E.Le l∧dR w0 l L' H w∧dY c l xs)∧L'.D=L.D∧L'.b=L.b
 |[],c,xs,E,L,L',h,j,g=>by
  simp only[kJ,aA,aN]at g;obtain⟨rfl,rfl⟩:=g;exact⟨⟨E,.refl _,h,j⟩,rfl,rfl⟩
 |v::vs,c,xs,E,L,L',h,j,g=>by
  simp only[kJ,aj,ae,aN]at g;obtain⟨⟨v1,W⟩,J,⟨T,U⟩,I,rfl,rfl⟩:=g;simp only[dY]at j;obtain⟨x,O,rfl,hx,Q⟩:=j;obtain⟨⟨X,u,B,F⟩,d1,b1⟩:=MW h hx J;obtain⟨⟨R,r,A,C⟩,K,N⟩:=MX B (dY.mono u _ _ Q) I;exact⟨⟨R,u.trans r,A,⟨x,O,rfl,VR.mono r _ _ F,C⟩⟩,K.trans d1,N.trans b1⟩
theorem MZ{E:Env}{w0:jT}{w:World}{L L':Mem}{H:List Mem}{v v':V}{x:Value}(h:dR w0 E L H w)(l:VR v E x)(j:jR L v=some (v',L')):
  (∃g,E.Le g∧dR w0 g L' H w∧VR v' g x)∧L'.D=L.D∧L'.b=L.b:=by
 unfold jR at j;split at j
 ·obtain⟨⟨vs,F⟩,u,r⟩:=ae.1 j
  cases r;simp only[VR]at l;obtain⟨c,rfl,hc⟩:=l;obtain⟨⟨g,C,B,A⟩,d⟩:=MX h hc u;exact⟨⟨g,C,B,c,rfl,A⟩,d⟩
 ·exact MW h l j
theorem JL{w0:jT}{w:World}{H:List Mem}:∀{vs c:List V}{xs:List Value}{E:Env}{L L':Mem},dR w0 E L H w->dY vs E xs->nD L vs=some (c,L')->
  (∃l,E.Le l∧dR w0 l L' H w∧dY c l xs)∧L'.D=L.D∧L'.b=L.b
 |[],c,xs,E,L,L',h,j,g=>by
  simp only[nD,aA,aN]at g;obtain⟨rfl,rfl⟩:=g;exact⟨⟨E,.refl _,h,j⟩,rfl,rfl⟩
 |v::vs,c,xs,E,L,L',h,j,g=>by
  simp only[nD,aj,ae,aN]at g;obtain⟨⟨v1,W⟩,J,⟨T,U⟩,I,rfl,rfl⟩:=g;simp only[dY]at j;obtain⟨x,O,rfl,hx,Q⟩:=j;obtain⟨⟨X,u,B,F⟩,d1,b1⟩:=MZ h hx J;obtain⟨⟨R,r,A,C⟩,K,N⟩:=JL B (dY.mono u _ _ Q) I;exact⟨⟨R,u.trans r,A,⟨x,O,rfl,VR.mono r _ _ F,C⟩⟩,K.trans d1,N.trans b1⟩
theorem QF{E:Env}{w0:jT}{w:World}{L L':Mem}{H:List Mem}{v v':V}{x:Value}(h:dR w0 E L H w)(g:VR v E x)(j:xf L v=some (v',L')):
  ∃c,E.Le c∧dR w0 c L' H w∧VR v' c x:=YR 8 h g j
theorem QG{w0:jT}{w:World}{H:List Mem}:∀{vs c:List V}{xs:List Value}{E:Env}{L L':Mem},dR w0 E L H w->dY vs E xs->zJ L vs=some (c,L')->
  ∃l,E.Le l∧dR w0 l L' H w∧dY c l xs
 |[],c,xs,E,L,L',h,j,g=>by
  simp only[zJ,aA,aN]at g;obtain⟨rfl,rfl⟩:=g;exact⟨E,.refl _,h,j⟩
 |v::vs,c,xs,E,L,L',h,j,g=>by
  simp only[zJ,aj,ae,aN]at g;obtain⟨⟨v1,T⟩,J,⟨Q,R⟩,I,rfl,rfl⟩:=g;simp only[dY]at j;obtain⟨x,K,rfl,hx,N⟩:=j;obtain⟨U,u,B,F⟩:=QF h hx J;obtain⟨O,r,A,C⟩:=QG B (dY.mono u _ _ N) I;exact⟨O,u.trans r,A,⟨x,K,rfl,VR.mono r _ _ F,C⟩⟩
theorem JM{E:Env}{w0:jT}{w:World}{L L':Mem}{H:List Mem}{v v':V}{x:Value}(h:dR w0 E L H w)(l:VR v E x)(j:sG L v=some (v',L')):
  ∃g,E.Le g∧dR w0 g L' H w∧VR v' g x:=by
 unfold sG at j;split at j
 ·obtain⟨⟨vs,F⟩,u,r⟩:=ae.1 j
  cases r;simp only[VR]at l;obtain⟨c,rfl,hc⟩:=l;obtain⟨g,C,B,A⟩:=QG h hc u;exact⟨g,C,B,c,rfl,A⟩
 ·exact QF h l j
theorem M0{w0:jT}{w:World}{H:List Mem}:∀{vs c:List V}{xs:List Value}{E:Env}{L L':Mem},dR w0 E L H w->dY vs E xs->qd L vs=some (c,L')->
  ∃l,E.Le l∧dR w0 l L' H w∧dY c l xs
 |[],c,xs,E,L,L',h,j,g=>by
  simp only[qd,aA,aN]at g;obtain⟨rfl,rfl⟩:=g;exact⟨E,.refl _,h,j⟩
 |v::vs,c,xs,E,L,L',h,j,g=>by
  simp only[qd,aj,ae,aN]at g;obtain⟨⟨v1,T⟩,J,⟨Q,R⟩,I,rfl,rfl⟩:=g;simp only[dY]at j;obtain⟨x,K,rfl,hx,N⟩:=j;obtain⟨U,u,B,F⟩:=JM h hx J;obtain⟨O,r,A,C⟩:=M0 B (dY.mono u _ _ N) I;exact⟨O,u.trans r,A,⟨x,K,rfl,VR.mono r _ _ F,C⟩⟩
theorem Xk{E:Env}{w0:jT}{w:World}{L L':Mem}{H:List Mem}{v v':V}{x:Value}(h:dR w0 E L H w)(u:VR v E x)(g:MI L v=some (v',L')):
  ∃I,E.Le I∧dR w0 I L' H w∧VR v' I x:=by
 unfold MI at g;split at g
 ·rename_i s ver i off
  dsimp only at g;split at g
  ·rename_i hc
   obtain⟨N,T,hp⟩:=hc;simp only[VR]at u;obtain⟨o,ho,J,rfl⟩:=u;rw[<-N]at ho;split at g
   ·rename_i O
    obtain⟨e,l,g⟩:=ae.1 g;cases g;obtain⟨_,c,r,F⟩:=h.mem.LJ 0 s o (by simpa using ho) (by simpa using O);refine⟨E,.refl _,h,?_⟩;obtain⟨C,B⟩:=F.at (by simpa using l);simp only[VR];exact⟨o.blk,i*o.sz,c,r,rfl,by rw[C];exact B⟩
   ·split at g
    ·rename_i A
     obtain⟨e,l,g⟩:=ae.1 g;cases g;obtain⟨c,t,R,K,Q,j⟩:=h.mem.cur 0 s o (by simpa using ho) J;simp only[df,Env.pQ]at j;obtain⟨r,F⟩:=h.freeze ho J A R (ja hp) (dF.pure (ja hp) j);refine⟨_,r,F,?_⟩;obtain⟨C,B⟩:=(dF.pure (ja hp) j).at l;simp only[VR];exact⟨o.blk,i*o.sz,c,by simp[Env.kg],rfl,by rw[C];exact dY.mono r.bare _ _ B⟩
    ·cases g
  ·cases g
 ·cases g
  exact⟨E,.refl _,h,u⟩
theorem QH{w0:jT}{w:World}{H:List Mem}:∀{vs c:List V}{xs:List Value}{E:Env}{L L':Mem},dR w0 E L H w->dY vs E xs->N8 L vs=some (c,L')->
  ∃l,E.Le l∧dR w0 l L' H w∧dY c l xs
 |[],c,xs,E,L,L',h,j,g=>by
  simp only[N8,aA,aN]at g;obtain⟨rfl,rfl⟩:=g;exact⟨E,.refl _,h,j⟩
 |v::vs,c,xs,E,L,L',h,j,g=>by
  simp only[N8,aj,ae,aN]at g;obtain⟨⟨v1,T⟩,J,⟨Q,R⟩,I,rfl,rfl⟩:=g;simp only[dY]at j;obtain⟨x,K,rfl,hx,N⟩:=j;obtain⟨U,u,B,F⟩:=Xk h hx J;obtain⟨O,r,A,C⟩:=QH B (dY.mono u _ _ N) I;exact⟨O,u.trans r,A,⟨x,K,rfl,VR.mono r _ _ F,C⟩⟩
theorem YS{E:Env}{w0:jT}{w:World}{L L':Mem}{H:List Mem}{v v':V}{x:Value}(h:dR w0 E L H w)(l:VR v E x)(j:wJ L v=some (v',L')):
  ∃g,E.Le g∧dR w0 g L' H w∧VR v' g x:=by
 unfold wJ at j;split at j
 ·obtain⟨⟨vs,F⟩,u,r⟩:=ae.1 j
  cases r;simp only[VR]at l;obtain⟨c,rfl,hc⟩:=l;obtain⟨g,C,B,A⟩:=QH h hc u;exact⟨g,C,B,c,rfl,A⟩
 ·exact JM h l j
theorem M8{w0:jT}{w:World}{H:List Mem}:∀{vs c:List V}{xs:List Value}{E:Env}{L L':Mem},dR w0 E L H w->dY vs E xs->rF L vs=some (c,L')->
  ∃l,E.Le l∧dR w0 l L' H w∧dY c l xs
 |[],c,xs,E,L,L',h,j,g=>by
  simp only[rF,aA,aN]at g;obtain⟨rfl,rfl⟩:=g;exact⟨E,.refl _,h,j⟩
 |v::vs,c,xs,E,L,L',h,j,g=>by
  simp only[rF,aj,ae,aN]at g;obtain⟨⟨v1,T⟩,J,⟨Q,R⟩,I,rfl,rfl⟩:=g;simp only[dY]at j;obtain⟨x,K,rfl,hx,N⟩:=j;obtain⟨U,u,B,F⟩:=YS h hx J;obtain⟨O,r,A,C⟩:=M8 B (dY.mono u _ _ N) I;exact⟨O,u.trans r,A,⟨x,K,rfl,VR.mono r _ _ F,C⟩⟩
def PV(E:Env)(a:Act)(place:Nat->Option (Nat×Nat)):List (Nat×Operand)->List (Nat×Nat×V)->Prop
 |[],q=>q=[]
 |(i,x)::parts,q=>∃off n v q',q=(off,n,v)::q'∧place i=some (off,n)∧VR v E (a.eval x)∧PV E a place parts q'
theorem PV.mono{E F:Env}{a:Act}{g:Nat->Option (Nat×Nat)}(j:E.Le F):∀{c:List (Nat×Operand)}{q:List (Nat×Nat×V)},PV E a g c q->PV F a g c q
 |[],q,h=>h
 |(i,x)::c,q,⟨off,n,v,l,B,A,u,r⟩=>⟨off,n,v,l,B,A,VR.mono j _ _ u,r.mono j⟩
theorem QI{sh:Bool}{w0:jT}{w:World}{H:List Mem}{fr:List V}{a:Act}{g:Nat->Option (Nat×Nat)}:∀{c:List (Nat×Operand)}{q:List (Nat×Nat×Arg)}{u:List (Nat×Nat×V)}{E:Env}{L L':Mem},
  dR w0 E L H w->oD g c=some q->Bz E fr a (fO (q.map (·.2.2)))->qg sh L fr q=some (u,L')->∃j,E.Le j∧dR w0 j L' H w∧PV j a g c u
 |[],q,u,E,L,L',h,l,hs,r=>by
  simp only[oD,aA]at l;subst l;simp only[qg,aA,aN]at r;obtain⟨rfl,rfl⟩:=r;exact⟨E,.refl _,h,rfl⟩
 |(i,x)::c,q,u,E,L,L',h,l,hs,r=>by
  simp only[oD,aj,ae]at l;obtain⟨⟨off,n⟩,hp,y,T,A,X,rfl⟩:=l;simp only[qg,aj,ae,aN]at r;obtain⟨⟨v1,W⟩,F,⟨R,Z⟩,U,rfl,rfl⟩:=r;have K:VR (ev fr y) E (a.eval x):=hs.arg (by simp) T;have C:Bz E fr a (fO (A.map (·.2.2))):=fun t B=>hs t (by
   simp only[bO];rw[show y::List.map (fun x=>x.2.2) A=[y]++List.map (fun x=>x.2.2) A by rfl,lF];simp[B])
  obtain⟨E1,J,Q,w1⟩:∃j,E.Le j∧dR w0 j W H w∧VR v1 j (a.eval x):=by
   split at F
   ·exact(MZ h K F).1
   ·exact JM h K F
  obtain⟨Y,I,O,N⟩:=QI Q X (fun t B=>VR.mono J _ _ (C t B)) U;exact⟨Y,J.trans I,O,off,n,v1,R,rfl,hp,VR.mono I _ _ w1,N⟩
theorem M9{E:Env}{a:Act}(l:Nat->Option (Nat×Nat)):∀(g:List (Nat×Operand))(q:List (Nat×Nat×V))(cs:List V)(c:Array Value)(r:List V),
  PV E a l g q->dY cs E c.toList->lZ cs q=some r->
  ∃d:Array Value,Instr.fill l c (g.map fun p=>(p.1,a.eval p.2))=some d∧dY r E d.toList
 |[],q,cs,c,r,A,hc,hr=>by
  simp only[PV]at A;subst A;simp only[lZ,aA]at hr;subst hr;exact⟨c,rfl,hc⟩
 |(i,x)::g,q,cs,c,r,A,hc,hr=>by
  simp only[PV]at A;obtain⟨off,n,y,K,rfl,hp,Q,O⟩:=A;simp only[lZ]at hr;split at hr
  ·rename_i J
   obtain⟨hn,N,R⟩:=J;have u:=VR.cells R Q;have B:=u.length;have I:=hc.length;simp only[bQ]at B I;have C:=hc.qc off u;obtain⟨d,hd,F⟩:=M9 l g K _ ((a.eval x).cells.zipIdx.foldl (fun cs(c,j)=>cs.setIfInBounds (off+j) c) c) r O
    (by
     rw[<-Array.foldl_toList,Array.toList_zipIdx];rw[zN off _ 0 c (by simp;omega)];simpa using C) hr
   refine⟨d,?_,F⟩;simp only[bO,Instr.fill,hp];rw[aP (by simp;omega)];exact hd
  ·cases hr
theorem EY:∀{q:List (Nat×Nat×V)}{cs r:List V},lZ cs q=some r->r.length=cs.length
 |[],cs,r,h=>by simp only[lZ,aA]at h;rw[h]
 |(off,n,x)::q,cs,r,h=>by
  simp only[lZ]at h;split at h
  ·rename_i hc
   rw[EY h];simp[qc];omega
  ·cases h
theorem QJ{P:Program}{E:Env}{w:World}{t e:TypeId}{len n:Nat}{c:Array (Nat×Operand)}{z:List V}{q:List (Nat×Nat×V)}{r:List V}{a:Act}(A:P.underlying t=some (.slice e))(hn:jL P e=some n)(u:nG P e=some z)
  (I:z.length=n)(K:0<n)(N:len*n<=16777216)(B:PV E a (fun i=>some (i*n,n)) c.toList q)(hr:lZ ((List.replicate len z).flatten) q=some r):
  ∃d:Array Value,(Instr.buildSlice t len (c.map fun(i,x)=>(i,a.eval x))).run P w= .ok (.slice (some ⟨w.heap.size,0,none⟩) len len) (w.alloc (.cells d e))∧dY r E d.toList∧r.length=len*n:=by
 obtain⟨x,hx,C⟩:=vF (P:=P) (w:=w) u;have j:=EY hr;rw[sP,yO,uk]at j;have l:=yY (C E) (by omega) len;rw[I]at l j;obtain⟨d,hd,F⟩:=M9 (E:=E) (a:=a) (fun i=>some (i*n,n)) c.toList q _ ((Array.range (len*n)).map (fun i=>x.cells[i%x.cells.size]!)) r B l hr;refine⟨d,?_,F,j⟩;have hp:(c.map fun(i,x)=>(i,a.eval x)).toList=c.toList.map fun p=>(p.1,a.eval p.2):=by simp
 have hm:¬len*n>2^24:=by
  have:(2:Nat)^24=16777216:=rfl;omega
 simp only[Instr.buildSlice,bJ,run_underlying A,aQ,jP hn,aP hm,dz];by_cases hl:len*n=0
 ·have J:len=0:=by
   rcases Nat.mul_eq_zero.1 hl with h|h
   ·exact h
   ·omega
  subst J;have g:∀f:Nat->Value,(Array.range 0).map f= #[]:=fun f=>jQ (by simp);simp only[Bi,g]at hd;simp only[Bi,bK,dz,aQ,g,hp,hd];simp[newRow]
 ·simp only[aP hl,bJ,hx,aQ,dz,hp,hd]
  simp[newRow]
theorem IK{E c:Env}(g:∀s v o,c.own 0 s v=some o->E.own 0 s v=some o){s:Ix}{v:Nat}(h:E.own 0 s v=none):c.own 0 s v=none:=by
 cases ho:c.own 0 s v with
 |none=>rfl
 |some o=>rw[g _ _ _ ho]at h;cases h
theorem dR.U5{E c:Env}{w0:jT}{w w':World}{L:Mem}{H:List Mem}(h:dR w0 E L H w)(hm:eD c (L::H) w')(u:Below w.heap.size w w')(g:∀s v o,c.own 0 s v=some o->E.own 0 s v=some o)
  (A:∀d s v o,c.own (d+1) s v=some o->E.own (d+1) s v=some o)(r:∀b cs,c.iY b=some cs->E.iY b=some cs∨w.heap.size<=b):dR w0 c L H w':=by
 refine⟨h.below.then u h.below.size,hm,fun s v o ho=>h.bnd s v o (g s v o ho),fun n o hn l ho=>h.wr n o hn l (g _ _ _ ho),fun d s v o ho=>h.out d s v o (A d s v o ho),fun b cs j=> ?_,h.Ez,fun n=>IK g (h.BC n),fun n v hr=>⟨(h.res n v hr).1,IK g (h.res n v hr).2⟩⟩;rcases r b cs j with h3|h3
 ·exact h.new b cs h3
 ·exact .inr (.inl (eO h.below.size h3))
theorem Tp{sh:Bool}{P:Program}{E:Env}{w0:jT}{w:World}{o:Oper}{a:Act}{t e:TypeId}{len n:Nat}{c:Array (Nat×Operand)}{z:List V}{q:List (Nat×Nat×Arg)}{fr:List V}{L L':Mem}{H:List Mem}{v:V}{cf:fU}
  (ho:o.op= .buildSlice t len c)(F:P.underlying t=some (.slice e))(hn:jL P e=some n)(C:nG P e=some z)(Y:z.length=n)(N:0<n)(W:len*n<=16777216)
  (I:oD (fun i=>some (i*n,n)) c.toList=some q)(hs:Bz E fr a (fO (q.map (·.2.2))))(h:dR w0 E L H w)(j:cZ cf H fr L (.litf sh n z len q)=some (v,L')):xu P w0 E L' H w o a v:=by
 simp only[cZ,aj]at j;obtain⟨⟨q1,L1⟩,K,cs,J,j⟩:=j
 ·obtain⟨hc,j⟩:=ft j
  cases j;obtain⟨E1,U,B,r⟩:=QI h I hs K;obtain⟨d,hd,X,hl⟩:=QJ (P:=P) (w:=w) F hn C Y N W r J;obtain⟨x,w',Z,g1,T,R,Q,O,u⟩:=MQ (kd:=if len=0 then .full else .any) (P:=P) (o:=o) (a:=a) (s:=0) (ver:=0) B.mem (kR (by simp only[execOp,ho]) hd) X hl (by
   have:=hc.2.2;cases sh with
   |true=>exact this
   |false=>exact DL this) (by split<;>simp)
  refine⟨.value x,w',Z,x,g1,.inl rfl,U.trans T,B.U5 R Q (fun s' v' l A=> ?_) (fun d s' v' l A=> ?_) u.iY,O⟩
  ·rcases u.own 0 s' v' l A with g|⟨_,_,_,g,_⟩
   ·exact g
   ·exact absurd rfl g
  ·rcases u.own (d+1) s' v' l A with g|⟨g,_⟩
   ·exact g
   ·cases g
theorem dR.U6{E:Env}{w0:jT}{w w1:World}{L:Mem}{H:List Mem}(h:dR w0 E L H w){S:Ix}{row:Row}{q:Own}(C:Below w.heap.size w w1)(I:w0.w.heap.size<=q.blk)(A:q.blk<w1.heap.size)
  (u:∀d s v o,E.own d s v=some o->o.blk≠q.blk)(J:E.iY q.blk=none)
  (r:(ax L S).ver<row.ver)(O:row.fz=false)
  (hr:q.mp=false->∃c t,w1.heap[q.blk]? =some (.cells c t (0,0))∧c.size=q.cs∧q.sz=row.sz∧dF row.els E q.sz c.toList)
  (Q:q.mp=true->∃es F,w1.heap[q.blk]? =some (.map es F)∧rG row.els E es.toList)
  (K:∀n,S= .g n->row.els.all (fun e=>e.all V.qW)=true):
  E.Le (E.fG S row.ver q)∧dR w0 (E.fG S row.ver q) (bu L S row) H w1:=by
 have hf:=h.fresh S r;have N:eD E (bu L S row::H) w:=by
  refine h.mem.change fun d s R l=> ?_;cases d with
  |succ d=>rfl
  |zero=>
   simp only[df,ay]at l⊢;split at l
   ·rename_i j;subst j;rw[hf]at l;cases l
   ·rename_i j;rw[aP j]
 have B:=(N.below C).SV (s:=S) (ver:=row.ver) (q:=q) hf J A u
  (fun _ hp=>by simp only[df,ay,bK];exact hr hp)
  (fun _ hp=>by simp only[df,ay,bK];exact Q hp)
  (fun _=>by simp only[df,ay,bK];exact O)
 refine⟨Env.uC hf,h.keep (h.below.then C h.below.size) B (fun s' v o ho=> ?_) (xN r) (fun o _ ho=>by rw[hf]at ho;cases ho) (fun d s v o ho=>by simpa[Env.fG]using ho) (fun _ _ x=> .inl x) K⟩;simp only[Env.fG]at ho;split at ho
 ·rename_i j;cases ho
  obtain⟨_,rfl,rfl⟩:=j;exact .inr ⟨rfl,r,aJ _,.inl I⟩
 ·exact .inl ho
theorem dR.Tq{E:Env}{w0:jT}{w w1:World}{L:Mem}{H:List Mem}(h:dR w0 E L H w){S:Ix}{row:Row}{q:Own}(B:Below w.heap.size w w1)(l:w.heap.size<=q.blk)(j:q.blk<w1.heap.size)
  (u:(ax L S).ver<row.ver)(C:row.fz=false)
  (hr:q.mp=false->∃c t,w1.heap[q.blk]? =some (.cells c t (0,0))∧c.size=q.cs∧q.sz=row.sz∧dF row.els E q.sz c.toList)
  (F:q.mp=true->∃es r,w1.heap[q.blk]? =some (.map es r)∧rG row.els E es.toList)
  (A:∀n,S= .g n->row.els.all (fun e=>e.all V.qW)=true):
  E.Le (E.fG S row.ver q)∧dR w0 (E.fG S row.ver q) (bu L S row) H w1:=
 h.U6 B (eO h.below.size l) j (fun d s v o ho e=>by
  have:=h.mem.blk d s v o ho;omega) (h.mem.Cw l) u C hr F A
theorem DX{P:Program}{E:Env}{w0:jT}{w:World}{o:Oper}{a:Act}{L:Mem}{H:List Mem}{S:Ix}{ver sz r cap:Nat}{els:List (List V)}{l:List Value}{zs:Array Value}{e:TypeId}
  (h:dR w0 E L H w)(c:(execOp a.eval o).run P w= .ok (.value (.slice (some ⟨w.heap.size,0,none⟩) r cap)) (w.drew.alloc (.cells (l.toArray++zs) e)))
  (C:(ax L S).ver<ver)(hl:dY els.flatten E l)(j:∀x∈els,x.length=sz)(hn:els.length=r)(hc:r<=cap)(I:zs.size=(cap-r)*sz)(u:∀n,S= .g n->els.all (fun e=>e.all V.qW)=true):
  xu P w0 E (bu L S ⟨ver,sz,els,false⟩) H w o a (.ref 0 S ver sz 0 r):=by
 have A:=hl.length;have Q:els.flatten.length=r*sz:=by
  rw[sP,<-hn];clear hl A c hn u;induction els with
  |nil=>simp
  |cons x els F=>
   rw[bO,sQ,F (fun y J=>j y (by simp[J])),j x (by simp),aS,jF,nO]
 have O:dF els E sz (l.toArray++zs).toList:=by
  refine dF.of_flat j ?_;rw[hn,Array.toList_append,gm (by simp;omega),aO (by simp;omega)];simpa using hl
 have B:Below w.heap.size w (w.drew.alloc (.cells (l.toArray++zs) e)):=((jh _ w).drew).alloc (aJ _) _;obtain⟨N,K⟩:=h.Tq (S:=S) (row:=⟨ver,sz,els,false⟩) (q:=⟨w.heap.size,sz,(l.toArray++zs).size,false⟩) B (aJ _) (rY (rO _ _)) C rfl
  (fun _=>⟨_,e,rO _ _,rfl,rfl,O⟩) (fun hp=>by cases hp) u
 refine⟨_,_,_,_,c,.inl rfl,N,K,?_⟩;simp only[VR];refine⟨⟨w.heap.size,sz,(l.toArray++zs).size,false⟩,_,cap,by simp[Env.fG],rfl,rfl,rfl,hc,.inr ⟨by simp,?_⟩⟩;simp only[dV,Array.size_append,fT,I];rw[A,Q,<-uZ];exact ny _ (by omega)
theorem yz{c old:Nat}{e:TypeId}{w:World}(h:c<2^63):c<=grownCap w c old e:=by
 unfold grownCap Question.cut;simp only;omega
theorem Tt{P:Program}{e:TypeId}{i:TypeInfo}{z:List V}(j:P.info? e=some i)(g:nG P e=some z)(l:z.length=i.size):∃zv:Value,i.zero=some zv∧zv.cells.size=i.size:=by
 unfold nG at g;simp only[j,bG,aj]at g;obtain⟨zv,c,hc⟩:=g;refine⟨zv,c,?_⟩;have:=(xS ⟨fun _ _ _=>none,fun _=>none⟩ hc).length;simp only[bQ]at this;omega
theorem JN{P:Program}(w:World)(t r ty e:TypeId)(i:TypeInfo)(B:P.underlying t=some (.slice e))(C:P.info? e=some i){g j l:Nat}{x:Value}{n:Nat}{c:List Value}(hs:Src P i.size r x n c w)
  {cur:Array Value}{u:TypeId}(F:w.heap[g]? =some (.cells cur u (0,0)))(I:j+n<=l)(J:j*i.size+c.length<=cur.size):
  (Builtin.append_ #[t,r] ty #[.slice (some ⟨g,0,none⟩) j l,x]).run P w=
   .ok (.slice (some ⟨g,0,none⟩) (j+n) l) (w.setRow g (cur.toList.take (j*i.size)++c++cur.toList.drop (j*i.size+c.length)).toArray):=by
 have A:=run_storeCells_at P g (j*i.size) u c 0 cur w F (by simpa using J) hs.one;simp only[nR]at A;rcases hs.kind with⟨K,hk⟩|hk<;>simp[Builtin.append_,run_underlying B,run_underlying hk,sizeOf,typeInfo,C,hs.len,I,hs.cells,Addr.add_lit,A]
theorem y7{S:Ix}{sz:Nat}{l:List (List V)}(h:l.all (fun e=>decide (e.length=sz∧uP S e=true))=true):
  l.all (fun e=>decide (e.length=sz∧e.all V.scalar=true))=true∧∀n,S= .g n->l.all (fun e=>e.all V.qW)=true:=by
 rw[aV]at h;refine⟨aV.2 fun e c=> ?_,fun n hS=>aV.2 fun e c=> ?_⟩
 ·have:=h e c
  simp only[bN]at this⊢;exact⟨this.1,xX this.2⟩
 ·have:=h e c
  simp only[bN]at this;rw[hS]at this;exact xt this.2
theorem Xl{P:Program}{E:Env}{w0:jT}{w:World}{o:Oper}{a:Act}{t u e e':TypeId}{i:TypeInfo}{z:List V}{x y:V}{vx vy:Value}{L L':Mem}{H:List Mem}{site:Nat}{v:V}
  (QM:∀{r:Value}{w':World},(Builtin.append_ #[t,u] o.type #[vx,vy]).run P w= .ok r w'->(execOp a.eval o).run P w= .ok (.value r) w')
  (ht:P.underlying t=some (.slice e))(hu:P.underlying u=some (.slice e'))(hi:P.info? e=some i)(hz:nG P e=some z)(II:z.length=i.size)(h0:0<i.size)
  (h:dR w0 E L H w)(hx:VR x E vx)(hy:VR y E vy)(J:DJ (L::H) site i.size i.bytes x y=some (v,L')):xu P w0 E L' H w o a v:=by
 obtain⟨zv,hzv,arx⟩:=Tt hi hz II;simp only[DJ,EE,aj]at J;obtain⟨new,wL,J⟩:=J;have hzs:∀k:Nat,(Builtin.zeroCells zv.cells k).size=k*i.size:=fun k=>by rw[size_zeroCells,arx]
 have O:∀{yT:Nat},ug i.bytes yT=true->yT<=4294967296∧yT*i.bytes<=140737488355328:=by
  intro yT hr;simp only[ug,aH,bN]at hr;refine⟨hr.1,?_⟩;have:=H9 hr.1 hr.2;omega
 have nothing:new=[]->∀{base:Option Addr}{Io QK:Nat},Io<=QK->vx= .slice base Io QK->(execOp a.eval o).run P w= .ok (.value vx) w:=by
  intro hn base Io QK T I;subst hn;obtain⟨l,Z,F6,_⟩:=Ov (P:=P) (sz:=i.size) hu h.mem hy wL (.inl rfl);simp only[List.flatten_nil,dY]at F6;subst F6;subst I;exact QM (run_append_nothing w t u o.type e i ht hi base Io QK T vy Z)
 split at J
 ·
  simp only[VR]at hx;split at J
  ·rename_i Tu
   cases J;have hn:new=[]:=by simpa using Tu
   exact⟨_,w,E,_,nothing hn (aJ _) hx,.inl rfl,.refl _,h,hx⟩
  ·rename_i Tu
   split at J
   ·rename_i hc
    cases J;obtain⟨ary,YT⟩:=y7 hc.2;obtain⟨l,Z,F6,wF⟩:=Ov (P:=P) (sz:=i.size) hu h.mem hy wL (.inr ary);have hr:=O hc.1;have C7:0<new.length:=dB.2 (by simpa using Tu);have W:=run_append_grow_src w t u o.type e i zv ht hi hzv none 0 0 [] (by simpa using run_firstCells_none w.drew i.size 0 0 0) vy new.length l Z (by omega) (by omega)
     (growslice_fits (by omega) (by simpa using hr.2))
    rw[<-hx]at W;simp only[dV,dm]at W;exact DX (S:=fq L site) (ver:=(ax L (fq L site)).ver+1) (zs:=Builtin.zeroCells zv.cells _) h (QM W) (p9 _) F6 wF rfl (yz (by omega)) (hzs _) YT
   ·cases J
 ·
  rename_i szs els;simp only[VR]at hx;obtain⟨_,U,cap,I,T,hf,A⟩:=hx;have Jw:cap=els.length:=hf trivial;subst Jw;split at J
  ·rename_i Tu
   cases J;have hn:new=[]:=by simpa using Tu
   refine⟨_,w,E,_,nothing hn (aJ _) I,.inl rfl,.refl _,h,?_⟩;simp only[VR];exact⟨by simp,U,_,I,T,fun _=>rfl,A⟩
  ·rename_i Tu
   split at J
   ·rename_i hc
    cases J;have X:=hc.2;obtain⟨X,YT⟩:=y7 X;rw[rz,aH]at X;obtain⟨l,Z,F6,wF⟩:=Ov (P:=P) (sz:=i.size) hu h.mem hy wL (.inr X.2);have hr:=O hc.1;have C7:0<new.length:=dB.2 (by simpa using Tu);have YU:∀q∈els,q.length=i.size:=by
     intro q hq;have:=aV.1 X.1 q hq;simp only[bN]at this;exact this.1
    have N:∃B:List Value,(Builtin.firstCells i.size els.length (.slice (some U) els.length els.length)).run P w.drew= .ok B.toArray w.drew∧dY els.flatten E B:=by
     by_cases hn:els=[]
     ·subst hn
      exact⟨[],run_firstCells_some w.drew i.size 0 U 0 0 [] (by simp) (by simp),rfl⟩
     ·rcases A with rfl|⟨cs,hsp,Xh,A⟩
      ·exact absurd rfl hn
      ·obtain⟨b,off,sp⟩:=U
       simp only at hsp Xh A;subst hsp;obtain⟨t',fr',hbl⟩:=h.mem.iY b cs Xh;have YQ:szs=i.size:=by
        obtain⟨q,hq⟩:=H8 _ hn;rw[<-A.qj q hq,YU q hq]
       subst YQ;have arz:=dY.mono E.xP _ _ A.flat;have hbd:=A.bound;simp only[eY,bQ]at hbd;refine⟨_,run_firstCells_some w.drew i.size els.length _ _ _ _ (by simp;omega) ?_,arz⟩;intro j q hj;rw[rZ,World.cell?_drew,CU hbl];have YK:=(au.1 hj).1;simp only[bf,eY]at YK;rw[fQ (by omega),iU]at hj;exact hj
    obtain⟨B,R,agQ⟩:=N;have W:=run_append_grow_src w t u o.type e i zv ht hi hzv (some U) els.length els.length B R vy new.length l Z (by omega) (by omega) (growslice_fits (by omega) hr.2);rw[<-I]at W;have F7:=DX (S:=fq L site) (ver:=(ax L (fq L site)).ver+1) (sz:=i.size) (els:=els++new) (zs:=Builtin.zeroCells zv.cells (grownCap w (els.length+new.length) els.length e-(els.length+new.length))) h (QM W) (p9 _)
     (by rw[lS];exact agQ.append F6)
     (fun q hq=>by rcases dx.1 hq with hq|hq;exact YU q hq;exact wF q hq) (by simp) (yz (by omega)) (hzs _) YT
    exact F7
   ·cases J
 ·
  rename_i s ver szr len;split at J
  ·rename_i hc
   obtain⟨kH,hv0,alp,arA,aru,agR,X,hok⟩:=hc;have K:len=((ax L s).els.take len).length:=by rw[bf,eH alp]
   have Cx:=Mem.JH hok;obtain⟨X,YT⟩:=y7 X;have afy:∀n,s= .g n->((ax L s).els.take len++new).all (fun e=>e.all V.qW)=true:=by
    intro n e;have h1:=YT n e;subst e;have h2:=h.Ez n;rw[BD]at h2;rw[rz,h1,EX h2];rfl
   cases J;simp only[VR]at hx;obtain⟨ow,U,cap,F,pF,I,yx,T,A⟩:=hx;rw[<-kH]at F;obtain⟨c,t',hb,hcsz,hsz,C⟩:=h.mem.cur 0 s ow F pF;simp only[df,Env.pQ]at C hsz;have C:=C.take len;obtain⟨l,Z,F6,wF⟩:=Ov (P:=P) (sz:=i.size) hu h.mem hy wL (.inr X);have hr:=O agR;have Tw:ow.sz=i.size:=by omega
   have hbd:=C.bound;simp only[bQ]at hbd;have BF:E.own 0 s ((ax L s).ver+1)=none:=h.fresh s (p9 _);have Yq:=Z.newsLen;by_cases QL:len+new.length<=cap
   ·
    have alq:∃w',(execOp a.eval o).run P w= .ok (.value (.slice (some U) (len+new.length) cap)) w'∧kr w0.G w0.w.heap.size w0.w w'∧eD E (bu L s {ax L s with els:=(ax L s).els.take len++new}::H) w':=by
     by_cases hn:new=[]
     ·subst hn
      refine⟨w,by rw[nothing rfl T I,I];rfl,h.below,?_⟩;have:=h.mem.write (row:={ax L s with els:=(ax L s).els.take len++[]}) (c':=c) F pF Cx Cx hb rfl rfl hsz (by rw[bz];exact C);rwa[setRow_self w ow.blk c t' (0,0) hb]at this
     ·have C7:0<new.length:=dB.2 hn
      rcases A with rfl|⟨rfl,A⟩
      ·omega
      ·simp only[dV]at A
       have hmul:(len+new.length)*i.size<=cap*i.size:=ny _ QL;rw[uZ]at hmul;have DW:len*i.size+l.length<=c.size:=by rw[Yq,hcsz];rw[Tw]at A;omega
       have Q:=JN w t u o.type e i ht hi Z hb QL DW;have hlr:((ax L s).els.take len++new).length*ow.sz=len*i.size+l.length:=by
        rw[aF,<-K,uZ,Tw,Yq]
       refine⟨_,QM (by rw[I];simpa using Q),zQ h.below (h.may hok F) _,?_⟩;refine h.mem.write (row:={ax L s with els:=(ax L s).els.take len++new}) F pF Cx Cx hb ?_ rfl hsz ?_
       ·simp only[fT,aF,bf,eY,bQ]
        omega
       ·refine dF.of_flat ?_ ?_
        ·intro q hq
         rcases dx.1 hq with hq|hq
         ·exact C.qj q hq
         ·rw[wF q hq,Tw]
        ·rw[hlr,lS]
         have h1:=C.flat;rw[<-K,Tw]at h1;have hA:(c.toList.take (len*i.size)).length=len*i.size:=by
          rw[bf,bQ];exact eH (by omega)
         have hAB:(c.toList.take (len*i.size)++l).length=len*i.size+l.length:=by rw[aF,hA]
         show dY _ E (List.take _ (c.toList.take (len*i.size)++(l++c.toList.drop (len*i.size+l.length))));rw[<-aC,gm (Nat.le_of_eq hAB.symm),aO (Nat.le_of_eq hAB)];exact h1.append F6
    obtain⟨w',Q,wN,uD⟩:=alq;have xL:ax (bu L s {ax L s with els:=(ax L s).els.take len++new}) s={ax L s with els:=(ax L s).els.take len++new}:=by simp[ay]
    have U7:=uD.ars (s:=s) (o:=ow) (by rw[xL];exact F) (by rw[xL];exact Cx) (by rw[xL];exact BF);rw[xL]at U7;have JO:bu (bu L s {ax L s with els:=(ax L s).els.take len++new}) s {({ax L s with els:=(ax L s).els.take len++new}:Row)with ver:=(ax L s).ver+1}=bu L s ⟨ver+1,i.size,(ax L s).els.take len++new,false⟩:=by
     rw[show({({ax L s with els:=(ax L s).els.take len++new}:Row)with ver:=(ax L s).ver+1}:Row)=⟨ver+1,i.size,(ax L s).els.take len++new,false⟩ by rw[kH,<-arA,<-Cx]];exact F8 _ _ _ _
    simp only at U7 JO;rw[JO]at U7;refine⟨_,w',_,_,Q,.inl rfl,Env.uC BF,h.keep wN U7 (fun s' v o' Y=> ?_) (by simp only;omega) (fun o' _ Y=>by simp only[<-kH,BF]at Y;cases Y) (fun d s' v o' Y=>by simpa[Env.fG]using Y) (fun _ _ x=> .inl x) afy,?_⟩
    ·simp only[Env.fG]at Y
     split at Y
     ·rename_i e1;cases Y
      obtain⟨_,rfl,rfl⟩:=e1;refine .inr ⟨rfl,by omega,by simp only;omega,?_⟩;rcases h.may hok F with h1|h1
      ·exact .inl h1
      ·cases s' with
       |o n=>exact .inl ((h.bnd _ _ _ F).2 n rfl)
       |g n=>exact .inr ⟨h1,n,rfl⟩
     ·exact .inl Y
    ·simp only[VR]
     refine⟨ow,U,cap,by simp[Env.fG,kH],pF,rfl,by omega,QL,?_⟩;rcases A with h1|⟨h1,h2⟩
     ·exact .inl h1
     ·exact .inr ⟨h1,h2⟩
   ·
    have N:∃B:List Value,(Builtin.firstCells i.size len (.slice (some U) len cap)).run P w.drew= .ok B.toArray w.drew∧dY ((ax L s).els.take len).flatten E B:=by
     rcases A with rfl|⟨rfl,A⟩
     ·have GQ:len=0:=by omega
      subst GQ;have:(ax L s).els.take 0=[]:=rfl;rw[this];exact⟨[],run_firstCells_some w.drew i.size 0 U 0 0 [] (by simp) (by simp),rfl⟩
     ·have h1:=C.flat
      rw[<-K,Tw]at h1;rw[<-K,Tw]at hbd;refine⟨_,run_firstCells_some w.drew i.size len _ _ _ _ (by simp;omega) ?_,h1⟩;intro j q hj;rw[rZ,World.cell?_drew,CU hb];have YK:=(au.1 hj).1;simp only[bf]at YK;rw[fQ (by omega)]at hj;simpa using hj
    obtain⟨B,R,agQ⟩:=N;have W:=run_append_grow_src w t u o.type e i zv ht hi hzv (some U) len cap B R vy new.length l Z (by omega) (by omega) (growslice_fits (by omega) hr.2);rw[<-I]at W;have F7:=DX (S:=s) (ver:=ver+1) (sz:=i.size) (els:=(ax L s).els.take len++new) (zs:=Builtin.zeroCells zv.cells (grownCap w (len+new.length) cap e-(len+new.length))) h (QM W) (by omega)
     (by rw[lS];exact agQ.append F6)
     (fun q hq=>by rcases dx.1 hq with hq|hq;rw[C.qj q hq,Tw];exact wF q hq) (by rw[aF,<-K]) (yz (by omega)) (hzs _) afy
    exact F7
  ·cases J
 ·cases J
section
variable{P:Program}{E:Env}{w0:jT}{w:World}{o:Oper}{a:Act}{L:Mem}{H:List Mem}
theorem Cz(h:dR w0 E L H w){S:Ix}{row:Row}{c:Array Value}{t:TypeId}{v:V}{x:Value}(j:(execOp a.eval o).run P w= .ok (.value x) (w.alloc (.cells c t)))(F:row.ver=(ax L S).ver+1)(C:row.fz=false)
  (hc:dF row.els E row.sz c.toList)(u:∀n,S= .g n->row.els.all (fun e=>e.all V.qW)=true)(r:∀l:Env,l.own 0 S row.ver=some ⟨w.heap.size,row.sz,c.size,false⟩->VR v l x):xu P w0 E (bu L S row) H w o a v:=by
 obtain⟨B,A⟩:=h.Tq (S:=S) (row:=row) (q:=⟨w.heap.size,row.sz,c.size,false⟩) (nY _ _) (aJ _) (rY (rO _ _)) (by omega) C
  (fun _=>⟨c,t,rO _ _,rfl,rfl,hc⟩) (fun hp=>by cases hp) u
 exact⟨_,_,_,_,j,.inl rfl,B,A,r _ (by simp[Env.fG])⟩
theorem Ox{t:TypeId}{z:List V}{L':Mem}{v:V}{cf:fU}{fr:List V}(ho:o.op= .alloc t)(j:nG P t=some z)(h:dR w0 E L H w)(g:cZ cf H fr L (.galloc z)=some (v,L')):xu P w0 E L' H w o a v:=by
 simp only[cZ]at g;split at g
 ·rename_i hf
  cases g;obtain⟨x,hx,l⟩:=vF (P:=P) (w:=w) j;refine Cz h (S:=fq L 0) (row:=⟨(ax L (fq L 0)).ver+1,z.length,[z],false⟩) (c:=x.cells) (t:=t) (x:= .pointer (some ⟨w.heap.size,0,none⟩)) (by simp[execOp,ho,Instr.alloc,hx,newVar,newRow]) rfl rfl
   (by simp only[dF];have:=l E;exact⟨trivial,by rw[<-this.length,aT];exact this,trivial⟩)
   (fun n e=>by rw[e]at hf;simp[xt hf])
   (fun r h=>by simp only[VR];exact⟨_,h,by simp⟩)
 ·cases g
theorem Tx{t:TypeId}{x:Operand}{y:Arg}{L':Mem}{v:V}{cf:fU}{fr:List V}(ho:o.op= .box t x)(hx:VR (ev fr y) E (a.eval x))(h:dR w0 E L H w)(j:cZ cf H fr L (.gbox y)=some (v,L')):xu P w0 E L' H w o a v:=by
 simp only[cZ]at j;split at j
 ·rename_i hf
  cases j;have g:=VR.cells (xX hf) hx;refine Cz h (S:=fq L 0) (row:=⟨(ax L (fq L 0)).ver+1,(ev fr y).cells.length,[(ev fr y).cells],false⟩) (c:=(a.eval x).cells) (t:=t) (x:= .pointer (some ⟨w.heap.size,0,none⟩)) (by simp[execOp,ho,Instr.box,newVar,newRow]) rfl rfl
   (by simp only[dF];exact⟨trivial,by rw[<-g.length,aT];exact g,trivial⟩)
   (fun n e=>by rw[e]at hf;simp[xt hf])
   (fun l h=>by simp only[VR];exact⟨_,h,by simp⟩)
 ·cases j
theorem Oy{t:TypeId}{k e:TypeId}{L':Mem}{v:V}{cf:fU}{fr:List V}(ho:o.op= .makeMap t none)(l:P.underlying t=some (.map k e))(h:dR w0 E L H w)(c:cZ cf H fr L .gmkmap=some (v,L')):xu P w0 E L' H w o a v:=by
 simp only[cZ,aA,aN]at c;obtain⟨rfl,rfl⟩:=c;obtain⟨j,g⟩:=h.Tq (S:=fq L 0) (row:=⟨(ax L (fq L 0)).ver+1,0,[],false⟩) (q:=⟨w.heap.size,0,0,true⟩) (w1:=w.alloc (.map #[] 0)) (nY _ _) (aJ _) (rY (rO _ _)) (p9 _) rfl
  (fun hp=>by cases hp) (fun _=>⟨#[],0,rO _ _,rG.nil⟩) (fun _ _=>rfl)
 refine⟨.value (.map (some w.heap.size)),_,_,_,by simp[execOp,ho,Instr.makeMap],.inl rfl,j,g,?_⟩;simp only[VR];exact⟨⟨w.heap.size,0,0,true⟩,by simp[Env.fG],rfl,rfl⟩
theorem Ty{t e:TypeId}{i:TypeInfo}{z:List V}{x y:Operand}{B c':Arg}{L':Mem}{v:V}{cf:fU}{fr:List V}(ho:o.op= .makeSlice t x y)(O:P.underlying t=some (.slice e))(R:P.info? e=some i)(N:nG P e=some z)(A:z.length=i.size)(T:0<i.size)
  (hx:VR (ev fr B) E (a.eval x))(u:VR (ev fr c') E (a.eval y))(h:dR w0 E L H w)(g:cZ cf H fr L (.gmks i.size z i.bytes B c')=some (v,L')):xu P w0 E L' H w o a v:=by
 simp only[cZ]at g;unfold Ji at g;split at g
 ·rename_i l c hl hc
  split at g
  ·rename_i W
   obtain⟨K,J,I,F,X,hf⟩:=W;cases g;rw[hl]at hx;rw[hc]at u;simp only[VR]at hx u;obtain⟨d,hd,C⟩:=JG (P:=P) (w:=w) (E:=E) O R N A T K J I F;have r:=C.length;rw[sP,yO,uk,A]at r;have U:dF (List.replicate c.toNat z) E i.size d.toList:=by
    refine dF.of_flat (fun e g=>by rw[mP g];exact A) ?_;rw[List.length_replicate,aO (by omega)];exact C
   have j:=U.take l.toNat;rw[List.take_replicate,eH (by omega)]at j;refine Cz h (S:=fq L 0) (row:=⟨(ax L (fq L 0)).ver+1,i.size,List.replicate l.toNat z,false⟩) (c:=d) (t:=e) (x:= .slice (some ⟨w.heap.size,0,none⟩) l.toNat c.toNat) (kR (by simp only[execOp,ho,hx,u]) hd) rfl rfl j
    (fun n e=>by
     rw[e]at hf;refine aV.2 fun q Q=> ?_;rw[mP Q];exact xt hf)
    (fun Y h=>by
     simp only[VR];refine⟨_,_,c.toNat,h,rfl,rfl,rfl,by omega,.inr ⟨by simp,?_⟩⟩;simp only[bQ]at r;simp only[dV];omega)
  ·cases g
 ·cases g
theorem QN{sz:Nat}{p:V->Bool}:∀{n:Nat}{cs:List V},cs.all p=true->(Bn sz n cs).all (fun e=>e.all p)=true
 |0,_,_=>rfl
 |n+1,cs,h=>by
  simp only[Bn,aZ,aH];exact⟨EX h,QN (JI h)⟩
theorem Tz{t e:TypeId}{len n site:Nat}{g:Array (Nat×Operand)}{z:List V}{q:List (Nat×Nat×Arg)}{fr:List V}{L':Mem}{v:V}{cf:fU}
  (ho:o.op= .buildSlice t len g)(A:P.underlying t=some (.slice e))(hn:jL P e=some n)(u:nG P e=some z)(J:z.length=n)(F:0<n)(I:len*n<=16777216)
  (B:oD (fun i=>some (i*n,n)) g.toList=some q)(hs:Bz E fr a (fO (q.map (·.2.2))))(h:dR w0 E L H w)(j:cZ cf H fr L (.litr site n z len q)=some (v,L')):xu P w0 E L' H w o a v:=by
 simp only[cZ,aj]at j;obtain⟨cs,C,j⟩:=j;split at j
 ·rename_i hc
  obtain⟨_,_,hf⟩:=hc;cases j;obtain⟨d,hd,r,hl⟩:=Jz (P:=P) (w:=w) (E:=E) (a:=a) A hn u J F I B hs C;have l:=r.length;simp only[bQ]at l;refine Cz h (S:=fq L site) (row:=⟨(ax L (fq L site)).ver+1,n,Bn n len cs,false⟩) (c:=d) (t:=e) (x:= .slice (some ⟨w.heap.size,0,none⟩) len len) (kR (by simp only[execOp,ho]) hd) rfl rfl ?_ (fun k e=>by rw[e]at hf;exact QN (xt hf)) (fun K h=> ?_)
  ·refine dF.of_flat (F3 hl) ?_
   rw[F4 hl,xV,aO (by simp only[bQ];omega)];exact r
  ·simp only[VR]
   refine⟨_,_,len,h,rfl,rfl,rfl,aJ _,.inr ⟨by simp,?_⟩⟩;simp only[dV];omega
 ·cases j
theorem TA{z:List V}{xs:Array Value}(hx:dY z E xs.toList):∀n:Nat,dY (List.replicate n z).flatten E (Builtin.zeroCells xs n).toList:=by
 intro n;have hl:=hx.length;simp only[bQ]at hl;by_cases l:z.length=0
 ·have c:z=[]:=mV l
  subst c;have:xs= #[]:=jQ (by simpa using hl);subst this;have j:(List.replicate n ([]:List V)).flatten=[]:=by simp
  rw[j];simp[dY,Builtin.zeroCells]
 ·have:=yY hx (by omega) n
  have g:Builtin.zeroCells xs n=(Array.range (n*z.length)).map (fun i=>xs[i%xs.size]!):=by
   unfold Builtin.zeroCells;rw[hl]
  rw[g];exact this
theorem Xm{c:Call}{t e:TypeId}{x:Operand}{y:Arg}{n:Nat}{z:List V}{fr:List V}{L':Mem}{v:V}{cf:fU}(ho:o.op= .call c)(hcl:c.callee= .builtin .clear)(h1:c.argTypes.toList=[t])(h2:c.args.toList=[x])
  (ht:P.underlying t=some (.slice e))(hn:jL P e=some n)(hz:nG P e=some z)(h0:0<n)(hx:VR (ev fr y) E (a.eval x))(h:dR w0 E L H w)(he:cZ cf H fr L (.clr n z y)=some (v,L')):xu P w0 E L' H w o a v:=by
 have e1:c.argTypes= #[t]:=by rw[<-jr (xs:=c.argTypes),h1]
 have e2:c.args= #[x]:=by rw[<-jr (xs:=c.args),h2]
 have F:∀{w':World},(Builtin.clear_ #[t] o.type #[a.eval x]).run P w= .ok (.tuple #[]) w'->(execOp a.eval o).run P w= .ok (.value (.tuple #[])) w':=by
  intro w' hr;simp[execOp,ho,resolve,hcl,invoke,builtin,e1,e2,hr]
 have YL:∀{X:Option Addr}{cap:Nat},a.eval x= .slice X 0 cap->(Builtin.clear_ #[t] o.type #[a.eval x]).run P w= .ok (.tuple #[]) w:=by
  intro X cap e;rw[e];cases X<;>simp[Builtin.clear_,run_underlying ht]
 simp only[cZ,ae,aN]at he;obtain⟨L1,he,rfl,rfl⟩:=he;unfold YG at he;split at he
 ·rename_i hv
  cases he;rw[hv]at hx;simp only[VR]at hx;exact⟨_,w,E,_,F (YL hx),.inl rfl,.refl _,h,⟨#[],rfl,rfl⟩⟩
 ·rename_i s ver yJ off len hv
  dsimp only at he;split at he
  ·rename_i hc
   obtain⟨kH,hv0,arB,K,Q,hf,u⟩:=hc;subst arB;cases he;rw[hv]at hx;simp only[VR]at hx;obtain⟨ow,X,cap,j,Z,LQ,J,hlc,hcs⟩:=hx;rw[<-kH]at j;have Y:=Mem.JH u;obtain⟨l,t',W,hcsz,C,g⟩:=h.mem.cur 0 s ow j Z;simp only[df,Env.pQ]at g C;by_cases GQ:len=0
   ·subst GQ
    refine⟨_,w,E,_,F (YL LQ),.inl rfl,.refl _,?_,⟨#[],rfl,rfl⟩⟩;have hrw:bu L s {ax L s with els:=(ax L s).els.take off++List.replicate 0 z++(ax L s).els.drop (off+0)}=bu L s (ax L s):=by
     simp
    rw[hrw];have hm:=h.mem.write (row:=ax L s) (c':=l) j Z Y Y W rfl rfl C g;rw[setRow_self w ow.blk l t' (0,0) W]at hm;refine h.keep h.below hm (fun _ _ _ x=> .inl x) (aJ _) (fun o' _ eX _ _ _=>h.may u eX) (fun _ _ _ _ x=>x) (fun _ _ x=> .inl x) (fun k e=> ?_);subst e;exact h.Ez k
   ·obtain⟨r,hzx,MP⟩:=vF (P:=P) (w:=w) hz
    rcases hcs with Jw|⟨rfl,Jw⟩
    ·omega
    have B:=TA (MP E) len;have A:=B.length;rw[sP,yO,uk,K]at A;have hbd:=g.bound;simp only[bQ]at hbd;have N:(off+len)*ow.sz<=(ax L s).els.length*ow.sz:=ny _ Q;rw[uZ]at N;rw[J]at N hbd;have arC:(List.replicate len z).flatten.all V.scalar=true:=by
     refine aV.2 fun q hq=> ?_;obtain⟨e',he1,CZ⟩:=tq.1 hq;rw[mP he1]at CZ;exact aV.1 (xX hf) q CZ
    have sW:=run_storeCells_at P ow.blk (off*ow.sz) t' (Builtin.zeroCells r.cells len).toList 0 l w W (by rw[J];omega) (dY.Ct arC B);simp only[nR]at sW;refine⟨_,_,E,_,F (?_:_=Result.ok _ (w.setRow ow.blk (l.toList.take (off*ow.sz)++(Builtin.zeroCells r.cells len).toList++l.toList.drop (off*ow.sz+(Builtin.zeroCells r.cells len).toList.length)).toArray)),.inl rfl,.refl _,?_,⟨#[],rfl,rfl⟩⟩
    ·rw[LQ]
     obtain⟨ay0,rfl⟩:∃k,len=k+1:=⟨len-1,by omega⟩
     simp[Builtin.clear_,run_underlying ht,hzx,sW]
    ·have qw:dF ((ax L s).els.take off++List.replicate len z++(ax L s).els.drop (off+len)) E ow.sz (l.toList.take (off*ow.sz)++(Builtin.zeroCells r.cells len).toList++l.toList.drop (off*ow.sz+(Builtin.zeroCells r.cells len).toList.length)):=by
      have hA:dY ((ax L s).els.take off).flatten E (l.toList.take (off*ow.sz)):=by
       have:=(g.take off).flat;rwa[bf,eH (by omega)]at this
      have hC:dF ((ax L s).els.drop (off+len)) E ow.sz (l.toList.drop ((off+len)*ow.sz)):=g.drop (off+len);have R:=hC.flat;refine dF.of_flat (fun e he=> ?_) ?_
      ·rcases dx.1 he with he|he
       ·rcases dx.1 he with he|he
        ·exact g.qj e (fH he)
        ·rw[mP he,J];exact K
       ·exact g.qj e (List.mem_of_mem_drop he)
      ·have O:((ax L s).els.take off++List.replicate len z++(ax L s).els.drop (off+len)).length=(ax L s).els.length:=by
        simp;omega
       have T:off*ow.sz+(Builtin.zeroCells r.cells len).toList.length=(off+len)*ow.sz:=by rw[A,J,uZ]
       rw[O,T,lS,lS];have I:=hA.append B;have U:(l.toList.take (off*ow.sz)++(Builtin.zeroCells r.cells len).toList).length=(off+len)*ow.sz:=by
        rw[aF,bf,<-T];simp only[bQ];rw[eH (by rw[J];omega)]
       rw[eY]at R;revert I U;generalize l.toList.take (off*ow.sz)++(Builtin.zeroCells r.cells len).toList=AB;generalize (List.take off (ax L s).els).flatten++(List.replicate len z).flatten=VAB;intro I U;rw[List.take_append,U,aO (by rw[U];exact ny _ Q),<-Nat.sub_mul];exact I.append R
     have alr:(l.toList.take (off*ow.sz)++(Builtin.zeroCells r.cells len).toList++l.toList.drop (off*ow.sz+(Builtin.zeroCells r.cells len).toList.length)).toArray.size=l.size:=by
      simp only[fT,aF,bf,eY,bQ]at A⊢;rw[J,A,eH (by omega)];omega
     refine h.keep (zQ h.below (h.may u j) _) (h.mem.write (row:={ax L s with els:=(ax L s).els.take off++List.replicate len z++(ax L s).els.drop (off+len)}) j Z Y Y W alr rfl C qw)
      (fun _ _ _ x=> .inl x) (aJ _) (fun o' _ eX _ _ _=>h.may u eX) (fun _ _ _ _ x=>x) (fun _ _ x=> .inl x) (fun k e=> ?_)
     subst e;have hg:=h.Ez k;rw[BD]at hg;rw[rz,rz,EX hg,JI hg];simp only[l9,jK];refine aV.2 fun q hq=> ?_;rw[mP hq];exact xt hf
  ·cases he
 ·cases he
end
def GV(E:Env)(lo:Nat)(w:World)(sz:Nat)(els:List (List V))(x:Value):Prop:=
 ∃b c t cap a,x= .slice (some a) els.length cap∧els.length<=cap∧(cap=0∨(a=⟨b,0,none⟩∧cap*sz<=c.size))∧lo<=b∧
  w.heap[b]? =some (.cells c t (0,0))∧E.iY b=none∧(∀d s v o,E.own d s v=some o->o.blk≠b)∧els.all (fun e=>e.all V.gL)=true∧dF els E.bare sz c.toList
def zR(E:Env)(lo:Nat)(w:World):V->Value->Prop
 | .sl .own sz els,x=>GV E lo w sz els x
 | .eT (.sl .own sz els::vs),x=>∃(c:Array Value)(y:Value)(ys:List Value),x= .tuple c∧c.toList=y::ys∧GV E lo w sz els y∧dY vs E ys
 |v,x=>VR v E x
def acU(E:Env)(w:World)(v:V)(e:Ending)(w':World):Prop:=
 ∃x uE,e= .returned x∧Below w.heap.size w w'∧(∀b cs,E.iY b=some cs->uE b=some cs)∧
  (∀b cs,uE b=some cs->E.iY b=some cs∨(w.heap.size<=b∧∃t fr,w'.heap[b]? =some (.cells cs t fr)))∧
  zR {E.up 1 with iY:=uE} w.heap.size w' v x
def Gof(E:Env)(L:Mem)(b:Nat):Prop:=∃n o,L.b<=n∧(eP L.D n).fz=false∧E.own 0 (.g n) (eP L.D n).ver=some o∧o.blk=b
structure Gb(E:Env)(L:Mem):Prop where
 Ez:∀n,(eP L.D n).els.all (fun e=>e.all V.qW)=true
 bnd:∀n v o,E.own 0 (.g n) v=some o->v<=(eP L.D n).ver
 pos:∀n,E.own 0 (.g n) 0=none
def acV(E:Env)(L:Mem)(H:List Mem)(w:World)(v:V)(D:List Row)(e:Ending)(w':World):Prop:=
 ∃x E' O,e= .returned x∧kr (Gof E L) w.heap.size w w'∧E.Le E'∧eD E' (⟨D,O,L.b⟩::H) w'∧Gb E' ⟨D,O,L.b⟩∧
  (∀d s v o,E'.own (d+1) s v=some o->E.own (d+1) s v=some o)∧
  (∀n o,L.b<=n->(eP D n).fz=false->E'.own 0 (.g n) (eP D n).ver=some o->w.heap.size<=o.blk∨Gof E L o.blk)∧
  (∀b cs,E'.iY b=some cs->E.iY b=some cs∨w.heap.size<=b∨Gof E L b)∧
  zR (E'.up 1) w.heap.size w' v x
def Leaves(E:Env)(L:Mem)(H:List Mem)(w:World)(r:V×Option (List Row)):Ending->World->Prop:=
 match r.2 with
 |none=>acU E w r.1
 |some D=>acV E L H w r.1 D
def iy(P:Program)(cf:fU):Prop:=
 ∀f args H r,cf f args H=some r->
  (∃fn,P.funcs[f]? =some fn∧fn.name≠ "runtime.NumGoroutine" ∧fn.body.isSome=true)∧
  ∀(E:Env)(w:World)(xs:List Value),dY args E xs->eD E (start false H::H) w->Gb E (start false H)->(∀n ver,E.own 0 (.o n) ver=none)->Calls P f xs.toArray w (Leaves E (start false H) H w r)
def QO(P:Program)(E:Env)(M:List Mem)(w:World)(o:Oper)(a:Act)(v:V)(s:Ix)(ver:Nat):Prop:=
 ∀(next:Act->World->Prop)(Q:Exit->Act->World->Prop),
  (∀x w' E',E.Le E'->eD E' M w'->Below w.heap.size w w'->VR v E' x->Keys E E' w s ver->next (a.put o.dst x) w')->o.wp P a w next Q
def YV(P:Program)(w0:jT)(E:Env)(L':Mem)(H:List Mem)(w:World)(o:Oper)(a:Act)(v:V):Prop:=
 ∀(next:Act->World->Prop)(Q:Exit->Act->World->Prop),
  (∀x w' E',E.Le E'->dR w0 E' L' H w'->VR v E' x->next (a.put o.dst x) w')->o.wp P a w next Q
theorem xu.step{P:Program}{w0:jT}{E:Env}{L':Mem}{H:List Mem}{w:World}{o:Oper}{a:Act}{v:V}(h:xu P w0 E L' H w o a v):YV P w0 E L' H w o a v:=by
 intro next Q hn
 obtain⟨nx,w',A,x,c,g,j,r,u⟩:=h;unfold Oper.wp;rw[c];have l:=hn x w' A j r u;rcases g with rfl|⟨rfl,rfl⟩
 ·exact l
 ·exact l
theorem Dk.step{P:Program}{E:Env}{M:List Mem}{w:World}{o:Oper}{a:Act}{v:V}{s:Ix}{ver:Nat}(h:Dk P E M w o a v s ver):QO P E M w o a v s ver:=by
 intro next Q hn
 obtain⟨x,w',u,hr,r,l,j,g,c⟩:=h;unfold Oper.wp;rw[hr];exact hn x w' u r l j g c
theorem U8(E:Env)(d:Nat):E.inner.up (d+1)=E.up d:=by
 rw[show d+1=1+d by omega,<-Env.Qq,Env.Bt]
theorem eD.inner{E:Env}{L:Mem}{H:List Mem}{w:World}(h:eD E (L::H) w)(K:Gb E L):eD E.inner (start false (L::H)::L::H) w:=by
 have Z:∀n,ax (start false (L::H)) (.g n)=ax L (.g n):=fun n=>rfl;refine⟨h.iY,fun d s v o ho=> ?_,fun d s o ho hp=> ?_,fun d s o ho hp=> ?_,fun d s v o d' s' v' Y u j T=> ?_,fun d s o ho r=> ?_,fun d s o ho r=> ?_,fun d n v=> ?_⟩
 ·cases s with
  |g n=>exact h.blk d _ v o ho
  |o n=>
   cases d with
   |zero=>simp[Env.inner]at ho
   |succ d=>exact h.blk d _ v o ho
 ·cases s with
  |g n=>
   cases d with
   |zero=>
    obtain⟨c,t,u,j,X,N⟩:=h.cur 0 (.g n) o ho hp;refine⟨c,t,u,j,X,?_⟩;simp only[df,Env.pQ]at N⊢;exact dF.qW (E:=E) (F:=E.inner) (fun _ _ _ x=>x) (fun _ _ x=>x) (K.Ez n) N
   |succ d=>rw[show E.inner.own (d+1) (.g n)=E.own (d+1) (.g n)from rfl,h.IG]at ho;cases ho
  |o n=>
   cases d with
   |zero=>simp[Env.inner]at ho
   |succ d=>
    rw[Jp]at ho⊢;rw[U8];exact h.cur d _ o ho hp
 ·cases s with
  |g n=>
   cases d with
   |zero=>
    obtain⟨c,t,u,j⟩:=h.Oi 0 (.g n) o ho hp;refine⟨c,t,u,?_⟩;simp only[df,Env.pQ]at j⊢;exact rG.qW (E:=E) (F:=E.inner) (fun _ _ _ x=>x) (fun _ _ x=>x) (K.Ez n) j
   |succ d=>rw[show E.inner.own (d+1) (.g n)=E.own (d+1) (.g n)from rfl,h.IG]at ho;cases ho
  |o n=>
   cases d with
   |zero=>simp[Env.inner]at ho
   |succ d=>
    rw[Jp]at ho⊢;rw[U8];exact h.Oi d _ o ho hp
 ·have l:∀{d s v o},E.inner.own d s v=some o->∃J,E.own J s v=some o∧((∃n,s= .g n∧d=J)∨(∃n,s= .o n∧d=J+1)):=by
   intro d s v o ho;cases s with
   |g n=>exact⟨d,ho,.inl ⟨n,rfl,rfl⟩⟩
   |o n=>
    cases d with
    |zero=>simp[Env.inner]at ho
    |succ d=>exact⟨d,ho,.inr ⟨n,rfl,rfl⟩⟩
  obtain⟨a,W,I⟩:=l u;obtain⟨b,U,O⟩:=l j;obtain⟨e1,A⟩:=h.inj _ _ _ _ _ _ _ _ W U T;refine⟨?_,A⟩;rcases I with⟨n,C,R⟩|⟨n,C,R⟩<;>rcases O with⟨m,B,Q⟩|⟨m,B,Q⟩
  ·omega
  ·rw[C,B]at A;cases A
  ·rw[C,B]at A;cases A
  ·omega
 ·cases s with
  |g n=>
   cases d with
   |zero=>exact h.LH 0 (.g n) o ho r
   |succ d=>rw[show E.inner.own (d+1) (.g n)=E.own (d+1) (.g n)from rfl,h.IG]at ho;cases ho
  |o n=>
   cases d with
   |zero=>simp[Env.inner]at ho
   |succ d=>exact h.LH d _ o ho r
 ·cases s with
  |g n=>
   cases d with
   |zero=>exact h.LJ 0 (.g n) o ho r
   |succ d=>rw[show E.inner.own (d+1) (.g n)=E.own (d+1) (.g n)from rfl,h.IG]at ho;cases ho
  |o n=>
   cases d with
   |zero=>simp[Env.inner]at ho
   |succ d=>exact h.LJ d _ o ho r
 ·exact h.IG d n v
theorem eD.outer{E:Env}{N L:Mem}{H:List Mem}{w:World}(h:eD E (N::L::H) w)(B:∀n,(eP N.D n).els.all (fun e=>e.all V.qW)=true):eD (E.up 1) ({L with D:=N.D}::H) w:=by
 refine⟨h.iY,fun d s v o ho=> ?_,fun d s o ho hp=> ?_,fun d s o ho hp=> ?_,fun d s v o A s' v' J l j u=> ?_,fun d s o ho r=> ?_,fun d s o ho r=> ?_,fun d n v=> ?_⟩
 ·cases s with
  |g n=>exact h.blk d _ v o ho
  |o n=>exact h.blk (d+1) _ v o ho
 ·cases s with
  |g n=>
   cases d with
   |zero=>
    obtain⟨c,t,l,j,I,C⟩:=h.cur 0 (.g n) o ho hp;refine⟨c,t,l,j,I,?_⟩;rw[Env.pQ]at C⊢;exact dF.qW (E:=E) (F:=E.up 1) (fun _ _ _ x=>x) (fun _ _ x=>x) (B n) C
   |succ d=>rw[show(E.up 1).own (d+1) (.g n)=E.own (d+1) (.g n)from rfl,h.IG]at ho;cases ho
  |o n=>
   have:=h.cur (d+1) (.o n) o (by cases d<;>exact ho) hp;rw[Env.Qq,nO 1 d];cases d<;>exact this
 ·cases s with
  |g n=>
   cases d with
   |zero=>
    obtain⟨c,t,l,j⟩:=h.Oi 0 (.g n) o ho hp;refine⟨c,t,l,?_⟩;rw[Env.pQ]at j⊢;exact rG.qW (E:=E) (F:=E.up 1) (fun _ _ _ x=>x) (fun _ _ x=>x) (B n) j
   |succ d=>rw[show(E.up 1).own (d+1) (.g n)=E.own (d+1) (.g n)from rfl,h.IG]at ho;cases ho
  |o n=>
   have:=h.Oi (d+1) (.o n) o (by cases d<;>exact ho) hp;rw[Env.Qq,nO 1 d];cases d<;>exact this
 ·cases s<;>cases s'
  ·have:=h.inj (d+1) _ _ _ (A+1) _ _ _ l j u
   exact⟨by omega,this.2⟩
  ·have:=h.inj (d+1) _ _ _ A _ _ _ l j u
   cases this.2
  ·have:=h.inj d _ _ _ (A+1) _ _ _ l j u
   cases this.2
  ·exact h.inj d _ _ _ A _ _ _ l j u
 ·cases s with
  |g n=>
   cases d with
   |zero=>exact h.LH 0 (.g n) o ho r
   |succ d=>rw[show(E.up 1).own (d+1) (.g n)=E.own (d+1) (.g n)from rfl,h.IG]at ho;cases ho
  |o n=>cases d<;>exact h.LH (_+1) (.o n) o ho r
 ·cases s with
  |g n=>
   cases d with
   |zero=>exact h.LJ 0 (.g n) o ho r
   |succ d=>rw[show(E.up 1).own (d+1) (.g n)=E.own (d+1) (.g n)from rfl,h.IG]at ho;cases ho
  |o n=>cases d<;>exact h.LJ (_+1) (.o n) o ho r
 ·exact h.IG d n v
theorem eD.als{E:Env}{M:List Mem}{w w':World}{l:Nat->Option (Array Value)}(h:eD E M w)(Q:Below w.heap.size w w')
  (C:∀b cs,E.iY b=some cs->l b=some cs)
  (B:∀b cs,l b=some cs->E.iY b=some cs∨(w.heap.size<=b∧∃t fr,w'.heap[b]? =some (.cells cs t fr))):eD {E with iY:=l} M w':=by
 have r:=h.below Q;have g:E.Le {E with iY:=l}:=⟨fun _ _ _ _ x=>x,C⟩
 refine⟨fun b cs u=> ?_,r.blk,fun d s o ho hp=> ?_,fun d s o ho hp=> ?_,r.inj,fun d s o ho A=> ?_,fun d s o ho A=> ?_,h.IG⟩
 ·rcases B b cs u with j|⟨_,j⟩
  ·exact r.iY b cs j
  ·exact j
 ·obtain⟨c,t,hc,J,I,r3⟩:=r.cur d s o ho hp
  exact⟨c,t,hc,J,I,dF.mono (g.up d) _ _ _ r3⟩
 ·obtain⟨es,F,hc,r3⟩:=r.Oi d s o ho hp
  exact⟨es,F,hc,r3.mono (g.up d)⟩
 ·cases u:l o.blk with
  |none=>exact u
  |some cs=>
   exfalso;rcases B _ _ u with j|⟨j,_⟩
   ·rw[h.LH d s o ho A]at j;cases j
   ·have:=h.blk d s _ o ho
    omega
 ·obtain⟨O,c,N,K⟩:=h.LJ d s o ho A
  exact⟨O,c,C _ _ N,dF.mono g.bare _ _ _ K⟩
theorem VR.settle{E:Env}{v:V}{x:Value}(h:VR v E x):VR (gZ v) E x:=by
 unfold gZ;split
 ·simp only[VR]at h;exact absurd rfl h.1
 ·exact h
theorem dY.settle{E:Env}:∀{vs:List V}{l:List Value},dY vs E l->dY (vs.map gZ) E l
 |[],l,h=>h
 |v::vs,l,h=>by
  simp only[dY]at h;obtain⟨x,c,rfl,g,hr⟩:=h;exact⟨x,c,rfl,g.settle,dY.settle hr⟩
theorem YW{E:Env}{lo:Nat}{w:World}{sz:Nat}{els:List (List V)}{y:Value}(ho:GV E lo w sz els y):∃b c t,lo<=b∧w.heap[b]? =some (.cells c t (0,0))∧E.iY b=none∧(∀d s v o,E.own d s v=some o->o.blk≠b)∧
  els.all (fun e=>e.all V.gL)=true∧dF els E.bare sz c.toList∧(∀F:Env,E.Le F->F.iY b=some c->VR (.sl .any sz els) F y)∧
  (∀(F:Env)(S:Ix)(ver:Nat),F.own 0 S ver=some ⟨b,sz,c.size,false⟩->VR (.ref 0 S ver sz 0 els.length) F y):=by
 obtain⟨b,c,t,cap,a,rfl,j,u,r,B,C,l,hp,A⟩:=ho;refine⟨b,c,t,r,B,C,l,hp,A,fun F hF hc=> ?_,fun F S ver g=> ?_⟩
 ·simp only[VR]
  refine⟨by simp,a,cap,rfl,j,by simp,?_⟩;rcases u with rfl|⟨rfl,u⟩
  ·exact .inl (mV (by omega))
  ·exact .inr ⟨c,rfl,hc,by simpa using dF.mono hF.bare _ _ _ A⟩
 ·simp only[VR]
  refine⟨_,a,cap,g,rfl,rfl,rfl,j,?_⟩;rcases u with h|⟨h,I⟩
  ·exact .inl h
  ·exact .inr ⟨by simpa using h,by simpa using I⟩
theorem JP{E:Env}{M:List Mem}{w':World}{L L':Mem}{lo:Nat}{u v:V}{x:Value}(F:eD E M w')(hr:zR E lo w' u x)(j:iG none L u=(v,L')):
  ∃g,E.Le g∧eD g M w'∧VR v g x∧L'=L∧(∀d s v o,g.own d s v=some o->E.own d s v=some o)∧(∀b cs,g.iY b=some cs->E.iY b=some cs∨lo<=b):=by
 have own:∀{sz:Nat}{els:List (List V)}{y:Value},GV E lo w' sz els y->
   ∃g,E.Le g∧eD g M w'∧VR (.sl .any sz els) g y∧(∀d s v o,g.own d s v=some o->E.own d s v=some o)∧(∀b cs,g.iY b=some cs->E.iY b=some cs∨lo<=b):=by
  intro sz els y ho;obtain⟨b,c,t,T,Q,C,B,hp,U,R,_⟩:=YW ho;refine⟨E.kg b c,Env.qM C,F.kg C Q (fun d s o h _=>B d s _ o h),R _ (Env.qM C) (by simp[Env.kg]),fun _ _ _ _ h=>h,fun x c' hx=> ?_⟩;simp only[Env.kg]at hx;split at hx
  ·rename_i e;exact .inr (by omega)
  ·exact .inl hx
 unfold iG at j;split at j
 ·rename_i sz els
  simp only[zR]at hr;cases j;obtain⟨g,l,r,A,J,I⟩:=own hr;exact⟨g,l,r,A,rfl,J,I⟩
 ·rename_i sz els vs
  simp only[zR]at hr;obtain⟨c,y,O,rfl,hc,ho,K⟩:=hr;cases j;obtain⟨g,l,r,A,J,I⟩:=own ho;refine⟨g,l,r,?_,rfl,J,I⟩;simp only[VR];exact⟨c,rfl,y,O,hc,A,dY.mono l _ _ K.settle⟩
 ·rename_i vs K
  cases j;have N:VR (.eT vs) E x:=by
   unfold zR at hr;split at hr
   ·rename_i h;cases h
   ·rename_i h;cases h;exact absurd rfl (K _ _ _)
   ·exact hr
  simp only[VR]at N;obtain⟨c,rfl,hc⟩:=N;exact⟨E,.refl _,F,⟨c,rfl,hc.settle⟩,rfl,fun _ _ _ _ h=>h,fun _ _ h=> .inl h⟩
 ·rename_i l r A
  cases j;refine⟨E,.refl _,F,?_,rfl,fun _ _ _ _ h=>h,fun _ _ h=> .inl h⟩;unfold zR at hr;split at hr
  ·exact absurd rfl (l _ _)
  ·exact absurd rfl (r _ _ _)
  ·exact hr
theorem GX{E:Env}{w0:jT}{w':World}{L L':Mem}{H:List Mem}{lo:Nat}{to:Option Ix}{u v:V}{x:Value}(h:dR w0 E L H w')(B:w0.w.heap.size<=lo)(hr:zR E lo w' u x)(l:iG to L u=(v,L')):
  ∃g,E.Le g∧dR w0 g L' H w'∧VR v g x:=by
 cases to with
 |none=>
  obtain⟨g,j,r,C,rfl,A,W⟩:=JP h.mem hr l;refine⟨g,j,⟨h.below,r,fun s v o ho=>h.bnd s v o (A _ _ _ _ ho),fun n o hn Q ho=>h.wr n o hn Q (A _ _ _ _ ho),fun d s v o ho=>h.out d s v o (A _ _ _ _ ho),fun b cs U=> ?_,h.Ez,fun n=>IK (A 0) (h.BC n),fun n v hr=>⟨(h.res n v hr).1,IK (A 0) (h.res n v hr).2⟩⟩,C⟩;rcases W b cs U with h6|h6
  ·exact h.new b cs h6
  ·exact .inr (.inl (eO B h6))
 |some S=>
  have own:∀{sz:Nat}{els:List (List V)}{y:Value},GV E lo w' sz els y->
    ∃g,E.Le g∧dR w0 g (bu L S ⟨(ax L S).ver+1,sz,els,false⟩) H w'∧VR (.ref 0 S ((ax L S).ver+1) sz 0 els.length) g y:=by
   intro sz els y ho;obtain⟨b,c,t,I,K,T,F,hp,X,_,R⟩:=YW ho;obtain⟨j,r⟩:=h.U6 (S:=S) (row:=⟨(ax L S).ver+1,sz,els,false⟩) (q:=⟨b,sz,c.size,false⟩) (jh _ _) (eO B I) (rY K) F T (p9 _) rfl
    (fun _=>⟨c,t,K,rfl,rfl,dF.mono E.xP _ _ _ X⟩) (fun hp=>by cases hp) (fun _ _=>MU hp)
   exact⟨_,j,r,R _ S _ (by simp[Env.fG])⟩
  unfold iG at l;split at l
  ·rename_i sz els
   simp only[zR]at hr;cases l;exact own hr
  ·rename_i sz els vs
   simp only[zR]at hr;obtain⟨c,y,O,rfl,hc,ho,J⟩:=hr;cases l;obtain⟨g,j,r,C⟩:=own ho;refine⟨g,j,r,?_⟩;simp only[VR];exact⟨c,rfl,y,O,hc,C,dY.mono j _ _ J.settle⟩
  ·rename_i vs J
   cases l;have N:VR (.eT vs) E x:=by
    unfold zR at hr;split at hr
    ·rename_i h;cases h
    ·rename_i h;cases h;exact absurd rfl (J _ _ _)
    ·exact hr
   simp only[VR]at N;obtain⟨c,rfl,hc⟩:=N;exact⟨E,.refl _,h,⟨c,rfl,hc.settle⟩⟩
  ·rename_i j r C
   cases l;refine⟨E,.refl _,h,?_⟩;unfold zR at hr;split at hr
   ·exact absurd rfl (j _ _)
   ·exact absurd rfl (r _ _ _)
   ·exact hr
theorem QQ{P:Program}{o:Oper}{c:Call}{fo:Operand}{R:V}{g:FuncId}{aEp W:List V}{E:Env}{L:Mem}{H:List Mem}{w:World}{a:Act}{cf:fU}{r:V×Option (List Row)}
  (X:iy P cf)(ho:o.op= .call c)(hc:c.callee= .value fo)(F:VR R E (a.eval fo))(T:dY W E (c.args.toList.map a.eval))(A:Jj R W=some (g,aEp))(Y:cf g (V.bW 1 aEp) (L::H)=some r)
  (hL:eD E (L::H) w)(C:Gb E L){next:Act->World->Prop}{Q:Exit->Act->World->Prop}
  (hn:∀x w',Leaves E.inner (start false (L::H)) (L::H) w r (.returned x) w'->next (a.put o.dst x) w')(hl:∀e w',Leaves E.inner (start false (L::H)) (L::H) w r e w'->∃x,e= .returned x):o.wp P a w next Q:=by
 obtain⟨⟨fn,u,U,Va⟩,J⟩:=X _ _ _ _ Y;have N:fn.body≠none:=by intro Z;simp[Z]at Va
 obtain⟨B,Oq,l⟩:∃B:Array Value,dY aEp E B.toList∧(execOp a.eval o).run P w= .ok (.enter g B) w:=by
  unfold Jj at A;split at A
  ·rename_i g' caps I
   cases A;simp only[VR]at F;obtain⟨cs,K,j⟩:=F;refine⟨c.args.map a.eval++cs,?_,by simp[execOp,ho,resolve,hc,K,Deferred.ofValue,invoke,callFunc,u,U,N]⟩;have:=T.append j;simpa using this
  ·rename_i g' first I
   cases A;simp only[VR]at F;obtain⟨cs,K,j⟩:=F;refine⟨cs++c.args.map a.eval,?_,by simp[execOp,ho,resolve,hc,K,Deferred.ofValue,invoke,callFunc,u,U,N]⟩;have:=j.append T;simpa using this
  ·cases A
 have GY:dY (V.bW 1 aEp) E.inner B.toList:=(dY.shift 1 _ _).2 (by rw[Env.Bt];exact Oq);have O:=J E.inner w _ GY (hL.inner C) ⟨C.Ez,fun n v o h=>C.bnd n v o h,C.pos⟩ (fun _ _=>rfl);unfold Oper.wp;rw[l,Oper.upon_enter];rw[jr]at O;refine O.mono fun e w' hlv=> ?_;obtain⟨x,rfl⟩:=hl e w' hlv;exact hn x w' hlv
theorem Leaves.ret{E:Env}{L:Mem}{H:List Mem}{w:World}{r:V×Option (List Row)}{e:Ending}{w':World}(h:Leaves E L H w r e w'):∃x,e= .returned x:=by
 obtain⟨v,d⟩:=r;cases d with
 |none=>obtain⟨x,_,rfl,_⟩:=h;exact⟨x,rfl⟩
 |some D=>obtain⟨x,_,_,rfl,_⟩:=h;exact⟨x,rfl⟩
theorem Xo{P:Program}{o:Oper}{c:Call}{fo:Operand}{F:V}{I:List V}{E:Env}{M:List Mem}{w:World}{a:Act}{cf:fU}{H:List Mem}{L L':Mem}{v:V}{s:Ix}{ver:Nat}
  (J:iy P cf)(ho:o.op= .call c)(hc:c.callee= .value fo)(dG:VR F E (a.eval fo))(YX:dY I E (c.args.toList.map a.eval))(j:yU cf H L F I=some (v,L'))
  (T:eD E (L::H) w)(U:Gb E L)(R:eD E M w):QO P E M w o a v s ver:=by
 intro next Q hn
 unfold yU at j;split at j
 ·rename_i g aEp L6
  split at j
  ·rename_i u N
   simp only[aA]at j;refine QQ J ho hc dG YX L6 N T U (fun x w' hlv=> ?_) (fun e w' h=>h.ret);obtain⟨x',l,hx,A,C,B,Oz⟩:=hlv;cases hx;have K:eD {E with iY:=l} M w':=R.als A C B;have r:E.Le {E with iY:=l}:=⟨fun _ _ _ _ x=>x,C⟩
   have YY:zR {E with iY:=l} w.heap.size w' u x:=by
    have e:({E.inner.up 1 with iY:=l}:Env)={E with iY:=l}:=by rw[Env.Bt]
    rw[<-e];exact Oz
   obtain⟨E',e1,Z,Y,rfl,e4,X⟩:=JP K YY j;refine hn x w' E' (r.trans e1) Z A Y ⟨fun d s' v' o' W=> .inl (e4 _ _ _ _ W),fun b cs O=> ?_⟩;rcases X b cs O with h|h
   ·exact(B b cs h).imp id (·.1)
   ·exact .inr h
  ·cases j
 ·cases j
theorem dR.Xp{w0:jT}{E:Env}{L:Mem}{H:List Mem}{w:World}(h:dR w0 E L H w):Gb E L:=⟨h.Ez,fun n v o ho=>(h.bnd (.g n) v o ho).1,h.BC⟩
theorem Xq{P:Program}{m:Mode}{site:Nat}{o:Oper}{f:Arg}{aEp:List Arg}{E:Env}{M:List Mem}{w:World}{a:Act}{fr:List V}{cf:fU}{H:List Mem}{L L':Mem}{v:V}{s:Ix}{ver:Nat}
  (r:iy P cf)(g:Ex P m site o=some (.call f aEp))(l:cZ cf H fr L (.call f aEp)=some (v,L'))(hs:Bz E fr a (fO (f::aEp)))
  (B:eD E (L::H) w)(C:Gb E L)(A:eD E M w):QO P E M w o a v s ver:=by
 have j:∃c fo,o.op= .call c∧c.callee= .value fo∧jk fo=some f∧Bu c.args.toList=some aEp:=by
  unfold Ex at g;split at g;all_goals (try(repeat' split at g))
  all_goals (try(simp[aj,ae]at g;done))
  all_goals
   simp only[aj,ae]at g;first
    |(obtain⟨f',hf,I,Eu,g⟩:=g
      unfold qh at g;split at g
      ·cases g
      ·cases g
       exact⟨_,_,‹o.op=Op.call _›,‹_=Callee.value _›,hf,Eu⟩)
    |(exfalso
      repeat(obtain⟨_,g⟩:=g)
      revert g;first
       |(unfold uf;repeat' split)<;>simp
       |(split<;>simp))
 obtain⟨c,fo,ho,hc,hf,Eu⟩:=j;have F:=hs.arg (y:=f) (by simp) hf;have J:=xn Eu (fun t u=>hs t (by rw[show f::aEp=[f]++aEp by rfl,lF];simp[u]));simp only[cZ]at l;exact Xo r ho hc F J l B C A
theorem QR{P:Program}{m:Mode}{site:Nat}{o:Oper}{fz gl:Bool}{s:Nat}{f:Arg}{aEp:List Arg}(g:Ex P m site o=some (.calla fz gl s f aEp)):
  ∃c fo,o.op= .call c∧c.callee= .value fo∧jk fo=some f∧Bu c.args.toList=some aEp:=by
 unfold Ex at g;split at g;all_goals (try(repeat' split at g))
 all_goals (try(simp[aj,ae]at g;done))
 all_goals
  simp only[aj,ae]at g;first
   |(obtain⟨f',hf,j,Eu,g⟩:=g
     unfold qh at g;split at g
     ·cases g
      exact⟨_,_,‹o.op=Op.call _›,‹_=Callee.value _›,hf,Eu⟩
     ·cases g)
   |(exfalso
     repeat(obtain⟨_,g⟩:=g)
     revert g;first
      |(unfold uf;repeat' split)<;>simp
      |(split<;>simp))
theorem JQ{P:Program}{w0:jT}{o:Oper}{c:Call}{fo:Operand}{fv:V}{BG:List V}{E:Env}{w:World}{a:Act}{cf:fU}{H:List Mem}{L L':Mem}{v:V}{gl:Bool}{site:Nat}
  (yA:iy P cf)(ho:o.op= .call c)(hc:c.callee= .value fo)(dG:VR fv E (a.eval fo))(YX:dY BG E (c.args.toList.map a.eval))(K:wD cf H L gl site fv BG=some (v,L'))
  (j:dR w0 E L H w):YV P w0 E L' H w o a v:=by
 intro next Q hn
 unfold wD at K;split at K
 ·rename_i g aEp L6
  obtain⟨⟨u,d⟩,hu,J⟩:=ae.1 K;refine QQ yA ho hc dG YX L6 hu j.mem j.Xp (fun x w' hlv=> ?_) (fun e w' h=>h.ret);cases d with
  |none=>
   obtain⟨x',I,hx,B,r,l,Oz⟩:=hlv;cases hx;have uF:eD {E with iY:=I} (L::H) w':=j.mem.als B r l;have C:E.Le {E with iY:=I}:=⟨fun _ _ _ _ x=>x,r⟩
   have YY:zR {E with iY:=I} w.heap.size w' u x:=by
    have e:({E.inner.up 1 with iY:=I}:Env)={E with iY:=I}:=by rw[Env.Bt]
    rw[<-e];exact Oz
   have R:dR w0 {E with iY:=I} L H w':=j.U5 uF B (fun _ _ _ h=>h) (fun _ _ _ _ h=>h) (fun b cs W=>(l b cs W).imp id (·.1));obtain⟨E',e1,e2,Z⟩:=GX R j.below.size YY J;exact hn x w' E' (C.trans e1) e2 Z
  |some D=>
   obtain⟨x',A,O,hx,B,C,uD,N,Ii,YZ,wL,Oz⟩:=hlv;cases hx;have X:eD (A.up 1) ({L with D:=D}::H) w':=uD.outer N.Ez;have EZ:E.Le (A.up 1):=by
    have:=C.up 1;rwa[Env.Bt]at this
   have F:∀b,Gof E.inner (start false (L::H)) b->w0.w.heap.size<=b∨w0.G b:=by
    rintro b ⟨n,q,r,l,Y,rfl⟩;exact j.wr n q r l Y
   have R:dR w0 (A.up 1) {L with D:=D} H w':=by
    refine⟨?_,X,fun s v o ho=> ?_,fun n q r l Y=> ?_,fun d s v o ho=> ?_,fun b cs W=> ?_,N.Ez,N.pos,fun n v hr=>⟨(j.res n v hr).1,?_⟩⟩
    ·refine⟨B.os.trans j.below.os,B.tape.trans j.below.tape,B.output.trans j.below.output,eO j.below.size B.size,fun k hk hg=> ?_⟩
     have T:=uq hk j.below.size;refine(B.block k T fun U=> ?_).trans (j.below.block k hk hg);rcases F k U with h|h
     ·omega
     ·exact hg h
    ·cases s with
     |o n=>
      have r:A.own 1 (.o n) v=some o:=ho;have l:=Ii 0 (.o n) v o r;exact j.bnd (.o n) v o l
     |g n=>
      exact⟨N.bnd n v o ho,fun m hm=>by cases hm⟩
    ·rcases YZ n q r l Y with h|h
     ·exact .inl (eO j.below.size h)
     ·exact F _ h
    ·cases s with
     |o n=>
      have r:A.own (d+1+1) (.o n) v=some o:=ho;have l:=Ii (d+1) (.o n) v o r;exact j.out d (.o n) v o l
     |g n=>rw[show(A.up 1).own (d+1) (.g n) v=A.own (d+1) (.g n) v from rfl,uD.IG]at ho;cases ho
    ·rcases wL b cs W with h|h|h
     ·exact j.new b cs h
     ·exact .inr (.inl (eO j.below.size h))
     ·exact .inr (F b h)
    ·cases ho:(A.up 1).own 0 (.o n) v with
     |none=>rfl
     |some o=>
      have r:A.own 1 (.o n) v=some o:=ho;have l:E.own 0 (.o n) v=some o:=Ii 0 (.o n) v o r;rw[(j.res n v hr).2]at l;cases l
   obtain⟨E',e1,e2,Z⟩:=GX R j.below.size Oz J;exact hn x w' E' (EZ.trans e1) e2 Z
 ·cases K
structure fD(E:Env)(fr:List V)(a:Act)(n:Nat):Prop where
 size:n<=a.tmps.size
 defers:a.defers=[]
 slot:∀i,VR (ag fr i) E (a.tmps.getD i undef)
theorem fD.mono{E F:Env}{fr:List V}{a:Act}{n:Nat}(h:fD E fr a n)(c:E.Le F):fD F fr a n:=
 ⟨h.size,h.defers,fun i=>VR.mono c _ _ (h.slot i)⟩
theorem fD.put{E:Env}{fr:List V}{a:Act}{n:Nat}{dst:Option Nat}{v:V}{x:Value}(h:fD E fr a n)(hd:dst.all (·<n)=true)(c:VR v E x):fD E (gW fr dst v) (a.put dst x) n:=by
 cases dst with
 |none=>exact h
 |some d=>
  have g:d<n:=by simpa using hd
  refine⟨by simpa[Act.put]using h.size,h.defers,fun i=> ?_⟩;simp only[gW,qJ,Act.put];split
  ·rename_i e;subst e
   have:=h.size;simp[dO,show d<a.tmps.size by omega];exact c
  ·rename_i e
   have:=h.slot i;simpa[dO,e]using this
theorem xY{L L':Mem}{u v:V}(h:iG none L u=(v,L')):L'=L:=by
 unfold iG at h;split at h<;>(cases h;rfl)
theorem xZ{cf:fU}{H:List Mem}{fr:List V}{L L':Mem}{ao:gJ}{v:V}(hm:ao.mY=false)(c:cZ cf H fr L ao=some (v,L')):
  (L'=L∧ao.site=0)∨∃(k:Nat)(r:Row),ao.site= .o k∧L'=bu L ao.site r∧r.ver=(ax L ao.site).ver+1:=by
 cases ao<;>simp only[gJ.mY,yQ]at hm<;>simp only[cZ,one]at c;case mv=>cases c;exact .inl ⟨rfl,rfl⟩
 case pick=>obtain⟨t,_,h⟩:=ae.1 c;cases h;exact .inl ⟨rfl,rfl⟩
 case eqb=>split at c<;>cases c;exact .inl ⟨rfl,rfl⟩
 case eqagg=>
  split at c
  ·obtain⟨t,_,h⟩:=ae.1 c;cases h;exact .inl ⟨rfl,rfl⟩
  ·cases c
 case neg=>split at c<;>cases c;exact .inl ⟨rfl,rfl⟩
 case conv=>split at c<;>cases c;exact .inl ⟨rfl,rfl⟩
 case alloc=>split at c<;>cases c;exact .inr ⟨_,_,rfl,rfl,rfl⟩
 case box=>split at c<;>cases c;exact .inr ⟨_,_,rfl,rfl,rfl⟩
 case lit=>
  obtain⟨t,_,h⟩:=aj.1 c;split at h<;>cases h;exact .inl ⟨rfl,rfl⟩
 case ext=>
  split at c
  ·obtain⟨t,_,h⟩:=ae.1 c;cases h;exact .inl ⟨rfl,rfl⟩
  ·cases c
 case call=>
  unfold yU at c;split at c
  ·split at c
   ·simp only[aA]at c
    exact .inl ⟨xY c,rfl⟩
   ·cases c
  ·cases c
 case mkfn=>cases c;exact .inl ⟨rfl,rfl⟩
 case mkmth=>cases c;exact .inl ⟨rfl,rfl⟩
 case allocd=>split at c<;>cases c;exact .inl ⟨rfl,rfl⟩
 case mks=>
  unfold Ji at c;split at c
  ·split at c<;>cases c;exact .inr ⟨_,_,rfl,rfl,rfl⟩
  ·cases c
 case mm=>
  split at c
  ·obtain⟨t,_,h⟩:=ae.1 c;cases h;exact .inl ⟨rfl,rfl⟩
  ·cases c
 case nilck=>split at c<;>cases c<;>exact .inl ⟨rfl,rfl⟩
 case mkmap=>cases c;exact .inr ⟨_,_,rfl,rfl,rfl⟩
 case bad=>cases c
 all_goals (obtain⟨t,_,h⟩:=ae.1 c;cases h;exact .inl ⟨rfl,rfl⟩)
theorem TB{cf:fU}{H:List Mem}{fr:List V}{L L':Mem}{ao:gJ}{v:V}(hm:ao.mY=false)(c:cZ cf H fr L ao=some (v,L'))(s:Ix):
  ax L' s=ax L s∨(s=ao.site∧(ax L' s).ver=(ax L s).ver+1):=by
 rcases xZ hm c with⟨rfl,_⟩|⟨k,r,_,rfl,hr⟩
 ·exact .inl rfl
 ·rw[ay]
  split
  ·rename_i e;subst e;exact .inr ⟨rfl,hr⟩
  ·exact .inl rfl
theorem GZ{cf:fU}{H:List Mem}{fr:List V}{L L':Mem}{ao:gJ}{v:V}(hm:ao.mY=false)(hs:ao.DT=true)(c:cZ cf H fr L ao=some (v,L'))(g:ao.site=0):L'=L:=by
 cases ao<;>simp only[gJ.mY,yQ]at hm<;>simp only[gJ.DT,bne_iff_ne,ne_eq]at hs<;>simp only[gJ.site]at g<;>simp only[cZ,one]at c;case alloc=>exact absurd (Ix.NY.1 g) hs
 case box=>exact absurd (Ix.NY.1 g) hs
 case mks=>exact absurd (Ix.NY.1 g) hs
 case mkmap=>exact absurd (Ix.NY.1 g) hs
 case mv=>cases c;rfl
 case pick=>obtain⟨t,_,h⟩:=ae.1 c;cases h;rfl
 case eqb=>split at c<;>cases c;rfl
 case eqagg=>
  split at c
  ·obtain⟨t,_,h⟩:=ae.1 c;cases h;rfl
  ·cases c
 case neg=>split at c<;>cases c;rfl
 case conv=>split at c<;>cases c;rfl
 case lit=>
  obtain⟨t,_,h⟩:=aj.1 c;split at h<;>cases h;rfl
 case ext=>
  split at c
  ·obtain⟨t,_,h⟩:=ae.1 c;cases h;rfl
  ·cases c
 case call=>
  unfold yU at c;split at c
  ·split at c
   ·simp only[aA]at c
    exact xY c
   ·cases c
  ·cases c
 case mkfn=>cases c;rfl
 case mkmth=>cases c;rfl
 case allocd=>split at c<;>cases c;rfl
 case mm=>
  split at c
  ·obtain⟨t,_,h⟩:=ae.1 c;cases h;rfl
  ·cases c
 case nilck=>split at c<;>cases c<;>rfl
 case bad=>cases c
 all_goals (obtain⟨t,_,h⟩:=ae.1 c;cases h;rfl)
theorem Vb{P:Program}{m:Mode}{site:Nat}{o:Oper}{ao:gJ}{E:Env}{M:List Mem}{w:World}{a:Act}{fr:List V}{cf:fU}{H:List Mem}{L L':Mem}{v:V}
  (u:iy P cf)(g:Ex P m site o=some ao)(B:0<site)(hm:ao.mY=false)(j:cZ cf H fr L ao=some (v,L'))(hs:Bz E fr a (fO ao.dC))
  (r:eD E (L::H) w)(A:Gb E L)(l:eD E M w)(c:ao.site≠0->(ax L ao.site).ver<(ax L' ao.site).ver->iH M 0 ao.site=ax L' ao.site∧E.own 0 ao.site (ax L' ao.site).ver=none):
  QO P E M w o a v ao.site (ax L' ao.site).ver:=by
 by_cases hc:ao.plain=true
 ·exact(YN g B hc j hs r l c).step
 ·cases ao<;>simp only[gJ.plain,oq]at hc<;>simp only[gJ.mY,yQ]at hm
  ·exact Xq u g j hs r A l
  ·cases j
theorem DY{P:Program}{E:Env}{fr:List V}{a:Act}{ops:Array Oper}{o:Oper}{ao:bL}{b:Bool}
  (u:match o.guard with|none=>ao.guard=none|some (j,w)=>∃d,(ops[j]?).bind (·.dst)=some d∧ao.guard=some (d,w))
  (hs:∀d w,ao.guard=some (d,w)->VR (ag fr d) E (a.tmps.getD d undef))(l:wanted fr ao.guard=some b):Region.wanted o (yielded ops a.tmps)=b:=by
 unfold Region.wanted;cases r:o.guard with
 |none=>
  simp only[r]at u;simp only[u,wanted,aA]at l;exact l
 |some C=>
  obtain⟨j,w⟩:=C;simp only[r]at u;obtain⟨d,hd,A⟩:=u;have g:=hs d w A;simp only[A,wanted]at l;simp only[yielded,hd,bG];have B:a.tmps.getD d undef=(a.tmps[d]?).getD undef:=by simp[dO]
  rw[B]at g;split at l
  ·rename_i c hc
   rw[hc]at g;simp only[VR]at g;cases hx:a.tmps[d]?with
   |none=>rw[hx]at g;cases g
   |some x=>
    rw[hx]at g;simp only[dU]at g;subst g;simp only[aA]at l;simpa using l
  ·rename_i hc
   rw[hc]at g;simp only[VR,dY]at g;obtain⟨c,g,_⟩:=g;simp only[aA]at l;subst l;cases hx:a.tmps[d]?with
   |none=>simp
   |some x=>
    rw[hx]at g;simp only[dU]at g;subst g;simp
  ·cases l
theorem zS{P:Program}{m:Mode}{site n:Nat}{ops:Array Oper}{o:Oper}{ao:bL}(h:EK P m site ops n o=some ao):
  (Ex P m site o=some ao.op∨ao.op= .bad)∧ao.dst=o.dst∧o.dst.all (·<n)=true∧
   (match o.guard with|none=>ao.guard=none|some (j,w)=>∃d,(ops[j]?).bind (·.dst)=some d∧ao.guard=some (d,w)):=by
 unfold EK at h;obtain⟨op,c,h⟩:=aj.1 h;have c:Ex P m site o=some op∨op= .bad:=by
  simp only[aA]at c;cases hc:Ex P m site o with
  |none=>rw[hc]at c;exact .inr c.symm
  |some q=>rw[hc]at c;exact .inl (by rw[<-c];rfl)
 split at h
 ·rename_i hd
  split at h
  ·rename_i g;cases h;exact⟨c,rfl,hd,by simp[g]⟩
  ·rename_i j w g
   obtain⟨d,l,rfl⟩:=ae.1 h;exact⟨c,rfl,hd,by simp only[g];exact⟨d,l,rfl⟩⟩
 ·cases h
theorem Na(E:Env):VR (.eT []) E undef:=⟨#[],rfl,rfl⟩
theorem TC{P:Program}{n:Nat}{o:Oper}{w0:jT}{E:Env}{w:World}{a:Act}{fr:List V}{H:List Mem}{L c:Mem}{v:V}{s:Ix}(hd:o.dst.all (·<n)=true)(l:dR w0 E L H w)(hF:fD E fr a n)
  (u:(c=L∧s=0)∨∃(k:Nat)(r:Row),s= .o k∧c=bu L s r∧r.ver=(ax L s).ver+1)
  (sW:eD E (c::H) w->Gb E c->(s≠0->(ax L s).ver<(ax c s).ver->iH (c::H) 0 s=ax c s∧E.own 0 s (ax c s).ver=none)->QO P E (c::H) w o a v s (ax c s).ver)
  {next:Act->World->Prop}{Q:Exit->Act->World->Prop}(hn:∀a' w' F,E.Le F->dR w0 F c H w'->fD F (gW fr o.dst v) a' n->next a' w'):o.wp P a w next Q:=by
 have Y:∀s,(ax L s).ver<(ax c s).ver->E.own 0 s (ax c s).ver=none:=fun s h=>l.fresh s h;have W:∀s',ax c s'=ax L s'∨(s'=s∧(ax c s').ver=(ax L s').ver+1):=by
  intro s';rcases u with⟨rfl,_⟩|⟨k,r,_,rfl,hr⟩
  ·exact .inl rfl
  ·rw[ay]
   split
   ·rename_i e;subst e;exact .inr ⟨rfl,hr⟩
   ·exact .inl rfl
 have O:c.D=L.D∧c.b=L.b:=by
  rcases u with⟨rfl,_⟩|⟨k,r,rfl,rfl,hr⟩<;>exact⟨rfl,rfl⟩
 have hM:eD E (c::H) w:=by
  refine l.mem.change fun d s B A=> ?_;cases d with
  |succ d=>rfl
  |zero=>
   simp only[df]at A⊢;rcases W s with h|⟨_,h⟩
   ·exact h
   ·rw[Y s (by omega)]at A;cases A
 have hG:Gb E c:=⟨fun n=>by rw[O.1];exact l.Ez n,fun n v o h=>by rw[O.1];exact(l.bnd (.g n) v o h).1,l.BC⟩
 refine sW hM hG (fun _ h=>⟨rfl,Y _ h⟩) next Q ?_
 intro x w' F N uF Z U X;have R:∀s' v o,F.own 0 s' v=some o->E.own 0 s' v=some o∨(s'=s∧v=(ax c s).ver∧s≠0∧w.heap.size<=o.blk):=by
  intro s' v' B A;rcases X.own 0 s' v' B A with h|⟨_,h⟩
  ·exact .inl h
  ·exact .inr h
 refine hn _ w' F N ⟨l.below.then Z l.below.size,uF,fun s' v' B A=> ?_,fun k q C I K=> ?_,fun d s' v' B A=> ?_,fun b cs hb=> ?_,fun k=>by rw[O.1];exact l.Ez k,fun k=> ?_,fun k v' hr=> ?_⟩ ((hF.mono N).put hd U)
 ·rcases R s' v' B A with h|⟨rfl,rfl,_,h⟩
  ·have C:=l.bnd s' v' B h
   refine⟨?_,C.2⟩;rcases W s' with I|⟨_,I⟩
   ·rw[I];exact C.1
   ·omega
  ·exact⟨aJ _,fun _ _=>eO l.below.size h⟩
 ·rw[O.1]at I K
  rw[O.2]at C;rcases R _ _ _ K with h|⟨_,_,_,h⟩
  ·exact l.wr k q C I h
  ·exact .inl (eO l.below.size h)
 ·rcases X.own (d+1) s' v' B A with h|⟨h,_⟩
  ·exact l.out d s' v' B h
  ·cases h
 ·rcases X.iY b cs hb with h|h
  ·exact l.new b cs h
  ·exact .inr (.inl (eO l.below.size h))
 ·cases A:F.own 0 (.g k) 0 with
  |none=>rfl
  |some B=>
   rcases R _ _ _ A with h|⟨C,_,K,_⟩
   ·rw[l.BC k]at h;cases h
   ·rcases u with⟨_,J⟩|⟨j,r,J,_⟩
    ·exact absurd J K
    ·rw[J]at C;cases C
 ·obtain⟨T,q2⟩:=l.res k v' hr
  have U:(ax L (.o k)).ver<=(ax c (.o k)).ver:=by
   rcases W (.o k)with h|⟨_,h⟩
   ·rw[h];exact aJ _
   ·omega
  rw[YO]at T⊢;refine⟨eO T U,?_⟩;cases A:F.own 0 (.o k) v' with
  |none=>rfl
  |some B=>
   rcases R _ _ _ A with h|⟨C,I,K,_⟩
   ·rw[q2]at h;cases h
   ·rcases u with⟨_,J⟩|⟨j,r,J,rfl,h5⟩
    ·exact absurd J K
    ·rw[I,ay,aX rfl,h5,<-C]at T
     omega
theorem JR{P:Program}{m:Mode}{site n:Nat}{ops:Array Oper}{o:Oper}{ao:bL}{w0:jT}{E:Env}{w:World}{a:Act}{fr fr':List V}{cf:fU}{H:List Mem}{L L':Mem}
  (yA:iy P cf)(hc:EK P m site ops n o=some ao)(QB:0<site)(R:cO cf H ao (fr,L)=some (fr',L'))(I:dR w0 E L H w)(hF:fD E fr a n)
  {next:Act->World->Prop}{Q:Exit->Act->World->Prop}(hn:∀a' w' E',E.Le E'->dR w0 E' L' H w'->fD E' fr' a' n->next a' w'):
  if Region.wanted o (yielded ops a.tmps)then o.wp P a w next Q∨(o.asks P a w∧LetsOut Q)else next (a.put o.dst undef) w:=by
 obtain⟨hop,BI,hd,hg⟩:=zS hc;unfold cO at R;obtain⟨b,hb,R⟩:=aj.1 R;rw[DY (P:=P) hg (fun d w _=>hF.slot d) hb];cases b with
 |false=>
  simp only[bq,bZ,aA,aN]at R⊢;obtain⟨rfl,rfl⟩:=R;refine hn _ _ E (.refl _) I ?_;rw[BI];exact hF.put hd (Na E)
 |true=>
  simp only[bK]at R⊢;obtain⟨⟨v,L1⟩,g,R⟩:=ae.1 R;simp only[aN]at R;obtain⟨rfl,rfl⟩:=R;refine .inl ?_;have hop:Ex P m site o=some ao.op:=by
   rcases hop with hop|hop
   ·exact hop
   ·rw[hop]at g;cases g
  have hs:Bz E fr a (fO ao.op.dC):=fun t _=>hF.slot t;by_cases hm:ao.op.mY=false
  ·refine TC (s:=ao.op.site) (fr:=fr) (by exact hd) I hF (xZ hm g) (fun hM hG hr=>Vb yA hop QB hm g hs I.mem I.Xp hM hr) ?_
   rw[<-BI];exact hn
  have hT:YV P w0 E L1 H w o a v:=by
   cases O:ao.op<;>simp only[O,gJ.mY,oq,Je]at hm;case calla fz gl s f aEp=>
    rw[O]at hop g hs;obtain⟨c,fo,ho,hc,hf,Eu⟩:=QR hop;have dG:=hs.arg (y:=f) (by simp[gJ.dC]) hf;have YX:=xn Eu (fun t F=>hs t (by simp only[gJ.dC];rw[show f::aEp=[f]++aEp by rfl,lF];simp[F]));simp only[cZ]at g;split at g
    ·obtain⟨⟨BG,L2⟩,C,hcv⟩:=aj.1 g
     obtain⟨E2,EZ,jc,aly⟩:=M0 I YX C;simp only at hcv aly jc;have:=JQ (a:=a) yA ho hc (VR.mono EZ _ _ dG) aly hcv jc;exact fun next Q hn=>this next Q fun x w' E' W=>hn x w' E' (EZ.trans W)
    ·exact JQ yA ho hc dG YX g I
   case store nn x y=>
    rw[O]at hop g hs;obtain⟨t,A,N,ho,B,hx,T⟩:∃t A N,o.op= .store t A N∧jL P t=some nn∧jk A=some x∧jk N=some y:=by
     unfold Ex at hop;split at hop;all_goals (try(repeat' split at hop))
     all_goals (try(simp[aj,ae]at hop;done))
     all_goals first
      |(simp only[aj,ae,gJ.store.injEq]at hop
        obtain⟨nn',hnn,x',hx,y',T,rfl,rfl,rfl⟩:=hop;exact⟨_,_,_,‹o.op=Op.store _ _ _›,hnn,hx,T⟩)
      |(exfalso;revert hop;simp only[aj,ae];rintro hop;repeat(obtain⟨_,hop⟩:=hop)
        revert hop;first|(unfold uf;(repeat' split)<;>simp;done)|(unfold qh;(repeat' split)<;>simp;done)|(split<;>simp;done))
    simp only[cZ,ae,aN]at g;obtain⟨L2,sW,rfl,rfl⟩:=g;exact(QD ho B I (hs.arg (by simp[gJ.dC]) hx) (hs.arg (by simp[gJ.dC]) T) sW).step
   case mins mk x i v'=>
    rw[O]at hop g hs;obtain⟨t,Y,et,A,Z,vo,ho,F,hk,hx,J,U⟩:∃t Y et A Z vo,o.op= .insert t A Z vo∧P.underlying t=some (.map Y et)∧LG P Y=some mk∧jk A=some x∧jk Z=some i∧jk vo=some v':=by
     unfold Ex at hop;split at hop;all_goals (try(repeat' split at hop))
     all_goals (try(simp[aj,ae]at hop;done))
     all_goals first
      |(simp only[aj,ae,gJ.mins.injEq]at hop
        obtain⟨m',hm,x',hx,i',J,v'',U,rfl,rfl,rfl,rfl⟩:=hop;exact⟨_,_,_,_,_,_,‹o.op=Op.insert _ _ _ _›,‹_=some (TypeDesc.map _ _)›,hm,hx,J,U⟩)
      |(exfalso;revert hop;simp only[aj,ae];rintro hop;repeat(obtain⟨_,hop⟩:=hop)
        revert hop;first|(unfold uf;(repeat' split)<;>simp;done)|(unfold qh;(repeat' split)<;>simp;done)|((repeat' split)<;>simp;done))
    simp only[cZ,ae,aN]at g;obtain⟨L2,sW,rfl,rfl⟩:=g;exact(JJ (.inr ho) F hk I (hs.arg (by simp[gJ.dC]) hx) (hs.arg (by simp[gJ.dC]) J) (hs.arg (by simp[gJ.dC]) U) (Xj sW)).step
   case mput mk x i v'=>
    rw[O]at hop g hs;obtain⟨t,Y,et,A,Z,vo,ho,F,hk,hx,J,U⟩:∃t Y et A Z vo,o.op= .mapUpdate t A Z vo∧P.underlying t=some (.map Y et)∧LG P Y=some mk∧jk A=some x∧jk Z=some i∧jk vo=some v':=by
     unfold Ex at hop;split at hop;all_goals (try(repeat' split at hop))
     all_goals (try(simp[aj,ae]at hop;done))
     all_goals first
      |(simp only[aj,ae,gJ.mput.injEq]at hop
        obtain⟨m',hm,x',hx,i',J,v'',U,rfl,rfl,rfl,rfl⟩:=hop;exact⟨_,_,_,_,_,_,‹o.op=Op.mapUpdate _ _ _ _›,‹_=some (TypeDesc.map _ _)›,hm,hx,J,U⟩)
      |(exfalso;revert hop;simp only[aj,ae];rintro hop;repeat(obtain⟨_,hop⟩:=hop)
        revert hop;first|(unfold uf;(repeat' split)<;>simp;done)|(unfold qh;(repeat' split)<;>simp;done)|((repeat' split)<;>simp;done))
    simp only[cZ,ae,aN]at g;obtain⟨L2,sW,rfl,rfl⟩:=g;exact(JJ (.inl ho) F hk I (hs.arg (by simp[gJ.dC]) hx) (hs.arg (by simp[gJ.dC]) J) (hs.arg (by simp[gJ.dC]) U) sW).step
   case litf sh nn z len q=>
    rw[O]at hop g hs;obtain⟨t,e,j,ho,F,B,C,II,X,Oo,hq⟩:∃(t e:TypeId)(j:Array (Nat×Operand)),o.op= .buildSlice t len j∧P.underlying t=some (.slice e)∧jL P e=some nn∧nG P e=some z∧
      z.length=nn∧0<nn∧len*nn<=16777216∧oD (fun i=>some (i*nn,nn)) j.toList=some q:=by
     unfold Ex at hop;split at hop;all_goals (try(repeat' split at hop))
     all_goals (try(simp[aj,ae]at hop;done))
     all_goals first
      |(simp only[aj]at hop
        obtain⟨n',B,z',wM,hop⟩:=hop;split at hop
        ·rename_i K
         obtain⟨q',Qe,hop⟩:=ae.1 hop;unfold uf at hop;(repeat' split at hop)<;>cases hop<;>exact⟨_,_,_,‹o.op=Op.buildSlice _ _ _›,‹_=some (TypeDesc.slice _)›,B,wM,K.1,K.2.1,K.2.2,Qe⟩
        ·cases hop)
      |(exfalso;revert hop;simp only[aj,ae];rintro hop;repeat(obtain⟨_,hop⟩:=hop)
        revert hop;first|(unfold uf;(repeat' split)<;>simp;done)|(unfold qh;(repeat' split)<;>simp;done)|((repeat' split)<;>simp;done))
    exact(Tp ho F B C II X Oo hq hs I g).step
   case litr st nn z len q=>
    rw[O]at hop g hs;obtain⟨t,e,j,ho,F,B,C,II,X,Oo,hq⟩:∃(t e:TypeId)(j:Array (Nat×Operand)),o.op= .buildSlice t len j∧P.underlying t=some (.slice e)∧jL P e=some nn∧nG P e=some z∧
      z.length=nn∧0<nn∧len*nn<=16777216∧oD (fun i=>some (i*nn,nn)) j.toList=some q:=by
     unfold Ex at hop;split at hop;all_goals (try(repeat' split at hop))
     all_goals (try(simp[aj,ae]at hop;done))
     all_goals first
      |(simp only[aj]at hop
        obtain⟨n',B,z',wM,hop⟩:=hop;split at hop
        ·rename_i K
         obtain⟨q',Qe,hop⟩:=ae.1 hop;unfold uf at hop;(repeat' split at hop)<;>cases hop<;>exact⟨_,_,_,‹o.op=Op.buildSlice _ _ _›,‹_=some (TypeDesc.slice _)›,B,wM,K.1,K.2.1,K.2.2,Qe⟩
        ·cases hop)
      |(exfalso;revert hop;simp only[aj,ae];rintro hop;repeat(obtain⟨_,hop⟩:=hop)
        revert hop;first|(unfold uf;(repeat' split)<;>simp;done)|(unfold qh;(repeat' split)<;>simp;done)|((repeat' split)<;>simp;done))
    exact(Tz ho F B C II X Oo hq hs I g).step
   case app s sz by' x y=>
    rw[O]at hop g hs;obtain⟨c,t,u,e,e',A,N,i,z,ho,hcl,hts,Eu,F,hu,J,C,hx,T,X,II,rfl,rfl⟩:∃(c:Call)(t u e e':TypeId)(A N:Operand)(i:TypeInfo)(z:List V),o.op= .call c∧c.callee= .builtin .append∧c.argTypes.toList=[t,u]∧c.args.toList=[A,N]∧
      P.underlying t=some (.slice e)∧P.underlying u=some (.slice e')∧P.info? e=some i∧nG P e=some z∧jk A=some x∧jk N=some y∧0<i.size∧z.length=i.size∧sz=i.size∧by'=i.bytes:=by
     unfold Ex at hop;split at hop;all_goals (try(repeat' split at hop))
     all_goals (try(simp[aj,ae]at hop;done))
     all_goals first
      |(simp only[aj]at hop
        obtain⟨i,J,z,C,x',hx,y',T,hop⟩:=hop;split at hop
        ·rename_i K
         simp only[aA,gJ.app.injEq]at hop;obtain⟨rfl,rfl,rfl,rfl,rfl⟩:=hop;exact⟨_,_,_,_,_,_,_,i,z,‹o.op=Op.call _›,‹_=Callee.builtin Builtin.append›,‹_=[_,_]›,‹_=[_,_]›,‹_=some (TypeDesc.slice _)›,‹_=some (TypeDesc.slice _)›,J,C,hx,T,K.1,K.2.2,rfl,rfl⟩
        ·cases hop)
      |(exfalso;revert hop;simp only[aj,ae];rintro hop;repeat(obtain⟨_,hop⟩:=hop)
        revert hop;first|(unfold uf;(repeat' split)<;>simp;done)|(unfold qh;(repeat' split)<;>simp;done)|((repeat' split)<;>simp;done))
    simp only[cZ]at g;have e1:c.argTypes= #[t,u]:=by rw[<-jr (xs:=c.argTypes),hts]
    have e2:c.args= #[A,N]:=by rw[<-jr (xs:=c.args),Eu]
    refine(Xl (vx:=a.eval A) (vy:=a.eval N) ?_ F hu J C II X I (hs.arg (by simp[gJ.dC]) hx) (hs.arg (by simp[gJ.dC]) T) g).step;intro r w' h;simp[execOp,ho,resolve,hcl,invoke,builtin,e1,e2,h]
   case galloc z=>
    rw[O]at hop g hs;obtain⟨t,ho,C⟩:∃t,o.op= .alloc t∧nG P t=some z:=by
     unfold Ex at hop;split at hop;all_goals (try(repeat' split at hop))
     all_goals (try(simp[aj,ae]at hop;done))
     all_goals first
      |(simp only[ae]at hop
        obtain⟨z',C,hop⟩:=hop;cases hop;exact⟨_,‹o.op=Op.alloc _›,C⟩)
      |(exfalso;revert hop;simp only[aj,ae];rintro hop;repeat(obtain⟨_,hop⟩:=hop)
        revert hop;first|(unfold uf;(repeat' split)<;>simp;done)|(unfold qh;(repeat' split)<;>simp;done)|((repeat' split)<;>simp;done))
    exact(Ox ho C I g).step
   case gbox x=>
    rw[O]at hop g hs;obtain⟨t,A,ho,hx⟩:∃t A,o.op= .box t A∧jk A=some x:=by
     unfold Ex at hop;split at hop;all_goals (try(repeat' split at hop))
     all_goals (try(simp[aj,ae]at hop;done))
     all_goals first
      |(simp only[ae]at hop
        obtain⟨x',hx,hop⟩:=hop;cases hop;exact⟨_,_,‹o.op=Op.box _ _›,hx⟩)
      |(exfalso;revert hop;simp only[aj,ae];rintro hop;repeat(obtain⟨_,hop⟩:=hop)
        revert hop;first|(unfold uf;(repeat' split)<;>simp;done)|(unfold qh;(repeat' split)<;>simp;done)|((repeat' split)<;>simp;done))
    exact(Tx ho (hs.arg (by simp[gJ.dC]) hx) I g).step
   case gmkmap=>
    rw[O]at hop g hs;obtain⟨t,k,e,ho,F⟩:∃t k e,o.op= .makeMap t none∧P.underlying t=some (.map k e):=by
     unfold Ex at hop;split at hop;all_goals (try(repeat' split at hop))
     all_goals (try(simp[aj,ae]at hop;done))
     all_goals first
      |(simp only[ae]at hop
        obtain⟨k',hk,hop⟩:=hop;exact⟨_,_,_,‹o.op=Op.makeMap _ _›,‹_=some (TypeDesc.map _ _)›⟩)
      |(exfalso;revert hop;simp only[aj,ae];rintro hop;repeat(obtain⟨_,hop⟩:=hop)
        revert hop;first|(unfold uf;(repeat' split)<;>simp;done)|(unfold qh;(repeat' split)<;>simp;done)|((repeat' split)<;>simp;done))
    exact(Oy ho F I g).step
   case gmks sz z by' l c=>
    rw[O]at hop g hs;obtain⟨t,e,i,A,N,ho,F,J,C,hx,T,II,X,rfl,rfl⟩:∃(t e:TypeId)(i:TypeInfo)(A N:Operand),o.op= .makeSlice t A N∧P.underlying t=some (.slice e)∧P.info? e=some i∧nG P e=some z∧jk A=some l∧jk N=some c∧z.length=i.size∧0<i.size∧sz=i.size∧by'=i.bytes:=by
     unfold Ex at hop;split at hop;all_goals (try(repeat' split at hop))
     all_goals (try(simp[aj,ae]at hop;done))
     all_goals first
      |(simp only[aj]at hop
        obtain⟨i,J,z',C,l',hl,c',hc',hop⟩:=hop;split at hop
        ·rename_i K
         cases hop;exact⟨_,_,i,_,_,‹o.op=Op.makeSlice _ _ _›,‹_=some (TypeDesc.slice _)›,J,C,hl,hc',K.1,K.2,rfl,rfl⟩
        ·cases hop)
      |(exfalso;revert hop;simp only[aj,ae];rintro hop;repeat(obtain⟨_,hop⟩:=hop)
        revert hop;first|(unfold uf;(repeat' split)<;>simp;done)|(unfold qh;(repeat' split)<;>simp;done)|((repeat' split)<;>simp;done))
    exact(Ty ho F J C II X (hs.arg (by simp[gJ.dC]) hx) (hs.arg (by simp[gJ.dC]) T) I g).step
   case clr sz z x=>
    rw[O]at hop g hs;obtain⟨c,t,e,A,ho,hcl,h1,h2,F,B,C,X,hx⟩:∃(c:Call)(t e:TypeId)(A:Operand),o.op= .call c∧c.callee= .builtin .clear∧c.argTypes.toList=[t]∧c.args.toList=[A]∧P.underlying t=some (.slice e)∧jL P e=some sz∧nG P e=some z∧0<sz∧jk A=some x:=by
     unfold Ex at hop;split at hop;all_goals (try(repeat' split at hop))
     all_goals (try(simp[aj,ae]at hop;done))
     all_goals first
      |(simp only[aj]at hop
        obtain⟨n',B,z',C,x',hx,hop⟩:=hop;split at hop
        ·rename_i K
         cases hop;exact⟨_,_,_,_,‹o.op=Op.call _›,‹_=Callee.builtin Builtin.clear›,‹_=[_]›,‹_=[_]›,‹_=some (TypeDesc.slice _)›,B,C,K.2,hx⟩
        ·cases hop)
      |(exfalso;revert hop;simp only[aj,ae];rintro hop;repeat(obtain⟨_,hop⟩:=hop)
        revert hop;first|(unfold uf;(repeat' split)<;>simp;done)|(unfold qh;(repeat' split)<;>simp;done)|((repeat' split)<;>simp;done))
    exact(Xm ho hcl h1 h2 F B C X (hs.arg (by simp[gJ.dC]) hx) I g).step
  refine hT next Q fun x w' E' W wZ U=> ?_
  exact hn _ w' E' W wZ (by rw[BI];exact(hF.mono W).put hd U)
end Go.Ht

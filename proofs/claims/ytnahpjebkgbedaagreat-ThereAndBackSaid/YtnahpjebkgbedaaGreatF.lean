/- Part of the proof of ThereAndBack: what the program's functions compute on the abstract machine, and that it answers as the law says. No condition. -/
import Derived.Test.YtnahpjebkgbedaaGreatE
set_option linter.all false
set_option maxRecDepth 100000
set_option maxHeartbeats 16000000
namespace Go.Proofs.YtnahpjebkgbedaaGreat
open Go Go.Ht
variable{H:List Mem}
theorem Rx{α:Type}{l:List α}{i:Nat}{x:α}{p:α->Bool}(h:l[i]? =some x):(l.take (i+1)).any p=((l.take i).any p||p x):=by
 rw[aY,h,List.any_append];simp
theorem aib{a x:Bool}:(a&& !(x||true))=false:=by cases a<;>cases x<;>rfl
theorem Ug{r:Option (V×Option (List Row))}{Q:List Row->Prop}(h:∀T:Option (V×Option (List Row))->Prop,(∀c,Q c->T (some (.eT [],some c)))->T r):∃c,r=some (.eT [],some c)∧Q c:=h (fun r=>∃c,r=some (.eT [],some c)∧Q c) (fun c g=>⟨c,rfl,g⟩)
theorem c79{L:Mem}{q:Nat}{s:Sc}{rule n:Int}{F:List Sn}{n0:Nat}{b0:Bool}(st:uj L q s rule n0 b0)(hn0:n0<=800000)(ok:kN s)(id:Ub s n)(hs:F2 (xz s) s.sp F):∃J,call bn 79 [.ptr 0 (.g q) 1 0 0] (L::H)=some (.eT [],some J)∧∀M:Mem,M.D=J->M.b=L.b->uj M q s rule (n0+6) (b0&& !F.any Sn.bad):=by
 refine Ug (Q:=fun J=>∀M:Mem,M.D=J->M.b=L.b->uj M q s rule _ _) fun T fin=> ?_;have hF:uj (Ht.start false (L::H)) q s rule n0 b0:=st.own rfl rfl;have u:(Ht.start false (L::H)).b=L.b:=rfl;have hl:=ok.sp;have f1:=(VW hs).1;rw[av (f:=79) (by conv=>lhs;reduce)];simp only[↓zo,zp,seval];generalize Ht.start false (L::H)=L0 at*;obtain⟨lv,N⟩:=hF.row;have c:=ane (H:=L::H) N ok id hs;have U:(s.v++[.i rule,lv])[4]? =some (cu 7 (s.sp.map Sp.v)):=rfl;clear ok id hs;simp(disch:=omega) only[↓zd,seval,push_cast,N,c,U,dS];refine qR (fun j fr I=>ag fr 0= .ptr 0 (.g q) 1 0 0∧ag fr 15=cu 7 (s.sp.map Sp.v)∧ag fr 16= .i s.sp.length∧ag fr 17= .i j∧ag fr 3=cu 1 (F.map fun y=>Bv y.bad)∧I.b=L.b∧uj I q s rule (n0+j) (b0&& !(F.take j).any Sn.bad)) s.sp.length ?_ ?_ ?_
 ·refine⟨?_,?_,?_,?_,?_,?_,?_⟩
  (all_goals try simp only[↓zg,seval]);all_goals try first|rfl|trivial|(simp only[zr,seval];done)
  all_goals (first|exact u|exact(hF.mono (by omega) (by simp))|skip)
 ·clear N u hF fin c U
  rintro j fr I hj ⟨B,r,l,O,A,u,hF⟩ next
  obtain⟨p,hf⟩:∃x,s.sp[j]? =some x:=⟨_,ak hj⟩
  obtain⟨y,W⟩:∃x,F[j]? =some x:=⟨_,ak (by omega)⟩
  obtain⟨J,a1,a2⟩:=Gm (a:=1) (b:=p.id) hF (by omega);have aa:=fun r1 r2=>a1 (bu (bu I (.o 1) r1) (.o 1) r2) (L::H) rfl rfl;have p1:=p.sz.1;have Z:=p.tk;have Y:=p.sc;have X:p.v.take 2=[.i 1,.i p.id]:=rfl;have R:(Bv y.bad)[0]? =some (.bool y.bad):=rfl;have K:=Rx (p:=Sn.bad) W;cases C:y.bad with
  |true=>
   rw[C]at R K;clear a1;simp(disch:=omega) only[↓zd,seval,push_cast,B,r,l,O,A,hf,W,C,p1,Z,Y,X,R,aa];refine next _ _ ⟨?_,?_,?_,?_,?_,?_,?_⟩
   (all_goals try simp only[↓zg,seval,B,r,l,A]);all_goals try first|rfl|trivial|(simp only[zr,seval,B,r,l,A];done)
   all_goals (first|exact u|skip)
   refine uj.mono (a2 _ rfl rfl) ?_ ?_
   ·omega
   ·rw[K];exact aib.symm
  |false=>
   rw[C]at R K;clear a1;simp(disch:=omega) only[↓zd,seval,push_cast,B,r,l,O,A,hf,W,C,p1,Z,Y,X,R,uK];refine next _ _ ⟨?_,?_,?_,?_,?_,?_,?_⟩
   (all_goals try simp only[↓zg,seval,B,r,l,A]);all_goals try first|rfl|trivial|(simp only[zr,seval,B,r,l,A];done)
   all_goals (first|exact u|skip)
   refine uj.mono (hF.own rfl rfl) ?_ ?_
   ·omega
   ·rw[K,yR]
 ·rintro fr I ⟨B,r,l,O,A,u,hF⟩
  rw[aO (by omega)]at hF;clear N c U;simp(disch:=omega) only[↓zd,seval,push_cast,l,O];exact fin _ fun M hD C=>(hF.own hD (by rw[C,u])).mono (by omega) rfl
def Ry(ig:List Sn)(i:Nat)(x:Sn):Bool:= !x.bad&&(ig.take i).any fun y=> !y.bad&&y.O9 x
def Hq(ig:List Sn)(i:Nat):Bool:=match ig[i]?with|some x=>Ry ig i x|none=>false
theorem c80{L:Mem}{q:Nat}{s:Sc}{rule n:Int}{C:List Sn}{n0:Nat}{b0:Bool}(st:uj L q s rule n0 b0)(hn0:n0<=800000)(ok:kN s)(id:Ub s n)(hs:F2 (xz s) s.sp C):∃D',call bn 80 [.ptr 0 (.g q) 1 0 0] (L::H)=some (.eT [],some D')∧∀M:Mem,M.D=D'->M.b=L.b->uj M q s rule (n0+6) (b0&& !(List.range s.sp.length).any (Hq C)):=by
 refine Ug (Q:=fun D'=>∀M:Mem,M.D=D'->M.b=L.b->uj M q s rule _ _) fun T fin=> ?_;have hF:uj (Ht.start false (L::H)) q s rule n0 b0:=st.own rfl rfl;have K:(Ht.start false (L::H)).b=L.b:=rfl;have hl:=ok.sp;have f1:=(VW hs).1;have oks:∀(j:Nat)(y:Sn),C[j]? =some y->Rw y:=by
  intro j y hy;have hj:j<s.sp.length:=by rw[f1];exact(au.1 hy).1
  obtain⟨y',h1,l⟩:=(VW hs).2 j _ (ak hj);rw[hy]at h1;injection h1 with h1
  subst h1;exact l.ok ok
 rw[av (f:=80) (by conv=>lhs;reduce)];simp only[↓zo,zp,seval];generalize Ht.start false (L::H)=L0 at*;obtain⟨lv,kM⟩:=hF.row;have c:=ane (H:=L::H) kM ok id hs;have t3:(s.v++[.i rule,lv])[4]? =some (cu 7 (s.sp.map Sp.v)):=rfl;clear ok id hs;simp(disch:=omega) only[↓zd,seval,push_cast,kM,c,t3,dS];refine qR (fun j fr N=>ag fr 0= .ptr 0 (.g q) 1 0 0∧ag fr 17=cu 7 (s.sp.map Sp.v)∧ag fr 18= .i s.sp.length∧ag fr 19= .i j∧ag fr 2=cu 9 (C.map Sn.v)∧ag fr 3=cu 1 (C.map fun y=>Bv y.bad)∧N.b=L.b∧uj N q s rule (n0+j) (b0&& !(List.range j).any (Hq C))) s.sp.length ?_ ?_ ?_
 ·refine⟨?_,?_,?_,?_,?_,?_,?_,?_⟩
  (all_goals try simp only[↓zg,seval]);all_goals try first|rfl|trivial|(simp only[zr,seval];done)
  all_goals (first|exact K|exact(hF.mono (by omega) Gn)|skip)
 ·clear kM K hF fin c t3
  rintro j fr N hj ⟨u,A,r,I,l,B,K,hF⟩ next
  obtain⟨p,hf⟩:∃x,s.sp[j]? =some x:=⟨_,ak hj⟩
  obtain⟨x,hx⟩:∃x,C[j]? =some x:=⟨_,ak (by omega)⟩
  have Y:= @Kn b0 j (Hq C);have hex:Hq C j=Ry C j x:=by unfold Hq;rw[hx]
  rw[hex]at Y;have ox:=oks j x hx;have p1:=p.sz.1;have p2:=p.tk;have p3:=p.sc;have p4:p.v.take 2=[.i 1,.i p.id]:=rfl;have e1:(Bv x.bad)[0]? =some (.bool x.bad):=rfl;have xv1:=x.sz.1;have xv2:=x.sz.2;have xv3:=x.tk;simp(disch:=omega) only[↓zd,seval,push_cast,u,A,r,I,hf,p1,p2,p3,p4];have hF:uj (bu (bu N (.o 1) ⟨(ax N (.o 1)).ver+1,7,[[.i 0,.i 0,.i 0,.i 0,.i 0,.i 0,.i 0]],false⟩) (.o 1) ⟨(ax N (.o 1)).ver+1,7,[p.v],false⟩) q s rule (n0+j) (b0&& !(List.range j).any (Hq C)):=hF.own rfl rfl;refine qR (fun k fr N=>ag fr 0= .ptr 0 (.g q) 1 0 0∧ag fr 17=cu 7 (s.sp.map Sp.v)∧ag fr 18= .i s.sp.length∧ag fr 19= .i j∧ag fr 2=cu 9 (C.map Sn.v)∧ag fr 3=cu 1 (C.map fun y=>Bv y.bad)∧N.b=L.b∧uj N q s rule (n0+j) (b0&& !(List.range j).any (Hq C))∧ag fr 4= .i j∧ag fr 7= .i k∧ag fr 6= .bool ((C.take k).any fun y=> !y.bad&&y.O9 x)∧(x.bad=true->k=0)∧∃ver,0<ver∧ag fr 5= .ptr 0 (.o 1) ver 0 0∧ax N (.o 1)=⟨ver,7,[p.v],false⟩) j ?_ ?_ ?_
  ·refine⟨?_,?_,?_,?_,?_,?_,?_,hF,?_,?_,?_,fun _=>rfl,(ax N (.o 1)).ver+1,by omega,?_,?_⟩
   (all_goals try simp only[↓zg,seval,u,A,r,I,l,B]);all_goals try first|rfl|trivial|(simp only[zr,seval,u,A,r,I,l,B];done)
   all_goals (first|exact K|skip)
  ·clear u A r I l B K hF
   rintro k fr N hk ⟨u,A,r,I,l,B,K,hF,X,h7,R,J,ver,hv,W,U⟩ Hr;cases O:x.bad with
   |true=>
    obtain rfl:=J O;have F:Ry C j x=false:=by unfold Ry;rw[O];rfl
    rw[O]at e1;rw[F]at Y;rw[fZ,List.any_nil]at R;rw[Int.natCast_zero]at h7;clear Hr oks ox J;simp(disch:=omega) only[↓zd,seval,push_cast,u,A,r,I,l,B,X,h7,R,W,U,hx,O,e1,p1,p4,uK];refine next _ _ ⟨?_,?_,?_,?_,?_,?_,?_,?_⟩
    (all_goals try simp only[↓zg,seval,u,A,r,l,B]);all_goals try first|rfl|trivial|(simp only[zr,seval,u,A,r,l,B];done)
    all_goals (first|exact K|skip)
    refine uj.mono (hF.own rfl rfl) ?_ ?_
    ·omega
    ·rw[<-Y];simp
   |false=>
    rw[O]at e1;obtain⟨y,hy⟩:∃x,C[k]? =some x:=⟨_,ak (by omega)⟩
    have oy:=oks k y hy;have cf:=fun H=>atT (H:=H) oy ox;have ta:=Rx (p:=fun y=> !y.bad&&y.O9 x) hy;cases hE:(C.take k).any (fun y=> !y.bad&&y.O9 x)with
    |true=>
     have F:Ry C j x=true:=by
      unfold Ry;rw[O];have:(C.take j).any (fun y=> !y.bad&&y.O9 x)=true:=by
       obtain⟨y,h1,l⟩:=fe.1 hE;exact fe.2 ⟨y,(List.take_subset_take_left C (by omega)) h1,l⟩
      rw[this];rfl
     rw[F]at Y;rw[hE]at R;obtain⟨D',a1,a2⟩:=Gm (a:=1) (b:=p.id) hF (by omega);have aa:=a1 N (L::H) rfl rfl;clear Hr oks ox oy J a1 ta;simp(disch:=omega) only[↓zd,seval,push_cast,u,A,r,I,l,B,X,h7,R,W,U,hx,O,e1,p1,p4,aa];refine next _ _ ⟨?_,?_,?_,?_,?_,?_,?_,?_⟩
     (all_goals try simp only[↓zg,seval,u,A,r,l,B]);all_goals try first|rfl|trivial|(simp only[zr,seval,u,A,r,l,B];done)
     all_goals (first|exact K|skip)
     refine uj.mono (a2 _ rfl rfl) ?_ ?_
     ·omega
     ·rw[<-Y];simp
    |false=>
     rw[hE]at R ta;have e2:(Bv y.bad)[0]? =some (.bool y.bad):=rfl;have yv1:=y.sz.1;have yv2:=y.sz.2;have yv3:=y.tk;cases Z:y.bad with
     |true=>
      rw[Z]at e2 ta;clear next oks ox oy J
      simp(disch:=omega) only[↓zd,seval,push_cast,u,A,r,I,l,B,X,h7,R,W,U,hx,hy,O,Z,e1,e2];refine Hr _ _ ⟨?_,?_,?_,?_,?_,?_,K,hF,?_,?_,?_,?_,ver,hv,?_,?_⟩;(all_goals try simp only[↓zg,seval,u,A,r,I,l,B,X,W,U,ta,nL,iW,yR]);all_goals try first|rfl|trivial|(simp only[zr,seval,u,A,r,I,l,B,X,W,U,ta,nL,iW,yR];done)
      all_goals (intro h;rw[O]at h;cases h)
     |false=>
      rw[Z]at e2 ta;clear next oks ox oy J
      simp(disch:=omega) only[↓zd,seval,push_cast,u,A,r,I,l,B,X,h7,R,W,U,hx,hy,O,Z,e1,e2,yv1,yv2,yv3,xv1,xv2,xv3,cf];refine Hr _ _ ⟨?_,?_,?_,?_,?_,?_,K,hF,?_,?_,?_,?_,ver,hv,?_,?_⟩;(all_goals try simp only[↓zg,seval,u,A,r,I,l,B,X,W,U,ta,nT,l9,iK]);all_goals try first|rfl|trivial|(simp only[zr,seval,u,A,r,I,l,B,X,W,U,ta,nT,l9,iK];done)
      all_goals (intro h;rw[O]at h;cases h)
  ·clear u A r I l B K hF
   rintro fr N ⟨u,A,r,I,l,B,K,hF,X,h7,R,J,ver,hv,W,U⟩;have F:Ry C j x=(C.take j).any (fun y=> !y.bad&&y.O9 x):=by
    unfold Ry;cases O:x.bad with
    |true=>obtain rfl:=J O;rfl
    |false=>rfl
   rw[F]at Y;cases hE:(C.take j).any (fun y=> !y.bad&&y.O9 x)with
   |true=>
    rw[hE]at R Y;obtain⟨D',a1,a2⟩:=Gm (a:=1) (b:=p.id) hF (by omega);have aa:=a1 N (L::H) rfl rfl;clear oks ox J a1 F;simp(disch:=omega) only[↓zd,seval,push_cast,u,A,r,I,l,B,X,h7,R,W,U,p1,p4,aa];refine next _ _ ⟨?_,?_,?_,?_,?_,?_,?_,?_⟩
    (all_goals try simp only[↓zg,seval,u,A,r,l,B]);all_goals try first|rfl|trivial|(simp only[zr,seval,u,A,r,l,B];done)
    all_goals (first|exact K|skip)
    refine uj.mono (a2 _ rfl rfl) ?_ ?_
    ·omega
    ·rw[<-Y];simp
   |false=>
    rw[hE]at R Y;clear oks ox J F;simp(disch:=omega) only[↓zd,seval,push_cast,u,A,r,I,l,B,X,h7,R,W,U,p1,p4,uK];refine next _ _ ⟨?_,?_,?_,?_,?_,?_,?_,?_⟩
    (all_goals try simp only[↓zg,seval,u,A,r,l,B]);all_goals try first|rfl|trivial|(simp only[zr,seval,u,A,r,l,B];done)
    all_goals (first|exact K|skip)
    refine uj.mono (hF.own rfl rfl) ?_ ?_
    ·omega
    ·rw[<-Y];simp
 ·rintro fr N ⟨u,A,r,I,l,B,K,hF⟩
  clear kM c t3 oks;simp(disch:=omega) only[↓zd,seval,push_cast,r,I];exact fin _ fun M hD hb=>(hF.own hD (by rw[hb,K])).mono (by omega) rfl
theorem atV{m:Me}{i:Int}(of:O4 m):call bn 144 [.i i,.agg m.v] H=some (.bool false,none):=by
 have x1:=m.sz.1;have j:=m.sc;have c:m.v[13]? =some (.i m.re):=rfl;have g:m.v[14]? =some (.i 0):=rfl;have re:=of.re;clear of;refine(av (by conv=>lhs;reduce)).trans ?_;simp only[↓zo,zp,seval];rcases re with re|re|re<;>rw[re]at c<;>simp(disch:=omega) only[↓zd,seval,push_cast,x1,j,c,g,BV]
def Rz(m:Me)(st:Bool):Bool:=if m.re=0 then m.rs||st else false
def XM(m:Me)(n:Int):Int:=if m.re=0 then(if m.rs then 1 else n+1)else 0
theorem atW{m:Me}{st:Bool}{n:Int}(of:O4 m)(hn:0<=n∧n<=1000):call bn 145 [.agg [.bool st,.i n,.i 0,.i 0,.bool false,.i 0],.agg m.v] H=some (.eT [.agg (if m.rs&&st then[.bool st,.i n,.i 0,.i 0,.bool false,.i 0]else[.bool (Rz m st),.i (XM m n),.i 0,.i 0,.bool false,.i 0]),.bool (!(m.rs&&st))],none):=by
 have x1:=m.sz.1;have j:=m.sc;have x5:m.v[12]? =some (.bool m.rs):=rfl;have c:m.v[13]? =some (.i m.re):=rfl;have g:m.v[14]? =some (.i 0):=rfl;have re:=of.re;clear of;unfold Rz XM;refine(av (by conv=>lhs;reduce)).trans ?_;simp only[↓zo,zp,seval];cases l:m.rs<;>rw[l]at x5
 ·rcases re with re|re|re<;>rw[re]at c⊢<;>simp(disch:=omega) only[↓zd,seval,push_cast,x1,j,x5,c,g]
 ·cases st
  ·rcases re with re|re|re<;>rw[re]at c⊢<;>simp(disch:=omega) only[↓zd,seval,push_cast,x1,j,x5,c,g]
  ·simp(disch:=omega) only[↓zd,seval,push_cast,x1,j,x5,c,g]
def xA:List Me->Bool->Bool
 |[],st=>st
 |m::l,st=>if m.rs&&st then true else xA l (Rz m st)
theorem uj.anf{L:Mem}{q:Nat}{s:Sc}{rule:Int}{n:Nat}{b:Bool}(h:uj L q s rule n b):∃lv k,ax L (.g q)=⟨1,8,[s.v++[.i rule,lv]],false⟩∧AQ lv=some (.i (k:Nat))∧(∀d,V.shift d lv=lv)∧k<=n∧decide (k=0)=b:=by
 obtain⟨els,⟨A,u,lv,r,c⟩,l,j⟩:=h;refine⟨lv,els.length,r,?_,?_,l,?_⟩
 ·rcases c with⟨rfl,rfl⟩|⟨_,p,ver,_,_,_,_,rfl,_⟩<;>rfl
 ·intro d;rcases c with⟨rfl,rfl⟩|⟨_,p,ver,_,_,_,_,rfl,_⟩<;>rfl
 ·rw[<-j.1];cases els<;>simp
theorem c81{L:Mem}{q:Nat}{s:Sc}{rule:Int}{n0:Nat}{b0:Bool}(st:uj L q s rule n0 b0)(hn0:n0<=800000)(ok:kN s):∃r,call bn 81 [.ptr 0 (.g q) 1 0 0] (L::H)=some (.eT [],some r)∧∀M:Mem,M.D=r->M.b=L.b->uj M q s rule (n0+1) (b0&& !xA s.ms false):=by
 refine Ug (Q:=fun r=>∀M:Mem,M.D=r->M.b=L.b->uj M q s rule _ _) fun T fin=> ?_;have hF:uj (Ht.start false (L::H)) q s rule n0 b0:=st.own rfl rfl;have l:(Ht.start false (L::H)).b=L.b:=rfl;have hl:=ok.ml;have u:=ok.mf;rw[av (f:=81) (by conv=>lhs;reduce)];simp only[↓zo,zp,seval];generalize Ht.start false (L::H)=L0 at*;obtain⟨lv,kk,Y,hlv,Da,hkk,_⟩:=hF.anf;have c:=Ee (H:=L::H) (L:=L0) (q:=q) (f:=144) (caps:=[]) (s:=s) (rule:=rule) (lv:=lv) Y (by omega) (fun i m hm N hN=>atV (ok.mf m (ah hm)));have J:(s.v++[.i rule,lv])[3]? =some (cu 22 (s.ms.map Me.v)):=rfl;have Z:(s.v++[.i rule,lv])[7]? =some lv:=rfl;clear ok;simp(disch:=omega) only[↓zd,seval,push_cast,Y,c,J,Z,hlv,Da,dS];refine qR (fun j fr F=>ag fr 0= .ptr 0 (.g q) 1 0 0∧ag fr 26=cu 22 (s.ms.map Me.v)∧ag fr 27= .i s.ms.length∧ag fr 28= .i j∧F.b=L.b∧uj F q s rule n0 b0∧∃(g:Bool)(n:Int)(ver:Nat),0<=n∧n<=j∧xA s.ms false=xA (s.ms.drop j) g∧0<ver∧ag fr 3= .ptr 0 (.o 1) ver 0 0∧ax F (.o 1)=⟨ver,6,[[.bool g,.i n,.i 0,.i 0,.bool false,.i 0]],false⟩) s.ms.length ?_ ?_ ?_
 ·refine⟨?_,?_,?_,?_,?_,?_,false,0,(ax L0 (.o 1)).ver+1,by omega,by omega,rfl,by omega,?_,?_⟩
  (all_goals try simp only[↓zg,seval]);all_goals try first|rfl|trivial|(simp only[zr,seval];done)
  all_goals (first|exact l|exact(hF.own rfl rfl)|skip)
 ·clear Y c J Z l hF
  rintro j fr F hj ⟨C,K,Yv,X,l,hF,g,n,ver,CE,Nr,hbd,hv,B,A⟩ next
  obtain⟨m,hf⟩:∃x,s.ms[j]? =some x:=⟨_,ak hj⟩
  have I:=fun H=>atW (H:=H) (m:=m) (st:=g) (n:=n) (u m (ah hf)) (by omega);have hd:s.ms.drop j=m::s.ms.drop (j+1):=by
   obtain⟨_,rfl⟩:=au.1 hf;exact gv hj
  rw[hd,xA]at hbd;have R:=m.sz.1;have p2:=m.tk;have p3:=m.sc;have O:m.v.take 2=[.i 1,.i m.id]:=rfl;have p5:=m.sz.2;clear u hd;cases hg:(m.rs&&g)with
  |true=>
   rw[hg]at I hbd;rw[aX rfl]at hbd I;rw[hbd]at fin;obtain⟨r,a1,a2⟩:=Gm (a:=1) (b:=m.id) hF (by omega);have aa:=fun r1 r2 r3=>a1 (bu (bu (bu F (.o 2) r1) (.o 2) r2) (.o 1) r3) (L::H) rfl rfl;clear a1 next hbd
   simp(disch:=omega) only[↓zd,seval,push_cast,C,K,Yv,X,B,A,hf,R,p2,p3,O,p5,I,aa];exact fin r fun M W U=>(a2 M W (by rw[U,l])).mono (by omega) (by simp)
  |false=>
   rw[hg]at I hbd;rw[aP (by simp)]at hbd I;have hgn:0<=XM m n∧XM m n<=j+1:=by unfold XM;(repeat' split)<;>omega
   simp(disch:=omega) only[↓zd,seval,push_cast,C,K,Yv,X,B,A,hf,R,p2,p3,O,p5,I];refine next _ _ ⟨?_,?_,?_,?_,?_,?_,Rz m g,XM m n,ver,hgn.1,by omega,hbd,hv,?_,?_⟩
   (all_goals try simp only[↓zg,seval,C,K,Yv,B,A]);all_goals try first|rfl|trivial|(simp only[zr,seval,C,K,Yv,B,A];done)
   all_goals (first|exact l|exact(hF.own rfl rfl)|skip)
 ·rintro fr F ⟨C,K,Yv,X,l,hF,g,n,ver,CE,Nr,hbd,hv,B,A⟩
  rw[dZ,xA]at hbd;rw[hbd]at fin;obtain⟨lv1,k1,EA,_⟩:=hF.anf;have J:(s.v++[.i rule,lv1])[3]? =some (cu 22 (s.ms.map Me.v)):=rfl;obtain⟨m,hf⟩:∃x,s.ms[s.ms.length-1]? =some x:=⟨_,ak (by omega)⟩
  have hi:((s.ms.length:Int)-1).toNat=s.ms.length-1:=by omega
  have R:=m.sz.1;have O:m.v.take 2=[.i 1,.i m.id]:=rfl;clear Y c Z hbd u;cases g with
  |true=>
   obtain⟨r,a1,a2⟩:=Gm (a:=1) (b:=m.id) hF (by omega);have aa:=a1 F (L::H) rfl rfl;clear a1;simp(disch:=omega) only[↓zd,seval,push_cast,C,Yv,X,B,A,EA,J,hf,hi,R,O,dS,aa];exact fin r fun M W U=>(a2 M W (by rw[U,l])).mono (by omega) (by simp)
  |false=>
   simp(disch:=omega) only[↓zd,seval,push_cast,C,Yv,X,B,A,EA,J,hf,hi,R,O,dS,uK];exact fin _ fun M W U=>(hF.own W (by rw[U,l])).mono (by omega) (by simp)
def Cb:=And.intro @Int.natCast_add_one<|And.intro @Int.natCast_add<|And.intro @Int.natCast_mul<|And.intro @Int.natCast_ediv<|And.intro @Int.natCast_emod<|And.intro @Int.natCast_succ<| @Int.cast_ofNat_Int
def IV(s:Sc)(k:Nat):Int:=
 match xy s.ps 0 k with
 |none=>0
 |some (p,_)=>
  match s.ps[p]?with
  |none=>0
  |some x=>if s.wr then 0-x.tn else x.tn
def zm(sh n:Int):Bool:= !(decide (0<=n+sh)&&decide (n+sh<=127))
def Gp(sh:Int)(x:Ev):Bool:=x.hs.any (fun h=>zm sh h.n)||x.gs.any (fun g=>zm sh g.n)
theorem ang{A B C g:Mem}{st al oc sh:Int}(hr:ax g (.o 3)=⟨1,1,[[.i sh]],false⟩)(hp:Mf st al oc=0)(hs: -200<=sh∧sh<=200):call bn 130 [.agg [.i st,.i al,.i oc],.ptr 4 (.o 3) 1 0 0] (A::B::C::g::H)=some (.bool (zm sh (vV st al oc)),none):=by
 have c:=fun H=>c87 (H:=H) st al oc;rw[aX hp]at c;have h:=(uI.1 hp).2.2.2;unfold zm;generalize vV st al oc=n at*;clear hp;refine(av (by conv=>lhs;reduce)).trans ?_;simp only[↓zo,zp,seval];simp(disch:=omega) only[↓zd,seval,go_sem,Cb,hr,c,amA]
theorem atX{A B g:Mem}{x:Hd}{sh:Int}(j:ax g (.o 4)=⟨1,1,[[.fn 130 [.ptr 0 (.o 3) 1 0 0]]],false⟩)(hr:ax g (.o 3)=⟨1,1,[[.i sh]],false⟩)(hp:Gj x)(hs: -200<=sh∧sh<=200):call bn 132 [.agg x.v,.ptr 3 (.o 4) 1 0 0] (A::B::g::H)=some (.bool (zm sh x.n),none):=by
 have c:=fun C=>ang (H:=H) (A:=C) (B:=A) (C:=B) hr hp.pt hs;clear hs hp;unfold Hd.v Hd.n;refine(av (by conv=>lhs;reduce)).trans ?_;simp only[↓zo,zp,seval];simp(disch:=omega) only[↓zd,seval,go_sem,Cb,j,c]
theorem atY{A B g:Mem}{x:Gr}{sh:Int}(j:ax g (.o 4)=⟨1,1,[[.fn 130 [.ptr 0 (.o 3) 1 0 0]]],false⟩)(hr:ax g (.o 3)=⟨1,1,[[.i sh]],false⟩)(hp:XF x)(hs: -200<=sh∧sh<=200):call bn 134 [.agg x.v,.ptr 3 (.o 4) 1 0 0] (A::B::g::H)=some (.bool (zm sh x.n),none):=by
 have c:=fun C=>ang (H:=H) (A:=C) (B:=A) (C:=B) hr hp.pt hs;clear hs hp;unfold Gr.v Gr.n;refine(av (by conv=>lhs;reduce)).trans ?_;simp only[↓zo,zp,seval];simp(disch:=omega) only[↓zd,seval,go_sem,Cb,j,c]
theorem Nu:∀(l:List Pa)(i k:Nat),k<mI l->∃p q x,xy l i k=some (i+p,q)∧l[p]? =some x∧q<x.ss.length:=by
 intro l;induction l with
 |nil=>intro i k h;simp[mI]at h
 |cons a l c=>
  intro i k h;unfold xy;by_cases hc:k<a.ss.length
  ·rw[aX hc];exact⟨0,k,a,rfl,rfl,hc⟩
  ·rw[aP hc]
   obtain⟨p,q,x,r,j,g⟩:=c (i+1) (k-a.ss.length) (by unfold mI at*;rw[bO,sQ]at h;omega);exact⟨p+1,q,x,by rw[r];congr 2;omega,j,g⟩
theorem aic{s:Sc}(ok:kN s)(k:Nat): -200<=IV s k∧IV s k<=200:=by
 unfold IV;cases xy s.ps 0 k with
 |none=>simp
 |some p=>
  obtain⟨p,q⟩:=p;dsimp only;cases h:s.ps[p]?with
  |none=>simp
  |some x=>
   have:=jN.1 (ok.pa x (ah h)).iv;dsimp only;split<;>omega
theorem atZ{M L:Mem}{q:Nat}{s:Sc}{rule:Int}{lv:V}{i k v e:Nat}{x:Ev}(hq:ax M (.g q)=⟨1,8,[s.v++[.i rule,lv]],false⟩)(hL:ax L (.o 1)=⟨1,1,[[.ptr 0 (.g q) 1 0 0]],false⟩)(ok:kN s)(hk:k<mI s.ps)(Qy:k<=100)(u:mX x):call bn 129 [.agg (Pv i k v e),.agg x.v,.ptr 2 (.o 1) 1 0 0] (M::L::H)=some (.bool (Gp (IV s k) x),none):=by
 have hS:(Ht.start true (M::L::H)).D=M.D:=rfl;have x1:=x.sz.1;have X:=x.tk;have W:=x.sc;have x4:=x.sz.2;have x5:x.v[5]? =some (cu 5 (x.hs.map Hd.v)):=rfl;have U:x.v[6]? =some (cu 5 (x.gs.map Gr.v)):=rfl;have c1:=fun H=>XH (H:=H) u;have I:=fun H=>c22 (H:=H) (s:=s) (k:=k) ok.ps (by omega);have Da:=aic ok k;obtain⟨p,st,y,O,F,h3⟩:=Nu s.ps 0 k hk;rw[dV]at O;have hy:=jN.1 (ok.pa y (ah F)).iv;have r:IV s k=if s.wr then 0-y.tn else y.tn:=by unfold IV;rw[O];dsimp only;rw[F]
 rw[O]at I;unfold ptR at I;have T:y.v[4]? =some (.i y.tn):=rfl;have y1:=y.sz.1;have t1:(s.v++[.i rule,lv]).take 6=s.v:=rfl;have t2:(s.v++[.i rule,lv]).length=8:=rfl;have Y:(s.v++[.i rule,lv])[2]? =some (cu 6 (s.ps.map Pa.v)):=rfl;have C:(s.v++[.i rule,lv])[1]? =some (.bool s.wr):=rfl;have s2:=s.sz.2;have lh:=u.lens;have ch:=fun(j:Mem)(Q:ax j (.o 4)=⟨1,1,[[.fn 130 [.ptr 0 (.o 3) 1 0 0]]],false⟩)(R:ax j (.o 3)=⟨1,1,[[.i (IV s k)]],false⟩)=>Hl (H:=j::M::L::H) (m:=131) (n:=193) (sz:=5) (f:=132) (caps:=[.ptr 1 (.o 4) 1 0 0]) (enc:=Hd.v) (p:=fun h=>zm (IV s k) h.n) (l:=x.hs) rfl rfl (by omega) Hd.sz rfl (fun h J M N=>atX Q R (u.hs h J) Da);have cg:=fun(j:Mem)(Q:ax j (.o 4)=⟨1,1,[[.fn 130 [.ptr 0 (.o 3) 1 0 0]]],false⟩)(R:ax j (.o 3)=⟨1,1,[[.i (IV s k)]],false⟩)=>Hl (H:=j::M::L::H) (m:=133) (n:=194) (sz:=5) (f:=134) (caps:=[.ptr 1 (.o 4) 1 0 0]) (enc:=Gr.v) (p:=fun h=>zm (IV s k) h.n) (l:=x.gs) rfl rfl (by omega) Gr.sz rfl (fun h J M N=>atY Q R (u.gs h J) Da);clear ok u;unfold Gp;unfold Pv;generalize IV s k=sh at*;have c:=fun B=>ch (bu (bu (bu B (.o 3) ⟨1,1,[[.i sh]],false⟩) (.o 4) ⟨1,1,[[.pO]],false⟩) (.o 4) ⟨1,1,[[.fn 130 [.ptr 0 (.o 3) 1 0 0]]],false⟩) (by simp[ay]) (by simp[ay]);have A:=fun B=>cg (bu (bu (bu B (.o 3) ⟨1,1,[[.i sh]],false⟩) (.o 4) ⟨1,1,[[.pO]],false⟩) (.o 4) ⟨1,1,[[.fn 130 [.ptr 0 (.o 3) 1 0 0]]],false⟩) (by simp[ay]) (by simp[ay]);clear ch cg;refine(av (by conv=>lhs;reduce)).trans ?_;simp only[↓zo,zp,seval];cases Z:s.wr with
 |false=>
  rw[Z]at C r;rw[aP (by simp)]at r;subst r;cases K:x.hs.any (fun h=>zm y.tn h.n)<;>rw[K]at c<;>simp(disch:=omega) only[↓zd,seval,go_sem,Cb,hL,hq,c1,I,x1,X,W,x4,x5,U,t1,t2,Y,C,s2,F,y1,T,dS,c,A]
 |true=>
  rw[Z]at C r;rw[aX rfl]at r;subst r;cases K:x.hs.any (fun h=>zm (0-y.tn) h.n)<;>rw[K]at c<;>simp(disch:=omega) only[↓zd,seval,go_sem,Cb,hL,hq,c1,I,x1,X,W,x4,x5,U,t1,t2,Y,C,s2,F,y1,T,dS,c,A]
def P9(s:Sc)(i k v e:Nat):Bool:=
 match(iJ s i k v)[e]?with
 |none=>false
 |some x=>Gp (IV s k) x
theorem c76{L:Mem}{q:Nat}{s:Sc}{rule:Int}{n0:Nat}{b0:Bool}(st:uj L q s rule n0 b0)(l:n0<=800000)(ok:kN s):∃j,call bn 76 [.ptr 0 (.g q) 1 0 0] (L::H)=some (.eT [],some j)∧∀M:Mem,M.D=j->M.b=L.b->uj M q s rule (n0+9216) (b0&& !wQ s (P9 s)):=by
 have B:uj (bu (Ht.start false (L::H)) (.o 1) ⟨1,1,[[.ptr 0 (.g q) 1 0 0]],false⟩) q s rule n0 b0:=st.own rfl rfl;have sl:=O7 ok;obtain⟨j,J,hf⟩:=Ug (fun T fin=>aab (H:=L::H) (f:=129) (caps:=[.ptr 1 (.o 1) 1 0 0]) (P9 s) B l ok.short (fun i k v e m c z x g1 r A u M lv C=>by
  have hx:=Ko g1 r A u;have F:k<mI s.ps:=by rw[<-ok.cs m (ah g1)];exact(au.1 r).1
  have I:P9 s i k v e=Gp (IV s k) x:=by unfold P9;rw[hx]
  rw[I];exact atZ C rfl ok F (by omega) (ok.ev m (ah g1) c (ah r) z (ah A) x (ah u))) T fin)
 refine⟨j,?_,hf⟩;clear hf B st ok;refine(av (by conv=>lhs;reduce)).trans ?_;simp only[↓zo,zp,seval];simp(disch:=omega) only[↓zd,seval,go_sem,Cb,J]
def P17(s:Sc)(i k v e:Nat):Bool:=
 match(iJ s i k v)[e]?,qC s i k v e with
 |some x,some (m',_)=>x.Db&&(decide (m'≠i)&&(match s.ms[i]?,s.ms[m']?with|some a,some b=> !decide (a.re=0)||b.rs|_,_=>false))
 |_,_=>false
theorem adX:oW .and (.int .i64 0) (.int .i64 12)=some (.int .i64 0):=by kernel_rfl
theorem aid:oW .and (.int .i64 0) (.int .i64 3)=some (.int .i64 0):=by kernel_rfl
theorem at0{M L:Mem}{q:Nat}{s:Sc}{rule:Int}{lv:V}{i k v e:Nat}{x:Ev}{m:Me}(hq:ax M (.g q)=⟨1,8,[s.v++[.i rule,lv]],false⟩)(F:ax L (.o 1)=⟨1,1,[[.ptr 0 (.g q) 1 0 0]],false⟩)(ok:kN s)(hi:i<=80)(hk:k<=80)(hv:v<=80)(hm:s.ms[i]? =some m)(hx:(iJ s i k v)[e]? =some x)(X:mX x):call bn 151 [.agg (Pv i k v e),.agg x.v,.ptr 2 (.o 1) 1 0 0] (M::L::H)=some (.bool (P17 s i k v e),none):=by
 have hS:(Ht.start true (M::L::H)).D=M.D:=rfl;have lk:=(au.1 hx).1;have lb:=xc (m:=i) (c:=k) (v:=v) ok.short;have U:=X.lens;have t:=fun H=>amP (H:=H) x U.1;have x1:=x.sz.1;have B:=x.tk;have A:=x.sc;have x4:=x.sz.2;have l:=fun H=>amS (H:=H) (s:=s) (m:=i) (c:=k) (v:=v) (e:=e) ok.short (by omega) (by omega) (by omega) lk;have t1:(s.v++[.i rule,lv]).take 6=s.v:=rfl;have t2:(s.v++[.i rule,lv]).length=8:=rfl;have W:(s.v++[.i rule,lv])[3]? =some (cu 22 (s.ms.map Me.v)):=rfl;have s2:=s.sz.2;unfold P17;rw[hx];unfold Pv at*;refine(av (by conv=>lhs;reduce)).trans ?_;simp only[↓zo,zp,seval];generalize Ht.start true (M::L::H)=L0 at*;have C:=l8 hq hS;cases hn:qC s i k v e with
 |none=>
  rw[hn]at l;unfold Km at l;clear ok;simp(disch:=omega) only[↓zd,seval,go_sem,Cb,F,C,l,t,x1,B,A,x4,t1,t2,s2,zK,DK,Ym]
 |some p=>
  obtain⟨r,e'⟩:=p;rw[hn]at l;have ni:=Ns hn;unfold Km Pv at l;dsimp only at l⊢;cases T:x.Db with
  |false=>
   rw[T]at t;clear ok;simp(disch:=omega) only[↓zd,seval,go_sem,Cb,F,C,l,t,x1,B,A,x4,t1,t2,s2,zK,DK,Ym]
  |true=>
   rw[T]at t;by_cases j:r=i
   ·subst j
    clear ok;simp(disch:=omega) only[↓zd,seval,go_sem,Cb,F,C,l,t,x1,B,A,x4,t1,t2,s2,zK,DK,Ym]
   ·obtain⟨b,O⟩:∃b,s.ms[r]? =some b:=by
     obtain⟨w,hw⟩:∃w,(iJ s r k v)[e']? =some w:=by
      unfold qC at hn;split at hn
      ·injection hn with hn;injection hn with u Q;exact absurd u.symm j
      ·split at hn
       ·rename_i h0
        injection hn with hn;injection hn with u Q;subst u;subst Q
        exact⟨_,ak h0⟩
       ·cases hn
     obtain⟨b,_,_,u,_⟩:=vJ hw;exact⟨b,u⟩
    rw[hm,O,dW j];dsimp only;have re:=(ok.mf m (ah hm)).re;have m1:=m.sz.1;have m2:=m.tk;have m3:=m.sc;have N:m.v[13]? =some (.i m.re):=rfl;have m5:m.v[14]? =some (.i 0):=rfl;have Z:m.v[15]? =some (.i 0):=rfl;have Y:m.v[16]? =some (.i 0):=rfl;have b1:=b.sz.1;have b2:=b.tk;have b3:=b.sc;have R:b.v[12]? =some (.bool b.rs):=rfl;have b5:b.v[14]? =some (.i 0):=rfl;have b6:b.v[16]? =some (.i 0):=rfl;have fP:(r=i)=False:=by simp[j]
    have Ed:((r:Int)=(i:Int))=False:=by simp;omega
    have K:(((0:Nat),Ix.o 3) !=((0:Nat),Ix.o 4))=true:=by decide
    have J:(((0:Nat),Ix.g q) !=((0:Nat),Ix.o 4))=true:=by simp
    have I:(((2:Nat),Ix.o 1) !=((0:Nat),Ix.o 4))=true:=by decide
    clear ok;rcases re with re|re|re<;>rw[re]at N⊢<;>cases Nk:b.rs<;>rw[Nk]at R
    all_goals simp(disch:=omega) only[↓zd,seval,go_sem,Cb,F,C,l,t,x1,B,A,x4,t1,t2,W,s2,zK,DK,Ym,show(⟨#[]⟩:ByteArray).size=0 from rfl,hm,O,m1,m2,m3,N,m5,Z,Y,b1,b2,b3,R,b5,b6,fP,Ed,adX,aid,K,J,I]
theorem c84{L:Mem}{q:Nat}{s:Sc}{rule:Int}{n0:Nat}{b0:Bool}(st:uj L q s rule n0 b0)(r:n0<=800000)(ok:kN s):∃l,call bn 84 [.ptr 0 (.g q) 1 0 0] (L::H)=some (.eT [],some l)∧∀M:Mem,M.D=l->M.b=L.b->uj M q s rule (n0+9216) (b0&& !wQ s (P17 s)):=by
 have B:uj (bu (Ht.start false (L::H)) (.o 1) ⟨1,1,[[.ptr 0 (.g q) 1 0 0]],false⟩) q s rule n0 b0:=st.own rfl rfl;obtain⟨l,F,hf⟩:=Ug (fun T fin=>aab (H:=L::H) (f:=151) (caps:=[.ptr 1 (.o 1) 1 0 0]) (P17 s) B r ok.short (fun i k v e m c z x g1 j u A M lv C=>by
  have hx:=Ko g1 j u A;have l1:=(au.1 g1).1;have l2:=(au.1 j).1;have I:=(au.1 u).1;have N:=ok.ml;have K:=ok.short.cs m (ah g1);have J:=ok.short.vs m (ah g1) c (ah j);exact at0 C rfl ok (by omega) (by omega) (by omega) g1 hx (ok.ev m (ah g1) c (ah j) z (ah u) x (ah A))) T fin)
 refine⟨l,?_,hf⟩;clear hf B st ok;refine(av (by conv=>lhs;reduce)).trans ?_;simp only[↓zo,zp,seval];simp(disch:=omega) only[↓zd,seval,go_sem,Cb,F]
def Kr(s:Sc)(ig:List Sn):Nat->Bool
 |8=> !wQ s (P9 s)
 |11=> !ig.any Sn.bad
 |12=> !(List.range s.sp.length).any (Hq ig)
 |13=> !xA s.ms false
 |16=> !wQ s (P17 s)
 |_=>true
def zZ(s:Sc)(ig:List Sn):Nat->Bool
 |0=>true
 |n+1=>zZ s ig n&&Kr s ig n
def lu(s:Sc)(ig:List Sn):Bool:=zZ s ig 17
structure LA(s:Sc)(n:Int)(ig:List Sn):Prop where
 ok:kN s
 id:Ub s n
 ti:Ca s
 sn:F2 (xz s) s.sp ig
theorem aie{L:Mem}{q i:Nat}{s:Sc}{n:Int}{J:List Sn}{n0:Nat}{b:Bool}(O:i<17)(w:LA s n J)(st:uj L q s ((i:Int)+1) n0 b)(u:n0<=800000):∃r,call bn (68+i) [.ptr 0 (.g q) 1 0 0] (L::H)=some (.eT [],r)∧∀M:Mem,M.D=r.getD L.D->M.b=L.b->uj M q s ((i:Int)+1) (n0+10000) (b&&Kr s J i):=by
 obtain⟨lv,j⟩:=st.row;have same:∀C,C=true->∀M:Mem,M.D=L.D->M.b=L.b->uj M q s ((i:Int)+1) (n0+10000) (b&&C):=fun C K M I F=>(st.own I F).mono (by omega) (by rw[K,jK]);have c:∀{l:List Row}{k:Nat}{C:Bool},k<=10000->(∀M:Mem,M.D=l->M.b=L.b->uj M q s ((i:Int)+1) (n0+k) (b&&C))->∀M:Mem,M.D=(some l).getD L.D->M.b=L.b->uj M q s ((i:Int)+1) (n0+10000) (b&&C):=fun N h M I F=>(h M I F).mono (by omega) rfl;have hc:i=0∨i=1∨i=2∨i=3∨i=4∨i=5∨i=6∨i=7∨i=8∨i=9∨i=10∨i=11∨i=12∨i=13∨i=14∨i=15∨i=16:=by omega
 rcases hc with rfl|rfl|rfl|rfl|rfl|rfl|rfl|rfl|rfl|rfl|rfl|rfl|rfl|rfl|rfl|rfl|rfl
 ·exact⟨none,c68 j w.ok,same _ rfl⟩
 ·exact⟨none,c69 j w.ok w.id,same _ rfl⟩
 ·exact⟨none,c70 j w.ok,same _ rfl⟩
 ·exact⟨none,c71 j w.ok,same _ rfl⟩
 ·exact⟨none,c72 j w.ok,same _ rfl⟩
 ·exact⟨none,c73 j w.ok,same _ rfl⟩
 ·exact⟨none,c74 j w.ok,same _ rfl⟩
 ·exact⟨none,c75 j w.ok.short w.ok.ev,same _ rfl⟩
 ·obtain⟨l,B,A⟩:=c76 (H:=H) st u w.ok
  exact⟨some l,B,c (by omega) A⟩
 ·exact⟨none,c77 j w.ok.short w.ok.ev w.ti,same _ rfl⟩
 ·exact⟨none,c78 j w.ok,same _ rfl⟩
 ·obtain⟨l,B,A⟩:=c79 (H:=H) st u w.ok w.id w.sn
  exact⟨some l,B,c (by omega) A⟩
 ·obtain⟨l,B,A⟩:=c80 (H:=H) st u w.ok w.id w.sn
  exact⟨some l,B,c (by omega) A⟩
 ·obtain⟨l,B,A⟩:=c81 (H:=H) st u w.ok
  exact⟨some l,B,c (by omega) A⟩
 ·exact⟨none,c82 j w.ok,same _ rfl⟩
 ·exact⟨none,c83 j w.ok,same _ rfl⟩
 ·obtain⟨l,B,A⟩:=c84 (H:=H) st u w.ok
  exact⟨some l,B,c (by omega) A⟩
theorem uj.open_{L:Mem}{q:Nat}{s:Sc}{rule:Int}{n:Nat}{b:Bool}(h:uj L q s rule n b):∃lv els,ax L (.g q)=⟨1,8,[s.v++[.i rule,lv]],false⟩∧q<L.D.length∧L.b<=q∧els.length<=n∧els.isEmpty=b∧(∀e∈els,∃r a c:Int,e=[.i r,.i a,.i c])∧
  ((els=[]∧lv= .aL)∨(els≠[]∧∃p ver,(q=p)=False∧(p=q)=False∧L.b<=p∧0<ver∧lv= .ref 0 (.g p) ver 3 0 els.length∧ax L (.g p)=⟨ver,3,els,false⟩))∧
  ∀(l:Int)(M:Mem),M.D=dE L.D q ⟨1,8,[s.v++[.i l,lv]],false⟩->M.b=L.b->uj M q s l n b:=by
 obtain⟨els,⟨W,J,lv,U,j⟩,I,F,C⟩:=h;refine⟨lv,els,U,W,J,I,F,C,j,?_⟩;rintro l ⟨D,O,X⟩ B A;dsimp only at B A;subst B;subst A;refine⟨els,⟨?_,J,lv,?_,?_⟩,I,F,C⟩
 ·simp only[fw];omega
 ·simp only[gp,cK,bK]
 ·rcases j with j|⟨j,p,ver,u,T,R,Q,N,K⟩
  ·exact .inl j
  ·refine .inr ⟨j,p,ver,u,T,R,Q,N,?_⟩
   simp only[gp,cK,u,bZ];exact K
theorem VX{s:Sc}{c:List Sn}{i:Nat}(h:zZ s c i=false):∀{j:Nat},i<=j->zZ s c j=false:=by
 intro j l;induction j with
 |zero=>
  obtain rfl:i=0:=by omega
  exact h
 |succ j g=>
  by_cases hc:i<=j
  ·rw[zZ,g hc];rfl
  ·obtain rfl:i=j+1:=by omega
   exact h
def Pb(q:Nat):List (List V):=(List.range 17).map fun i=>[V.mth (68+i) [.ptr 0 (.g q) 1 0 0]]
theorem c41{s:Sc}{n:Int}{Q:List Sn}(w:LA s n Q):∃els,call bn 41 [.agg s.v] H=some (kK 3 els,none)∧els.isEmpty=lu s Q∧els.length<=200000∧∀e∈els,∃r a c:Int,e=[.i r,.i a,.i c]:=by
 have key:∀T:Option (V×Option (List Row))->Prop,(∀els:List (List V),els.isEmpty=lu s Q->els.length<=200000->(∀e∈els,∃r a c:Int,e=[.i r,.i a,.i c])->T (some (kK 3 els,none)))->T (call bn 41 [.agg s.v] H):=by
  intro T fin;rw[av (f:=41) (by conv=>lhs;reduce)];have vG:(Ht.start true H).b=(Ht.start true H).D.length:=by cases H<;>rfl
  have hO:∀i,ax (Ht.start true H) (.o i)=⟨0,0,[],false⟩:=fun i=>jB;simp only[↓zo,zp,seval];generalize Ht.start true H=L0 at*;have s1:=s.sz.1;have s2:=s.sz.2;have s4:=s.tk;have s5:=s.sc;have g1:s.v.drop 6=[]:=rfl;have g2:(s.v++[V.i 0,.aL]).all V.scalar=true:=by rw[rz,s5];rfl
  have g3:(s.v++[V.i 0,.aL]).all V.qW=true:=by simp only[Sc.v,aW,dm,aZ,cB,J9,OV,bR]
  have g4:(s.v++[V.i 0,.aL]).length=8:=rfl;have hn:ax L0 (.g L0.D.length)=⟨0,0,[],false⟩:=jH;simp(disch:=omega) only[↓zd,seval,push_cast,s1,s2,s4,s5,g1,g2,g3,g4,hO,hn,fq];obtain⟨q,C⟩:∃q,L0.D.length=q:=⟨_,rfl⟩
  have o7:L0.b=q:=vG.trans C;rw[C];have pu:∀els:List (List V),(∀e∈els,∃r a c:Int,e=[.i r,.i a,.i c])->els.all (fun e=>e.all V.pure)=true:=fun els h=>aV.2 fun e I=>by obtain⟨r,a,c,rfl⟩:=h e I;rfl
  refine qR (fun i fr L=>ag fr 3= .ptr 0 (.g q) 1 0 0∧ag fr 45= .ref 0 (.o 2) 1 1 0 17∧ag fr 46= .i 17∧ag fr 47= .i i∧ax L (.o 2)=⟨1,1,Pb q,false⟩∧uj L q s i (10000*i) (zZ s Q i)) 17 ?_ ?_ ?_
  ·refine⟨?_,?_,?_,?_,?_,?_⟩
   (all_goals try simp only[↓zg,Nat.reduceEqDiff,reduceCtorEq,↓reduceIte]);all_goals try first|rfl|trivial|(simp only[zr,Nat.reduceEqDiff,reduceCtorEq,↓reduceIte];done)
   all_goals (first|(simp only[ay,reduceCtorEq,bZ,bK];rfl)|skip)
   refine⟨[],⟨?_,?_,.aL,?_,.inl ⟨rfl,rfl⟩⟩,by simp,rfl,fun e I=>by cases I⟩
   ·simp only[fF,cz,fw];omega
   ·simp only[eG];omega
   ·simp only[ay,reduceCtorEq,bZ,bK];rfl
  ·clear vG hO hn g1 g2 g3 g4 s1 s2 s4 s5 C
   rintro i fr L hi ⟨j,B,u,F,A,hF⟩ next
   obtain⟨lv,els,C,k1,k2,k3,k4,O,k6,k7⟩:=hF.open_;have hl:AQ lv=some (.i (els.length:Nat)):=by rcases k6 with⟨rfl,rfl⟩|⟨_,p,ver,_,_,_,_,rfl,_⟩<;>rfl
   have K:∀d,V.shift d lv=lv:=by intro d;rcases k6 with⟨rfl,rfl⟩|⟨_,p,ver,_,_,_,_,rfl,_⟩<;>rfl
   have hF1:=k7 ((i:Int)+1) (bu L (.g q) ⟨1,8,[s.v++[.i ((i:Int)+1),lv]],false⟩) rfl (by simp);obtain⟨r,c,c'⟩:=aie (H:=H) hi w hF1 (by omega);have I:(Pb q)[i]? =some [.mth (68+i) [.ptr 0 (.g q) 1 0 0]]:=by
    unfold Pb;rw[aK,EG hi];rfl
   have t1:∀a b,(s.v++[a,b]).take 6=s.v:=fun _ _=>rfl;have t2:∀a b,(s.v++[a,b]).drop 7=[b]:=fun _ _=>rfl;have X:∀a b,(s.v++[a,b]).length=8:=fun _ _=>rfl;have W:∀a b,(s.v++[a,b])[6]? =some a:=fun _ _=>rfl;have J:∀a b,(s.v++[a,b])[7]? =some b:=fun _ _=>rfl;have U:∀a b,s.v++[a]++[b]=s.v++[a,b]:=fun _ _=>rfl;have on:zZ s Q (i+1)=(zZ s Q i&&Kr s Q i):=rfl;have kq:L.b<=q:=k2;have go:∀fr' L',ag fr' 3= .ptr 0 (.g q) 1 0 0->ag fr' 45= .ref 0 (.o 2) 1 1 0 17->ag fr' 46= .i 17->ag fr' 47= .i ((i:Int)+1)->ax L' (.o 2)=⟨1,1,Pb q,false⟩->L'.D=r.getD (bu L (.g q) ⟨1,8,[s.v++[.i ((i:Int)+1),lv]],false⟩).D->L'.b=L.b->_:=fun fr' L' a1 a2 a3 a4 a5 a6 a7=>next fr' L' ⟨a1,a2,a3,a4,a5,(c' L' a6 (by rw[a7];simp)).mono (by omega) rfl⟩
   clear c' hF1 k7 next hF w
   by_cases R:els=[]
   ·subst R
    clear k6 O;cases r with
    |none=>
     simp(disch:=omega) only[↓zd,seval,push_cast,j,B,u,F,A,C,hl,K,I,t1,t2,X,W,J,U,c];refine go _ _ ?_ ?_ ?_ ?_ ?_ ?_ ?_;(all_goals try simp only[↓zg,Nat.reduceEqDiff,reduceCtorEq,↓reduceIte,j,B,u,A]);all_goals try first|rfl|trivial|(simp only[zr,Nat.reduceEqDiff,reduceCtorEq,↓reduceIte,j,B,u,A];done)
    |some D'=>
     simp(disch:=omega) only[↓zd,seval,push_cast,j,B,u,F,A,C,hl,K,I,t1,t2,X,W,J,U,c];refine go _ _ ?_ ?_ ?_ ?_ ?_ ?_ ?_;(all_goals try simp only[↓zg,Nat.reduceEqDiff,reduceCtorEq,↓reduceIte,j,B,u,A]);all_goals try first|rfl|trivial|(simp only[zr,Nat.reduceEqDiff,reduceCtorEq,↓reduceIte,j,B,u,A];done)
   ·rcases k6 with⟨h,_⟩|⟨_,p,ver,p1,p2,p3,p4,rfl,Y⟩
    ·exact absurd h R
    have hno:lu s Q=false:=VX (i:=i) (by rw[<-k4];cases els with|nil=>exact absurd rfl R|cons a l=>rfl) (by omega);have hie:els.isEmpty=false:=by cases els with|nil=>exact absurd rfl R|cons a l=>rfl
    have N:=fin els (by rw[hno,hie]) (by omega) O;have O1:=pu els O;rw[BR R]at N;obtain⟨e0,h0⟩:∃e0,els[0]? =some e0:=⟨_,ak (dB.2 R)⟩
    have hle:0<els.length:=dB.2 R;obtain⟨rr,ra,rc,rfl⟩:=O e0 (ah h0);clear O fin pu hno hie;by_cases Z:(i:Int)+1=2
    ·clear c go
     simp(disch:=omega) only[↓zd,seval,push_cast,j,B,u,F,A,C,hl,K,I,t1,t2,X,W,J,U,Z,p1,p2,Y,h0,O1];exact N
    ·by_cases h2:(i:Int)+1<10
     ·clear N
      cases r with
      |none=>
       simp(disch:=omega) only[↓zd,seval,push_cast,j,B,u,F,A,C,hl,K,I,t1,t2,X,W,J,U,c,Z,p1,p2,Y,h0];refine go _ _ ?_ ?_ ?_ ?_ ?_ ?_ ?_;(all_goals try simp only[↓zg,Nat.reduceEqDiff,reduceCtorEq,↓reduceIte,j,B,u,A]);all_goals try first|rfl|trivial|(simp only[zr,Nat.reduceEqDiff,reduceCtorEq,↓reduceIte,j,B,u,A];done)
      |some D'=>
       simp(disch:=omega) only[↓zd,seval,push_cast,j,B,u,F,A,C,hl,K,I,t1,t2,X,W,J,U,c,Z,p1,p2,Y,h0];refine go _ _ ?_ ?_ ?_ ?_ ?_ ?_ ?_;(all_goals try simp only[↓zg,Nat.reduceEqDiff,reduceCtorEq,↓reduceIte,j,B,u,A]);all_goals try first|rfl|trivial|(simp only[zr,Nat.reduceEqDiff,reduceCtorEq,↓reduceIte,j,B,u,A];done)
     ·by_cases h4:rr<10
      ·clear c go
       simp(disch:=omega) only[↓zd,seval,push_cast,j,B,u,F,A,C,hl,K,I,t1,t2,X,W,J,U,Z,p1,p2,Y,h0,O1];exact N
      ·clear N
       cases r with
       |none=>
        simp(disch:=omega) only[↓zd,seval,push_cast,j,B,u,F,A,C,hl,K,I,t1,t2,X,W,J,U,c,Z,p1,p2,Y,h0];refine go _ _ ?_ ?_ ?_ ?_ ?_ ?_ ?_;(all_goals try simp only[↓zg,Nat.reduceEqDiff,reduceCtorEq,↓reduceIte,j,B,u,A]);all_goals try first|rfl|trivial|(simp only[zr,Nat.reduceEqDiff,reduceCtorEq,↓reduceIte,j,B,u,A];done)
       |some D'=>
        simp(disch:=omega) only[↓zd,seval,push_cast,j,B,u,F,A,C,hl,K,I,t1,t2,X,W,J,U,c,Z,p1,p2,Y,h0];refine go _ _ ?_ ?_ ?_ ?_ ?_ ?_ ?_;(all_goals try simp only[↓zg,Nat.reduceEqDiff,reduceCtorEq,↓reduceIte,j,B,u,A]);all_goals try first|rfl|trivial|(simp only[zr,Nat.reduceEqDiff,reduceCtorEq,↓reduceIte,j,B,u,A];done)
  ·rintro fr L ⟨j,B,u,F,A,hF⟩
   obtain⟨lv,els,C,k1,k2,k3,k4,O,k6,k7⟩:=hF.open_;have K:∀d,V.shift d lv=lv:=by intro d;rcases k6 with⟨rfl,rfl⟩|⟨_,p,ver,_,_,_,_,rfl,_⟩<;>rfl
   have J:∀a b,(s.v++[a,b])[7]? =some b:=fun _ _=>rfl;have N:=fin els k4 (by omega) O;have O1:=pu els O;have hL:L.b<=q:=k2;rw[show((17:Nat):Int)=17 from rfl]at F;clear fin pu O k7 hF w g2 g3 g4;rcases k6 with⟨rfl,rfl⟩|⟨R,p,ver,p1,p2,p3,p4,rfl,Y⟩
   ·simp(disch:=omega) only[↓zd,seval,push_cast,j,u,F,C,K,J]
    exact N
   ·rw[BR R]at N
    simp(disch:=omega) only[↓zd,seval,push_cast,j,u,F,C,K,J,Y,O1];exact N
 exact key (fun r=>∃els,r=some (kK 3 els,none)∧els.isEmpty=lu s Q∧els.length<=200000∧∀e∈els,∃r a c:Int,e=[.i r,.i a,.i c]) (fun els Z h2 j=>⟨els,rfl,Z,h2,j⟩)
theorem c19{s:Sc}{n:Int}{r:List Sn}(w:LA s n r):call bn 19 [.agg s.v] H=some (.bool (lu s r),none):=by
 obtain⟨els,c,u,B,A⟩:=c41 (H:=Ht.start true H|>fun L=>bu L (.o 1) ⟨1,6,[s.v],false⟩::H) w;have s1:=s.sz.1;have s2:=s.sz.2;have j:=s.tk;have g:=s.sc;rw[<-u];clear w u A;refine(av (by conv=>lhs;reduce)).trans ?_;simp only[↓zo,zp,seval];cases els with
 |nil=>simp(disch:=omega) only[↓zd,seval,push_cast,s1,s2,j,g,c]
 |cons a l=>simp(disch:=omega) only[↓zd,seval,push_cast,s1,s2,j,g,c]
theorem c18{s:Sc}{n:Int}{C:List Sn}(w:LA s n C):∃els,call bn 18 [.agg s.v] H=some (cu 3 els,none)∧els.isEmpty=lu s C:=by
 obtain⟨els,c,I,J,F⟩:=c41 (H:=Ht.start true H|>fun L=>bu L (.o 1) ⟨1,6,[s.v],false⟩::H) w;have s1:=s.sz.1;have s2:=s.sz.2;have u:=s.tk;have j:=s.sc;rw[<-I];refine⟨els.take 200,?_,?_⟩
 ·have pu:els.all (fun e=>e.all V.pure)=true:=aV.2 fun e B=>by obtain⟨r,a,c,rfl⟩:=F e B;rfl
  have A:(els.take 200).all (fun e=>e.all V.pure)=true:=aV.2 fun e B=>aV.1 pu e (fH B);clear w I F;refine(av (by conv=>lhs;reduce)).trans ?_;simp only[↓zo,zp,seval];cases els with
  |nil=>
   simp(disch:=omega) only[↓zd,seval,push_cast,s1,s2,u,j,c];rfl
  |cons a l=>
   have ao:(SK.any !=SK.own)=true:=rfl;by_cases h:200<l.length+1
   ·have g:(if 200<(l.length:Int)+1 then(200:Int)else(l.length:Int)+1)=200:=aX (by omega)
    have qp:(V.EH a&&V.qZ (l.take 199))=true:=by rw[V.mM,V.wY];exact A
    simp(disch:=omega) only[↓zd,seval,push_cast,s1,s2,u,j,c,qP,h,g,ao,qp]
   ·rw[aO (by simp;omega)]
    have g:(if 200<(l.length:Int)+1 then(200:Int)else(l.length:Int)+1)=(l.length:Int)+1:=aP (by omega);have t:((l.length:Int)+1).toNat=l.length+1:=by omega
    have t2:(a::l).take (l.length+1)=a::l:=aO (by simp);have qp:(V.EH a&&V.qZ l)=true:=by rw[V.mM,V.wY];exact pu
    simp(disch:=omega) only[↓zd,seval,push_cast,s1,s2,u,j,c,qP,h,g,t,t2,ao,qp,↓t2]
 ·cases els<;>simp
theorem Pd{L M:Mem}{q:Nat}{r:Row}(c:ax L (.g q)=r)(h:M.D=L.D):ax M (.g q)=r:=by rw[<-c];exact eU (fun D=>eP D q) h
structure P3 where
 st:Int
 al:Int
 oc:Int
def P3.v(p:P3):List V:=[.i p.st,.i p.al,.i p.oc]
def P3.n(p:P3):Int:=vV p.st p.al p.oc
def P3.e(p:P3):Int:=Mf p.st p.al p.oc
def P3.at_(p:P3):Int:=7*p.oc+p.st
def adY(n al st:Int):Option P3:=if smt st=(n-al)%12∧Mf st al ((n-al)/12-1)=0 then some ⟨st,al,(n-al)/12-1⟩else none
def Ir(n al:Int)(m:Nat):List P3:=(List.range m).filterMap fun j=>adY n al (j:Nat)
def Pe(n:Int)(m:Nat):List P3:=(List.range m).flatMap fun k=>Ir n (2-(k:Nat)) 7
def Iu(n:Int):List P3:=Pe n 5
theorem at6{a:Int}(h: -100<=a∧a<=1000):call bn 163 [.i a,.i 12] H=some (.eT [.i (a/12),.i (a%12)],none):=by
 refine(av (by conv=>lhs;reduce)).trans ?_;simp only[↓zo,zp,seval];by_cases j:0<=a
 ·have t1:a.tdiv 12=a/12:=jM j
  have t2:a.tmod 12=a%12:=dP j;simp(disch:=omega) only[↓zd,seval,push_cast,t1,t2]
 ·obtain⟨b,l⟩:∃b,a= -b:=⟨-a,by omega⟩
  subst l;have t1:(-b).tdiv 12= -(b/12):=by rw[Int.neg_tdiv,jM (by omega)]
  have t2:(-b).tmod 12= -(b%12):=by rw[Int.neg_tmod,dP (by omega)]
  by_cases hm:b%12=0
  ·have g:(-b)/12= -(b/12):=by omega
   have c:(-b)%12=0:=by omega
   simp(disch:=omega) only[↓zd,seval,push_cast,t1,t2,g,c,hm,Int.neg_zero]
  ·have g:(-b)/12= -(b/12)-1:=by omega
   have c:(-b)%12= -(b%12)+12:=by omega
   simp(disch:=omega) only[↓zd,seval,push_cast,t1,t2,g,c]
theorem aif{j:Nat}(h:j<7):([V.i 0,.i 2,.i 4,.i 5,.i 7,.i 9,.i 11]:List V)[j]? =some (.i (smt (j:Nat))):=by
 have c:j=0∨j=1∨j=2∨j=3∨j=4∨j=5∨j=6:=by omega
 rcases c with rfl|rfl|rfl|rfl|rfl|rfl|rfl<;>rfl
theorem RA(n al:Int)(m:Nat):(Ir n al m).length<=m:=by
 unfold Ir;exact eO (List.length_filterMap_le _ _) (by simp)
theorem XN(n al:Int)(m:Nat):Ir n al (m+1)=Ir n al m++(adY n al (m:Nat)).toList:=by
 unfold Ir;rw[gK,List.filterMap_append];simp only[List.filterMap_cons,List.filterMap_nil];cases adY n al (m:Nat)<;>rfl
theorem Nw(n:Int)(m:Nat):Pe n (m+1)=Pe n m++Ir n (2-(m:Nat)) 7:=by
 unfold Pe;rw[gK,bH];simp
theorem aaf(n:Int)(m:Nat):(Pe n m).length<=7*m:=by
 induction m with
 |zero=>simp[Pe]
 |succ m c=>
  have:=RA n (2-(m:Nat)) 7;rw[Nw,aF];omega
theorem ani{n:Int}(h:0<=n∧n<=127):call bn 100 [.i n] H=some (.eT [kK 3 ((Iu n).map P3.v),.i 0],none):=by
 have hb:∀p:P3,(P3.v p).all V.pure=true:=fun p=>rfl;refine(av (by conv=>lhs;reduce)).trans ?_;simp only[↓zo,zp,seval];simp(disch:=omega) only[↓zd,seval,push_cast];refine bI (fun i fr L=>ag fr 0= .i n∧ag fr 5= .i (2-(i:Int))∧sF L 2 3 (ag fr 4) ((Pe n i).map P3.v)) 5 ?_ ?_ ?_
 ·refine⟨?_,?_,.inl ⟨rfl,?_⟩⟩
  (all_goals try simp only[↓zg,seval]);all_goals try first|rfl|trivial|(simp only[zr,seval];done)
 ·rintro i fr L hi ⟨l,g,r⟩ next
  have c:=fun H=>at6 (H:=H) (a:=n-(2-(i:Int))) (by omega);have Ou: -2<=(2-(i:Int))∧(2-(i:Int))<=2:=by omega
  have A:=fun fr' L'(a:ag fr' 0= .i n)(b:ag fr' 5= .i (2-(i:Int)-1))(c:sF L' 2 3 (ag fr' 4) ((Pe n i++Ir n (2-(i:Int)) 7).map P3.v))=>next fr' L' ⟨a,by rw[b];congr 1;omega,by rw[Nw];exact c⟩
  clear next
  have Z:=aaf n i;generalize 2-(i:Int)=al at*;generalize hW:Pe n i=W at*;have ho: -10<=(n-al)/12∧(n-al)/12<=100:=by omega
  obtain⟨u,e4⟩:∃u,ag fr 4=u:=⟨_,rfl⟩
  rw[e4]at r;simp(disch:=omega) only[↓zd,seval,push_cast,l,g,c,amB];refine bI (fun j fr L=>ag fr 0= .i n∧ag fr 5= .i al∧ag fr 6= .i ((n-al)/12)∧ag fr 7= .i ((n-al)%12)∧ag fr 28= .agg [.i 0,.i 2,.i 4,.i 5,.i 7,.i 9,.i 11]∧ag fr 29= .i j∧sF L 2 3 (ag fr 4) ((W++Ir n al j).map P3.v)) 7 ?_ ?_ ?_
  ·refine⟨?_,?_,?_,?_,?_,?_,?_⟩
   (all_goals try simp only[↓zg,seval,l,g,e4]);all_goals try first|rfl|trivial|(simp only[zr,seval,l,g,e4];done)
   exact r.at (by simp[Ir])
  ·clear l g e4 r A c u
   rintro j fr L hj ⟨l,g,C,B,F,J,r⟩ next
   have cs:=aif hj;have U:=fun H=>ZQ (H:=H) (j:Int) al ((n-al)/12-1);have hn:=XN n al j;have Qj:=RA n al j;rw[hn,<-aC]at next
   have O:((W++Ir n al j).map P3.v).length<=1000000:=by rw[aG,aF];omega
   generalize W++Ir n al j=X at*;obtain⟨u,e4⟩:∃u,ag fr 4=u:=⟨_,rfl⟩
   rw[e4]at r;have ap:=fun M H h=>lN (H:=H) (M:=M) (bytes:=24) (s:=1) r h O (by omega) (x:=[.i (j:Int),.i al,.i ((n-al)/12-1)]) rfl rfl;have I:=fun r1 r2 H=>ap (bu (bu L (.o 1) r1) (.o 1) r2) H (by simp[ay]);have T:∀M,ax M (.o 2)=⟨(ax L (.o 2)).ver+1,3,X.map P3.v++[[.i (j:Int),.i al,.i ((n-al)/12-1)]],false⟩->sF M 2 3 (.ref 0 (.o 2) ((ax L (.o 2)).ver+1) 3 0 ((X.map P3.v).length+1)) (X.map P3.v++[[.i (j:Int),.i al,.i ((n-al)/12-1)]]):=fun M e=>mJ (by omega) e;have mono:∀M,ax M (.o 2)=ax L (.o 2)->sF M 2 3 u (X.map P3.v):=fun M e=>qz r e;unfold adY at next
   rw[aR]at next
   have sm:=ahM (j:Int);clear ap r hn hW;generalize X.map P3.v=Y at*;by_cases N:smt (j:Int)=(n-al)%12
   ·by_cases K:Mf (j:Int) al ((n-al)/12-1)=0
    ·rw[aX ⟨N,K⟩]at next
     rw[K]at U;clear K mono;simp(disch:=omega) only[↓zd,seval,push_cast,l,g,C,B,F,J,e4,cs,U,N,I];refine next _ _ ⟨?_,?_,?_,?_,?_,?_,?_⟩
     (all_goals try simp only[↓zg,seval,l,g,C,B,F]);all_goals try first|rfl|trivial|(simp only[zr,seval,l,g,C,B,F];done)
     refine T _ ?_;rw[ay,aX rfl]
    ·rw[aP (fun h=>K h.2)]at next
     clear T I;have Q:(Mf (j:Int) al ((n-al)/12-1)=0)=False:=by simp[K]
     simp(disch:=omega) only[↓zd,seval,push_cast,l,g,C,B,F,J,e4,cs,U,N,Q];refine next _ _ ⟨?_,?_,?_,?_,?_,?_,?_⟩
     (all_goals try simp only[↓zg,seval,l,g,C,B,F,e4]);all_goals try first|rfl|trivial|(simp only[zr,seval,l,g,C,B,F,e4];done)
     exact(mono _ (by simp[ay])).at (by simp)
   ·rw[aP (fun h=>N h.1)]at next
    clear T I;have R:(smt (j:Int)=(n-al)%12)=False:=by simp[N]
    simp(disch:=omega) only[↓zd,seval,push_cast,l,g,C,B,F,J,e4,cs,R];refine next _ _ ⟨?_,?_,?_,?_,?_,?_,?_⟩
    (all_goals try simp only[↓zg,seval,l,g,C,B,F,e4]);all_goals try first|rfl|trivial|(simp only[zr,seval,l,g,C,B,F,e4];done)
    exact(mono _ (by simp[ay])).at (by simp)
  ·clear l g e4 r c u
   rintro fr L ⟨l,g,C,B,F,J,r⟩;rw[show((7:Nat):Int)=7 from rfl]at J;simp(disch:=omega) only[↓zd,seval,push_cast,g,J];refine A _ _ ?_ ?_ ?_;(all_goals try simp only[↓zg,seval,l]);all_goals try first|rfl|trivial|(simp only[zr,seval,l];done)
   all_goals (first|exact r|skip)
 ·rintro fr L ⟨l,g,r⟩
  rw[show(2-((5:Nat):Int))= -3 from rfl]at g;change sF L 2 3 _ ((Iu n).map P3.v)at r;have pu:((Iu n).map P3.v).all (fun e=>e.all V.pure)=true:=by rw[vk];exact aV.2 fun x _=>hb x
  generalize (Iu n).map P3.v=Y at*;obtain⟨u,e4⟩:∃u,ag fr 4=u:=⟨_,rfl⟩
  rw[e4]at r;rcases r with⟨rfl,rfl⟩|⟨fP,ver,hv,rfl,hL⟩
  ·simp(disch:=omega) only[↓zd,seval,push_cast,g,e4]
   rfl
  ·rw[BR fP]
   simp(disch:=omega) only[↓zd,seval,push_cast,g,e4,hL,pu]
theorem aih{n:Int}(h:n<0∨127<n):call bn 59 [.i n] H=some (.eT [.aL,.i 18],none):=by
 have c:∀H,call bn 100 [.i n] H=some (.eT [.aL,.i 2],none):=by
  intro H;rcases h with h|h
  ·refine(av (by conv=>lhs;reduce)).trans ?_;simp only[↓zo,zp,seval]
   simp(disch:=omega) only[↓zd,seval,push_cast]
  ·refine(av (by conv=>lhs;reduce)).trans ?_;simp only[↓zo,zp,seval]
   simp(disch:=omega) only[↓zd,seval,push_cast]
 clear h;refine(av (by conv=>lhs;reduce)).trans ?_;simp only[↓zo,zp,seval];simp(disch:=omega) only[↓zd,seval,push_cast,c]
theorem aii:(List.range 128).all (fun n=> !(Iu n).isEmpty&&(Iu n).all fun p=>decide (p.e=0)&&decide (p.n=n))=true:=by kernel_rfl
theorem Ui{n:Int}(h:0<=n∧n<=127):Iu n≠[]∧∀p∈Iu n,p.e=0∧p.n=n:=by
 have a:=aV.1 aii n.toNat (nU.2 (by omega));have e:((n.toNat:Nat):Int)=n:=by omega
 simp only[aH,e]at a;refine⟨fun h=>by rw[h]at a;simp at a,fun p hp=> ?_⟩;have:=aV.1 a.2 p hp;simpa using this
theorem ad1:(List.range 128).all (fun n=>decide ((Iu n).length<=5))=true:=by kernel_rfl
theorem Uj{n:Int}(h:0<=n∧n<=127):(Iu n).length<=5:=by
 have a:=aV.1 ad1 n.toNat (nU.2 (by omega));have e:((n.toNat:Nat):Int)=n:=by omega
 simpa[e]using a
def XO(at_:Int)(p:P3):Int:=if at_-p.at_>p.at_-at_ then at_-p.at_ else p.at_-at_
def Ml(at_:Int):P3->List P3->P3
 |m,[]=>m
 |m,x::l=>Ml at_ (if XO at_ x-XO at_ m<0 then x else m) l
theorem aag(at_:Int):∀(l:List P3)(m:P3),Ml at_ m l∈m::l:=by
 intro l;induction l with
 |nil=>intro m;simp[Ml]
 |cons x l c=>
  intro m;unfold Ml;have:=c (if XO at_ x-XO at_ m<0 then x else m);rcases ed.1 this with h|h
  ·rw[h];split<;>simp
  ·exact dD _ (dD _ h)
def trP(at_ n:Int):P3:=
 match Iu n with
 |[]=>⟨0,0,0⟩
 |x::l=>Ml at_ x l
theorem aij{at_ n:Int}(h:0<=n∧n<=127):(trP at_ n).e=0∧(trP at_ n).n=n:=by
 obtain⟨g,c⟩:=Ui h;unfold trP;cases hs:Iu n with
 |nil=>exact absurd hs g
 |cons x l=>exact c _ (by rw[hs];exact aag at_ l x)
theorem P3.in_{p:P3}(h:p.e=0):(0<=p.st∧p.st<=6)∧(-1<=p.oc∧p.oc<=9)∧0<=p.n∧p.n<=127:=by
 have:=uI.1 h;exact⟨this.1,this.2.2.1,this.2.2.2⟩
theorem Pf{at_:Int}{p:P3}(h:p.e=0)(c: -1000<=at_∧at_<=1000): -2000<=XO at_ p∧XO at_ p<=2000:=by
 have:=P3.in_ h;unfold XO P3.at_;split<;>omega
def upP:List P3->Bool
 |[]=>true
 |[_]=>true
 |x::y::l=>decide (x.at_<=y.at_)&&upP (y::l)
theorem ad2:(List.range 128).all (fun n=>upP (Iu n))=true:=by kernel_rfl
theorem ail{n:Int}(h:0<=n∧n<=127):upP (Iu n)=true:=by
 have a:=aV.1 ad2 n.toNat (nU.2 (by omega));have e:((n.toNat:Nat):Int)=n:=by omega
 simpa[e]using a
theorem aim:∀{l:List P3}{i:Nat}{x y:P3},upP l=true->l[i]? =some x->l[i+1]? =some y->x.at_<=y.at_:=by
 intro l;induction l with
 |nil=>intro i x y _ h;cases h
 |cons a l j=>
  intro i x y g hx c;cases l with
  |nil=>cases i<;>simp at c
  |cons b l=>
   rw[upP,aH,bN]at g;cases i with
   |zero=>simp at hx c;rw[<-hx,<-c];exact g.1
   |succ i=>exact j g.2 hx c
theorem P3.sz(p:P3):p.v.length=3∧∀d,V.bW d p.v=p.v:=⟨rfl,fun _=>rfl⟩
theorem P3.tk(p:P3):p.v.take 3=p.v:=rfl
theorem P3.sc(p:P3):p.v.all V.scalar=true:=rfl
theorem P3.pu(p:P3):p.v.all V.pure=true:=rfl
theorem at7{p r:P3}(hp:p.e=0)(hr:r.e=0):call bn 102 [.agg p.v,.agg r.v] H=some (.i (p.at_-r.at_),none):=by
 have h:=P3.in_ hp;have g:=P3.in_ hr;have c:=fun H=>c61 (H:=H) (st:=p.st) (al:=p.al) (oc:=p.oc) (by omega) (by omega);have c':=fun H=>c61 (H:=H) (st:=r.st) (al:=r.al) (oc:=r.oc) (by omega) (by omega);unfold P3.at_ P3.v;clear hp hr;refine(av (by conv=>lhs;reduce)).trans ?_;simp only[↓zo,zp,seval];simp(disch:=omega) only[↓zd,seval,push_cast,c,c']
theorem aua{L:Mem}{q ver:Nat}{l:List P3}(hv:0<ver)(U:ax L (.g q)=⟨ver,3,l.map P3.v,false⟩)(K:upP l=true)(hp:∀p∈l,p.e=0)(hl:l.length<=100)(Z:1<=l.length):call bn 217 [.ref 0 (.g q) ver 3 0 l.length,.i 0,.i l.length,.fn 102 []] (L::H)=some (.eT [],some L.D):=by
 have hS:(Ht.start false (L::H)).D=L.D:=rfl;refine(av (by conv=>lhs;reduce)).trans ?_;simp only[↓zo,zp,seval];generalize Ht.start false (L::H)=L0 at*;simp(disch:=omega) only[↓zd,seval,push_cast];refine bI (fun i fr O=>ag fr 0= .ref 0 (.g q) ver 3 0 l.length∧ag fr 1= .i 0∧ag fr 2= .i l.length∧ag fr 3= .fn 102 []∧ag fr 8= .i ((i:Int)+1)∧O.D=L.D) (l.length-1) ?_ ?_ ?_
 ·refine⟨?_,?_,?_,?_,?_,?_⟩
  (all_goals try simp only[↓zg,seval]);all_goals try first|rfl|trivial|(simp only[zr,seval];done)
  all_goals (first|exact hS|skip)
 ·rintro i fr O hi ⟨B,A,u,r,C,F⟩ next
  have Q:=Pd U F;obtain⟨x,hx⟩:∃x,l[i]? =some x:=⟨_,ak (by omega)⟩
  obtain⟨y,I⟩:∃x,l[i+1]? =some x:=⟨_,ak (by omega)⟩
  have J:=aim K hx I;have N:=hp x (ah hx);have j:=hp y (ah I);have c:=fun H=>at7 (H:=H) j N;have b1:=P3.in_ N;have W:=P3.in_ j;have b3: -1000<=y.at_-x.at_∧y.at_-x.at_<=1000:=by unfold P3.at_;omega
  have t1:((i:Int)+1).toNat=i+1:=by omega
  have t2:((i:Int)+1-1).toNat=i:=by omega
  clear b1 W;have Y:(l.map P3.v)[i]? =some x.v:=by rw[aK,hx];rfl
  have X:(l.map P3.v)[i+1]? =some y.v:=by rw[aK,I];rfl
  generalize l.map P3.v=els at*;generalize T:y.at_-x.at_=w at*;have R:0<=w:=by omega
  clear hp K N j J T;simp(disch:=omega) only[↓zd,seval,push_cast,B,A,u,r,C];rw[ik];simp(disch:=omega) only[↓zd,seval,push_cast,B,A,u,r,C,Q,t1,t2,x.sz.1,x.sz.2,x.tk,x.sc,y.sz.1,y.sz.2,y.tk,y.sc,Y,X,c];refine next _ _ ⟨?_,?_,?_,?_,?_,?_⟩
  (all_goals try simp only[↓zg,seval,B,A,u,r]);all_goals try first|rfl|trivial|(simp only[zr,seval,B,A,u,r];done)
  all_goals (first|exact F|skip)
 ·rintro fr O ⟨B,A,u,r,C,F⟩
  have t:((l.length-1:Nat):Int)+1=l.length:=by omega
  rw[t]at C;clear hp K;simp(disch:=omega) only[↓zd,seval,push_cast,B,A,u,r,C,F]
theorem auc{n:Nat}(h:n<8):∃k:Int,(0<=k∧k<=64)∧∀M H,call bn 166 [.int .u64 n] (M::H)=some (.i k,none):=by
 have hn:n=0∨n=1∨n=2∨n=3∨n=4∨n=5∨n=6∨n=7:=by omega
 rcases hn with rfl|rfl|rfl|rfl|rfl|rfl|rfl|rfl
 ·exact⟨0,by omega,fun M H=>by rcases M with⟨D,O,b⟩;exact mH 60 (by kernel_rfl)⟩
 ·exact⟨1,by omega,fun M H=>by rcases M with⟨D,O,b⟩;exact mH 60 (by kernel_rfl)⟩
 ·exact⟨2,by omega,fun M H=>by rcases M with⟨D,O,b⟩;exact mH 60 (by kernel_rfl)⟩
 ·exact⟨2,by omega,fun M H=>by rcases M with⟨D,O,b⟩;exact mH 60 (by kernel_rfl)⟩
 ·exact⟨3,by omega,fun M H=>by rcases M with⟨D,O,b⟩;exact mH 60 (by kernel_rfl)⟩
 ·exact⟨3,by omega,fun M H=>by rcases M with⟨D,O,b⟩;exact mH 60 (by kernel_rfl)⟩
 ·exact⟨3,by omega,fun M H=>by rcases M with⟨D,O,b⟩;exact mH 60 (by kernel_rfl)⟩
 ·exact⟨3,by omega,fun M H=>by rcases M with⟨D,O,b⟩;exact mH 60 (by kernel_rfl)⟩
theorem aud{L:Mem}{q ver:Nat}{k:Int}{l:List P3}(A:0<ver)(r:ax L (.g q)=⟨ver,3,l.map P3.v,false⟩)(j:upP l=true)(hp:∀p∈l,p.e=0)(hl:l.length<=7)(u:1<=l.length):call bn 165 [.ref 0 (.g q) ver 3 0 l.length,.i 0,.i l.length,.i k,.fn 102 []] (L::H)=some (.eT [],some L.D):=by
 have c:=aua (H:=L::H) (L:=Ht.start false (L::H)) A r j hp (by omega) u;clear hp j r;refine(av (by conv=>lhs;reduce)).trans ?_;simp only[↓zo,zp,seval];simp(disch:=omega) only[↓zd,seval,push_cast,↓ik,c]
theorem xH{n:Int}(h:0<=n∧n<=1000000):IntKind.u64.wrap n=n:=by
 show n%2^64=n;exact Int.emod_eq_of_lt h.1 (by omega)
theorem aue{L:Mem}{q ver:Nat}{l:List P3}(A:0<ver)(r:ax L (.g q)=⟨ver,3,l.map P3.v,false⟩)(j:upP l=true)(hp:∀p∈l,p.e=0)(hl:l.length<=7)(u:1<=l.length):call bn 101 [.ref 0 (.g q) ver 3 0 l.length,.fn 102 []] (L::H)=some (.eT [],some L.D):=by
 obtain⟨k,C,B⟩:=auc (n:=l.length) (by omega);have c:=aud (H:=L::H) (L:=Ht.start false (L::H)) (k:=k) A r j hp hl u;clear hp j r;refine(av (by conv=>lhs;reduce)).trans ?_;simp only[↓zo,zp,seval];simp(disch:=omega) only[↓zd,seval,push_cast,B,c,xH]
theorem c59{n:Int}{M:Mem}(h:0<=n∧n<=127):call bn 59 [.i n] (M::H)=some (.eT [.sl .own 3 ((Iu n).map P3.v),.i 0],none):=by
 have c:=fun H=>ani (H:=H) h;obtain⟨j,u⟩:=Ui h;rw[BR (by simpa using j)]at c;have A:=Uj h;have r:=ail h;have l:1<=(Iu n).length:=dB.2 j;have d:=fun(L:Mem)(B:ax L (.g M.D.length)=⟨1,3,(Iu n).map P3.v,false⟩)=>aue (H:=M::H) (q:=M.D.length) (L:=L) (ver:=1) (by omega) B r (fun p hp=>(u p hp).1) (by omega) l;have pu:((Iu n).map P3.v).all (fun e=>e.all V.pure)=true:=by rw[vk];exact aV.2 fun x _=>P3.pu x
 have ln:((Iu n).map P3.v).length=(Iu n).length:=aG _;clear j u r h;generalize (Iu n).map P3.v=els at*;rw[<-ln]at A l d;refine(av (by conv=>lhs;reduce)).trans ?_;simp only[↓zo,zp,seval];have I:(Ht.start true (M::H)).D=M.D:=rfl;have F:(Ht.start true (M::H)).b=M.D.length:=rfl;have C:ax (Ht.start true (M::H)) (.g M.D.length)=ax M (.g M.D.length):=rfl;generalize Ht.start true (M::H)=K at*;have J:=d (bu K (.g M.D.length) ⟨1,3,els,false⟩) (by rw[ay,aX rfl]);have hn:ax M (.g M.D.length)=⟨0,0,[],false⟩:=jH;simp(disch:=omega) only[↓zd,seval,push_cast,c,I,F,C,hn,fq,Mem.Jk,J,pu]
theorem c60{A B g:Mem}{at_:Int}{p:P3}(hr:ax g (.o 4)=⟨1,1,[[.i at_]],false⟩)(hp:p.e=0)(j: -1000<=at_∧at_<=1000):call bn 60 [.agg p.v,.ptr 3 (.o 4) 1 0 0] (A::B::g::H)=some (.i (XO at_ p),none):=by
 have h:=P3.in_ hp;have c:=fun H=>c61 (H:=H) (st:=p.st) (al:=p.al) (oc:=p.oc) (by omega) (by omega);unfold XO P3.at_ P3.v;clear hp;refine(av (by conv=>lhs;reduce)).trans ?_;simp only[↓zo,zp,seval];simp(disch:=omega) only[↓zd,seval,push_cast,hr,c]
theorem c63{A l:Mem}{at_:Int}{p r:P3}(u:ax l (.o 5)=⟨1,1,[[.fn 60 [.ptr 0 (.o 4) 1 0 0]]],false⟩)(hr:ax l (.o 4)=⟨1,1,[[.i at_]],false⟩)(hp:p.e=0)(j:r.e=0)(g: -1000<=at_∧at_<=1000):call bn 63 [.agg p.v,.agg r.v,.ptr 2 (.o 5) 1 0 0] (A::l::H)=some (.i (XO at_ p-XO at_ r),none):=by
 have c:=fun B=>c60 (H:=H) (A:=B) (B:=A) hr hp g;have d:=fun B=>c60 (H:=H) (A:=B) (B:=A) hr j g;have F:=Pf hp g;have C:=Pf j g;unfold P3.v at*;clear hp j;refine(av (by conv=>lhs;reduce)).trans ?_;simp only[↓zo,zp,seval];simp(disch:=omega) only[↓zd,seval,push_cast,u,c,d]
theorem c62{U:Mem}{at_:Int}{x:P3}{l:List P3}(Z:ax U (.o 5)=⟨1,1,[[.fn 60 [.ptr 0 (.o 4) 1 0 0]]],false⟩)(hr:ax U (.o 4)=⟨1,1,[[.i at_]],false⟩)(hp:∀p∈x::l,p.e=0)(hl:l.length<=10)(T: -1000<=at_∧at_<=1000):call bn 62 [.sl .any 3 ((x::l).map P3.v),.fn 63 [.ptr 1 (.o 5) 1 0 0]] (U::H)=some (.agg (Ml at_ x l).v,none):=by
 have x1:(P3.v x).length=3:=rfl;have Y:(P3.v x).take 3=P3.v x:=rfl;have X:(P3.v x).all V.scalar=true:=rfl;have x4:∀p,(P3.v p).all V.pure=true:=fun p=>rfl;have x5:∀p,(P3.v p).length=3:=fun p=>rfl;have R:∀p,(P3.v p).take 3=P3.v p:=fun p=>rfl;have Q:∀p,(P3.v p).all V.scalar=true:=fun p=>rfl;have O:∀d p,V.bW d (P3.v p)=P3.v p:=fun d p=>rfl;have N:∀p,List.drop 3 (P3.v p)=[]:=fun p=>rfl;refine(av (by conv=>lhs;reduce)).trans ?_;simp only[↓zo,zp,seval];simp(disch:=omega) only[↓zd,seval,push_cast,uV,x1,Y,X];refine bI (fun i fr L=>ag fr 0= .sl .any 3 ((x::l).map P3.v)∧ag fr 1= .fn 63 [.ptr 1 (.o 5) 1 0 0]∧ag fr 6= .i ((i:Int)+1)∧ag fr 5= .ptr 0 (.o 2) 1 0 0∧ag fr 4= .ptr 0 (.o 1) 1 0 0∧ax L (.o 1)=⟨1,3,[[.i 0,.i 0,.i 0]],false⟩∧∃m,m.e=0∧ax L (.o 2)=⟨1,3,[P3.v m],false⟩∧Ml at_ x l=Ml at_ m (l.drop i)) l.length ?_ ?_ ?_
 ·refine⟨?_,?_,?_,?_,?_,?_,x,hp x (by simp),?_,rfl⟩
  (all_goals try simp only[↓zg,seval]);all_goals try first|rfl|trivial|(simp only[zr,seval];done)
 ·rintro i fr L W ⟨u,I,K,g,r,B,m,hm,j,C⟩ next
  obtain⟨y,J⟩:∃y,l[i]? =some y:=⟨_,ak W⟩
  have F:=hp y (dD _ (ah J));have c:=fun A=>c63 (H:=H) (A:=A) Z hr F hm T;have hd:l.drop i=y::l.drop (i+1):=by
   obtain⟨_,rfl⟩:=au.1 J;exact gv W
  rw[hd,Ml]at C;have t1:((i:Int)+1).toNat=i+1:=by omega
  have f1:=Pf F T;have f2:=Pf hm T;generalize XO at_ y-XO at_ m=w at*;clear hp hd;by_cases hc:w<0
  ·rw[aX hc]at C
   simp(disch:=omega) only[↓zd,seval,push_cast,u,I,K,g,r,B,j,uV,J,t1,x4,x5,R,Q,O,N,c];refine next _ _ ⟨?_,?_,?_,?_,?_,?_,y,F,?_,C⟩
   (all_goals try simp only[↓zg,seval,u,I,g,r,B,j]);all_goals try first|rfl|trivial|(simp only[zr,seval,u,I,g,r,B,j];done)
  ·rw[aP hc]at C
   simp(disch:=omega) only[↓zd,seval,push_cast,u,I,K,g,r,B,j,uV,J,t1,x4,x5,R,Q,O,N,c];refine next _ _ ⟨?_,?_,?_,?_,?_,?_,m,hm,?_,C⟩
   (all_goals try simp only[↓zg,seval,u,I,g,r,B,j]);all_goals try first|rfl|trivial|(simp only[zr,seval,u,I,g,r,B,j];done)
 ·rintro fr L ⟨u,I,K,g,r,B,m,hm,j,C⟩
  rw[dZ,Ml]at C;rw[C];clear hp;simp(disch:=omega) only[↓zd,seval,push_cast,u,K,g,r,B,j,uV,x4,x5,R,Q,O,N]
theorem c32{p:P3}{s n:Int}(hp:p.e=0)(O:wP s n=0):call bn 32 [.agg p.v,.agg [.i s,.i n]] H=some (.eT (if 0<=p.n+n∧p.n+n<=127 then[.agg (trP (p.at_+s) (p.n+n)).v,.i 0]else[.agg [.i 0,.i 0,.i 0],.i 18]),none):=by
 have C:=fun H=>c58 (H:=H) (st:=p.st) (al:=p.al) (oc:=p.oc) hp O;have A:=P3.in_ hp;have B:=jN.1 O;change∀H,call bn 58 [.agg p.v,.agg [.i s,.i n]] H=some (.eT [.i (p.at_+s),.i (p.n+n),.i 0],none)at C;have Q: -1000<=p.at_+s∧p.at_+s<=1000:=by unfold P3.at_;omega
 have x4:∀p,(P3.v p).all V.pure=true:=fun p=>rfl;have x5:∀p,(P3.v p).length=3:=fun p=>rfl;have K:∀p,(P3.v p).take 3=P3.v p:=fun p=>rfl;have J:∀p,(P3.v p).all V.scalar=true:=fun p=>rfl;have I:∀d p,V.bW d (P3.v p)=P3.v p:=fun d p=>rfl;have F:∀p,List.drop 3 (P3.v p)=[]:=fun p=>rfl;generalize p.at_+s=at_ at*;generalize p.n+n=w at*;clear hp A B;refine(av (by conv=>lhs;reduce)).trans ?_;simp only[↓zo,zp,seval];by_cases c:0<=w∧w<=127
 ·rw[aX c]
  have g:=fun M H=>c59 (M:=M) (H:=H) c;obtain⟨N,u⟩:=Ui c;have r:=Uj c;unfold trP;cases hs:Iu w with
  |nil=>exact absurd hs N
  |cons x l=>
   rw[hs]at g u r;have c3:=fun(j:Mem)(R:ax j (.o 5)=⟨1,1,[[.fn 60 [.ptr 0 (.o 4) 1 0 0]]],false⟩)(T:ax j (.o 4)=⟨1,1,[[.i at_]],false⟩)=>c62 (H:=H) R T (fun p h=>(u p h).1) (by simp at r;omega) Q;have c4:=fun(j:Mem)=>c3 (bu (bu (bu (bu (bu j (.o 3) ⟨1,3,[[.i 0,.i 0,.i 0]],false⟩) (.o 4) ⟨1,1,[[.i 0]],false⟩) (.o 4) ⟨1,1,[[.i at_]],false⟩) (.o 5) ⟨1,1,[[.pO]],false⟩) (.o 5) ⟨1,1,[[.fn 60 [.ptr 0 (.o 4) 1 0 0]]],false⟩) (by simp[ay]) (by simp[ay]);clear N u r hs c;dsimp only;generalize (x::l).map P3.v=els at*;simp(disch:=omega) only[↓zd,seval,push_cast,C,g,x5,K,J,I,F,c4,x4]
 ·rw[aP c]
  have g:=fun H=>aih (H:=H) (n:=w) (by omega);clear c;simp(disch:=omega) only[↓zd,seval,push_cast,C,g,x5,K,J,I,F]
structure Nt where
 on:Int
 off:Int
 n:Int
 pt:Int
 st:Int
 vo:Int
 ev:Int
 hd:Int
def Nt.v(x:Nt):List V:=[.i x.on,.i x.off,.i x.n,.i x.pt,.i x.st,.i x.vo,.i 1,.i x.ev,.i x.hd]
theorem Nt.sz(x:Nt):x.v.length=9∧∀d,V.bW d x.v=x.v:=⟨rfl,fun _=>rfl⟩
theorem Nt.tk(x:Nt):x.v.take 9=x.v:=rfl
theorem Nt.sc(x:Nt):x.v.all V.scalar=true:=rfl
theorem Nt.pu(x:Nt):x.v.all V.pure=true:=rfl
theorem Nt.gl(x:Nt):x.v.all V.qW=true:=rfl
def P3.eq(a b:P3):Bool:=decide (a.st=b.st)&&(decide (a.al=b.al)&&decide (a.oc=b.oc))
theorem P3.eq_iff{a b:P3}:a.eq b=true↔a=b:=by
 unfold P3.eq;simp only[aH,bN];constructor
 ·rintro⟨j,g,c⟩;cases a;cases b;simp_all
 ·rintro rfl;exact⟨rfl,rfl,rfl⟩
def Hd.p(h:Hd):P3:=⟨h.st,h.al,h.oc⟩
def pg:List (P3×Nat)->P3->Option Nat
 |[],_=>none
 |(q,k)::l,p=>if q.eq p then some k else pg l p
def nJ(l:List Nt)(k:Nat)(off:Int):List Nt:=
 match l[k]?with
 |some x=>l.set k {x with off:=off}
 |none=>l
def rW(f:Nt)(down off:Int)(held:List (P3×Nat)):List Hd->Nat->List Nt->List (P3×Nat)->List Nt×List (P3×Nat)
 |[],_,ns,hn=>(ns,hn)
 |h::l,i,ns,hn=>
  let ns':=match pg held h.p with
   |some k=>nJ ns k off
   |none=>ns++[{f with off:=off,n:=h.n-down,hd:=(i:Nat)}]
  let k:=(pg held h.p).getD ns.length
  rW f down off held l (i+1) ns' (if h.ti then hn++[(h.p,k)]else hn)
def Mm(e:P3×Nat):List V:=[.agg e.1.v,.i (e.2:Nat)]
abbrev Gq:MK:= .agg [.int,.int,.int]
theorem Pg(a b:P3):wC Gq (.agg a.v) (.agg b.v)=some (a.eq b):=by
 simp[wC,P3.v,dN,P3.eq]
theorem Ny{p:P3}:∀{l:List (P3×Nat)}{i:Nat},p∉l.map Prod.fst->oZ Gq (.agg p.v) (l.map Mm) i=some none:=by
 intro l;induction l with
 |nil=>intro i _;rfl
 |cons a l c=>
  intro i h;rw[bO,ed,not_or]at h;have e:p.eq a.1=false:=by rw[Jf];intro e;exact h.1 (P3.eq_iff.1 e)
  rw[bO];show(match wC Gq (.agg p.v) (.agg a.1.v),oZ Gq (.agg p.v) (l.map Mm) (i+1)with
   |some true,some none=>_|some false,r=>r|_,_=>none)=_
  rw[Pg,e,c h.2]
theorem ad3{p:P3}:∀{l:List (P3×Nat)}{i:Nat},(l.map Prod.fst).Nodup->(∃j,oZ Gq (.agg p.v) (l.map Mm) i=some ((pg l p).map fun k=>(j,.i (k:Nat)))):=by
 intro l;induction l with
 |nil=>intro i _;exact⟨0,rfl⟩
 |cons a l g=>
  intro i h;rw[bO,List.nodup_cons]at h;obtain⟨q,k⟩:=a;rw[bO,pg];by_cases e:q.eq p=true
  ·obtain rfl:=P3.eq_iff.1 e
   refine⟨i,?_⟩;rw[aX e];show(match wC Gq (.agg q.v) (.agg q.v),oZ Gq (.agg q.v) (l.map Mm) (i+1)with
    |some true,some none=>_|some false,r=>r|_,_=>none)=_
   rw[Pg,e,Ny h.1];rfl
  ·obtain⟨j,u⟩:=g (i:=i+1) h.2
   refine⟨j,?_⟩;rw[aP e];have c:p.eq q=false:=by rw[Jf];intro c;exact e (by rw[P3.eq_iff.1 c];exact P3.eq_iff.2 rfl)
   show(match wC Gq (.agg p.v) (.agg q.v),oZ Gq (.agg p.v) (l.map Mm) (i+1)with
    |some true,some none=>_|some false,r=>r|_,_=>none)=_
   rw[Pg,c,u]
theorem Ph(p:P3):Bp Gq (.agg p.v)=true:=by simp[Bp,P3.v,dN]
def heR(r:Option Nat):V:=match r with|some k=> .eT [.i (k:Nat),.bool true]|none=> .eT [.i 0,.bool false]
def HeV(L:Mem)(hv:V)(held:List (P3×Nat)):Prop:=(held.map Prod.fst).Nodup∧((held=[]∧hv= .nW)∨∃m,hv= .mp 0 (.g m) 1∧ax L (.g m)=⟨1,0,held.map Mm,false⟩)
theorem aio{L:Mem}{l:V}{held:List (P3×Nat)}(h:HeV L l held)(p:P3):Ar (L::H) Gq true (.i 0) l (.agg p.v)=some (heR (pg held p)):=by
 obtain⟨hn,⟨rfl,rfl⟩|⟨m,rfl,hr⟩⟩:=h
 ·simp[Ar,Ph,pg,heR]
 ·obtain⟨j,r⟩:=ad3 (p:=p) (i:=0) hn
  have c:iH (L::H) 0 (.g m)=⟨1,0,held.map Mm,false⟩:=hr;simp only[Ar,c,Ph,Bc,Nat.zero_lt_one,bK,r];cases pg held p<;>rfl
theorem gX{L:Mem}{q:Nat}{r:Row}(h:ax L (.g q)=r)(j:0<r.ver):q<L.D.length:=by
 rw[<-Nat.not_le];intro c;have:ax L (.g q)=⟨0,0,[],false⟩:=rA _ c;rw[this]at h;subst h;exact Nat.lt_irrefl _ j
def NtV(L:Mem)(lv:V)(ns:List Nt):Prop:=(ns=[]∧lv= .aL)∨(ns≠[]∧∃p ver,L.b<=p∧0<ver∧lv= .ref 0 (.g p) ver 9 0 ns.length∧ax L (.g p)=⟨ver,9,ns.map Nt.v,false⟩)
theorem aiq{L:Mem}{lv:V}{ns:List Nt}(h:NtV L lv ns)(hl:ns.length<=1000000)(I:L.b<=L.D.length)(x:Nt):∃p ver,L.b<=p∧0<ver∧(p<L.D.length->(ax L (.g p)).sz=9)∧(p<=L.D.length)∧∀(M:Mem)(H:List Mem),M.D=L.D->M.b=L.b->DJ (M::H) 0 9 72 lv (.sl .any 9 [x.v])=some (.ref 0 (.g p) ver 9 0 (ns.length+1),bu M (.g p) ⟨ver,9,(ns++[x]).map Nt.v,false⟩):=by
 rcases h with⟨rfl,rfl⟩|⟨J,p,ver,F,C,rfl,A⟩
 ·refine⟨L.D.length,1,I,by omega,fun h=>absurd h (Nat.lt_irrefl _),aJ _,fun M H j B=> ?_⟩
  have e:ax M (.g L.D.length)=⟨0,0,[],false⟩:=by rw[<-j];exact jH
  have x1:=x.sz.1;have r:=x.sc;have l:=x.gl;simp only[IP,IM,bG,List.isEmpty_cons,bq,bZ,fq,e,j,uP];rw[aX]
  ·rfl
  ·simp[ug,x1];exact⟨fun y c=>aV.1 r y c,fun y c=>aV.1 l y c⟩
 ·refine⟨p,ver+1,F,by omega,fun _=>by rw[A],xN (gX A C),fun M H j B=> ?_⟩
  have u:ax M (.g p)=⟨ver,9,ns.map Nt.v,false⟩:=Pd A j;have x1:=x.sz.1;have r:=x.sc;have l:=x.gl;simp only[IQ,IM,bG,u,uP,Mem.ok];rw[aX]
  ·rw[aR,aO (by rw[aG];exact aJ _)];rfl
  ·simp[ug,x1,C,B,F]
   refine⟨by omega,fun y c=>aV.1 r y c,fun y c=>aV.1 l y c⟩
def fsV(pt st vo:Int):List V:=[.i 0,.i 0,.i 0,.i pt,.i st,.i vo,.i 0,.i 0,.i 0]
def Aa(L:Mem)(qo ql:Nat)(pt st vo down:Int)(ns:List Nt)(held:List (P3×Nat)):Prop:=
 L.b<=L.D.length∧L.b<=qo∧L.b<=ql∧∃lv hv,ax L (.g ql)=⟨1,12,[.ptr 0 (.g qo) 1 0 0::hv::(fsV pt st vo++[.i down])],false⟩∧ax L (.g qo)=⟨1,1,[[lv]],false⟩∧NtV L lv ns∧HeV L hv held
theorem XP(f:Nt)(down off:Int)(held:List (P3×Nat)):∀(l:List Hd)(i:Nat)(ns:List Nt)(hn:List (P3×Nat)),ns.length<=(rW f down off held l i ns hn).1.length∧(rW f down off held l i ns hn).1.length<=ns.length+l.length:=by
 intro l;induction l with
 |nil=>intro i ns hn;simp[rW]
 |cons h l c=>
  intro i ns hn;unfold rW;dsimp only;cases hf:pg held h.p with
  |some k=>
   have:(nJ ns k off).length=ns.length:=by unfold nJ;split<;>simp
   have:=c (i+1) (nJ ns k off) (if h.ti then hn++[(h.p,k)]else hn);dsimp only[Option.getD_some];simp only[aS];omega
  |none=>
   have:=c (i+1) (ns++[{f with off:=off,n:=h.n-down,hd:=(i:Nat)}]) (if h.ti then hn++[(h.p,ns.length)]else hn);dsimp only[Option.getD_none];simp only[aF,aS,ek]at this⊢;omega
theorem aah(f:Nt)(down off:Int)(held:List (P3×Nat)):∀(l:List Hd)(i:Nat)(ns:List Nt)(hn:List (P3×Nat)),(∀e∈held,e.2<ns.length)->(∀e∈hn,e.2<ns.length)->∀e∈(rW f down off held l i ns hn).2,e.2<(rW f down off held l i ns hn).1.length:=by
 intro l;induction l with
 |nil=>intro i ns hn _ h;exact h
 |cons h l A=>
  intro i ns hn r g;unfold rW;dsimp only;cases hf:pg held h.p with
  |some k=>
   have C:∃e∈held,e.2=k:=by
    clear r A;induction held with
    |nil=>cases hf
    |cons a t u=>
     obtain⟨q,j⟩:=a;unfold pg at hf;split at hf
     ·injection hf with hf;exact⟨_,gH ..,hf⟩
     ·obtain⟨e,he,h⟩:=u hf
      exact⟨e,dD _ he,h⟩
   obtain⟨e,he,B⟩:=C;have c:=r e he;rw[B]at c;have hl:(nJ ns k off).length=ns.length:=by unfold nJ;split<;>simp
   refine A _ _ _ (fun e he=>by rw[hl];exact r e he) (fun e he=> ?_);rw[hl];dsimp only[Option.getD_some]at he;split at he
   ·rcases dx.1 he with he|he
    ·exact g e he
    ·rw[dA.1 he];exact c
   ·exact g e he
  |none=>
   refine A _ _ _ (fun e he=>by have:=r e he;simp;omega) (fun e he=> ?_);dsimp only[Option.getD_none]at he;split at he
   ·rcases dx.1 he with he|he
    ·have:=g e he;simp;omega
    ·rw[dA.1 he];simp
   ·have:=g e he;simp;omega
theorem XQ{held:List (P3×Nat)}{p:P3}{k:Nat}(hf:pg held p=some k):∃e∈held,e.1=p∧e.2=k:=by
 induction held with
 |nil=>cases hf
 |cons a t c=>
  obtain⟨q,j⟩:=a;unfold pg at hf;split at hf
  ·rename_i h
   injection hf with hf;exact⟨_,gH ..,P3.eq_iff.1 h,hf⟩
  ·obtain⟨e,g,h⟩:=c hf
   exact⟨e,dD _ g,h⟩
theorem HeV.mono{L M:Mem}{j:V}{held:List (P3×Nat)}(h:HeV L j held)(e:∀m,j= .mp 0 (.g m) 1->ax M (.g m)=ax L (.g m)):HeV M j held:=by
 obtain⟨l,c|⟨m,c,r⟩⟩:=h
 ·exact⟨l,.inl c⟩
 ·exact⟨l,.inr ⟨m,c,by rw[e m c,r]⟩⟩
theorem NtV.mono{L M:Mem}{lv:V}{ns:List Nt}(h:NtV L lv ns)(j:M.b=L.b)(e:∀p ver n,lv= .ref 0 (.g p) ver 9 0 n->ax M (.g p)=ax L (.g p)):NtV M lv ns:=by
 rcases h with h|⟨A,p,ver,u,r,c,l⟩
 ·exact .inl h
 ·exact .inr ⟨A,p,ver,by rw[j];exact u,r,c,by rw[e p ver _ c,l]⟩
theorem Uk{ns:List Nt}{k:Nat}{off:Int}{x:Nt}(h:ns[k]? =some x):(nJ ns k off).map Nt.v=(ns.map Nt.v).set k [.i x.on,.i off,.i x.n,.i x.pt,.i x.st,.i x.vo,.i 1,.i x.ev,.i x.hd]:=by
 unfold nJ;rw[h];dsimp only;rw[List.map_set];rfl
theorem ad4{ns:List Nt}{x:Nt}{y:List V}:((ns++[x]).map Nt.v).set ns.length y=ns.map Nt.v++[y]:=by
 rw[aR,List.set_append_right _ _ (by simp)];simp
theorem Nz{bn:yw}{H:List Mem}{pm:Bool}{rs:List sU}{k:List KI}{fr:List V}{L:Mem}{c:eu}{T:Option (V×Option (List Row))->Prop}(P:Nat->List V->Mem->Prop)(n:Nat)(l:P 0 fr L)
  (step:∀i fr L,i<n->P i fr L->(∀fr' L',P (i+1) fr' L'->T (G bn H pm rs (.code (.loop c)::k) fr' L'))->T (G bn H pm rs (.code c:: .code (.loop c)::k) fr L))
  (done:∀fr L,P n fr L->T (G bn H pm rs (.code c:: .code (.loop c)::k) fr L)):T (G bn H pm rs (.code (.loop c)::k) fr L):=by
 have h:∀m i fr L,i+m=n->P i fr L->T (G bn H pm rs (.code (.loop c)::k) fr L):=by
  intro m;induction m with
  |zero=>
   intro i fr L e hp;rw[ik];have:i=n:=by omega
   subst this;exact done fr L hp
  |succ m j=>intro i fr L e hp;rw[ik];exact step i fr L (by omega) hp fun fr' L' g=>j (i+1) fr' L' (by omega) g
 exact h n 0 fr L (by omega) l
def Kt(L:Mem)(qo ql m:Nat)(hv:V)(pt sf vo down:Int)(ns:List Nt)(held hn:List (P3×Nat)):Prop:=
 L.b<=L.D.length∧L.b<=qo∧L.b<=ql∧L.b<=m∧(hn.map Prod.fst).Nodup∧(∀q,hv= .mp 0 (.g q) 1->q≠m)∧ax L (.g ql)=⟨1,12,[.ptr 0 (.g qo) 1 0 0::hv::(fsV pt sf vo++[.i down])],false⟩∧ax L (.g m)=⟨1,0,hn.map Mm,false⟩∧HeV L hv held∧∃lv,ax L (.g qo)=⟨1,1,[[lv]],false⟩∧NtV L lv ns
theorem Kt.own{L M:Mem}{c g m:Nat}{j:V}{pt sf vo down:Int}{ns:List Nt}{held hn:List (P3×Nat)}(h:Kt L c g m j pt sf vo down ns held hn)(r:M.D=L.D)(l:M.b=L.b):Kt M c g m j pt sf vo down ns held hn:=by
 obtain⟨D,O,b⟩:=M;obtain⟨B,A,u⟩:=L;dsimp only at r l;subst r;subst l;exact h
theorem Hd.tk3(h:Hd):h.v.take 3=h.p.v:=rfl
theorem Fu{L:Mem}{p q:Nat}{r c:Row}(h:ax L (.g p)=r)(j:ax L (.g q)=c)(hs:r.sz≠c.sz):(p=q)=False:=by
 simp;rintro rfl;rw[h]at j;exact hs (by rw[j])
theorem aai{L:Mem}{j l m:Nat}{B:V}{pt sf vo down off:Int}{ns:List Nt}{held hn:List (P3×Nat)}{k:Nat}(h:Kt L j l m B pt sf vo down ns held hn)(F:k<ns.length):
  ∃p ver x,ns[k]? =some x∧0<ver∧L.b<=p∧(p=j)=False∧(p=l)=False∧(p=m)=False∧ax L (.g j)=⟨1,1,[[.ref 0 (.g p) ver 9 0 ns.length]],false⟩∧ax L (.g p)=⟨ver,9,ns.map Nt.v,false⟩∧
   ∀M:Mem,M.D=dE L.D p ⟨ver,9,(ns.map Nt.v).set k [.i x.on,.i off,.i x.n,.i x.pt,.i x.st,.i x.vo,.i 1,.i x.ev,.i x.hd],false⟩->M.b=L.b->Kt M j l m B pt sf vo down (nJ ns k off) held hn:=by
 obtain⟨h1,h2,h3,Z,Y,X,N,K,h9,lv,u,W⟩:=h;rcases W with⟨rfl,_⟩|⟨fP,p,ver,A,r,rfl,c⟩
 ·simp at F
 obtain⟨x,hx⟩:∃x,ns[k]? =some x:=⟨_,ak F⟩
 have U:=Fu c u (by simp);have T:=Fu c N (by simp);have R:=Fu c K (by simp);refine⟨p,ver,x,hx,r,A,U,T,R,u,c,?_⟩;rintro⟨D,O,b⟩ J I;dsimp only at J I;subst J;subst I;have lp:=gX c r;refine⟨?_,h2,h3,Z,Y,X,?_,?_,?_,.ref 0 (.g p) ver 9 0 ns.length,?_,?_⟩
 ·show L.b<=(dE L.D p _).length
  rw[fw];omega
 ·rw[gp,cK,aP (by simpa using T)];exact N
 ·rw[gp,cK,aP (by simpa using R)];exact K
 ·refine h9.mono fun q C=> ?_
  rw[gp,cK,aP]
  ·rfl
  ·rintro rfl
   rcases h9.2 with⟨_,h⟩|⟨w,h,Q⟩
   ·rw[C]at h;cases h
   ·rw[C]at h;injection h with _ h _;injection h with h;subst h;rw[c]at Q;injection Q with _ h;cases h
 ·rw[gp,cK,aP (by simpa using U)];exact u
 ·have hl:(nJ ns k off).length=ns.length:=by unfold nJ;split<;>simp
  refine .inr ⟨fun h=> ?_,p,ver,A,r,by rw[hl],?_⟩
  ·rw[h]at hl;exact fP (eF.1 hl.symm)
  ·rw[gp,cK,aX rfl,Uk hx]
theorem air{L:Mem}{c l m:Nat}{U:V}{pt sf vo down:Int}{ns:List Nt}{held hn:List (P3×Nat)}(h:Kt L c l m U pt sf vo down ns held hn)(hl:ns.length<=1000000)(x:Nt):
  ∃lv p ver,0<ver∧L.b<=p∧(p=c)=False∧(p=l)=False∧(p=m)=False∧AQ lv=some (.i (ns.length:Nat))∧(∀d,V.shift d lv=lv)∧ax L (.g c)=⟨1,1,[[lv]],false⟩∧(∀(M:Mem)(H:List Mem),M.D=L.D->M.b=L.b->DJ (M::H) 0 9 72 lv (.sl .any 9 [x.v])=some (.ref 0 (.g p) ver 9 0 (ns.length+1),bu M (.g p) ⟨ver,9,(ns++[x]).map Nt.v,false⟩))∧
   ∀(y:Nt)(M:Mem),M.D=dE (dE (dE L.D p ⟨ver,9,(ns++[x]).map Nt.v,false⟩) c ⟨1,1,[[.ref 0 (.g p) ver 9 0 (ns.length+1)]],false⟩) p ⟨ver,9,(ns++[y]).map Nt.v,false⟩->M.b=L.b->Kt M c l m U pt sf vo down (ns++[y]) held hn:=by
 obtain⟨h1,h2,h3,h4,h5,h6,A,u,h9,lv,j,F⟩:=h;obtain⟨p,ver,T,R,k3,k4,k5⟩:=aiq F hl h1 x;have lq:=gX j (by simp);have ll:=gX A (by simp);have lm:=gX u (by simp);have nn:∀{q:Nat}{r:Row},ax L (.g q)=r->r.sz≠9->q<L.D.length->(p=q)=False:=by
  intro q r B hs hl;simp;rintro rfl;have:=k3 hl;rw[B]at this;exact hs this
 have e1:=nn j (by simp) lq;have Z:=nn A (by simp) ll;have Y:=nn u (by simp) lm;have Q:¬p=c:=by simpa using e1
 have N:¬p=l:=by simpa using Z
 have K:¬p=m:=by simpa using Y
 have J:¬c=l:=by rintro rfl;rw[j]at A;injection A with _ h;cases h
 have I:¬c=m:=by rintro rfl;rw[j]at u;injection u with _ h;cases h
 refine⟨lv,p,ver,R,T,e1,Z,Y,?_,?_,j,k5,?_⟩
 ·rcases F with⟨rfl,rfl⟩|⟨_,_,_,_,_,rfl,_⟩<;>rfl
 ·intro d;rcases F with⟨rfl,rfl⟩|⟨_,_,_,_,_,rfl,_⟩<;>rfl
 rintro y ⟨D,O,b⟩ X W;dsimp only at X W;subst X;subst W;refine⟨?_,h2,h3,h4,h5,h6,?_,?_,?_,.ref 0 (.g p) ver 9 0 (ns.length+1),?_,?_⟩
 ·show L.b<=(dE (dE (dE L.D p _) c _) p _).length
  simp only[fw];omega
 ·simp only[gp,cK,aP N,aP J];exact A
 ·simp only[gp,cK,aP K,aP I];exact u
 ·refine h9.mono fun q B=> ?_
  rcases h9.2 with⟨_,h⟩|⟨w,h,C⟩
  ·rw[B]at h;cases h
  ·rw[B]at h;injection h with _ h _;injection h with h;subst h
   have lw:=gX C (by simp);have n1:¬p=q:=by have:=nn C (by simp) lw;simpa using this
   have n2:¬c=q:=by rintro rfl;rw[j]at C;injection C with _ h;cases h
   simp only[gp,cK,aP n1,aP n2];rfl
 ·simp only[gp,cK,aP Q,bK]
 ·refine .inr ⟨by simp,p,ver,T,R,by simp,?_⟩
  simp only[gp,cK,bK]
theorem aaj{L:Mem}{r u m:Nat}{I:V}{pt sf vo down:Int}{ns:List Nt}{held hn:List (P3×Nat)}{p:P3}{k:Nat}(h:Kt L r u m I pt sf vo down ns held hn)(hp:p∉hn.map Prod.fst):
  (∀M:Mem,M.D=L.D->M.b=L.b->Dj M Gq (.mp 0 (.g m) 1) (.agg p.v) (.i (k:Nat))=some (bu M (.g m) ⟨1,0,(hn++[(p,k)]).map Mm,false⟩))∧
   ∀M:Mem,M.D=dE L.D m ⟨1,0,(hn++[(p,k)]).map Mm,false⟩->M.b=L.b->Kt M r u m I pt sf vo down ns held (hn++[(p,k)]):=by
 obtain⟨h1,W,U,K,T,J,C,j,h9,lv,A,F⟩:=h;have Z:=gX j (by simp);refine⟨fun M l c=> ?_,?_⟩
 ·have B:=Pd j l
  simp only[Dj,B,Ph,Mem.ok,c,K,Ny hp,aR,Qo];rfl
 rintro⟨D,O,b⟩ l c;dsimp only at l c;subst l;subst c;have Y:¬m=r:=by rintro rfl;rw[j]at A;injection A with _ h;cases h
 have X:¬m=u:=by rintro rfl;rw[j]at C;injection C with _ h;cases h
 refine⟨?_,W,U,K,?_,J,?_,?_,?_,lv,?_,?_⟩
 ·show L.b<=(dE L.D m _).length
  rw[fw];omega
 ·rw[aR,List.nodup_append]
  exact⟨T,by simp,fun a R b c e=>by simp at c;subst c;subst e;exact hp R⟩
 ·rw[gp,cK,aP X];exact C
 ·rw[gp,cK,aX rfl]
 ·refine h9.mono fun q Q=> ?_
  rw[gp,cK,aP (fun e=>J q Q e.symm)];rfl
 ·rw[gp,cK,aP Y];exact A
 ·refine F.mono rfl fun p ver n hp=> ?_
  rw[gp,cK,aP]
  ·rfl
  ·rintro rfl
   rcases F with⟨_,rfl⟩|⟨_,w,_,_,_,rfl,N⟩
   ·cases hp
   ·injection hp with _ h;injection h with h;subst h;rw[j]at N;injection N with _ h;cases h
def vK(pt sf vo down on off:Int)(x:Ev)(ns:List Nt)(held:List (P3×Nat)):List Nt×List (P3×Nat):=rW ⟨on,0,0,pt,sf,vo,x.id,0⟩ down off held x.hs 0 ns []
theorem c43{L:Mem}{W J:Nat}{pt sf vo down on off:Int}{x:Ev}{ns:List Nt}{held:List (P3×Nat)}(st:Aa L W J pt sf vo down ns held)(hk:∀e∈held,e.2<ns.length)(hx:∀h∈x.hs,Gj h)(inc:(x.hs.map Hd.n).Pairwise (·<·))(hl:x.hs.length<=1000)(hns:ns.length<=900000)(hd: -200<=down∧down<=200)(T:Option (V×Option (List Row))->Prop)
  (fin:∀D':List Row,(∀M:Mem,M.D=D'->M.b=L.b->Aa M W J pt sf vo down (vK pt sf vo down on off x ns held).1 (vK pt sf vo down on off x ns held).2)->T (some (.eT [],some D'))):
  T (call bn 43 [.ptr 0 (.g J) 1 0 0,.agg x.v,.i on,.i off] (L::H)):=by
 obtain⟨k1,k2,k3,lv,hv,k4,k5,k6,k7⟩:=st;rw[av (f:=43) (by conv=>lhs;reduce)];simp only[↓zo,zp,seval];have hD:(Ht.start false (L::H)).D=L.D:=rfl;have hB:(Ht.start false (L::H)).b=L.b:=rfl;have hO:∀i,ax (Ht.start false (L::H)) (.o i)=⟨0,0,[],false⟩:=fun i=>jB;have hn:ax (Ht.start false (L::H)) (.g (Ht.start false (L::H)).D.length)=⟨0,0,[],false⟩:=jH;have x1:=x.sz.1;have x2:=x.sc;have x3:x.v[5]? =some (cu 5 (x.hs.map Hd.v)):=rfl;have x4:(x.v.take 2)=[.i 1,.i x.id]:=rfl;generalize Ht.start false (L::H)=L0 at*;simp(disch:=omega) only[↓zd,seval,push_cast,x1,x2,x3,hO,hn,fq,dS];obtain⟨m,hm⟩:∃m,L.D.length=m:=⟨_,rfl⟩
 rw[hD,hm];have f0:Kt (bu (bu L0 (.o 1) ⟨1,13,[x.v],false⟩) (.g m) ⟨1,0,[],false⟩) W J m hv pt sf vo down ns held []:=by
  have lq:=gX k5 (by simp);have ll:=gX k4 (by simp);have rr:∀q,q<m->ax (bu (bu L0 (.o 1) ⟨1,13,[x.v],false⟩) (.g m) ⟨1,0,[],false⟩) (.g q)=ax L (.g q):=by
   intro q hq;rw[ay,aP (by simp;omega),ay,aP (by simp)];exact eU (fun D=>eP D q) hD
  have Cc:∀q,hv= .mp 0 (.g q) 1->q<m:=by
   intro q hq;rcases k7.2 with⟨_,h⟩|⟨w,h,h'⟩
   ·rw[hq]at h;cases h
   ·rw[hq]at h;injection h with _ h _;injection h with h;subst h
    rw[<-hm];exact gX h' (by simp)
  refine⟨?_,?_,?_,?_,by simp,fun q hq=> ?_,?_,?_,?_,lv,?_,?_⟩
  ·simp only[fF,cz,eG,fw];omega
  ·simp only[eG];omega
  ·simp only[eG];omega
  ·simp only[eG];omega
  ·have:=Cc q hq;omega
  ·rw[rr J (by omega)];exact k4
  ·rw[ay,aX rfl];rfl
  ·exact k7.mono fun q hq=>rr q (Cc q hq)
  ·rw[rr W (by omega)];exact k5
  ·refine k6.mono (by simp only[eG];exact hB) fun p ver n hp=>rr p ?_
   rcases k6 with⟨_,h⟩|⟨_,p',ank,h1,r,l,h4⟩
   ·rw[hp]at h;cases h
   ·rw[hp]at l;injection l with _ h _ _ _ _;injection h with h;subst h
    rw[<-hm];exact gX h4 r
 have bo:(((0:Nat),Ix.o 1) !=((0:Nat),Ix.o 3))=true:=by decide
 have bg:∀q n,(((0:Nat),Ix.g q) !=((0:Nat),Ix.o n))=true:=by intros;simp
 refine Nz (fun i fr A=>ag fr 0= .ptr 0 (.g J) 1 0 0∧ag fr 2= .i on∧ag fr 3= .i off∧ag fr 8= .mp 0 (.g m) 1∧ag fr 18=cu 5 (x.hs.map Hd.v)∧ag fr 19= .i x.hs.length∧ag fr 20= .i i∧ag fr 5= .ptr 0 (.o 1) 1 0 0∧ax A (.o 1)=⟨1,13,[x.v],false⟩∧A.b=L.b∧∃ms hn,Kt A W J m hv pt sf vo down ms held hn∧vK pt sf vo down on off x ns held=rW ⟨on,0,0,pt,sf,vo,x.id,0⟩ down off held (x.hs.drop i) i ms hn∧ns.length<=ms.length∧ms.length<=ns.length+i∧∀e∈hn,∃h∈x.hs.take i,h.p=e.1) x.hs.length ?_ ?_ ?_
 ·refine⟨?_,?_,?_,?_,?_,?_,?_,?_,?_,?_,ns,[],f0,rfl,aJ _,aJ _,fun e he=>by cases he⟩
  (all_goals try simp only[↓zg,seval]);all_goals try first|rfl|trivial|(simp only[zr,seval];done)
  all_goals (first|exact hB|skip)
 ·clear f0 hn hO hD hB k4 k5 k6 k7 fin
  rintro i fr A hi ⟨I,r,l,F,N,C,rf,K,hR,hb,ms,hn,u,c,hm1,hm2,zH⟩ next
  obtain⟨h,hf⟩:∃h,x.hs[i]? =some h:=⟨_,ak hi⟩
  have hh:=hx h (ah hf);have Jy:x.hs.drop i=h::x.hs.drop (i+1):=by
   obtain⟨_,rfl⟩:=au.1 hf;exact gv hi
  have hpn:h.p∉hn.map Prod.fst:=by
   intro hc;obtain⟨e,he,hep⟩:=dQ.1 hc;obtain⟨h',hh',ui⟩:=zH e he;obtain⟨j,hj,rfl⟩:=gP.1 hh';rw[bf]at hj;rw[List.getElem_take]at ui;obtain⟨_,rfl⟩:=au.1 hf;have:=qI.1 inc j i (by simp;omega) (by simp;omega) (by omega);simp only[List.getElem_map]at this;rw[hep]at ui;have e:∀a b:Hd,a.p=b.p->a.n=b.n:=fun a b h=>by injection h with h1 r l;unfold Hd.n;rw[h1,r,l]
   rw[e _ _ ui]at this;omega
  have ad5:∀k,∀e∈hn++[(h.p,k)],∃g∈x.hs.take (i+1),g.p=e.1:=by
   intro k e he;rw[aY,hf];rcases dx.1 he with he|he
   ·obtain⟨g,hg,hg'⟩:=zH e he
    exact⟨g,rq _ hg,hg'⟩
   ·rw[dA.1 he];exact⟨h,by simp,rfl⟩
  have anl:∀e∈hn,∃g∈x.hs.take (i+1),g.p=e.1:=by
   intro e he;obtain⟨g,hg,hg'⟩:=zH e he;exact⟨g,by rw[aY];exact rq _ hg,hg'⟩
  rw[Jy,rW]at c;have g1:=h.sz.1;have g2:=h.sz.2;have g3:=h.tk3;have g4:h.v.all V.scalar=true:=rfl;have g5:h.v.take 5=h.v:=rfl;have g6:h.v[3]? =some (.bool h.ti):=rfl;have p2:∀d,V.bW d h.p.v=h.p.v:=fun _=>rfl;have p4:(P3.v h.p).length=3:=rfl;have cn:∀H,call bn 87 [.agg h.p.v] H=some (.eT [.i h.n,.i 0],none):=fun H=>by
   have:=c87 (H:=H) h.st h.al h.oc;rw[aX hh.pt]at this;exact this
  have nb:=(uI.1 hh.pt).2.2.2;have nb':0<=h.n∧h.n<=127:=nb;clear nb inc hx zH Jy;obtain⟨w1,w2,w3,w4,w5,w6,B,w8,w9,lv1,Q,w11⟩:=id u;have mg:∀U R(H:List Mem),Ar (bu (bu A (.o 2) U) (.o 2) R::H) Gq true (.i 0) hv (.agg h.p.v)=some (heR (pg held h.p)):=fun U R H=>aio (H:=H) (L:=bu (bu A (.o 2) U) (.o 2) R) (w9.mono (fun q _=>rfl)) h.p;have hsv:∀d,V.shift d hv=hv:=by intro d;rcases w9.2 with⟨_,rfl⟩|⟨_,rfl,_⟩<;>rfl
  have e5:(W=J)=False:=by simp;rintro rfl;rw[Q]at B;injection B with _ h;cases h
  clear w1 w5 w6 w8 w9 Q w11;cases hfd:pg held h.p with
  |some k=>
   obtain⟨e,he,he1,CZ⟩:=XQ hfd;have hkl:k<ms.length:=by have:=hk e he;omega
   obtain⟨p,ver,y,q1,q2,q3,q4,q5,q6,q7,q8,q9⟩:=aai (off:=off) u hkl;rw[hfd]at mg c;unfold heR at mg;dsimp only[Option.getD_some]at mg c;have hsl:(nJ ms k off).length=ms.length:=by unfold nJ;split<;>simp
   have q9':=q9 (bu A (.g p) ⟨ver,9,(ms.map Nt.v).set k [.i y.on,.i off,.i y.n,.i y.pt,.i y.st,.i y.vo,.i 1,.i y.ev,.i y.hd],false⟩) rfl (by simp);have ip:=aaj (k:=k) q9' hpn;have ip1:=fun U R=>ip.1 (bu (bu (bu A (.o 2) U) (.o 2) R) (.g p) ⟨ver,9,(ms.map Nt.v).set k [.i y.on,.i off,.i y.n,.i y.pt,.i y.st,.i y.vo,.i 1,.i y.ev,.i y.hd],false⟩) rfl (by simp);have Z:=ip.2;clear hk he he1 CZ u ip;cases Ij:h.ti with
   |false=>
    rw[Ij]at g6 c;rw[aP (by simp)]at c;clear ip1 Z q9';simp(disch:=omega) only[↓zd,seval,push_cast,I,r,l,F,N,C,rf,K,hf,g1,g2,g3,g4,g5,g6,p2,p4,B,hsv,mg,q1,q4,q5,q6,q7,q8,Nt.v];refine next _ _ ⟨?_,?_,?_,?_,?_,?_,?_,?_,?_,?_,nJ ms k off,hn,q9 _ rfl ?_,c,by omega,by omega,anl⟩
    (all_goals try simp only[↓zg,seval,I,r,l,F,N,C,K,hR]);all_goals try first|rfl|trivial|(simp only[zr,seval,I,r,l,F,N,C,K,hR];done)
    all_goals (first|exact hb|skip)
   |true=>
    rw[Ij]at g6 c;rw[aX rfl]at c;clear q9 q9';simp(disch:=omega) only[↓zd,seval,push_cast,I,r,l,F,N,C,rf,K,hf,g1,g2,g3,g4,g5,g6,p2,p4,B,hsv,mg,q1,q4,q5,q6,q7,q8,Nt.v,ip1];refine next _ _ ⟨?_,?_,?_,?_,?_,?_,?_,?_,?_,?_,nJ ms k off,hn++[(h.p,k)],Z _ rfl ?_,c,by omega,by omega,ad5 k⟩
    (all_goals try simp only[↓zg,seval,I,r,l,F,N,C,K,hR]);all_goals try first|rfl|trivial|(simp only[zr,seval,I,r,l,F,N,C,K,hR];done)
    all_goals (first|exact hb|skip)
  |none=>
   rw[hfd]at mg c;unfold heR at mg;dsimp only[Option.getD_none]at mg c;obtain⟨lv2,p,ver,q2,q3,q4,q5,q6,q7,q8,q9,q10,q11⟩:=air u (by omega) (⟨on,0,h.n-down,pt,sf,vo,x.id,(i:Nat)⟩:Nt);have ais:=q11 (⟨on,off,h.n-down,pt,sf,vo,x.id,(i:Nat)⟩:Nt);have e1:(ms++[(⟨on,0,h.n-down,pt,sf,vo,x.id,(i:Nat)⟩:Nt)])[ms.length]? =some (⟨on,0,h.n-down,pt,sf,vo,x.id,(i:Nat)⟩:Nt):=by simp
   have e2:(((ms++[(⟨on,0,h.n-down,pt,sf,vo,x.id,(i:Nat)⟩:Nt)]).map Nt.v).set ms.length [.i on,.i off,.i (h.n-down),.i pt,.i sf,.i vo,.i 1,.i x.id,.i (i:Nat)])=(ms++[(⟨on,off,h.n-down,pt,sf,vo,x.id,(i:Nat)⟩:Nt)]).map Nt.v:=by rw[ad4,aR];rfl
   have ap:=fun U R r3 r4 r5 r6 r7 r8 H=>q10 (bu (bu (bu (bu (bu (bu (bu (bu A (.o 2) U) (.o 2) R) (.o 3) r3) (.o 3) r4) (.o 3) r5) (.o 3) r6) (.o 3) r7) (.o 3) r8) H rfl rfl;have e1':(((ms++[(⟨on,0,h.n-down,pt,sf,vo,x.id,(i:Nat)⟩:Nt)]).map Nt.v))[ms.length]? =some [.i on,.i 0,.i (h.n-down),.i pt,.i sf,.i vo,.i 1,.i x.id,.i (i:Nat)]:=by rw[aK,e1];rfl
   have e3:(((ms++[(⟨on,0,h.n-down,pt,sf,vo,x.id,(i:Nat)⟩:Nt)]).map Nt.v)).length=ms.length+1:=by simp
   change∀U R r3 r4 r5 r6 r7 r8 H,DJ (bu (bu (bu (bu (bu (bu (bu (bu A (.o 2) U) (.o 2) R) (.o 3) r3) (.o 3) r4) (.o 3) r5) (.o 3) r6) (.o 3) r7) (.o 3) r8::H) 0 9 72 lv2 (.sl .any 9 [[.i on,.i 0,.i (h.n-down),.i pt,.i sf,.i vo,.i 1,.i x.id,.i (i:Nat)]])=_ at ap;generalize (ms++[(⟨on,0,h.n-down,pt,sf,vo,x.id,(i:Nat)⟩:Nt)]).map Nt.v=X at*;generalize hY:(ms++[(⟨on,off,h.n-down,pt,sf,vo,x.id,(i:Nat)⟩:Nt)]).map Nt.v=Y at*;have lY:(ms++[(⟨on,off,h.n-down,pt,sf,vo,x.id,(i:Nat)⟩:Nt)]).length=ms.length+1:=by simp
   have af0:=ais (bu (bu (bu A (.g p) ⟨ver,9,X,false⟩) (.g W) ⟨1,1,[[.ref 0 (.g p) ver 9 0 (ms.length+1)]],false⟩) (.g p) ⟨ver,9,Y,false⟩) rfl (by simp);have ip:=aaj (k:=ms.length) af0 hpn;have ip1:=fun U R r3 r4 r5 r6 r7 r8=>ip.1 (bu (bu (bu (bu (bu (bu (bu (bu (bu (bu (bu A (.o 2) U) (.o 2) R) (.o 3) r3) (.o 3) r4) (.o 3) r5) (.o 3) r6) (.o 3) r7) (.o 3) r8) (.g p) ⟨ver,9,X,false⟩) (.g W) ⟨1,1,[[.ref 0 (.g p) ver 9 0 (ms.length+1)]],false⟩) (.g p) ⟨ver,9,Y,false⟩) rfl (by simp);have Z:=ip.2;have e4:(W=p)=False:=by rw[@eq_comm _ W p];exact q4
   have e6:(((0:Nat),Ix.g J)=((0:Nat),Ix.g p))=False:=by simp;rintro rfl;simp at q5
   clear hk u ip q10 q11 e1 af0;unfold fsV at B;cases Ij:h.ti with
   |false=>
    rw[Ij]at g6 c;rw[aP (by simp)]at c;clear ip1 Z;simp(disch:=omega) only[↓zd,seval,push_cast,I,r,l,F,N,C,rf,K,hR,hf,g1,g2,g3,g4,g5,g6,p2,p4,B,hsv,mg,cn,x1,x4,bo,bg,q4,q5,q6,q7,q8,q9,ap,e1',e2,e3,e4,e5,e6];refine next _ _ ⟨?_,?_,?_,?_,?_,?_,?_,?_,?_,?_,ms++[(⟨on,off,h.n-down,pt,sf,vo,x.id,(i:Nat)⟩:Nt)],hn,?_,c,by omega,by omega,anl⟩
    (all_goals try simp only[↓zg,seval,I,r,l,F,N,C,K,hR]);all_goals try first|rfl|trivial|(simp only[zr,seval,I,r,l,F,N,C,K,hR];done)
    all_goals (first|exact hb|exact ais _ (by simp only[fF,cz]) (by simp)|skip)
   |true=>
    rw[Ij]at g6 c;rw[aX rfl]at c;clear ais;simp(disch:=omega) only[↓zd,seval,push_cast,I,r,l,F,N,C,rf,K,hR,hf,g1,g2,g3,g4,g5,g6,p2,p4,B,hsv,mg,cn,x1,x4,bo,bg,q4,q5,q6,q7,q8,q9,ap,e1',e2,e3,e4,e5,e6,ip1];refine next _ _ ⟨?_,?_,?_,?_,?_,?_,?_,?_,?_,?_,ms++[(⟨on,off,h.n-down,pt,sf,vo,x.id,(i:Nat)⟩:Nt)],hn++[(h.p,ms.length)],?_,c,by omega,by omega,ad5 _⟩
    (all_goals try simp only[↓zg,seval,I,r,l,F,N,C,K,hR]);all_goals try first|rfl|trivial|(simp only[zr,seval,I,r,l,F,N,C,K,hR];done)
    all_goals (first|exact hb|exact Z _ (by simp only[fF,cz]) (by simp)|skip)
 ·clear f0 hn hO hD hB k4 k5 k6 k7
  rintro fr A ⟨I,r,l,F,N,C,rf,K,hR,hb,ms,hn,u,c,hm1,hm2,zH⟩;obtain⟨w1,w2,w3,w4,w5,w6,B,w8,w9,lv1,Q,w11⟩:=u;rw[dZ,rW]at c;rw[c]at fin;have wb:A.b<=J:=w3;have e1:¬J=W:=by rintro rfl;rw[Q]at B;injection B with _ h;cases h
  have e2:¬J=m:=by rintro rfl;rw[w8]at B;injection B with _ h;cases h
  simp(disch:=omega) only[↓zd,seval,push_cast,I,F,C,rf,B,fsV];refine fin _ ?_;rintro⟨D,O,b⟩ hD hB;dsimp only at hD hB;subst hD;subst hB;refine⟨?_,?_,?_,lv1,.mp 0 (.g m) 1,?_,?_,?_,?_⟩
  ·show L.b<=(dE A.D J _).length
   rw[fw,<-hb];omega
  ·rw[<-hb];exact w2
  ·rw[<-hb];exact w3
  ·rw[gp,fF,cK,aX rfl];rfl
  ·rw[gp,fF,cK,aP e1];exact Q
  ·refine w11.mono (by rw[<-hb]) fun p ver n hp=> ?_
   rw[gp,fF,cK,aP]
   ·rfl
   ·rintro rfl
    rcases w11 with⟨_,rfl⟩|⟨_,w,_,_,_,rfl,h'⟩
    ·cases hp
    ·injection hp with _ h;injection h with h;subst h;rw[B]at h';injection h' with _ h;cases h
  ·refine⟨w5,.inr ⟨m,rfl,?_⟩⟩
   rw[gp,fF,cK,aP e2];exact w8
structure Sl where
 i:Nat
 k:Nat
 n:Nat
 on:Int
 off:Int
def Sl.v(s:Sl):List V:=[.i (s.i:Nat),.i (s.k:Nat),.i (s.n:Nat),.i s.on,.i s.off]
def XR(i k:Nat)(len:Int)(on:List Int):List Sl:=on.mapIdx fun n o=>⟨i,k,n,o,(on[n+1]?).getD len⟩
def tsV(i:Nat)(len:Int)(vs:List Vo):List Sl:=(vs.mapIdx fun k v=>XR i k len (kV (v.lens len))).flatten
def RD(len:Int)(cs:List Ce):List Sl:=(cs.mapIdx fun i c=>tsV i len c.vs).flatten
theorem Hu{α β γ:Type}{f:Nat->α->β}{g:β->γ}(l:List α):(l.mapIdx f).map g=l.mapIdx fun i x=>g (f i x):=by
 apply vN;intro i;simp only[aK,gu,Option.map_map];rfl
theorem ait(i k:Nat)(len:Int)(on:List Int):Sw i k len on=(XR i k len on).map Sl.v:=by
 unfold Sw XR;rw[Hu];rfl
theorem RF{α β γ:Type}{f:Nat->α->List β}{g:β->γ}(l:List α):((l.mapIdx f).flatten).map g=(l.mapIdx fun i x=>(f i x).map g).flatten:=by
 rw[List.map_flatten,Hu]
theorem aiu(i:Nat)(len:Int)(vs:List Vo):slV i len vs=(tsV i len vs).map Sl.v:=by
 unfold slV tsV;rw[RF];simp only[ait]
theorem aiv(len:Int)(cs:List Ce):slC len cs=(RD len cs).map Sl.v:=by
 unfold slC RD;rw[RF];simp only[aiu]
def Ku(cs:List Ce)(c v n:Nat):Option Ev:=
 match cs[c]?with
 |none=>none
 |some y=>
  match y.vs[v]?with
  |none=>none
  |some z=>z.es[n]?
theorem mK{α β:Type}{f:Nat->α->β}{l:List α}{y:β}(h:y∈l.mapIdx f):∃i x,l[i]? =some x∧f i x=y:=by
 obtain⟨i,c,e⟩:=vt.1 h;exact⟨i,l[i],ak c,e⟩
theorem aiw{m:Me}(ok:vI m){s:Sl}(h:s∈RD (kL m.mt) m.cs):∃y z x,m.cs[s.i]? =some y∧y.vs[s.k]? =some z∧z.es[s.n]? =some x∧Ku m.cs s.i s.k s.n=some x:=by
 unfold RD at h;obtain⟨l,hl,hs⟩:=tq.1 h;obtain⟨i,y,g,rfl⟩:=mK hl;unfold tsV at hs;obtain⟨l,hl,hs⟩:=tq.1 hs;obtain⟨k,z,c,rfl⟩:=mK hl;unfold XR at hs;obtain⟨n,o,ho,rfl⟩:=mK hs;have j:=ok.vo y (ah g) z (ah c);have lo:(kV (z.lens (kL m.mt))).length=z.es.length:=by rw[kV,dJ];exact(si j).2.1
 have hn:=(au.1 ho).1;obtain⟨x,hx⟩:∃x,z.es[n]? =some x:=⟨_,ak (by omega)⟩
 refine⟨y,z,x,g,c,hx,?_⟩;unfold Ku;rw[g];dsimp only;rw[c];exact hx
theorem VY{m:Me}(ok:vI m):(RD (kL m.mt) m.cs).length<=1536:=by
 have j:∀{α β:Type}{f:Nat->α->List β}{c:Nat}(l:List α),(∀i x,l[i]? =some x->(f i x).length<=c)->((l.mapIdx f).flatten).length<=c*l.length:=by
  intro α β f c l h;have:∀L:List (List β),(∀y∈L,y.length<=c)->L.flatten.length<=c*L.length:=by
   intro L;induction L with
   |nil=>intro _;simp
   |cons a L u=>
    intro h;have C:=h a (by simp);have B:=u fun y g=>h y (dD _ g);rw[vM,aF,aS,Nat.mul_succ];omega
  have:=this (l.mapIdx f) fun y g=>by
   obtain⟨i,x,hx,rfl⟩:=mK g;exact h i x hx
  simpa using this
 have C:(RD (kL m.mt) m.cs).length<=256*m.cs.length:=j m.cs fun i y g=>by
  have B:(tsV i (kL m.mt) y.vs).length<=128*y.vs.length:=j y.vs fun k z A=>by
   have r:=ok.vo y (ah g) z (ah A);have:=(si r).2.1;have:=r.Aw;unfold XR kV;simp only[dJ];omega
  have:=(ok.vn y (ah g)).2;omega
 have:=ok.cn;omega
structure Co where
 ns:List Nt
 held:List (P3×Nat)
 th:Bool
def pn(pt sf vo down onset:Int)(c v:Nat)(cs:List Ce)(s:Co)(x:Sl):Co:=
 if x.i=c∧x.k=v then
  match Ku cs x.i x.k x.n with
  |some e=>⟨(vK pt sf vo down (onset+x.on) (onset+x.off) e s.ns s.held).1,(vK pt sf vo down (onset+x.on) (onset+x.off) e s.ns s.held).2,true⟩
  |none=>s
 else s
def Cf(pt sf vo down onset:Int)(c v:Nat)(m:Me)(ns:List Nt)(held:List (P3×Nat)):Co:=(RD (kL m.mt) m.cs).foldl (pn pt sf vo down onset c v m.cs) ⟨ns,held,false⟩
def tK(pt sf vo down onset:Int)(c v:Nat)(m:Me)(ns:List Nt)(held:List (P3×Nat)):List Nt×List (P3×Nat):=
 let r:=Cf pt sf vo down onset c v m ns held
 (r.ns,if r.th then r.held else[])
theorem Aa.own{L M:Mem}{c g:Nat}{pt st vo down:Int}{ns:List Nt}{held:List (P3×Nat)}(h:Aa L c g pt st vo down ns held)(l:M.D=L.D)(j:M.b=L.b):Aa M c g pt st vo down ns held:=by
 obtain⟨D,O,b⟩:=M;obtain⟨A,u,r⟩:=L;dsimp only at l j;subst l;subst j;exact h
theorem Aa.anq{L:Mem}{j c:Nat}{pt st vo down:Int}{ns:List Nt}{held:List (P3×Nat)}(h:Aa L j c pt st vo down ns held):∃l,ax L (.g c)=⟨1,12,[.ptr 0 (.g j) 1 0 0::l::(fsV pt st vo++[.i down])],false⟩∧L.b<=c∧∀M:Mem,M.D=dE L.D c ⟨1,12,[.ptr 0 (.g j) 1 0 0:: .nW::(fsV pt st vo++[.i down])],false⟩->M.b=L.b->Aa M j c pt st vo down ns []:=by
 obtain⟨Q,J,F,lv,l,u,r,C,N⟩:=h;refine⟨l,u,F,?_⟩;rintro⟨D,O,b⟩ B A;dsimp only at B A;subst B;subst A;have K:¬c=j:=by rintro rfl;rw[u]at r;injection r with _ h;cases h
 refine⟨?_,J,F,lv,.nW,?_,?_,?_,by simp,.inl ⟨rfl,rfl⟩⟩
 ·show L.b<=(dE L.D c _).length
  rw[fw];omega
 ·rw[gp,cK,aX rfl]
 ·rw[gp,cK,aP K];exact r
 ·refine C.mono rfl fun p ver n hp=> ?_
  rw[gp,cK,aP]
  ·rfl
  ·rintro rfl
   rcases C with⟨_,rfl⟩|⟨_,w,_,_,_,rfl,I⟩
   ·cases hp
   ·injection hp with _ h;injection h with h;subst h;rw[u]at I;injection I with _ h;cases h
theorem aal{pt sf vo down on off:Int}{x:Ev}{ns:List Nt}{held:List (P3×Nat)}(h:∀e∈held,e.2<ns.length):(∀e∈(vK pt sf vo down on off x ns held).2,e.2<(vK pt sf vo down on off x ns held).1.length)∧ns.length<=(vK pt sf vo down on off x ns held).1.length∧(vK pt sf vo down on off x ns held).1.length<=ns.length+x.hs.length:=by
 refine⟨aah _ _ _ _ _ _ _ _ h (fun e c=>by cases c),XP _ _ _ _ _ _ _ _⟩
theorem aix{x:Ev}(o:mX x):x.hs.length<=2:=by
 by_cases h:x.kd=1
 ·exact(o.hn h).2
 ·rw[(o.bare h).1];simp
theorem c23{L:Mem}{qo Y c v:Nat}{pt sf vo down onset:Int}{m:Me}{ns:List Nt}{held:List (P3×Nat)}(st:Aa L qo Y pt sf vo down ns held)(B:∀e∈held,e.2<ns.length)(ok:vI m)(hns:ns.length<=800000)(hd: -200<=down∧down<=200)(ho:0<=onset∧onset<=100000000)(hc:c<=100)(hv:v<=100)(T:Option (V×Option (List Row))->Prop)
  (fin:∀D':List Row,(∀M:Mem,M.D=D'->M.b=L.b->Aa M qo Y pt sf vo down (tK pt sf vo down onset c v m ns held).1 (tK pt sf vo down onset c v m ns held).2)->(∀e∈(tK pt sf vo down onset c v m ns held).2,e.2<(tK pt sf vo down onset c v m ns held).1.length)->(tK pt sf vo down onset c v m ns held).1.length<=ns.length+3072->T (some (.eT [],some D'))):
  T (call bn 23 [.ptr 0 (.g Y) 1 0 0,.agg m.v,.i onset,.i c,.i v] (L::H)):=by
 rw[av (f:=23) (by conv=>lhs;reduce)];have X:Aa (Ht.start false (L::H)) qo Y pt sf vo down ns held:=st.own rfl rfl;have vG:(Ht.start false (L::H)).b=L.b:=rfl;have m1:=m.sz.1;have m2:=m.sz.2;have m3:=m.tk;have m4:=m.sc;have m5:m.v[21]? =some (cu 2 (m.cs.map Ce.v)):=rfl;have cm:=fun H=>c42 (H:=H) ok;have tl:=VY ok;rw[aiv]at cm;simp only[↓zo,zp,seval];generalize Ht.start false (L::H)=L0 at*;have F:=fin;unfold tK Cf at F;generalize r:RD (kL m.mt) m.cs=ts at*;clear fin;simp(disch:=omega) only[↓zd,seval,push_cast,m1,m2,m3,m4,cm,dS];refine Nz (fun j fr W=>ag fr 0= .ptr 0 (.g Y) 1 0 0∧ag fr 2= .i onset∧ag fr 3= .i c∧ag fr 4= .i v∧ag fr 20=cu 5 (ts.map Sl.v)∧ag fr 21= .i ts.length∧ag fr 22= .i j∧(∃ver,0<ver∧ag fr 6= .ptr 0 (.o 1) ver 0 0∧ax W (.o 1)=⟨ver,22,[m.v],false⟩)∧W.b=L.b∧∃s:Co,(ts.take j).foldl (pn pt sf vo down onset c v m.cs) ⟨ns,held,false⟩=s∧ag fr 12= .bool s.th∧Aa W qo Y pt sf vo down s.ns s.held∧(∀e∈s.held,e.2<s.ns.length)∧s.ns.length<=ns.length+2*j) ts.length ?_ ?_ ?_
 ·refine⟨?_,?_,?_,?_,?_,?_,?_,⟨(ax L0 (.o 1)).ver+1,by omega,?_,?_⟩,?_,⟨ns,held,false⟩,rfl,?_,X.own rfl rfl,B,by show ns.length<=_;omega⟩
  (all_goals try simp only[↓zg,seval,aG]);all_goals try first|rfl|trivial|(simp only[zr,seval,aG];done)
  all_goals (first|exact vG|skip)
 ·clear cm X vG F st B
  rintro j fr W hj ⟨C,Q,O,N,I,u,l6,⟨ver,kH,K,J⟩,hb,s,hs,A,st,B,hsl⟩ next
  obtain⟨w,hw⟩:∃w,ts[j]? =some w:=⟨_,ak hj⟩
  have R:(ts.take (j+1)).foldl (pn pt sf vo down onset c v m.cs) ⟨ns,held,false⟩=pn pt sf vo down onset c v m.cs s w:=by
   rw[aY,hw,kG,hs];rfl
  obtain⟨y,z,x,y1,y2,y3,y4⟩:=aiw ok (s:=w) (by rw[r];exact ah hw);have ox:=(ok.vo y (ah y1) z (ah y2)).ev x (ah y3);have wb:0<=w.on∧w.on<=100000000000∧0<=w.off∧w.off<=100000000000:=by
   have hm:w∈ts:=ah hw;rw[<-r]at hm;unfold RD at hm;obtain⟨l,hl,hm⟩:=tq.1 hm;obtain⟨i',y',MN,rfl⟩:=mK hl;unfold tsV at hm;obtain⟨l,hl,hm⟩:=tq.1 hm;obtain⟨k',z',wM,rfl⟩:=mK hl;unfold XR at hm;obtain⟨n',o',eX,rfl⟩:=mK hm;have oz:=ok.vo y' (ah MN) z' (ah wM);have a:=VT (si oz).1 (by rw[(si oz).2.1];have:=oz.Aw;omega);have b:=a o' (ah eX);have ml:=zW ok.met;refine⟨b.1,b.2,?_⟩;dsimp only;cases hq:(kV (z'.lens (kL m.mt)))[n'+1]?with
   |none=>dsimp only[Option.getD_none];omega
   |some q=>have:=a q (ah hq);dsimp only[Option.getD_some];exact this
  have w1:(w.v).length=5:=rfl;have w2:(w.v).take 5=w.v:=rfl;have w3:(w.v).all V.scalar=true:=rfl;have w5:(w.v)[0]? =some (.i (w.i:Nat)):=rfl;have w6:(w.v)[1]? =some (.i (w.k:Nat)):=rfl;have w7:(w.v)[2]? =some (.i (w.n:Nat)):=rfl;have w8:(w.v)[3]? =some (.i w.on):=rfl;have w9:(w.v)[4]? =some (.i w.off):=rfl;have iw:w.i<=100∧w.k<=100:=by
   have i1:=(au.1 y1).1;have i2:=(au.1 y2).1;have i3:=ok.cn;have i4:=(ok.vn y (ah y1)).2;omega
  rw[R]at next
  unfold pn at next
  by_cases U:w.i=c
  ·by_cases Z:w.k=v
   ·rw[aX ⟨U,Z⟩,y4]at next
    dsimp only at next
    have er:=aal (pt:=pt) (sf:=sf) (vo:=vo) (down:=down) (on:=onset+w.on) (off:=onset+w.off) (x:=x) B;have h2x:=aix ox;have jS:Aa (bu (bu W (.o 2) ⟨(ax W (.o 2)).ver+1,5,[[.i 0,.i 0,.i 0,.i 0,.i 0]],false⟩) (.o 2) ⟨(ax W (.o 2)).ver+1,5,[w.v],false⟩) qo Y pt sf vo down s.ns s.held:=st.own rfl rfl;obtain⟨D',ce,cf⟩:=Ug (fun T fin=>c43 (H:=L::H) (on:=onset+w.on) (off:=onset+w.off) jS B (x:=x) ox.hs ox.inc (by omega) (by omega) hd T fin);have e1:=y.sz.1;have e2:=y.tk;have e3:y.v[1]? =some (cu 2 (y.vs.map Vo.v)):=rfl;have e4:=z.sz.1;have e5:z.v[0]? =some (cu 13 (z.es.map Ev.v)):=rfl;have e6:=x.sz.1;have e7:=x.sz.2;have e8:=x.tk;rw[U]at w5 y1;rw[Z]at w6 y2;clear ok r jS st B ox y4 R;simp(disch:=omega) only[↓zd,seval,push_cast,C,Q,O,N,I,u,l6,K,J,A,hw,w1,w2,w3,w5,w6,w7,w8,w9,m1,m5,y1,y2,y3,e1,e2,e3,e4,e5,e6,e7,e8,ce];refine next _ _ ⟨?_,?_,?_,?_,?_,?_,?_,⟨ver,kH,?_,?_⟩,?_,_,rfl,?_,?_,er.1,by have:=er.2.2;dsimp only;omega⟩
    (all_goals try simp only[↓zg,seval,C,Q,O,N,I,u,K,J]);all_goals try first|rfl|trivial|(simp only[zr,seval,C,Q,O,N,I,u,K,J];done)
    all_goals (first|exact hb|exact cf _ rfl rfl|skip)
   ·rw[aP (fun h=>Z h.2)]at next
    have hc2':((w.k:Int)=(v:Int))=False:=by simp;omega
    rw[U]at w5;clear ok r R;simp(disch:=omega) only[↓zd,seval,push_cast,C,Q,O,N,I,u,l6,K,J,A,hw,w1,w2,w3,w5,w6,hc2'];refine next _ _ ⟨?_,?_,?_,?_,?_,?_,?_,⟨ver,kH,?_,?_⟩,?_,s,rfl,?_,st.own rfl rfl,B,by omega⟩
    (all_goals try simp only[↓zg,seval,C,Q,O,N,I,u,K,J,A]);all_goals try first|rfl|trivial|(simp only[zr,seval,C,Q,O,N,I,u,K,J,A];done)
    all_goals (first|exact hb|skip)
  ·rw[aP (fun h=>U h.1)]at next
   have auj:((w.i:Int)=(c:Int))=False:=by simp;omega
   clear ok r R;simp(disch:=omega) only[↓zd,seval,push_cast,C,Q,O,N,I,u,l6,K,J,A,hw,w1,w2,w3,w5,w6,auj];refine next _ _ ⟨?_,?_,?_,?_,?_,?_,?_,⟨ver,kH,?_,?_⟩,?_,s,rfl,?_,st.own rfl rfl,B,by omega⟩
   (all_goals try simp only[↓zg,seval,C,Q,O,N,I,u,K,J,A]);all_goals try first|rfl|trivial|(simp only[zr,seval,C,Q,O,N,I,u,K,J,A];done)
   all_goals (first|exact hb|skip)
 ·clear cm X vG st B
  rintro fr W ⟨C,Q,O,N,I,u,l6,⟨ver,kH,K,J⟩,hb,s,hs,A,st,B,hsl⟩;rw[aT]at hs;rw[hs]at F;clear ok r hs;dsimp only at F;cases hth:s.th with
  |true=>
   rw[hth]at A F;rw[aX rfl]at F;simp(disch:=omega) only[↓zd,seval,push_cast,u,l6,A];exact F _ (fun M hD hB=>st.own hD (by rw[hB,hb])) B (by omega)
  |false=>
   rw[hth]at A F;rw[aP (by simp)]at F;obtain⟨F5,g1,g2,g3⟩:=st.anq;unfold fsV at g1;simp(disch:=omega) only[↓zd,seval,push_cast,C,u,l6,A,g1];exact F _ (fun M hD hB=>g3 M hD (by rw[hB,hb])) (fun e he=>by cases he) (by omega)
def Iy(ms:List Me)(n:Nat):List Int:=(List.range (n+1)).map fun i=>((ms.take i).map fun m=>kL m.mt).sum
theorem aam{ms:List Me}{i:Nat}{m:Me}(h:ms[i]? =some m):Iy ms (i+1)=Iy ms i++[((ms.take i).map fun m=>kL m.mt).sum+kL m.mt]:=by
 unfold Iy;rw[gK (n:=i+1),aR];congr 1;rw[bO,dX,aY,h,aR,kQ];simp
theorem aan{ms:List Me}{i n:Nat}(h:i<=n):(Iy ms n)[i]? =some ((ms.take i).map fun m=>kL m.mt).sum:=by
 unfold Iy;rw[aK,EG (by omega)];rfl
theorem RG{ms:List Me}(ok:∀m∈ms,vI m):∀i:Nat,0<=((ms.take i).map fun m=>kL m.mt).sum∧((ms.take i).map fun m=>kL m.mt).sum<=10000000*i:=by
 intro i;induction i with
 |zero=>simp
 |succ i c=>
  cases h:ms[i]?with
  |none=>rw[aY,h];simp only[Option.toList_none,bz];omega
  |some x=>
   have:=zW (ok x (ah h)).met;rw[aY,h,aR,kQ];simp only[eQ,bO,dX,sQ,List.sum_nil];omega
theorem c20{s:Sc}(ok:kN s):call bn 20 [.agg s.v] H=some (.sl .own 1 ((Iy s.ms s.ms.length).map Iv),none):=by
 have Z:=ok.ml;have s1:=s.sz.1;have s2:=s.sz.2;have R:=s.tk;have Q:=s.sc;have O:s.v[3]? =some (cu 22 (s.ms.map Me.v)):=rfl;have u:=ok.me;have on:=RG u;clear ok;refine(av (by conv=>lhs;reduce)).trans ?_;simp only[↓zo,zp,seval];simp(disch:=omega) only[↓zd,seval,push_cast,s1,s2,R,Q,O,dS];refine bI (fun i fr L=>ag fr 10=cu 22 (s.ms.map Me.v)∧ag fr 11= .i s.ms.length∧ag fr 12= .i i∧((i=0∧ag fr 3= .sl .full 1 [[.i 0]])∨(0<i∧∃ver,0<ver∧ag fr 3= .ref 0 (.o 3) ver 1 0 (i+1)∧ax L (.o 3)=⟨ver,1,(Iy s.ms i).map Iv,false⟩))) s.ms.length ?_ ?_ ?_
 ·refine⟨?_,?_,?_,.inl ⟨rfl,?_⟩⟩
  (all_goals try simp only[↓zg,seval]);all_goals try first|rfl|trivial|(simp only[zr,seval];done)
 ·rintro i fr L W ⟨l,j,A,g⟩ next
  obtain⟨m,hf⟩:∃x,s.ms[i]? =some x:=⟨_,ak W⟩
  have o:=u m (ah hf);have c:=fun H=>c37 (H:=H) o.met;have ml:=zW o.met;have hs:=on i;have m1:=m.sz.1;have m2:=m.sz.2;have N:=m.tk;have K:=m.sc;have nx:=aam hf;have r:=aan (ms:=s.ms) (i:=i) (n:=i) (aJ _);have Y:∀x,Iv x=[.i x]:=fun _=>rfl;have hl:((Iy s.ms i).map Iv).length=i+1:=by unfold Iy;simp
  rw[nx,aR]at next
  rcases g with⟨rfl,g⟩|⟨F,ver,U,g,I⟩
  ·have T:((List.take 0 s.ms).map fun m=>kL m.mt).sum=0:=by simp
   have B:Iy s.ms 0=[0]:=by simp[Iy]
   rw[T,B]at next
   have z:((0:Nat):Int)=0:=rfl;rw[z]at A;clear u on nx r hl hs;simp(disch:=omega) only[↓zd,seval,push_cast,l,j,A,g,hf,m1,m2,N,K,c,Rl,VC,IM,Rm,fq,Rn,uP,mO,Int.zero_add,z];refine next _ _ ⟨?_,?_,?_,.inr ⟨by omega,(ax L (.o 3)).ver+1,by omega,?_,?_⟩⟩
   (all_goals try simp only[↓zg,seval,l,j]);all_goals try first|rfl|trivial|(simp only[zr,seval,l,j];done)
   rw[ay,aX rfl,Int.zero_add];rfl
  ·have J:((Iy s.ms i).map Iv)[i]? =some [.i ((s.ms.take i).map fun m=>kL m.mt).sum]:=by rw[aK,r];rfl
   have C:((Iy s.ms i).map Iv).take (i+1)=(Iy s.ms i).map Iv:=aO (by omega);clear u on nx r;generalize (Iy s.ms i).map Iv=X at*;generalize ((s.ms.take i).map fun m=>kL m.mt).sum=S at*;simp(disch:=omega) only[↓zd,seval,push_cast,l,j,A,g,I,hf,m1,m2,N,K,c,Y,J,hl,C];refine next _ _ ⟨?_,?_,?_,.inr ⟨by omega,ver+1,by omega,?_,?_⟩⟩
   (all_goals try simp only[↓zg,seval,l,j]);all_goals try first|rfl|trivial|(simp only[zr,seval,l,j];done)
   rw[ay,aX rfl];rfl
 ·rintro fr L ⟨l,j,A,g⟩
  rcases g with⟨h,_⟩|⟨F,ver,U,g,I⟩
  ·omega
  ·have hl:((Iy s.ms s.ms.length).map Iv).length=s.ms.length+1:=by unfold Iy;simp
   have pu:=dh Iv.pu (Iy s.ms s.ms.length);clear u on;generalize (Iy s.ms s.ms.length).map Iv=X at*;simp(disch:=omega) only[↓zd,seval,push_cast,j,A,g,I,hl,pu]
section
variable{α:Type}(lt:α->α->Bool)
def sw(l:List α)(i j:Nat):List α:=
 match l[i]?,l[j]?with
 |some x,some y=>(l.set i y).set j x
 |_,_=>l
def RH(l:List α)(i j:Nat):Bool:=
 match l[i]?,l[j]?with
 |some x,some y=>lt x y
 |_,_=>false
def Mo(a:Nat):Nat->List α->List α
 |0,l=>l
 |j+1,l=>if a<j+1 then(if RH lt l (j+1) j then Mo a j (sw l (j+1) j)else l)else l
def Kv(a:Nat)(l:List α):Nat->List α
 |0=>l
 |k+1=>Mo lt a (a+1+k) (Kv a l k)
def Kw(a b:Nat)(l:List α):List α:=Kv lt a l (b-a-1)
def RI(l:List α)(a b:Nat):Nat->List α
 |0=>l
 |n+1=>sw (RI l a b n) (a+n) (b+n)
def XT:Nat->List α->Nat->Nat->Nat->List α
 |0,l,_,_,_=>l
 |n+1,l,m,i,j=>if i=j then RI l (m-i) m i else if j<i then XT n (RI l (m-i) m j) m (i-j) j else XT n (RI l (m-i) (m+j-i) i) m i (j-i)
def bs(p:Nat->Bool):Nat->Nat->Nat->Nat
 |0,i,_=>i
 |n+1,i,j=>if i<j then(if p ((i+j)/2)then bs p n ((i+j)/2+1) j else bs p n i ((i+j)/2))else i
def up(l:List α)(a:Nat):Nat->List α
 |0=>l
 |n+1=>sw (up l a n) (a+n) (a+n+1)
def dn(l:List α)(m:Nat):Nat->List α
 |0=>l
 |n+1=>sw (dn l m n) (m-n) (m-n-1)
def Gs:Nat->Nat->Nat->Nat->List α->List α
 |0,_,_,_,l=>l
 |f+1,a,m,b,l=>
  if m-a=1 then up l a (bs (fun h=>RH lt l h a) (b-m) m b-1-a)
  else if b-m=1 then dn l m (m-bs (fun h=> !RH lt l m h) (m-a) a m)
  else
   let vW:=(a+b)/2;let n:=vW+m;let s0:=if vW<m then n-b else a
   let r0:=if vW<m then vW else m
   let st:=bs (fun c=> !RH lt l (n-1-c) c) (r0-s0) s0 r0;let en:=n-st;let l1:=if st<m∧m<en then XT (en-st) l m (m-st) (en-m)else l
   let l2:=if a<st∧st<vW then Gs f a st vW l1 else l1
   if vW<en∧en<b then Gs f vW en b l2 else l2
def Mq(l:List α):Nat->List α
 |0=>l
 |k+1=>Kw lt (20*k) (20*k+20) (Mq l k)
def IC(w:Nat)(l:List α):Nat->List α
 |0=>l
 |k+1=>Gs lt (2*w) (2*w*k) (2*w*k+w) (2*w*k+2*w) (IC w l k)
def vX(n:Nat):Nat->Nat->List α->List α
 |0,_,l=>l
 |f+1,w,l=>if w<n then
   let k:=n/(2*w);let l1:=IC lt w l k
   vX n f (2*w) (if 2*w*k+w<n then Gs lt (n-2*w*k) (2*w*k) (2*w*k+w) n l1 else l1)
  else l
def NA(l:List α):List α:=vX lt l.length l.length 20 (Kw lt (20*(l.length/20)) l.length (Mq lt l (l.length/20)))
end
section
variable{α β:Type}{lt:α->α->Bool}{lt':β->β->Bool}{f:α->β}
theorem ad7(l:List α)(i j:Nat):sw (l.map f) i j=(sw l i j).map f:=by
 unfold sw;simp only[aK];cases l[i]?with
 |none=>rfl
 |some x=>
  cases l[j]?with
  |none=>rfl
  |some y=>simp only[aU,List.map_set]
theorem Ky(l:List α)(i j:Nat):(sw l i j).length=l.length:=by unfold sw;split<;>simp
variable(h:∀x y,lt' (f x) (f y)=lt x y)
include h
theorem af1(l:List α)(i j:Nat):RH lt' (l.map f) i j=RH lt l i j:=by
 unfold RH;simp only[aK];cases l[i]?with
 |none=>rfl
 |some x=>
  cases l[j]?with
  |none=>rfl
  |some y=>exact h x y
theorem aiz(a:Nat):∀(j:Nat)(l:List α),Mo lt' a j (l.map f)=(Mo lt a j l).map f:=by
 intro j;induction j with
 |zero=>intro l;rfl
 |succ j c=>
  intro l;simp only[Mo,af1 h,ad7,c];split
  ·split<;>rfl
  ·rfl
theorem aao(a:Nat)(l:List α):∀k,Kv lt' a (l.map f) k=(Kv lt a l k).map f:=by
 intro k;induction k with
 |zero=>rfl
 |succ k c=>simp only[Kv,c,aiz h]
omit h in
theorem ans(l:List α)(a b:Nat):∀n,RI (l.map f) a b n=(RI l a b n).map f:=by
 intro n;induction n with
 |zero=>rfl
 |succ n c=>simp only[RI,c,ad7]
omit h in
theorem ant:∀(n:Nat)(l:List α)(m i j:Nat),XT n (l.map f) m i j=(XT n l m i j).map f:=by
 intro n;induction n with
 |zero=>intro l m i j;rfl
 |succ n c=>
  intro l m i j;simp only[XT,ans,c];split
  ·rfl
  ·split<;>rfl
omit h in
theorem auk(l:List α)(a:Nat):∀n,up (l.map f) a n=(up l a n).map f:=by
 intro n;induction n with
 |zero=>rfl
 |succ n c=>simp only[up,c,ad7]
omit h in
theorem aul(l:List α)(a:Nat):∀n,dn (l.map f) a n=(dn l a n).map f:=by
 intro n;induction n with
 |zero=>rfl
 |succ n c=>simp only[dn,c,ad7]
theorem aap:∀(n a m b:Nat)(l:List α),Gs lt' n a m b (l.map f)=(Gs lt n a m b l).map f:=by
 intro n;induction n with
 |zero=>intro a m b l;rfl
 |succ n c=>
  intro a m b l;simp only[Gs,af1 h,auk,aul,ant];split
  ·rfl
  ·split
   ·rfl
   ·simp only[<-apply_ite (List.map f),c]
theorem aiA(l:List α):∀k,Mq lt' (l.map f) k=(Mq lt l k).map f:=by
 intro k;induction k with
 |zero=>rfl
 |succ k c=>simp only[Mq,Kw,c,aao h]
theorem aiB(w:Nat)(l:List α):∀k,IC lt' w (l.map f) k=(IC lt w l k).map f:=by
 intro k;induction k with
 |zero=>rfl
 |succ k c=>simp only[IC,c,aap h]
theorem aaq(n:Nat):∀(k w:Nat)(l:List α),vX lt' n k w (l.map f)=(vX lt n k w l).map f:=by
 intro k;induction k with
 |zero=>intro w l;rfl
 |succ k c=>
  intro w l;simp only[vX,aiB h,aap h,<-apply_ite (List.map f),c]
theorem af2(l:List α):NA lt' (l.map f)=(NA lt l).map f:=by
 simp only[NA,aG,aiA h,Kw,aao h,aaq h]
end
theorem iq{D:List Row}{q:Nat}{r g:Row}:dE (dE D q r) q g=dE D q g:=by
 induction D generalizing q with
 |nil=>induction q with
  |zero=>rfl
  |succ q c=>simp only[dE,c]
 |cons a D c=>cases q with
  |zero=>rfl
  |succ q=>simp only[dE,c]
theorem uL{D:List Row}{q:Nat}{r:Row}(h:eP D q=r)(c:q<D.length):dE D q r=D:=by
 induction D generalizing q with
 |nil=>simp at c
 |cons a D g=>cases q with
  |zero=>unfold eP at h;subst h;rfl
  |succ q=>rw[dE,g h (by simpa using c)]
def Gt(x y:Nt):Int:=Uc [zk x.on y.on,zk x.n y.n,zk x.pt y.pt,zk x.st y.st,zk x.vo y.vo,zk x.off y.off,zk 1 1,zk x.ev y.ev,zk x.hd y.hd]
def uz(x y:Nt):Bool:=decide (Gt x y<0)
theorem c46(x y:Nt):call bn 46 [.agg x.v,.agg y.v] H=some (.i (Gt x y),none):=by
 have c:∀(a b c d e f g h i:Int)(H:List Mem),call bn 91 [.sl .any 1 [[.i a],[.i b],[.i c],[.i d],[.i e],[.i f],[.i g],[.i h],[.i i]]] H=some (.i (Uc [a,b,c,d,e,f,g,h,i]),none):=fun a b c d e f g h i H=>c91 (H:=H) (l:=[a,b,c,d,e,f,g,h,i]) (by simp);unfold Nt.v Gt;refine(av (by conv=>lhs;reduce)).trans ?_;simp only[↓zo,zp,seval];simp(disch:=omega) only[↓zd,seval,go_sem,c92,c]
def kP(ver:Nat)(l:List Nt):Row:=⟨ver,9,l.map Nt.v,false⟩
theorem qD{ver:Nat}{l:List Nt}:(kP ver l).ver=ver:=rfl
theorem qE{ver:Nat}{l:List Nt}:(kP ver l).els=l.map Nt.v:=rfl
theorem tL{ver:Nat}{l:List Nt}:(kP ver l).fz=false:=rfl
theorem tN{ver:Nat}{l:List Nt}:(kP ver l).sz=9:=rfl
theorem Pj{l:List Nt}{i j:Nat}{x y:Nt}(g:l[i]? =some x)(c:l[j]? =some y):(sw l i j).map Nt.v=((l.map Nt.v).set i y.v).set j x.v:=by
 unfold sw;rw[g,c];dsimp only;rw[List.map_set,List.map_set]
theorem Pk{l:List Nt}{i j:Nat}{x y:Nt}(c:l[j]? =some y):∃w:Nt,((l.map Nt.v).set i x.v)[j]? =some w.v:=by
 rw[List.getElem?_set];by_cases h:i=j
 ·subst h
  have:=(au.1 c).1;exact⟨x,by rw[aX rfl,aX (by simpa using this)]⟩
 ·exact⟨y,by rw[aP h,aK,c];rfl⟩
theorem Nt.dr(x:Nt):x.v.drop 9=[]:=rfl
theorem CF{α:Type}(l:List α)(a b:Nat):∀n,(RI l a b n).length=l.length:=by
 intro n;induction n with
 |zero=>rfl
 |succ n c=>rw[RI,Ky,c]
theorem aiC{L:Mem}{q ver a b n:Nat}{l:List Nt}(W:0<ver)(K:ax L (.g q)=kP ver l)(Y:L.b<=q)(ha:a+n<=l.length)(X:b+n<=l.length)(hl:l.length<=1000000):call bn 268 [.ref 0 (.g q) ver 9 0 l.length,.i a,.i b,.i n,.fn 46 []] (L::H)=some (.eT [],some (dE L.D q (kP ver (RI l a b n)))):=by
 have O:(Ht.start false (L::H)).D=L.D:=rfl;have Q:(Ht.start false (L::H)).b=L.b:=rfl;have T:=gX K W;refine(av (by conv=>lhs;reduce)).trans ?_;simp only[↓zo,zp,seval];generalize Ht.start false (L::H)=L0 at*;simp(disch:=omega) only[↓zd,seval,go_sem];refine bI (fun i fr c=>ag fr 0= .ref 0 (.g q) ver 9 0 l.length∧ag fr 1= .i a∧ag fr 2= .i b∧ag fr 3= .i n∧ag fr 10= .i i∧c.b=L.b∧c.D=dE L.D q (kP ver (RI l a b i))) n ?_ ?_ ?_
 ·refine⟨?_,?_,?_,?_,?_,?_,?_⟩
  (all_goals try simp only[↓zg,Nat.reduceEqDiff,reduceCtorEq,↓reduceIte]);all_goals try first|rfl|trivial|(simp only[zr,Nat.reduceEqDiff,reduceCtorEq,↓reduceIte];done)
  all_goals (first|exact Q|exact O.trans (uL K T).symm|skip)
 ·rintro i fr c hi ⟨C,B,A,r,I,F,u⟩ next
  have Z:ax c (.g q)=kP ver (RI l a b i):=by
   show eP c.D q=_;rw[u,cK,aX rfl]
  have j:=CF l a b i;generalize hm:RI l a b i=m at*;obtain⟨x,hx⟩:∃x,m[a+i]? =some x:=⟨_,ak (by omega)⟩
  obtain⟨y,J⟩:∃x,m[b+i]? =some x:=⟨_,ak (by omega)⟩
  obtain⟨w,U⟩:=Pk (i:=a+i) (x:=y) J;have R:=Pj hx J;have N:RI l a b (i+1)=sw m (a+i) (b+i):=by rw[RI,hm]
  have wb:c.b<=q:=by rw[F];exact Y
  have t1:((a:Int)+(i:Int)).toNat=a+i:=by omega
  have t2:((b:Int)+(i:Int)).toNat=b+i:=by omega
  clear O Q j hm K;simp(disch:=omega) only[↓zd,seval,go_sem,C,B,A,r,I,Z,qD,qE,tL,tN,t1,t2,hx,J,U,x.sz.1,x.sz.2,x.tk,x.sc,x.gl,x.dr,y.sz.1,y.sz.2,y.tk,y.sc,y.gl,y.dr,w.sz.1,w.dr];refine next _ _ ⟨?_,?_,?_,?_,?_,?_,?_⟩
  (all_goals try simp only[↓zg,Nat.reduceEqDiff,reduceCtorEq,↓reduceIte,C,B,A,r]);all_goals try first|rfl|trivial|(simp only[zr,Nat.reduceEqDiff,reduceCtorEq,↓reduceIte,C,B,A,r];done)
  all_goals (first|exact F|skip)
  rw[fF,fF,u,iq,iq,N,kP,R]
 ·rintro fr c ⟨C,B,A,r,I,F,u⟩
  simp(disch:=omega) only[↓zd,seval,go_sem,r,I,u]
theorem Pm{α:Type}:∀(f:Nat)(l:List α)(m i j:Nat),(XT f l m i j).length=l.length:=by
 intro f;induction f with
 |zero=>intro l m i j;rfl
 |succ f c=>
  intro l m i j;unfold XT;split
  ·exact CF ..
  ·split
   ·rw[c,CF]
   ·rw[c,CF]
theorem aum{L:Mem}{q ver a m b:Nat}{l:List Nt}(Q:0<ver)(W:ax L (.g q)=kP ver l)(hb:L.b<=q)(ham:a<m)(hmb:m<b)(hbl:b<=l.length)(hl:l.length<=1000000):call bn 256 [.ref 0 (.g q) ver 9 0 l.length,.i a,.i m,.i b,.fn 46 []] (L::H)=some (.eT [],some (dE L.D q (kP ver (XT (b-a) l m (m-a) (b-m))))):=by
 have hD:(Ht.start false (L::H)).D=L.D:=rfl;have hB:(Ht.start false (L::H)).b=L.b:=rfl;have lq:=gX W Q;refine(av (by conv=>lhs;reduce)).trans ?_;simp only[↓zo,zp,seval];generalize Ht.start false (L::H)=L0 at*;simp(disch:=omega) only[↓zd,seval,go_sem];refine qQ (fun f fr A=>∃i j B,0<i∧0<j∧i+j<=f∧i<=m∧m+j<=l.length∧B.length=l.length∧ag fr 0= .ref 0 (.g q) ver 9 0 l.length∧ag fr 2= .i m∧ag fr 4= .fn 46 []∧ag fr 10= .i (i:Nat)∧ag fr 11= .i (j:Nat)∧A.b=L.b∧A.D=dE L.D q (kP ver B)∧XT (b-a) l m (m-a) (b-m)=XT f B m i j) (b-a) ⟨m-a,b-m,l,by omega,by omega,by omega,by omega,by omega,rfl,?_,?_,?_,?_,?_,?_,?_,rfl⟩ ?_
 ·simp only[↓zg,Nat.reduceEqDiff,reduceCtorEq,↓reduceIte]
  rfl
 ·simp only[↓zg,Nat.reduceEqDiff,reduceCtorEq,↓reduceIte]
  rfl
 ·simp only[↓zg,Nat.reduceEqDiff,reduceCtorEq,↓reduceIte]
  rfl
 ·simp only[↓zg,Nat.reduceEqDiff,reduceCtorEq,↓reduceIte]
  congr 1;omega
 ·simp only[↓zg,Nat.reduceEqDiff,reduceCtorEq,↓reduceIte]
  congr 1;omega
 ·exact hB
 ·exact hD.trans (uL W lq).symm
 ·rintro f fr A ⟨i,j,B,hi,hj,hf,Xh,X,r,I,F,C,N,K,U,Z,hr⟩ next
  have Y:ax A (.g q)=kP ver B:=by
   show eP A.D q=_;rw[Z,cK,aX rfl]
  have R:A.b<=q:=by rw[U];exact hb
  have T:(m:Int)-(i:Int)=((m-i:Nat):Int):=by omega
  have t1:((m-i:Nat):Int)+(j:Int)=((m-i+j:Nat):Int):=by omega
  have t2:(m:Int)+(j:Int)-(i:Int)=((m+j-i:Nat):Int):=by omega
  obtain⟨f',rfl⟩:∃f',f=f'+1:=⟨f-1,by omega⟩
  rw[XT]at hr;have dd:∀u,A.D=dE L.D q (kP ver B)->dE A.D q (kP ver u)=dE L.D q (kP ver u):=fun u h=>by rw[h,iq]
  have J:=fun u=>dd u Z;clear dd hD hB W;by_cases hij:i=j
  ·rw[aX hij]at hr
   subst hij;have c:=aiC (H:=L::H) (L:=A) (a:=m-i) (b:=m) (n:=i) Q Y R (by omega) (by omega) (by omega);rw[r]at c;clear next
   simp(disch:=omega) only[↓zd,seval,go_sem,I,F,C,N,K,T,c,J,hr]
  ·rw[aP hij]at hr
   have O:((i:Int)=(j:Int))=False:=by simp;omega
   by_cases Qh:j<i
   ·rw[aX Qh]at hr
    have c:=aiC (H:=L::H) (L:=A) (a:=m-i) (b:=m) (n:=j) Q Y R (by omega) (by omega) (by omega);rw[r]at c;simp(disch:=omega) only[↓zd,seval,go_sem,I,F,C,N,K,T,c,J,O];refine next f' _ _ (by omega) ⟨i-j,j,RI B (m-i) m j,by omega,hj,by omega,by omega,X,by rw[CF,r],?_,?_,?_,?_,?_,?_,?_,hr⟩
    (all_goals try simp only[↓zg,Nat.reduceEqDiff,reduceCtorEq,↓reduceIte,I,F,C,K]);all_goals try first|rfl|trivial|(simp only[zr,Nat.reduceEqDiff,reduceCtorEq,↓reduceIte,I,F,C,K];done)
    all_goals (first|exact U|(congr 1;omega)|skip)
   ·rw[aP Qh]at hr
    have c:=aiC (H:=L::H) (L:=A) (a:=m-i) (b:=m+j-i) (n:=i) Q Y R (by omega) (by omega) (by omega);rw[r]at c;simp(disch:=omega) only[↓zd,seval,go_sem,I,F,C,N,K,T,t2,c,J,O];refine next f' _ _ (by omega) ⟨i,j-i,RI B (m-i) (m+j-i) i,hi,by omega,by omega,by omega,by omega,by rw[CF,r],?_,?_,?_,?_,?_,?_,?_,hr⟩
    (all_goals try simp only[↓zg,Nat.reduceEqDiff,reduceCtorEq,↓reduceIte,I,F,C,N]);all_goals try first|rfl|trivial|(simp only[zr,Nat.reduceEqDiff,reduceCtorEq,↓reduceIte,I,F,C,N];done)
    all_goals (first|exact U|(congr 1;omega)|skip)
theorem aas(a:Nat):∀(j:Nat)(l:List Nt),(Mo uz a j l).length=l.length:=by
 intro j;induction j with
 |zero=>intro l;rfl
 |succ j c=>
  intro l;unfold Mo;split
  ·split
   ·rw[c,Ky]
   ·rfl
  ·rfl
theorem Fv(a:Nat)(l:List Nt):∀k,(Kv uz a l k).length=l.length:=by
 intro k;induction k with
 |zero=>rfl
 |succ k c=>rw[Kv,aas,c]
theorem IW(x y:Nt): -2<=Gt x y∧Gt x y<=2:=by
 have h:∀l:List Int,(∀z∈l,-2<=z∧z<=2)->-2<=Uc l∧Uc l<=2:=by
  intro l;induction l with
  |nil=>intro _;simp[Uc]
  |cons a l j=>
   intro h;unfold Uc;split
   ·exact j fun z g=>h z (dD _ g)
   ·exact h a (by simp)
 have c:∀a b,-2<=zk a b∧zk a b<=2:=by intro a b;unfold zk;(repeat' split)<;>omega
 unfold Gt;apply h;intro z g;simp only[ed,jI,Be]at g;rcases g with rfl|rfl|rfl|rfl|rfl|rfl|rfl|rfl|rfl<;>exact c _ _
theorem anv{L:Mem}{q ver a b:Nat}{l:List Nt}(hv:0<ver)(O:ax L (.g q)=kP ver l)(hb:L.b<=q)(hab:a<=b)(hbl:b<=l.length)(hl:l.length<=1000000):call bn 215 [.ref 0 (.g q) ver 9 0 l.length,.i a,.i b,.fn 46 []] (L::H)=some (.eT [],some (dE L.D q (kP ver (Kw uz a b l)))):=by
 have U:(Ht.start false (L::H)).D=L.D:=rfl;have hB:(Ht.start false (L::H)).b=L.b:=rfl;have lq:=gX O hv;unfold Kw;refine(av (by conv=>lhs;reduce)).trans ?_;simp only[↓zo,zp,seval];generalize Ht.start false (L::H)=L0 at*;simp(disch:=omega) only[↓zd,seval,go_sem];refine bI (fun k fr F=>ag fr 0= .ref 0 (.g q) ver 9 0 l.length∧ag fr 1= .i a∧ag fr 2= .i b∧ag fr 3= .fn 46 []∧ag fr 8= .i ((a+1+k:Nat):Int)∧F.b=L.b∧F.D=dE L.D q (kP ver (Kv uz a l k))) (b-a-1) ?_ ?_ ?_
 ·refine⟨?_,?_,?_,?_,?_,?_,?_⟩
  (all_goals try simp only[↓zg,Nat.reduceEqDiff,reduceCtorEq,↓reduceIte]);all_goals try first|rfl|trivial|(simp only[zr,Nat.reduceEqDiff,reduceCtorEq,↓reduceIte];done)
  all_goals (first|exact hB|exact U.trans (uL O lq).symm|skip)
 ·clear U hB
  rintro k fr F hk ⟨C,B,u,A,r,K,I⟩ next
  have hlt:a+1+k<b:=by omega
  have W:=Fv a l k;simp(disch:=omega) only[↓zd,seval,go_sem,C,B,u,A,r];refine qQ (fun j fr F=>∃J,j<=a+1+k∧a<=j∧J.length=l.length∧ag fr 0= .ref 0 (.g q) ver 9 0 l.length∧ag fr 1= .i a∧ag fr 2= .i b∧ag fr 3= .fn 46 []∧ag fr 8= .i ((a+1+k:Nat):Int)∧ag fr 9= .i (j:Nat)∧F.b=L.b∧F.D=dE L.D q (kP ver J)∧Kv uz a l (k+1)=Mo uz a j J) (a+1+k) ⟨Kv uz a l k,aJ _,by omega,W,?_,?_,?_,?_,?_,?_,K,I,rfl⟩ ?_
  ·simp only[↓zg,Nat.reduceEqDiff,reduceCtorEq,↓reduceIte,C]
  ·simp only[↓zg,Nat.reduceEqDiff,reduceCtorEq,↓reduceIte,B]
  ·simp only[↓zg,Nat.reduceEqDiff,reduceCtorEq,↓reduceIte,u]
  ·simp only[↓zg,Nat.reduceEqDiff,reduceCtorEq,↓reduceIte,A]
  ·simp only[↓zg,Nat.reduceEqDiff,reduceCtorEq,↓reduceIte,r]
  ·simp only[↓zg,Nat.reduceEqDiff,reduceCtorEq,↓reduceIte,r]
  ·clear C B u A r K I fr F
   rintro j fr F ⟨J,hj1,hj2,Q,C,B,u,A,r,h9,K,I,hr⟩ X;have Y:ax F (.g q)=kP ver J:=by
    show eP F.D q=_;rw[I,cK,aX rfl]
   have wb:F.b<=q:=by rw[K];exact hb
   have t8:((a+1+k:Nat):Int)+1=((a+1+(k+1):Nat):Int):=by omega
   have hb8:(0:Int)<=((a+1+k:Nat):Int)∧((a+1+k:Nat):Int)<=1000000:=by omega
   by_cases T:j=a
   ·subst T
    have AU:Kv uz j l (k+1)=J:=by
     rw[hr];cases j with
     |zero=>rfl
     |succ j=>rw[Mo,aP (by omega)]
    rw[<-AU]at I;clear X hr AU O Y;simp(disch:=omega) only[↓zd,seval,go_sem,C,B,u,A,r,h9];refine next _ _ ⟨?_,?_,?_,?_,?_,K,I⟩
    (all_goals try simp only[↓zg,Nat.reduceEqDiff,reduceCtorEq,↓reduceIte,C,B,u,A,r]);all_goals try first|rfl|trivial|(simp only[zr,Nat.reduceEqDiff,reduceCtorEq,↓reduceIte,C,B,u,A,r];done)
    all_goals (first|(congr 1;omega)|skip)
   ·obtain⟨i,rfl⟩:∃i,j=i+1:=⟨j-1,by omega⟩
    obtain⟨x,hx⟩:∃x,J[i]? =some x:=⟨_,ak (by omega)⟩
    obtain⟨y,R⟩:∃x,J[i+1]? =some x:=⟨_,ak (by omega)⟩
    have hlts:RH uz J (i+1) i=decide (Gt y x<0):=by unfold RH;rw[R,hx];rfl
    rw[Mo,aX (by omega),hlts]at hr;have c:=fun H=>c46 (H:=H) y x;have ci:=IW y x;have t1:(((i+1:Nat):Int)-1).toNat=i:=by omega
    have t2:(((i+1:Nat):Int)).toNat=i+1:=by omega
    generalize Gt y x=w at*;by_cases Z:w<0
    ·rw[dW Z,aX rfl]at hr
     obtain⟨z,hz⟩:=Pk (i:=i+1) (x:=x) hx;have sm:=Pj R hx;have dd:∀N,dE F.D q (kP ver N)=dE L.D q (kP ver N):=fun N=>by rw[I,iq]
     clear O next hlts
     simp(disch:=omega) only[↓zd,seval,go_sem,C,B,u,A,r,h9,Y,qD,qE,tL,tN,t1,t2,hx,R,hz,x.sz.1,x.sz.2,x.tk,x.sc,x.gl,x.dr,y.sz.1,y.sz.2,y.tk,y.sc,y.gl,y.dr,z.sz.1,z.dr,c];refine X i _ _ (by omega) ⟨sw J (i+1) i,by omega,by omega,by rw[Ky,Q],?_,?_,?_,?_,?_,?_,?_,?_,hr⟩;(all_goals try simp only[↓zg,Nat.reduceEqDiff,reduceCtorEq,↓reduceIte,C,B,u,A,r]);all_goals try first|rfl|trivial|(simp only[zr,Nat.reduceEqDiff,reduceCtorEq,↓reduceIte,C,B,u,A,r];done)
     all_goals (first|exact K|(congr 1;omega)|(rw[fF,fF,I,iq,iq,kP,sm];done)|skip)
    ·rw[fB Z,aP (by simp)]at hr
     rw[<-hr]at I;clear X hr O;simp(disch:=omega) only[↓zd,seval,go_sem,C,B,u,A,r,h9,Y,qD,qE,tL,tN,t1,t2,hx,R,x.sz.1,x.sz.2,x.tk,x.sc,x.gl,x.dr,y.sz.1,y.sz.2,y.tk,y.sc,y.gl,y.dr,c];refine next _ _ ⟨?_,?_,?_,?_,?_,K,I⟩
     (all_goals try simp only[↓zg,Nat.reduceEqDiff,reduceCtorEq,↓reduceIte,C,B,u,A,r]);all_goals try first|rfl|trivial|(simp only[zr,Nat.reduceEqDiff,reduceCtorEq,↓reduceIte,C,B,u,A,r];done)
     all_goals (first|(congr 1;omega)|skip)
 ·rintro fr F ⟨C,B,u,A,r,K,I⟩
  have t:¬(((a+1+(b-a-1):Nat):Int)<(b:Int)):=by omega
  clear O U;generalize ((a+1+(b-a-1):Nat):Int)=w at*;simp(disch:=omega) only[↓zd,seval,go_sem,u,r,I]
theorem aat(l:List Nt)(a:Nat):∀n,(up l a n).length=l.length:=by
 intro n;induction n with
 |zero=>rfl
 |succ n c=>rw[up,Ky,c]
theorem aau(l:List Nt)(a:Nat):∀n,(dn l a n).length=l.length:=by
 intro n;induction n with
 |zero=>rfl
 |succ n c=>rw[dn,Ky,c]
theorem Fw:∀(f a m b:Nat)(l:List Nt),(Gs uz f a m b l).length=l.length:=by
 intro f;induction f with
 |zero=>intro a m b l;rfl
 |succ f c=>
  intro a m b l;unfold Gs;split
  ·exact aat ..
  ·split
   ·exact aau ..
   ·dsimp only
    (repeat' split)<;>(first|rfl|(simp only[c,Pm];done)|simp_all [Pm])
theorem Ul(p:Nat->Bool)(f i:Nat):bs p f i i=i:=by
 cases f with
 |zero=>rfl
 |succ f=>unfold bs;rw[aP (by omega)]
theorem Um{n:Nat}:oW .shr (.int .u64 (n:Nat)) (.int .u64 1)=some (.int .u64 ((n/2:Nat):Int)):=by
 have:((n:Int).fdiv (2^min (1:Int).toNat 64))=((n/2:Nat):Int):=by
  show(n:Int).fdiv 2=_;rw[Int.fdiv_eq_ediv_of_nonneg _ (by omega)];omega
 show some (V.int .u64 ((n:Int).fdiv (2^min (1:Int).toNat 64)))=_;rw[this]
theorem Uo{l:List Nt}{i j:Nat}{x y:Nt}(g:l[i]? =some x)(c:l[j]? =some y):RH uz l i j=decide (Gt x y<0):=by unfold RH;rw[g,c];rfl
theorem anx:∀(f:Nat){H:List Mem}{L:Mem}{q ver a m b:Nat}{l:List Nt},0<ver->ax L (.g q)=kP ver l->L.b<=q->a<m->m<b->b<=l.length->l.length<=400000->b-a<=f->call bn 216 [.ref 0 (.g q) ver 9 0 l.length,.i a,.i m,.i b,.fn 46 []] (L::H)=some (.eT [],some (dE L.D q (kP ver (Gs uz f a m b l)))):=by
 intro f;induction f with
 |zero=>intros;omega
 |succ f ih=>
  intro H L q ver a m b l hv Y hb ham hmb hbl hl hf;have hD:(Ht.start false (L::H)).D=L.D:=rfl;have hB:(Ht.start false (L::H)).b=L.b:=rfl;have lq:=gX Y hv;have T:ax (Ht.start false (L::H)) (.g q)=kP ver l:=Y;refine(av (by conv=>lhs;reduce)).trans ?_;simp only[↓zo,zp,seval];generalize Ht.start false (L::H)=L0 at*;unfold Gs;by_cases hA:m-a=1
  ·rw[aX hA]
   clear ih;have hA':(m:Int)-(a:Int)=1:=by omega
   simp(config := { maxSteps := 10000000 }) (disch:=omega) only[↓zd,seval,go_sem,hA'];refine qQ (fun g fr B=>∃i j,m<=i∧i<=j∧j<=b∧j-i<=g∧bs (fun h=>RH uz l h a) (b-m) m b=bs (fun h=>RH uz l h a) g i j∧ag fr 0= .ref 0 (.g q) ver 9 0 l.length∧ag fr 1= .i a∧ag fr 4= .fn 46 []∧ag fr 10= .i (i:Nat)∧ag fr 11= .i (j:Nat)∧B=L0) (b-m) ⟨m,b,aJ _,by omega,aJ _,aJ _,rfl,?_,?_,?_,?_,?_,rfl⟩ ?_
   ·simp only[↓zg,Nat.reduceEqDiff,reduceCtorEq,↓reduceIte]
    rfl
   ·simp only[↓zg,Nat.reduceEqDiff,reduceCtorEq,↓reduceIte]
    rfl
   ·simp only[↓zg,Nat.reduceEqDiff,reduceCtorEq,↓reduceIte]
    rfl
   ·simp only[↓zg,Nat.reduceEqDiff,reduceCtorEq,↓reduceIte]
   ·simp only[↓zg,Nat.reduceEqDiff,reduceCtorEq,↓reduceIte]
   rintro g fr B ⟨i,j,hi1,hij,hjb,hg,hbs,r,K,C,Q,jg,rfl⟩ next
   by_cases hc:i<j
   ·obtain⟨g',rfl⟩:∃g',g=g'+1:=⟨g-1,by omega⟩
    rw[bs,aX hc]at hbs;have t1:((i:Int)+(j:Int))=((i+j:Nat):Int):=by omega
    obtain⟨x,hx⟩:∃x,l[(i+j)/2]? =some x:=⟨_,ak (by omega)⟩
    obtain⟨y,I⟩:∃x,l[a]? =some x:=⟨_,ak (by omega)⟩
    rw[Uo hx I]at hbs;have c:=fun H=>c46 (H:=H) x y;have ci:=IW x y;have hh:(i+j)/2<l.length:=by omega
    have hh1:(i+j)/2<j:=by omega
    have hh2:i<=(i+j)/2:=by omega
    generalize Gt x y=w at*;by_cases X:w<0
    ·rw[dW X,aX rfl]at hbs
     have U:= @xH ((i+j:Nat):Int) (by omega);generalize Pn:(i+j)/2=A at*;simp(config := { maxSteps := 10000000 }) (disch:=omega) only[↓zd,seval,go_sem,r,K,C,Q,jg,t1,U,Um,Pn,T,qD,qE,tL,tN,hx,I,x.sz.1,x.sz.2,x.tk,x.sc,y.sz.1,y.sz.2,y.tk,y.sc,c];refine next g' _ _ (by omega) ⟨A+1,j,by omega,by omega,hjb,by omega,hbs,?_,?_,?_,?_,?_,rfl⟩
     (all_goals try simp only[↓zg,Nat.reduceEqDiff,reduceCtorEq,↓reduceIte,r,K,C,jg]);all_goals try first|rfl|trivial|(simp only[zr,Nat.reduceEqDiff,reduceCtorEq,↓reduceIte,r,K,C,jg];done)
    ·rw[fB X,aP (by simp)]at hbs
     have U:= @xH ((i+j:Nat):Int) (by omega);generalize Pn:(i+j)/2=A at*;simp(config := { maxSteps := 10000000 }) (disch:=omega) only[↓zd,seval,go_sem,r,K,C,Q,jg,t1,U,Um,Pn,T,qD,qE,tL,tN,hx,I,x.sz.1,x.sz.2,x.tk,x.sc,y.sz.1,y.sz.2,y.tk,y.sc,c];refine next g' _ _ (by omega) ⟨i,A,by omega,by omega,by omega,by omega,hbs,?_,?_,?_,?_,?_,rfl⟩
     (all_goals try simp only[↓zg,Nat.reduceEqDiff,reduceCtorEq,↓reduceIte,r,K,C,Q]);all_goals try first|rfl|trivial|(simp only[zr,Nat.reduceEqDiff,reduceCtorEq,↓reduceIte,r,K,C,Q];done)
   ·obtain rfl:i=j:=by omega
    rw[Ul]at hbs;rw[hbs];clear next hbs
    simp(config := { maxSteps := 10000000 }) (disch:=omega) only[↓zd,seval,go_sem,r,K,C,Q,jg];refine bI (fun k fr B=>ag fr 0= .ref 0 (.g q) ver 9 0 l.length∧ag fr 10= .i (i:Nat)∧ag fr 13= .i ((a+k:Nat):Int)∧B.b=L.b∧B.D=dE L.D q (kP ver (up l a k))) (i-1-a) ?_ ?_ ?_
    ·refine⟨?_,?_,?_,?_,?_⟩
     (all_goals try simp only[↓zg,Nat.reduceEqDiff,reduceCtorEq,↓reduceIte,r,Q,K]);all_goals try first|rfl|trivial|(simp only[zr,Nat.reduceEqDiff,reduceCtorEq,↓reduceIte,r,Q,K];done)
     all_goals (first|exact hB|exact hD.trans (uL Y lq).symm|skip)
    ·clear r K C Q jg
     rintro k fr B hk ⟨r,Q,o8,o7,ng⟩ next
     have EA:ax B (.g q)=kP ver (up l a k):=by
      show eP B.D q=_;rw[ng,cK,aX rfl]
     have Z:=aat l a k;have hnx:up l a (k+1)=sw (up l a k) (a+k) (a+k+1):=rfl;generalize up l a k=u at*;obtain⟨x,hx⟩:∃x,u[a+k]? =some x:=⟨_,ak (by omega)⟩
     obtain⟨y,I⟩:∃x,u[a+k+1]? =some x:=⟨_,ak (by omega)⟩
     obtain⟨w,X⟩:=Pk (i:=a+k) (x:=y) I;have sm:=Pj hx I;have wb:B.b<=q:=by rw[o7];exact hb
     have t1:(((a+k:Nat):Int)).toNat=a+k:=by omega
     have t2:(((a+k:Nat):Int)+1).toNat=a+k+1:=by omega
     have t3:((a+k:Nat):Int)+1=((a+(k+1):Nat):Int):=by omega
     have t4:((a+k:Nat):Int)<(i:Int)-1∧(0:Int)<=((a+k:Nat):Int)∧((a+k:Nat):Int)+1<(l.length:Int):=by omega
     clear hD hB Z Y T;simp(config := { maxSteps := 10000000 }) (disch:=omega) only[↓zd,seval,go_sem,r,Q,o8,EA,qD,qE,tL,tN,t1,t2,hx,I,X,x.sz.1,x.sz.2,x.tk,x.sc,x.gl,x.dr,y.sz.1,y.sz.2,y.tk,y.sc,y.gl,y.dr,w.sz.1,w.dr];refine next _ _ ⟨?_,?_,?_,?_,?_⟩
     (all_goals try simp only[↓zg,Nat.reduceEqDiff,reduceCtorEq,↓reduceIte,r,Q]);all_goals try first|rfl|trivial|(simp only[zr,Nat.reduceEqDiff,reduceCtorEq,↓reduceIte,r,Q];done)
     all_goals (first|exact o7|(rw[fF,fF,ng,iq,iq,hnx,kP,sm];done)|(congr 1;omega)|skip)
    ·clear r K C Q jg
     rintro fr B ⟨r,Q,o8,o7,ng⟩;have t4:¬(((a+(i-1-a):Nat):Int)<(i:Int)-1):=by omega
     clear hD hB Y T;generalize ((a+(i-1-a):Nat):Int)=w at*;simp(config := { maxSteps := 10000000 }) (disch:=omega) only[↓zd,seval,go_sem,Q,o8,ng]
  ·rw[aP hA]
   have hA':((m:Int)-(a:Int)=1)=False:=by simp;omega
   by_cases hC:b-m=1
   ·rw[aX hC]
    clear ih;have hC':(b:Int)-(m:Int)=1:=by omega
    simp(config := { maxSteps := 10000000 }) (disch:=omega) only[↓zd,seval,go_sem,hA',hC'];refine qQ (fun g fr B=>∃i j,a<=i∧i<=j∧j<=m∧j-i<=g∧bs (fun h=> !RH uz l m h) (m-a) a m=bs (fun h=> !RH uz l m h) g i j∧ag fr 0= .ref 0 (.g q) ver 9 0 l.length∧ag fr 2= .i m∧ag fr 4= .fn 46 []∧ag fr 14= .i (i:Nat)∧ag fr 15= .i (j:Nat)∧B=L0) (m-a) ⟨a,m,aJ _,by omega,aJ _,aJ _,rfl,?_,?_,?_,?_,?_,rfl⟩ ?_
    ·simp only[↓zg,Nat.reduceEqDiff,reduceCtorEq,↓reduceIte]
     rfl
    ·simp only[↓zg,Nat.reduceEqDiff,reduceCtorEq,↓reduceIte]
     rfl
    ·simp only[↓zg,Nat.reduceEqDiff,reduceCtorEq,↓reduceIte]
     rfl
    ·simp only[↓zg,Nat.reduceEqDiff,reduceCtorEq,↓reduceIte]
    ·simp only[↓zg,Nat.reduceEqDiff,reduceCtorEq,↓reduceIte]
    rintro g fr B ⟨i,j,hi1,hij,hjb,hg,hbs,r,J,C,N,tJ,rfl⟩ next
    by_cases hc:i<j
    ·obtain⟨g',rfl⟩:∃g',g=g'+1:=⟨g-1,by omega⟩
     rw[bs,aX hc]at hbs;have t1:((i:Int)+(j:Int))=((i+j:Nat):Int):=by omega
     obtain⟨x,hx⟩:∃x,l[m]? =some x:=⟨_,ak (by omega)⟩
     obtain⟨y,I⟩:∃x,l[(i+j)/2]? =some x:=⟨_,ak (by omega)⟩
     rw[Uo hx I]at hbs;have c:=fun H=>c46 (H:=H) x y;have ci:=IW x y;have hh:(i+j)/2<l.length:=by omega
     have hh1:(i+j)/2<j:=by omega
     have hh2:i<=(i+j)/2:=by omega
     generalize Gt x y=w at*;by_cases X:w<0
     ·rw[dW X,aP (by simp)]at hbs
      have U:= @xH ((i+j:Nat):Int) (by omega);generalize Pn:(i+j)/2=A at*;simp(config := { maxSteps := 10000000 }) (disch:=omega) only[↓zd,seval,go_sem,r,J,C,N,tJ,t1,U,Um,Pn,T,qD,qE,tL,tN,hx,I,x.sz.1,x.sz.2,x.tk,x.sc,y.sz.1,y.sz.2,y.tk,y.sc,c];refine next g' _ _ (by omega) ⟨i,A,by omega,by omega,by omega,by omega,hbs,?_,?_,?_,?_,?_,rfl⟩
      (all_goals try simp only[↓zg,Nat.reduceEqDiff,reduceCtorEq,↓reduceIte,r,J,C,N]);all_goals try first|rfl|trivial|(simp only[zr,Nat.reduceEqDiff,reduceCtorEq,↓reduceIte,r,J,C,N];done)
     ·rw[fB X,aX (by simp)]at hbs
      have U:= @xH ((i+j:Nat):Int) (by omega);generalize Pn:(i+j)/2=A at*;simp(config := { maxSteps := 10000000 }) (disch:=omega) only[↓zd,seval,go_sem,r,J,C,N,tJ,t1,U,Um,Pn,T,qD,qE,tL,tN,hx,I,x.sz.1,x.sz.2,x.tk,x.sc,y.sz.1,y.sz.2,y.tk,y.sc,c];refine next g' _ _ (by omega) ⟨A+1,j,by omega,by omega,hjb,by omega,hbs,?_,?_,?_,?_,?_,rfl⟩
      (all_goals try simp only[↓zg,Nat.reduceEqDiff,reduceCtorEq,↓reduceIte,r,J,C,tJ]);all_goals try first|rfl|trivial|(simp only[zr,Nat.reduceEqDiff,reduceCtorEq,↓reduceIte,r,J,C,tJ];done)
    ·obtain rfl:i=j:=by omega
     rw[Ul]at hbs;rw[hbs];clear next hbs
     simp(config := { maxSteps := 10000000 }) (disch:=omega) only[↓zd,seval,go_sem,r,J,C,N,tJ];refine bI (fun k fr B=>ag fr 0= .ref 0 (.g q) ver 9 0 l.length∧ag fr 14= .i (i:Nat)∧ag fr 17= .i ((m-k:Nat):Int)∧B.b=L.b∧B.D=dE L.D q (kP ver (dn l m k))) (m-i) ?_ ?_ ?_
     ·refine⟨?_,?_,?_,?_,?_⟩
      (all_goals try simp only[↓zg,Nat.reduceEqDiff,reduceCtorEq,↓reduceIte,r,N,J]);all_goals try first|rfl|trivial|(simp only[zr,Nat.reduceEqDiff,reduceCtorEq,↓reduceIte,r,N,J];done)
      all_goals (first|exact hB|exact hD.trans (uL Y lq).symm|skip)
     ·clear r J C N tJ
      rintro k fr B hk ⟨r,N,gM,o7,ng⟩ next
      have EA:ax B (.g q)=kP ver (dn l m k):=by
       show eP B.D q=_;rw[ng,cK,aX rfl]
      have Z:=aau l m k;have hnx:dn l m (k+1)=sw (dn l m k) (m-k) (m-k-1):=rfl;generalize dn l m k=u at*;obtain⟨x,hx⟩:∃x,u[m-k]? =some x:=⟨_,ak (by omega)⟩
      obtain⟨y,I⟩:∃x,u[m-k-1]? =some x:=⟨_,ak (by omega)⟩
      obtain⟨w,X⟩:=Pk (i:=m-k) (x:=y) I;have sm:=Pj hx I;have wb:B.b<=q:=by rw[o7];exact hb
      have t1:(((m-k:Nat):Int)).toNat=m-k:=by omega
      have t2:(((m-k:Nat):Int)-1).toNat=m-k-1:=by omega
      have t4:(i:Int)<((m-k:Nat):Int)∧(0:Int)<=((m-k:Nat):Int)-1∧((m-k:Nat):Int)<(l.length:Int):=by omega
      have t3:((m-k:Nat):Int)-1=((m-(k+1):Nat):Int):=by omega
      clear hD hB Z Y T;simp(config := { maxSteps := 10000000 }) (disch:=omega) only[↓zd,seval,go_sem,r,N,gM,EA,qD,qE,tL,tN,t1,t2,hx,I,X,x.sz.1,x.sz.2,x.tk,x.sc,x.gl,x.dr,y.sz.1,y.sz.2,y.tk,y.sc,y.gl,y.dr,w.sz.1,w.dr];refine next _ _ ⟨?_,?_,?_,?_,?_⟩
      (all_goals try simp only[↓zg,Nat.reduceEqDiff,reduceCtorEq,↓reduceIte,r,N]);all_goals try first|rfl|trivial|(simp only[zr,Nat.reduceEqDiff,reduceCtorEq,↓reduceIte,r,N];done)
      all_goals (first|exact o7|(rw[fF,fF,ng,iq,iq,hnx,kP,sm];done)|(rw[t3];done)|(congr 1;omega)|skip)
     ·clear r J C N tJ
      rintro fr B ⟨r,N,gM,o7,ng⟩;have t4:((m-(m-i):Nat):Int)=(i:Int):=by omega
      rw[t4]at gM;clear hD hB Y T;simp(config := { maxSteps := 10000000 }) (disch:=omega) only[↓zd,seval,go_sem,N,gM,ng]
   ·rw[aP hC]
    have hC':((b:Int)-(m:Int)=1)=False:=by simp;omega
    dsimp only;have axm:a<(a+b)/2∧(a+b)/2<b:=by omega
    have t1:((a:Int)+(b:Int))=((a+b:Nat):Int):=by omega
    have U:= @xH ((a+b:Nat):Int) (by omega);have axn:a+b<=2*((a+b)/2)+1∧2*((a+b)/2)<=a+b:=by omega
    generalize Pn:(a+b)/2=A at*;obtain⟨s0,EW⟩:∃s0,(if A<m then A+m-b else a)=s0:=⟨_,rfl⟩
    obtain⟨R,GR⟩:∃R,(if A<m then A else m)=R:=⟨_,rfl⟩
    rw[EW,GR];have hm:A<m∨¬A<m:=by omega
    obtain⟨n,hn⟩:∃n,A+m=n:=⟨_,rfl⟩
    have tn:(A:Int)+(m:Int)=(n:Int):=by omega
    have tn1:(n:Int)-1=((n-1:Nat):Int):=by omega
    rw[hn]at*;rcases hm with hm|hm
    all_goals
     first|rw[aX hm]at EW GR|rw[aP hm]at EW GR
     have hsr:s0<=R:=by omega
     have hrm:R<=m∧R<=A∧a<=s0:=by omega
     have Mr:∀c,s0<=c->c<R->c<n∧n-1-c<l.length∧c<l.length:=by intro c K J;omega
     have hen:n-s0<=b∧m<=n-R∧A<=n-R∧n-R<=n-s0:=by omega
     simp(config := { maxSteps := 10000000 }) (disch:=omega) only[↓zd,seval,go_sem,hA',hC',t1,U,Um,Pn,tn,tn1];refine qQ (fun g fr B=>∃i j,s0<=i∧i<=j∧j<=R∧j-i<=g∧bs (fun c=> !RH uz l (n-1-c) c) (R-s0) s0 R=bs (fun c=> !RH uz l (n-1-c) c) g i j∧ag fr 0= .ref 0 (.g q) ver 9 0 l.length∧ag fr 1= .i a∧ag fr 2= .i m∧ag fr 3= .i b∧ag fr 4= .fn 46 []∧ag fr 18= .i A∧ag fr 19= .i n∧ag fr 20= .i (i:Nat)∧ag fr 21= .i (j:Nat)∧ag fr 22= .i ((n-1:Nat):Int)∧B=L0) (R-s0) ⟨s0,R,aJ _,hsr,aJ _,aJ _,rfl,?_,?_,?_,?_,?_,?_,?_,?_,?_,?_,rfl⟩ ?_
     ·simp only[↓zg,Nat.reduceEqDiff,reduceCtorEq,↓reduceIte]
      rfl
     ·simp only[↓zg,Nat.reduceEqDiff,reduceCtorEq,↓reduceIte]
      rfl
     ·simp only[↓zg,Nat.reduceEqDiff,reduceCtorEq,↓reduceIte]
      rfl
     ·simp only[↓zg,Nat.reduceEqDiff,reduceCtorEq,↓reduceIte]
      rfl
     ·simp only[↓zg,Nat.reduceEqDiff,reduceCtorEq,↓reduceIte]
      rfl
     ·simp only[↓zg,Nat.reduceEqDiff,reduceCtorEq,↓reduceIte]
     ·simp only[↓zg,Nat.reduceEqDiff,reduceCtorEq,↓reduceIte]
     ·simp only[↓zg,Nat.reduceEqDiff,reduceCtorEq,↓reduceIte]
      all_goals (first|done|rfl|(congr 1;omega))
     ·simp only[↓zg,Nat.reduceEqDiff,reduceCtorEq,↓reduceIte]
      all_goals (first|done|rfl|(congr 1;omega))
     ·simp only[↓zg,Nat.reduceEqDiff,reduceCtorEq,↓reduceIte]
     rintro g fr B ⟨i,j,hi1,hij,hjb,hg,hbs,r,K,J,h3,C,gU,lW,rf,oH,l6,rfl⟩ next
     by_cases hc:i<j
     ·obtain⟨g',rfl⟩:∃g',g=g'+1:=⟨g-1,by omega⟩
      rw[bs,aX hc]at hbs;have t1:((i:Int)+(j:Int))=((i+j:Nat):Int):=by omega
      have RJ:=Mr ((i+j)/2) (by omega) (by omega);obtain⟨x,hx⟩:∃x,l[n-1-(i+j)/2]? =some x:=⟨_,ak RJ.2.1⟩
      obtain⟨y,I⟩:∃x,l[(i+j)/2]? =some x:=⟨_,ak RJ.2.2⟩
      rw[Uo hx I]at hbs;have c:=fun H=>c46 (H:=H) x y;have ci:=IW x y;have hh1:(i+j)/2<j:=by omega
      have hh2:i<=(i+j)/2:=by omega
      have U:= @xH ((i+j:Nat):Int) (by omega);have nl:n<=1000000:=by omega
      generalize Gt x y=w at*;generalize hk:(i+j)/2=k at*;have t2:((n-1:Nat):Int)-(k:Int)=((n-1-k:Nat):Int):=by omega
      by_cases X:w<0
      ·rw[dW X,aP (by simp)]at hbs
       clear ih Y Mr EW GR;simp(config := { maxSteps := 10000000 }) (disch:=omega) only[↓zd,seval,go_sem,r,C,rf,oH,l6,t1,t2,U,Um,hk,T,qD,qE,tL,tN,hx,I,x.sz.1,x.sz.2,x.tk,x.sc,y.sz.1,y.sz.2,y.tk,y.sc,c];refine next g' _ _ (by omega) ⟨i,k,by omega,by omega,by omega,by omega,hbs,?_,?_,?_,?_,?_,?_,?_,?_,?_,?_,rfl⟩
       (all_goals try simp only[↓zg,Nat.reduceEqDiff,reduceCtorEq,↓reduceIte,r,K,J,h3,C,gU,lW,rf,l6]);all_goals try first|rfl|trivial|(simp only[zr,Nat.reduceEqDiff,reduceCtorEq,↓reduceIte,r,K,J,h3,C,gU,lW,rf,l6];done)
      ·rw[fB X,aX (by simp)]at hbs
       clear ih Y Mr EW GR;simp(config := { maxSteps := 10000000 }) (disch:=omega) only[↓zd,seval,go_sem,r,C,rf,oH,l6,t1,t2,U,Um,hk,T,qD,qE,tL,tN,hx,I,x.sz.1,x.sz.2,x.tk,x.sc,y.sz.1,y.sz.2,y.tk,y.sc,c];refine next g' _ _ (by omega) ⟨k+1,j,by omega,by omega,by omega,by omega,hbs,?_,?_,?_,?_,?_,?_,?_,?_,?_,?_,rfl⟩
       (all_goals try simp only[↓zg,Nat.reduceEqDiff,reduceCtorEq,↓reduceIte,r,K,J,h3,C,gU,lW,oH,l6]);all_goals try first|rfl|trivial|(simp only[zr,Nat.reduceEqDiff,reduceCtorEq,↓reduceIte,r,K,J,h3,C,gU,lW,oH,l6];done)
     ·obtain rfl:i=j:=by omega
      rw[Ul]at hbs;rw[hbs];have ten:(n:Int)-(i:Int)=((n-i:Nat):Int):=by omega
      have aAI:n-i<=b∧m<=n-i∧A<=n-i:=by omega
      have Xh:i<=m∧i<=A∧a<=i:=by omega
      have same:=uL Y lq;clear next hbs Mr EW GR hsr hrm hen t1 U tn tn1 hi1 hij hjb hg hc hn hm
      generalize n-i=F at*;obtain⟨l1,zI⟩:∃l1,(if i<m∧m<F then XT (F-i) l m (m-i) (F-m)else l)=l1:=⟨_,rfl⟩
      have ll1:l1.length=l.length:=by rw[<-zI];split<;>first|rfl|exact Pm ..
      obtain⟨l2,Qj⟩:∃l2,(if a<i∧i<A then Gs uz f a i A l1 else l1)=l2:=⟨_,rfl⟩
      have ll2:l2.length=l.length:=by rw[<-Qj];split<;>first|exact ll1|(rw[Fw];exact ll1)
      rw[zI,Qj];have C1:=fun(p1:i<m)(W:m<F)=>aum (H:=L::H) (L:=B) (a:=i) (m:=m) (b:=F) hv T (by rw[hB];exact hb) p1 W (by omega) (by omega);have q1:∀O u,ax (⟨dE L.D q (kP ver u),O,L.b⟩:Mem) (.g q)=kP ver u:=fun O u=>by rw[gp,cK,aX rfl]
      have A0:=fun(p1:a<i)(W:i<A)=>ih (H:=L::H) (L:=B) (a:=a) (m:=i) (b:=A) hv T (by rw[hB];exact hb) p1 W (by omega) (by omega) (by omega);have A1:=fun(p1:a<i)(W:i<A)=>ih (H:=L::H) (L:=⟨dE L.D q (kP ver l1),B.O,L.b⟩) (a:=a) (m:=i) (b:=A) hv (q1 _ _) hb p1 W (by omega) (by omega) (by omega);have B0:=fun(p1:A<F)(W:F<b)=>ih (H:=L::H) (L:=B) (a:=A) (m:=F) (b:=b) hv T (by rw[hB];exact hb) p1 W (by omega) (by omega) (by omega);have B1:=fun(p1:A<F)(W:F<b)=>ih (H:=L::H) (L:=⟨dE L.D q (kP ver l1),B.O,L.b⟩) (a:=A) (m:=F) (b:=b) hv (q1 _ _) hb p1 W (by omega) (by omega) (by omega);have B2:=fun(p1:A<F)(W:F<b)=>ih (H:=L::H) (L:=⟨dE L.D q (kP ver l2),B.O,L.b⟩) (a:=A) (m:=F) (b:=b) hv (q1 _ _) hb p1 W (by omega) (by omega) (by omega);rw[hD]at C1 A0 B0;rw[ll1]at A1 B1;rw[ll2]at B2;clear ih q1 T Y;have k1:(i<m∧m<F)∨¬i<m∨(i<m∧¬m<F):=by omega
      have k2:(a<i∧i<A)∨¬a<i∨(a<i∧¬i<A):=by omega
      have k3:(A<F∧F<b)∨¬A<F∨(A<F∧¬F<b):=by omega
      rcases k1 with⟨p1,W⟩|p1|⟨p1,W⟩<;>rcases k2 with⟨p3,p4⟩|p3|⟨p3,p4⟩<;>rcases k3 with⟨p5,p6⟩|p5|⟨p5,p6⟩
      all_goals (first|(exfalso;omega)|skip)
      all_goals
       first|rw[aX (by omega)]at zI|(rw[aP (by omega)]at zI;subst zI;have zI:= @iq)
       first|rw[aX (by omega)]at Qj|(rw[aP (by omega)]at Qj;subst Qj;have Qj:= @iq)
       first|rw[aX (by omega)]|rw[aP (by omega)]
       simp(config := { maxSteps := 10000000 }) (disch:=omega) only[↓zd,seval,go_sem,r,K,J,h3,C,gU,lW,rf,oH,ten,C1,A0,A1,B0,B1,B2,zI,Qj,hD,hB,same,iq]
end Go.Proofs.YtnahpjebkgbedaaGreat

/- Part of the proof of ThereAndBack: what the program's functions compute on the abstract machine, and that it answers as the law says. No condition. -/
import Derived.Test.YtnahpjebkgbedaaGreatF
set_option linter.all false
set_option maxRecDepth 100000
set_option maxHeartbeats 16000000
namespace Go.Proofs.YtnahpjebkgbedaaGreat
open Go Go.Ht
variable{H:List Mem}
theorem Kz(l:List Nt):∀k,(Mq uz l k).length=l.length:=by
 intro k;induction k with
 |zero=>rfl
 |succ k c=>rw[Mq,Kw,Fv,c]
theorem Fx(w:Nat)(l:List Nt):∀k,(IC uz w l k).length=l.length:=by
 intro k;induction k with
 |zero=>rfl
 |succ k c=>rw[IC,Fw,c]
theorem Uq(n:Nat):∀(f w:Nat)(l:List Nt),(vX uz n f w l).length=l.length:=by
 intro f;induction f with
 |zero=>intro w l;rfl
 |succ f c=>
  intro w l;unfold vX;split
  ·dsimp only
   rw[c];split
   ·rw[Fw,Fx]
   ·rw[Fx]
  ·rfl
theorem VZ(l:List Nt):(NA uz l).length=l.length:=by
 unfold NA;rw[Uq,Kw,Fv,Kz]
theorem aup{L:Mem}{q ver:Nat}{l:List Nt}(X:0<ver)(hq:ax L (.g q)=kP ver l)(hb:L.b<=q)(hl:l.length<=300000):call bn 157 [.ref 0 (.g q) ver 9 0 l.length,.i l.length,.fn 46 []] (L::H)=some (.eT [],some (dE L.D q (kP ver (NA uz l)))):=by
 have hD:(Ht.start false (L::H)).D=L.D:=rfl;have hB:(Ht.start false (L::H)).b=L.b:=rfl;have lq:=gX hq X;have same:=uL hq lq;have dd:∀u w,dE (dE L.D q u) q w=dE L.D q w:=fun _ _=>iq;have Z:∀(M:Mem)u,M.D=dE L.D q (kP ver u)->ax M (.g q)=kP ver u:=fun M u h=>by
  show eP M.D q=_;rw[h,cK,aX rfl]
 unfold NA;refine(av (by conv=>lhs;reduce)).trans ?_;simp only[↓zo,zp,seval];generalize Ht.start false (L::H)=L0 at*;simp(disch:=omega) only[↓zd,seval,go_sem];refine bI (fun k fr N=>ag fr 0= .ref 0 (.g q) ver 9 0 l.length∧ag fr 1= .i l.length∧ag fr 2= .fn 46 []∧ag fr 6= .i 20∧ag fr 7= .i ((20*k:Nat):Int)∧ag fr 8= .i ((20*k+20:Nat):Int)∧N.b=L.b∧N.D=dE L.D q (kP ver (Mq uz l k))) (l.length/20) ?_ ?_ ?_
 ·refine⟨?_,?_,?_,?_,?_,?_,?_,?_⟩
  (all_goals try simp only[↓zg,Nat.reduceEqDiff,reduceCtorEq,↓reduceIte]);all_goals try first|rfl|trivial|(simp only[zr,Nat.reduceEqDiff,reduceCtorEq,↓reduceIte];done)
  all_goals (first|exact hB|exact hD.trans same.symm|skip)
 ·clear hD hB
  rintro k fr N hk ⟨F,C,r,I,R,Q,K,J⟩ next
  have Yo:20*k+20<=l.length:=by omega
  have T:N.b<=q:=by rw[K];exact hb
  have j:=Kz l k;have c:=anv (H:=L::H) (a:=20*k) (b:=20*k+20) X (Z _ _ J) T (by omega) (by omega) (by omega);rw[j,J,dd]at c;change _=some (V.eT [],some (dE L.D q (kP ver (Mq uz l (k+1)))))at c;have t1:(20*(k+1))=20*k+20:=by omega
  rw[t1]at next
  generalize 20*k+20=B at*;generalize 20*k=A at*;clear j;simp(disch:=omega) only[↓zd,seval,go_sem,F,C,r,I,R,Q,c];refine next _ _ ⟨?_,?_,?_,?_,?_,?_,?_,?_⟩
  (all_goals try simp only[↓zg,Nat.reduceEqDiff,reduceCtorEq,↓reduceIte,F,C,r,I]);all_goals try first|rfl|trivial|(simp only[zr,Nat.reduceEqDiff,reduceCtorEq,↓reduceIte,F,C,r,I];done)
  all_goals (first|exact K|(congr 1;omega)|skip)
 ·clear hD hB
  rintro fr N ⟨F,C,r,I,R,Q,K,J⟩;have T:N.b<=q:=by rw[K];exact hb
  have j:=Kz l (l.length/20);have hA:20*(l.length/20)<=l.length∧l.length<20*(l.length/20)+20:=by omega
  generalize Mq uz l (l.length/20)=l0 at*;have c:=anv (H:=L::H) (a:=20*(l.length/20)) (b:=l.length) X (Z _ _ J) T (by omega) (by omega) (by omega);rw[j,J,dd]at c;have Y:(Kw uz (20*(l.length/20)) l.length l0).length=l.length:=by rw[Kw,Fv,j]
  generalize Kw uz (20*(l.length/20)) l.length l0=l1 at*;generalize 20*(l.length/20)+20=B at*;generalize 20*(l.length/20)=A at*;simp(disch:=omega) only[↓zd,seval,go_sem,F,C,r,I,R,Q,c];refine qQ (fun f fr N=>∃w O,0<w∧l.length<=f+w∧w<=1000000∧O.length=l.length∧ag fr 0= .ref 0 (.g q) ver 9 0 l.length∧ag fr 1= .i l.length∧ag fr 2= .fn 46 []∧ag fr 6= .i (w:Nat)∧N.b=L.b∧N.D=dE L.D q (kP ver O)∧vX uz l.length l.length 20 l1=vX uz l.length f w O) l.length ⟨20,l1,by omega,by omega,by omega,Y,?_,?_,?_,?_,K,rfl,rfl⟩ ?_
  ·simp only[↓zg,Nat.reduceEqDiff,reduceCtorEq,↓reduceIte,F]
  ·simp only[↓zg,Nat.reduceEqDiff,reduceCtorEq,↓reduceIte,C]
  ·simp only[↓zg,Nat.reduceEqDiff,reduceCtorEq,↓reduceIte,r]
  ·simp only[↓zg,Nat.reduceEqDiff,reduceCtorEq,↓reduceIte,I]
   rfl
  clear F C r I R Q K J c hA j Y T;rintro f fr N ⟨w,O,hw,hf,hw2,j,F,C,r,I,K,J,hr⟩ next
  by_cases W:w<l.length
  ·obtain⟨f',rfl⟩:∃f',f=f'+1:=⟨f-1,by omega⟩
   rw[vX,aX W]at hr;dsimp only at hr;simp(disch:=omega) only[↓zd,seval,go_sem,F,C,r,I];refine bI (fun k fr N=>ag fr 0= .ref 0 (.g q) ver 9 0 l.length∧ag fr 1= .i l.length∧ag fr 2= .fn 46 []∧ag fr 6= .i (w:Nat)∧ag fr 7= .i ((2*w*k:Nat):Int)∧ag fr 8= .i ((2*w*k+2*w:Nat):Int)∧N.b=L.b∧N.D=dE L.D q (kP ver (IC uz w O k))) (l.length/(2*w)) ?_ ?_ ?_
   ·refine⟨?_,?_,?_,?_,?_,?_,K,J⟩
    (all_goals try simp only[↓zg,Nat.reduceEqDiff,reduceCtorEq,↓reduceIte,F,C,r,I]);all_goals try first|rfl|trivial|(simp only[zr,Nat.reduceEqDiff,reduceCtorEq,↓reduceIte,F,C,r,I];done)
    all_goals (first|(rw[Nat.mul_zero];rfl)|(congr 1;omega)|skip)
   ·clear F C r I K J hr next
    rintro k fr N hk ⟨F,C,r,I,R,Q,K,J⟩ next
    have Yo:2*w*k+2*w<=l.length:=by
     have:=Nat.div_mul_le_self l.length (2*w);have r:(k+1)*(2*w)<=l.length/(2*w)*(2*w):=ny _ hk;rw[uZ,Nat.one_mul,Nat.mul_comm k]at r;omega
    have T:N.b<=q:=by rw[K];exact hb
    have U:(IC uz w O k).length=l.length:=by rw[Fx,j]
    have c:=anx (2*w) (H:=L::H) (a:=2*w*k) (m:=2*w*k+w) (b:=2*w*k+2*w) X (Z _ _ J) T (by omega) (by omega) (by omega) (by omega) (by omega);rw[U,J,dd]at c;change _=some (V.eT [],some (dE L.D q (kP ver (IC uz w O (k+1)))))at c;rw[Nat.mul_succ]at next
    generalize 2*w*k=A at*;have t1:(A:Int)+(w:Int)=((A+w:Nat):Int):=by omega
    clear U;simp(disch:=omega) only[↓zd,seval,go_sem,F,C,r,I,R,Q,t1,c];refine next _ _ ⟨?_,?_,?_,?_,?_,?_,?_,?_⟩
    (all_goals try simp only[↓zg,Nat.reduceEqDiff,reduceCtorEq,↓reduceIte,F,C,r,I]);all_goals try first|rfl|trivial|(simp only[zr,Nat.reduceEqDiff,reduceCtorEq,↓reduceIte,F,C,r,I];done)
    all_goals (first|exact K|(congr 1;omega)|skip)
   ·clear F C r I K J
    rintro fr N ⟨F,C,r,I,R,Q,K,J⟩;have T:N.b<=q:=by rw[K];exact hb
    have U:(IC uz w O (l.length/(2*w))).length=l.length:=by rw[Fx,j]
    have hA:2*w*(l.length/(2*w))<=l.length∧l.length<2*w*(l.length/(2*w))+2*w:=by
     have C:=Nat.mul_div_le l.length (2*w);have r:=Nat.lt_mul_div_succ l.length (show 0<2*w by omega);rw[Nat.mul_add,Nat.mul_one]at r;exact⟨C,r⟩
    generalize IC uz w O (l.length/(2*w))=l2 at*;generalize 2*w*(l.length/(2*w))=A at*;have t1:(A:Int)+(w:Int)=((A+w:Nat):Int):=by omega
    by_cases hm:A+w<l.length
    ·have c:=anx (l.length-A) (H:=L::H) (a:=A) (m:=A+w) (b:=l.length) X (Z _ _ J) T (by omega) (by omega) (by omega) (by omega) (by omega)
     rw[U,J,dd]at c;rw[aX hm]at hr;have hl3:(Gs uz (l.length-A) A (A+w) l.length l2).length=l.length:=by rw[Fw,U]
     simp(disch:=omega) only[↓zd,seval,go_sem,F,C,r,I,R,Q,t1,c];refine next f' _ _ (by omega) ⟨2*w,_,by omega,by omega,by omega,hl3,?_,?_,?_,?_,?_,?_,hr⟩
     (all_goals try simp only[↓zg,Nat.reduceEqDiff,reduceCtorEq,↓reduceIte,F,C,r]);all_goals try first|rfl|trivial|(simp only[zr,Nat.reduceEqDiff,reduceCtorEq,↓reduceIte,F,C,r];done)
     all_goals (first|exact K|(congr 1;omega)|skip)
    ·rw[aP hm]at hr
     simp(disch:=omega) only[↓zd,seval,go_sem,F,C,r,I,R,Q,t1];refine next f' _ _ (by omega) ⟨2*w,_,by omega,by omega,by omega,U,?_,?_,?_,?_,K,J,hr⟩
     (all_goals try simp only[↓zg,Nat.reduceEqDiff,reduceCtorEq,↓reduceIte,F,C,r]);all_goals try first|rfl|trivial|(simp only[zr,Nat.reduceEqDiff,reduceCtorEq,↓reduceIte,F,C,r];done)
     all_goals (first|(congr 1;omega)|skip)
  ·have AU:vX uz l.length l.length 20 l1=O:=by
    rw[hr];cases f with
    |zero=>rfl
    |succ f=>rw[vX,aP W]
   rw[AU];clear next hr AU
   simp(disch:=omega) only[↓zd,seval,go_sem,F,C,I,J]
theorem c89{L:Mem}{q ver:Nat}{l:List Nt}(r:0<ver)(j:ax L (.g q)=kP ver l)(u:L.b<=q)(hl:l.length<=300000):call bn 89 [.ref 0 (.g q) ver 9 0 l.length,.fn 46 []] (L::H)=some (.eT [],some (dE L.D q (kP ver (NA uz l)))):=by
 have c:=aup (H:=L::H) (L:=Ht.start false (L::H)) r j u hl;have e:(Ht.start false (L::H)).D=L.D:=rfl;rw[e]at c;clear j;refine(av (by conv=>lhs;reduce)).trans ?_;simp only[↓zo,zp,seval];simp(disch:=omega) only[↓zd,seval,go_sem,c]
theorem aiE{L:Mem}:call bn 215 [.aL,.i 0,.i 0,.fn 46 []] (L::H)=some (.eT [],some L.D):=by
 refine(av (by conv=>lhs;reduce)).trans ?_;simp only[↓zo,zp,seval];simp(disch:=omega) only[↓zd,seval,go_sem,↓ik]
theorem aiF{L:Mem}:call bn 157 [.aL,.i 0,.fn 46 []] (L::H)=some (.eT [],some L.D):=by
 have c:=fun M H=>aiE (H:=H) (L:=M);refine(av (by conv=>lhs;reduce)).trans ?_;simp only[↓zo,zp,seval];simp(disch:=omega) only[↓zd,seval,go_sem,↓ik,c]
theorem anA{L:Mem}:call bn 89 [.aL,.fn 46 []] (L::H)=some (.eT [],some L.D):=by
 have c:=fun M H=>aiF (H:=H) (L:=M);refine(av (by conv=>lhs;reduce)).trans ?_;simp only[↓zo,zp,seval];simp(disch:=omega) only[↓zd,seval,go_sem,c]
theorem auq(l:List Nt)(hl:l.length<=300000):call bn 156 [.aL,.fn 90 [.eptr [cu 9 (l.map Nt.v)] 0]] H=some (kK 9 (l.map Nt.v),none):=by
 refine(Fg (show bn.fn 156=none from rfl)).trans ?_;show((mR 9 (cu 9 (l.map Nt.v))).bind fun els=>if els.all (fun e=>e.all isI)then some (kK 9 els)else none).map (fun v=>(v,none))=_;rw[afS (by rw[aG];omega),bG,aX]
 ·rfl
 ·rw[aV]
  intro e c;obtain⟨x,_,rfl⟩:=dQ.1 c;rfl
theorem c88(l:List Nt)(hl:l.length<=300000):call bn 88 [.fn 90 [.eptr [cu 9 (l.map Nt.v)] 0]] H=some (kK 9 (l.map Nt.v),none):=by
 have c:=fun H=>auq (H:=H) l hl;have pu:=dh Nt.pu l;rcases O6 9 (l.map Nt.v)with⟨g,h⟩|⟨g,h⟩<;>rw[h]at c⊢
 ·generalize l.map Nt.v=els at*
  clear g h;refine(av (by conv=>lhs;reduce)).trans ?_;simp only[↓zo,zp,seval];simp(disch:=omega) only[↓zd,seval,go_sem,c]
 ·generalize l.map Nt.v=els at*
  clear g h;refine(av (by conv=>lhs;reduce)).trans ?_;simp only[↓zo,zp,seval];simp(disch:=omega) only[↓zd,seval,go_sem,c,pu]
theorem c45(l:List Nt):call bn 45 [cu 9 (l.map Nt.v)] H=some (.fn 90 [.eptr [cu 9 (l.map Nt.v)] 0],none):=by
 have pu:=dh Nt.pu l;have c:V.calm (.eptr [cu 9 (l.map Nt.v)] 0)=true:=by simp only[V.calm,aZ,cB,se,pu,bR]
 generalize l.map Nt.v=els at*;refine(av (by conv=>lhs;reduce)).trans ?_;simp only[↓zo,zp,seval];simp(disch:=omega) only[↓zd,seval,go_sem,pu,c,VB,lI,yu,rF,wJ,N8,MI,V.calm]
theorem c44(l:List Nt)(hl:l.length<=300000):call bn 44 [.fn 90 [.eptr [cu 9 (l.map Nt.v)] 0],.fn 46 []] H=some (kK 9 ((NA uz l).map Nt.v),none):=by
 have c:=fun H=>c88 (H:=H) l hl;cases l with
 |nil=>
  have d:=fun M H=>anA (H:=H) (L:=M);show _=some (V.aL,none);change∀H,call bn 88 [.fn 90 [.eptr [cu 9 []] 0]] H=some (V.aL,none)at c;refine(av (by conv=>lhs;reduce)).trans ?_;simp only[↓zo,zp,seval];simp(disch:=omega) only[↓zd,seval,go_sem,c,d]
 |cons x t=>
  have hs:(NA uz (x::t)).length=(x::t).length:=VZ _;have u:(NA uz (x::t)).map Nt.v≠[]:=by
   intro h;rw[kC]at h;rw[h]at hs;simp at hs
  have pu:=dh Nt.pu (NA uz (x::t));rw[BR u];rw[BR (show(x::t).map Nt.v≠[] by simp)]at c;have j:((NA uz (x::t)).map Nt.v).length=(x::t).length:=by rw[aG,hs]
  have C:((x::t).map Nt.v).length=(x::t).length:=aG _;have d:=fun(L M:Mem)(B:M.D=dE L.D L.D.length (kP 1 (x::t)))(F:M.b=L.D.length)(H:List Mem)=>c89 (H:=H) (L:=M) (q:=L.D.length) (ver:=1) (l:=x::t) (by omega) (by show eP M.D _=_;rw[B,cK,aX rfl]) (by omega) hl;have r:(Ht.start true H).b=(Ht.start true H).D.length:=by cases H<;>rfl
  have hn:ax (Ht.start true H) (.g (Ht.start true H).D.length)=⟨0,0,[],false⟩:=jH;generalize x::t=l at*;have A:=d (Ht.start true H) (bu (Ht.start true H) (.g (Ht.start true H).D.length) ⟨1,9,l.map Nt.v,false⟩) rfl (by simp[r]);clear d u;unfold kP at A;generalize (NA uz l).map Nt.v=X at*;generalize I:l.map Nt.v=Y at*;refine(av (by conv=>lhs;reduce)).trans ?_;simp only[↓zo,zp,seval];generalize Ht.start true H=J at*;simp(disch:=omega) only[↓zd,seval,go_sem,c,C,hn,r,fq,Mem.Jk,A,iq,pu,j]
theorem c24(l:List Nt)(hl:l.length<=300000):call bn 24 [cu 9 (l.map Nt.v)] H=some (cu 9 ((NA uz l).map Nt.v),none):=by
 have c:=fun H=>c45 (H:=H) l;have d:=fun H=>c44 (H:=H) l hl;have pu:=dh Nt.pu (NA uz l);generalize l.map Nt.v=els at*;generalize (NA uz l).map Nt.v=els' at*;refine(av (by conv=>lhs;reduce)).trans ?_;simp only[↓zo,zp,seval];simp(disch:=omega) only[↓zd,seval,go_sem,c,d,pu]
def Eg(ms:List Me)(i:Nat):Int:=((ms.take i).map fun m=>kL m.mt).sum
def Gu(pt sf vo down:Int)(k v:Nat)(ms:List Me)(ns:List Nt):Nat->List Nt×List (P3×Nat)
 |0=>(ns,[])
 |i+1=>
  match ms[i]?with
  |some m=>tK pt sf vo down (Eg ms i) k v m (Gu pt sf vo down k v ms ns i).1 (Gu pt sf vo down k v ms ns i).2
  |none=>Gu pt sf vo down k v ms ns i
def Bf(s:Sc)(k:Nat):Nat×Nat:=(xy s.ps 0 k).getD (0,0)
def KA(s:Sc)(k:Nat):Int:=if s.wr then((s.ps[(Bf s k).1]?).map Pa.tn).getD 0 else 0
def Qk(s:Sc)(k:Nat)(ns:List Nt):Nat->List Nt
 |0=>ns
 |v+1=>(Gu (Bf s k).1 (Bf s k).2 v (KA s k) k v s.ms (Qk s k ns v) s.ms.length).1
def Ab(s:Sc):Nat->List Nt
 |0=>[]
 |k+1=>Qk s k (Ab s k) 2
def gN(s:Sc):List Nt:=NA uz (Ab s (mI s.ps))
def Hw(L:Mem)(qo:Nat)(ns:List Nt):Prop:=L.b<=L.D.length∧L.b<=qo∧∃lv,ax L (.g qo)=⟨1,1,[[lv]],false⟩∧NtV L lv ns
theorem Aa.out{L:Mem}{c g:Nat}{pt st vo down:Int}{ns:List Nt}{held:List (P3×Nat)}(h:Aa L c g pt st vo down ns held):Hw L c ns:=by
 obtain⟨u,r,F,lv,A,C,l,j,B⟩:=h;exact⟨u,r,lv,l,j⟩
theorem Hw.ln{L:Mem}{c:Nat}{ns:List Nt}(h:Hw L c ns)(pt st vo down:Int):∀M:Mem,M.D=dE L.D L.D.length ⟨1,12,[.ptr 0 (.g c) 1 0 0:: .nW::(fsV pt st vo++[.i down])],false⟩->M.b=L.b->Aa M c L.D.length pt st vo down ns []:=by
 obtain⟨J,I,lv,B,A⟩:=h;rintro⟨D,O,b⟩ u l;dsimp only at u l;subst u;subst l;have C:=gX B (by simp);have j:∀q,q<L.D.length->∀r,eP (dE L.D L.D.length r) q=ax L (.g q):=fun q Q r=>by rw[cK,aP (by omega)];rfl
 refine⟨?_,I,J,lv,.nW,?_,?_,?_,by simp,.inl ⟨rfl,rfl⟩⟩
 ·show L.b<=(dE L.D L.D.length _).length
  rw[fw];omega
 ·rw[gp,cK,aX rfl]
 ·rw[gp,j c C];exact B
 ·refine A.mono rfl fun p ver n hp=> ?_
  rw[gp,j p];rcases A with⟨_,rfl⟩|⟨_,w,N,_,F,rfl,K⟩
  ·cases hp
  ·injection hp with _ h;injection h with h;subst h;exact gX K F
theorem Hw.own{L M:Mem}{c:Nat}{ns:List Nt}(h:Hw L c ns)(j:M.D=L.D)(g:M.b=L.b):Hw M c ns:=by
 obtain⟨D,O,b⟩:=M;obtain⟨u,r,l⟩:=L;dsimp only at j g;subst j;subst g;exact h
theorem aav{s:Sc}{k:Nat}(g:k<mI s.ps):∃x,xy s.ps 0 k=some (Bf s k)∧s.ps[(Bf s k).1]? =some x:=by
 obtain⟨p,q,x,c,j,l⟩:=Nu s.ps 0 k g;rw[dV]at c;refine⟨x,?_,?_⟩
 ·unfold Bf;rw[c];rfl
 ·unfold Bf;rw[c];exact j
theorem aiG{s:Sc}(ok:kN s)(k:Nat): -200<=KA s k∧KA s k<=200:=by
 unfold KA;split
 ·cases h:s.ps[(Bf s k).1]?with
  |none=>simp
  |some x=>
   have:=jN.1 (ok.pa x (ah h)).iv;simp only[aU,dU];omega
 ·omega
theorem ad'{s:Sc}(ok:kN s)(hv:∀H,call bn 19 [.agg s.v] H=some (.bool true,none)):call bn 5 [.agg s.v] H=some (.eT [cu 9 ((gN s).map Nt.v),.i 0],none):=by
 have xK:=ok.ml;have sW:=O7 ok;have s1:=s.sz.1;have s2:=s.sz.2;have s4:=s.tk;have s5:=s.sc;have s6:s.v[1]? =some (.bool s.wr):=rfl;have s7:s.v[2]? =some (cu 6 (s.ps.map Pa.v)):=rfl;have s8:s.v[3]? =some (cu 22 (s.ms.map Me.v)):=rfl;have aiH:=fun H=>c20 (H:=H) ok;have aiI:=fun H=>c21 (H:=H) ok.ps;have vG:(Ht.start true H).b=(Ht.start true H).D.length:=by cases H<;>rfl
 have hO:∀i,ax (Ht.start true H) (.o i)=⟨0,0,[],false⟩:=fun i=>jB;have hn:ax (Ht.start true H) (.g (Ht.start true H).D.length)=⟨0,0,[],false⟩:=jH;have on:=RG ok.me;refine(av (by conv=>lhs;reduce)).trans ?_;simp only[↓zo,zp,seval];generalize Ht.start true H=L0 at*;obtain⟨K,hqo⟩:∃K,L0.D.length=K:=⟨_,rfl⟩
 rw[hqo]at hn vG;have hl:((Iy s.ms s.ms.length).map Iv).length=s.ms.length+1:=by unfold Iy;simp
 have hat:∀i:Nat,i<=s.ms.length->(Iy s.ms s.ms.length)[i]? =some (Eg s.ms i):=fun i hi=>aan hi;simp(disch:=omega) only[↓zd,seval,push_cast,s1,s2,s4,s5,hO,hn,hqo,fq,hv,aiH,aiI,dS];refine bI (fun k fr r=>ag fr 1= .ptr 0 (.o 1) 1 0 0∧ag fr 4= .ptr 0 (.g K) 1 0 0∧ag fr 5= .sl .any 1 ((Iy s.ms s.ms.length).map Iv)∧ag fr 21= .i (mI s.ps)∧ag fr 22= .i k∧ax r (.o 1)=⟨1,6,[s.v],false⟩∧r.b=K∧Hw r K (Ab s k)∧(Ab s k).length<=40000*k) (mI s.ps) ?_ ?_ ?_
 ·refine⟨?_,?_,?_,?_,?_,?_,?_,?_,by simp[Ab]⟩
  (all_goals try simp only[↓zg,seval]);all_goals try first|rfl|trivial|(simp only[zr,seval];done)
  all_goals (first|exact vG|skip)
  refine⟨?_,?_,.aL,?_,.inl ⟨rfl,rfl⟩⟩
  ·simp only[fF,cz,eG,fw];omega
  ·simp only[eG];omega
  ·rw[ay,aX rfl]
 ·clear vG hO hn hqo aiH aiI
  rintro k fr r hk ⟨u,l,F,A,B,C,J,j,hlen⟩ next
  obtain⟨x,hp1,hp2⟩:=aav hk;have c:=fun H=>c22 (H:=H) (s:=s) (k:=k) ok.ps (by omega);rw[hp1]at c;obtain⟨pt,hpt⟩:∃pt,Bf s k=pt:=⟨_,rfl⟩
  obtain⟨p,st⟩:=pt;rw[hpt]at c hp2;unfold ptR at c;dsimp only at c hp2;have x1:=x.sz.1;have x4:x.v[4]? =some (.i x.tn):=rfl;have Y0:=aiG ok k;have hd:KA s k=if s.wr then x.tn else 0:=by unfold KA;rw[hpt];dsimp only;rw[hp2];rfl
  have hr:Ab s (k+1)=Qk s k (Ab s k) 2:=rfl;rw[hr]at next
  have hpl:=(au.1 hp2).1;have hp3:=ok.ps.len;generalize Ab s k=I at*;have hvc:∀v:Nat,Qk s k I (v+1)=(Gu p st v (KA s k) k v s.ms (Qk s k I v) s.ms.length).1:=fun v=>by rw[Qk,hpt]
  generalize KA s k=dn at*;cases hw:s.wr;all_goals
   rw[hw]at s6 hd;simp only[bq,bZ,bK]at hd;simp(disch:=omega) only[↓zd,seval,push_cast,u,l,F,A,B,C,s1,s2,s4,s5,s6,s7,c,hp2,x1,x4,dS];refine bI (fun v fr r=>ag fr 1= .ptr 0 (.o 1) 1 0 0∧ag fr 4= .ptr 0 (.g K) 1 0 0∧ag fr 5= .sl .any 1 ((Iy s.ms s.ms.length).map Iv)∧ag fr 21= .i (mI s.ps)∧ag fr 22= .i k∧ag fr 6= .i k∧ag fr 7= .i p∧ag fr 8= .i st∧ag fr 10= .i dn∧ag fr 41= .i v∧ax r (.o 1)=⟨1,6,[s.v],false⟩∧r.b=K∧Hw r K (Qk s k I v)∧(Qk s k I v).length<=I.length+20000*v) 2 ?_ ?_ ?_
   ·refine⟨?_,?_,?_,?_,?_,?_,?_,?_,?_,?_,?_,J,j,aJ _⟩
    (all_goals try simp only[↓zg,seval,u,l,F,A,B,C]);all_goals try first|rfl|trivial|(simp only[zr,seval,u,l,F,A,B,C];done)
    all_goals (first|(rw[hd];done)|skip)
   ·clear u l F A B C J j c x1 x4 next hd s6 s7
    rintro v fr r hv2 ⟨u,l,F,A,B,O,Z,Y,W,U,C,J,j,hlv⟩ next
    rw[hvc v]at next
    have CE:ax r (.g r.D.length)=⟨0,0,[],false⟩:=jH;have ln:=j.ln p st v dn;have anC:∀i,(Gu p st v dn k v s.ms (Qk s k I v) i).1.length<=(Qk s k I v).length+3072*i->i<=6->(Gu p st v dn k v s.ms (Qk s k I v) i).1.length<=700000:=by intro i u h2;omega
    generalize Qk s k I v=ns at*;obtain⟨ql,hql⟩:∃ql,r.D.length=ql:=⟨_,rfl⟩
    rw[hql]at CE ln;simp(disch:=omega) only[↓zd,seval,push_cast,u,l,O,Z,Y,W,U,C,s1,s8,hql,CE,fq,dS];refine bI (fun i fr r=>ag fr 1= .ptr 0 (.o 1) 1 0 0∧ag fr 4= .ptr 0 (.g K) 1 0 0∧ag fr 5= .sl .any 1 ((Iy s.ms s.ms.length).map Iv)∧ag fr 21= .i (mI s.ps)∧ag fr 22= .i k∧ag fr 6= .i k∧ag fr 7= .i p∧ag fr 8= .i st∧ag fr 10= .i dn∧ag fr 41= .i v∧ax r (.o 1)=⟨1,6,[s.v],false⟩∧r.b=K∧ag fr 11= .i v∧ag fr 12= .ptr 0 (.g ql) 1 0 0∧ag fr 52=cu 22 (s.ms.map Me.v)∧ag fr 53= .i s.ms.length∧ag fr 54= .i i∧Aa r K ql p st v dn (Gu p st v dn k v s.ms ns i).1 (Gu p st v dn k v s.ms ns i).2∧(∀e∈(Gu p st v dn k v s.ms ns i).2,e.2<(Gu p st v dn k v s.ms ns i).1.length)∧(Gu p st v dn k v s.ms ns i).1.length<=ns.length+3072*i) s.ms.length ?_ ?_ ?_
    ·refine⟨?_,?_,?_,?_,?_,?_,?_,?_,?_,?_,?_,?_,?_,?_,?_,?_,?_,ln _ ?_ (by simp),(fun e he=>by cases he),aJ _⟩
     (all_goals try simp only[↓zg,seval,u,l,F,A,B,O,Z,Y,W,U,C]);all_goals try first|rfl|trivial|(simp only[zr,seval,u,l,F,A,B,O,Z,Y,W,U,C];done)
     all_goals (first|exact J|skip)
    ·clear u l F A B O Z Y W U C J j ln CE hql next hlv
     rintro i fr r hi ⟨u,l,F,A,B,O,Z,Y,W,U,C,J,jg,lT,h52,h53,VP,TK,RJ,hle⟩ next
     obtain⟨m,hm⟩:∃m,s.ms[i]? =some m:=⟨_,ak hi⟩
     have hnx:Gu p st v dn k v s.ms ns (i+1)=tK p st v dn (Eg s.ms i) k v m (Gu p st v dn k v s.ms ns i).1 (Gu p st v dn k v s.ms ns i).2:=by rw[Gu,hm]
     rw[hnx]at next
     have hni:=anC i hle (by omega);have aiy:=hat i (by omega);have om:=ok.me m (ah hm);have oi:=on i;change 0<=Eg s.ms i∧Eg s.ms i<=10000000*(i:Int)at oi;generalize Gu p st v dn k v s.ms ns i=X at*;have m1:=m.sz.1;have m2:=m.sz.2;have m3:=m.tk;have m4:=m.sc;have iv:∀n,Iv n=[.i n]:=fun _=>rfl;have jS:Aa (bu (bu r (.o 2) ⟨(ax r (.o 2)).ver+1,22,[[.i 0,.i 0,.i 0,.i 0,.i 0,.i 0,.i 0,.i 0,.i 0,.i 0,.i 0,.i 0,.bool false,.i 0,.i 0,.i 0,.i 0,.i 0,.i 0,.str ⟨#[]⟩,.aL,.aL]],false⟩) (.o 2) ⟨(ax r (.o 2)).ver+1,22,[m.v],false⟩) K ql p st v dn X.1 X.2:=TK.own rfl rfl;obtain⟨D',ce,cf1,cf2,cf3⟩:=Ug (Q:=fun D'=>(∀M:Mem,M.D=D'->M.b=r.b->Aa M K ql p st v dn (tK p st v dn (Eg s.ms i) k v m X.1 X.2).1 (tK p st v dn (Eg s.ms i) k v m X.1 X.2).2)∧(∀e∈(tK p st v dn (Eg s.ms i) k v m X.1 X.2).2,e.2<(tK p st v dn (Eg s.ms i) k v m X.1 X.2).1.length)∧(tK p st v dn (Eg s.ms i) k v m X.1 X.2).1.length<=X.1.length+3072) (fun T fin=>c23 (H:=H) (c:=k) (v:=v) jS RJ om (by omega) Y0 (by omega) (by omega) (by omega) T (fun D' a b c=>fin D' ⟨a,b,c⟩));clear om anC jS hat on TK RJ;simp(disch:=omega) only[↓zd,seval,push_cast,u,l,F,O,jg,lT,h52,h53,VP,hm,m1,m2,m3,m4,aiy,iv,ce];refine next _ _ ⟨?_,?_,?_,?_,?_,?_,?_,?_,?_,?_,?_,?_,?_,?_,?_,?_,?_,cf1 _ rfl ?_,cf2,by omega⟩
     (all_goals try simp only[↓zg,seval,u,l,F,A,B,O,Z,Y,W,U,C,jg,lT,h52,h53]);all_goals try first|rfl|trivial|(simp only[zr,seval,u,l,F,A,B,O,Z,Y,W,U,C,jg,lT,h52,h53];done)
     all_goals (first|exact J|skip)
    ·clear u l F A B O Z Y W U C J j ln CE hql
     rintro fr r ⟨u,l,F,A,B,O,Z,Y,W,U,C,J,jg,lT,h52,h53,VP,TK,RJ,hle⟩;simp(disch:=omega) only[↓zd,seval,push_cast,U,h53,VP];refine next _ _ ⟨?_,?_,?_,?_,?_,?_,?_,?_,?_,?_,?_,J,TK.out,by omega⟩
     (all_goals try simp only[↓zg,seval,u,l,F,A,B,O,Z,Y,W,C]);all_goals try first|rfl|trivial|(simp only[zr,seval,u,l,F,A,B,O,Z,Y,W,C];done)
   ·clear u l F A B C J j
    rintro fr r ⟨u,l,F,A,B,O,Z,Y,W,U,C,J,j,hlv⟩;rw[show((2:Nat):Int)=2 from rfl]at U;simp(disch:=omega) only[↓zd,seval,push_cast,B,U];refine next _ _ ⟨?_,?_,?_,?_,?_,?_,J,j,by omega⟩
    (all_goals try simp only[↓zg,seval,u,l,F,A,C]);all_goals try first|rfl|trivial|(simp only[zr,seval,u,l,F,A,C];done)
 ·clear vG hO hn hqo aiH aiI
  rintro fr r ⟨u,l,F,A,B,C,J,j,hlen⟩;have hN:gN s=NA uz (Ab s (mI s.ps)):=rfl;have c:=fun H=>c24 (H:=H) (Ab s (mI s.ps)) (by omega);rw[<-hN]at c;have pu:=dh Nt.pu (Ab s (mI s.ps));have pu2:=dh Nt.pu (gN s);generalize gN s=N at*;generalize Ab s (mI s.ps)=R at*;obtain⟨k1,k2,lv,k3,k4⟩:=j;have pF:(R.map Nt.v).length=R.length:=aG _;have htk:(R.map Nt.v).take R.length=R.map Nt.v:=aO (by omega);rcases k4 with⟨rfl,rfl⟩|⟨fP,p,ver,k5,k6,rfl,k8⟩
  ·rw[dX,gF]at c
   simp(disch:=omega) only[↓zd,seval,push_cast,l,A,B,k3,qd,sG,xf,wR,c,pu2]
  ·rw[jO (show R.map Nt.v≠[] by simpa using fP)]at c
   clear on hlen;generalize R.map Nt.v=X at*;simp(disch:=omega) only[↓zd,seval,push_cast,l,A,B,k3,qd,sG,xf,mZ,k8,k6,pF,htk,pu,c,pu2]
theorem c97(s n:Int):call bn 97 [.agg [.i s,.i n]] H=some (.bool (!decide (wP s n=0)),none):=by
 have c:=fun H=>c10 (H:=H) s n;generalize wP s n=e at*;refine(av (by conv=>lhs;reduce)).trans ?_;simp only[↓zo,zp,seval];by_cases h:e=0
 ·simp(disch:=omega) only[↓zd,seval,push_cast,c,h]
 ·simp(disch:=omega) only[↓zd,seval,push_cast,c,h]
def Fy(s n:Int):List (List V):=if s=77 then[[.i 77,.i n],[.i 76,.i n]]else if s= -77 then[[.i (-77),.i n],[.i (-76),.i n]]else[[.i s,.i n],[.i (s+1),.i n],[.i (s-1),.i n]]
theorem anD{L:Mem}{q:Nat}{s n:Int}(K:ax L (.g q)=⟨1,2,[[.i s,.i n],[.i (s+1),.i n],[.i (s-1),.i n]],false⟩)(F:wP s n=0):call bn 161 [.ref 0 (.g q) 1 2 0 3,.fn 97 []] (L::H)=some (.i (if s=77 then 1 else if s= -77 then 2 else-1),none):=by
 have c:=fun s H=>c97 (H:=H) s n;have C:=jN.1 F;have A:s=77->decide (wP (s+1) n=0)=false:=fun h=>fB fun I=>by have:=jN.1 I;omega
 have u:¬s=77->decide (wP (s+1) n=0)=true:=fun h=>dW (jN.2 (by omega));have r:s= -77->decide (wP (s-1) n=0)=false:=fun h=>fB fun I=>by have:=jN.1 I;omega
 have e4:¬s= -77->decide (wP (s-1) n=0)=true:=fun h=>dW (jN.2 (by omega));have J:decide (wP s n=0)=true:=dW F;have B:ax (Ht.start true (L::H)) (.g q)=⟨1,2,[[.i s,.i n],[.i (s+1),.i n],[.i (s-1),.i n]],false⟩:=K;clear F C;refine(av (by conv=>lhs;reduce)).trans ?_;simp only[↓zo,zp,seval];generalize Ht.start true (L::H)=N at*;by_cases j:s=77
 ·rw[aX j]
  have A:=A j;clear u r e4 j;simp(disch:=omega) only[↓zd,seval,push_cast,↓ik,B,c,J,A]
 ·rw[aP j]
  have u:=u j;by_cases l:s= -77
  ·rw[aX l]
   have r:=r l;clear A e4 j l;simp(disch:=omega) only[↓zd,seval,push_cast,↓ik,B,c,J,u,r]
  ·rw[aP l]
   have e4:=e4 l;clear A r j l;simp(disch:=omega) only[↓zd,seval,push_cast,↓ik,B,c,J,u,e4]
theorem c96{L:Mem}{q:Nat}{s n:Int}(l:ax L (.g q)=⟨1,2,[[.i s,.i n],[.i (s+1),.i n],[.i (s-1),.i n]],false⟩)(R:L.b<=q)(r:wP s n=0):∃N els len,call bn 96 [.ref 0 (.g q) 1 2 0 3,.fn 97 []] (L::H)=some (.ref 0 (.g q) 1 2 0 len,some N)∧eP N q=⟨1,2,els,false⟩∧len<=els.length∧els.take len=Fy s n∧els.all (fun e=>e.all V.pure)=true:=by
 have c:=fun H=>anD (H:=H) l r;have J:∀M H,M.D=L.D->call bn 161 [.ref 0 (.g q) 1 2 0 3,.fn 97 []] (M::H)=some (.i (if s=77 then 1 else if s= -77 then 2 else-1),none):=fun M H h=>anD (Pd l h) r;have j:=J (Ht.start false (L::H)) (L::H) rfl;have Q:=fun H=>c97 (H:=H) 76 n;have T:(Ht.start false (L::H)).b=L.b:=rfl;have u:ax (Ht.start false (L::H)) (.g q)=⟨1,2,[[.i s,.i n],[.i (s+1),.i n],[.i (s-1),.i n]],false⟩:=l;have C:(Ht.start false (L::H)).D=L.D:=rfl;have B:=jN.1 r;have O:decide (wP 76 n=0)=true:=dW (jN.2 (by omega));have A:eP L.D q=⟨1,2,[[.i s,.i n],[.i (s+1),.i n],[.i (s-1),.i n]],false⟩:=l;clear c J r B;unfold Fy;by_cases I:s=77
 ·subst I
  rw[aX rfl]at j⊢;refine⟨dE (dE L.D q ⟨1,2,[[.i 77,.i n],[.i 76,.i n],[.i 76,.i n]],false⟩) q ⟨1,2,[[.i 77,.i n],[.i 76,.i n],[.i 0,.i 0]],false⟩,[[.i 77,.i n],[.i 76,.i n],[.i 0,.i 0]],2,?_,by rw[cK,aX rfl],by simp,rfl,rfl⟩;refine(av (by conv=>lhs;reduce)).trans ?_;simp only[↓zo,zp,seval];generalize Ht.start false (L::H)=K at*;simp(disch:=omega) only[↓zd,seval,push_cast,j];rw[ik];simp(disch:=omega) only[↓zd,seval,push_cast,u,Q,O];rw[ik];simp(disch:=omega) only[↓zd,seval,push_cast,u,YG,C];done
 ·rw[aP I]at j⊢
  by_cases F:s= -77
  ·subst F
   rw[aX rfl]at j⊢;refine⟨dE L.D q ⟨1,2,[[.i (-77),.i n],[.i (-76),.i n],[.i 0,.i 0]],false⟩,[[.i (-77),.i n],[.i (-76),.i n],[.i 0,.i 0]],2,?_,by rw[cK,aX rfl],by simp,rfl,rfl⟩;refine(av (by conv=>lhs;reduce)).trans ?_;simp only[↓zo,zp,seval];generalize Ht.start false (L::H)=K at*;simp(disch:=omega) only[↓zd,seval,push_cast,j];rw[ik];simp(disch:=omega) only[↓zd,seval,push_cast,u,YG,C];done
  ·rw[aP F]at j⊢
   refine⟨L.D,[[.i s,.i n],[.i (s+1),.i n],[.i (s-1),.i n]],3,?_,A,by simp,rfl,rfl⟩;refine(av (by conv=>lhs;reduce)).trans ?_;simp only[↓zo,zp,seval];generalize Ht.start false (L::H)=K at*;simp(disch:=omega) only[↓zd,seval,push_cast,j,C]
theorem c54{s n:Int}(J:wP s n=0):∃v,call bn 54 [.agg [.i s,.i n]] H=some (v,none)∧∀L,iG none L v=(.sl .any 2 (Fy s n),L):=by
 have R:=jN.1 J;have u:(Ht.start true H).b=(Ht.start true H).D.length:=by cases H<;>rfl
 have hn:ax (Ht.start true H) (.g (Ht.start true H).D.length)=⟨0,0,[],false⟩:=jH;have K:∀i,ax (Ht.start true H) (.o i)=⟨0,0,[],false⟩:=fun i=>jB;have c:=fun(M:Mem)(h:ax M (.g (Ht.start true H).D.length)=⟨1,2,[[.i s,.i n],[.i (s+1),.i n],[.i (s-1),.i n]],false⟩)(U:M.b<=(Ht.start true H).D.length)=>c96 (H:=H) (L:=M) h U J;generalize j:Ht.start true H=F at*;obtain⟨Z,els,len,N,X,W,l,B⟩:=c (bu (bu F (.o 1) ⟨1,2,[[.i s,.i n]],false⟩) (.g F.D.length) ⟨1,2,[[.i s,.i n],[.i (s+1),.i n],[.i (s-1),.i n]],false⟩) (by rw[ay,aX rfl]) (by simp[u]);clear c;generalize I:F.D.length=q at*;have r:∀O b,ax (⟨Z,O,b⟩:Mem) (.g q)=⟨1,2,els,false⟩:=fun O b=>X;by_cases hl:len=els.length
 ·subst hl
  rw[aT]at l;refine⟨.sl .own 2 els,?_,fun L=>by rw[<-l];rfl⟩;rw[av (f:=54) (by conv=>lhs;reduce)];simp only[↓zo,zp,seval];rw[j];clear l;simp(disch:=omega) only[↓zd,seval,push_cast,K,I,hn,u,fq,Mem.Jk,N,r,B]
 ·refine⟨.sl .any 2 (Fy s n),?_,fun L=>rfl⟩
  rw[av (f:=54) (by conv=>lhs;reduce)];simp only[↓zo,zp,seval];rw[j];have Y:(len=els.length)=False:=by simp[hl]
  have A:(Fy s n).all (fun e=>e.all V.pure)=true:=by rw[<-l];exact aV.2 fun e T=>aV.1 B e (fH T)
  have Q:V.qZ (Fy s n)=true:=by rw[V.mM];exact A
  have ao:(SK.any !=SK.own)=true:=rfl;generalize Fy s n=C at*;simp(disch:=omega) only[↓zd,seval,push_cast,K,I,hn,u,fq,Mem.Jk,N,r,B,Y,lI,yu,rF,wJ,sG,xf,mZ,W,l,Q,ao]
def Po(f s n:Int):Int:=kyE (f+7*n-12*s)
theorem c56{A B u:Mem}{m:Me}{s n:Int}{ver:Nat}(F:0<ver)(hr:ax u (.o 4)=⟨ver,2,[[.i s,.i n]],false⟩)(hf: -7<=m.fi∧m.fi<=7)(r:wP s n=0):call bn 56 [.agg m.v,.ptr 3 (.o 4) ver 0 0] (A::B::u::H)=some (.bool (!decide (Po m.fi s n=0)),none):=by
 have g:=jN.1 r;have m1:=m.sz.1;have l:=m.sc;have j:m.v[11]? =some (.i m.fi):=rfl;have c:=fun H=>c33 (H:=H) (f:=m.fi) (s:=s) (n:=n) (by omega) (by omega) (by omega);have d:=fun H=>c57 (H:=H) (m.fi+7*n-12*s);unfold Po;generalize m.fi+7*n-12*s=w at*;generalize C:kyE w=e at*;clear r g hf C;refine(av (by conv=>lhs;reduce)).trans ?_;simp only[↓zo,zp,seval];by_cases h:e=0
 ·simp(disch:=omega) only[↓zd,seval,push_cast,hr,m1,l,j,c,d,h]
 ·simp(disch:=omega) only[↓zd,seval,push_cast,hr,m1,l,j,c,d,h]
def Hy(ms:List Me)(c:Int×Int):Bool:= !(ms.any fun m=> !decide (Po m.fi c.1 c.2=0))
def AA(s n:Int):List (Int×Int):=if s=77 then[(77,n),(76,n)]else if s= -77 then[(-77,n),(-76,n)]else[(s,n),(s+1,n),(s-1,n)]
def Iw(p:Int×Int):List V:=[.i p.1,.i p.2]
theorem aeb(s n:Int):Fy s n=(AA s n).map Iw:=by
 unfold Fy AA;split
 ·rfl
 ·split<;>rfl
theorem KC{s n:Int}(j:wP s n=0):(∀c∈AA s n,wP c.1 c.2=0∧c.2=n)∧(AA s n).length<=3:=by
 have g:=jN.1 j;unfold AA;split
 ·refine⟨fun c hc=> ?_,by simp⟩
  simp at hc;rcases hc with rfl|rfl<;>exact⟨jN.2 (by simp;omega),rfl⟩
 ·split
  ·refine⟨fun c hc=> ?_,by simp⟩
   simp at hc;rcases hc with rfl|rfl<;>exact⟨jN.2 (by simp;omega),rfl⟩
  ·refine⟨fun c hc=> ?_,by simp⟩
   simp at hc;rcases hc with rfl|rfl|rfl<;>exact⟨jN.2 (by simp;omega),rfl⟩
def Iz(ms:List Me)(s n:Int):Option (Int×Int):=(AA s n).find? (Hy ms)
def KD:Option (Int×Int)->List V
 |some p=>[.agg (Iw p),.i 0]
 |none=>[.agg [.i 0,.i 0],.i 18]
theorem c30{s:Sc}{a n:Int}(hm:s.ms.length<=1000)(hf:∀m∈s.ms,-7<=m.fi∧m.fi<=7)(hi:wP a n=0):call bn 30 [.agg s.v,.agg [.i a,.i n]] H=some (.eT (KD (Iz s.ms a n)),none):=by
 obtain⟨O,cl⟩:=KC hi;have R:∀H,∃v,call bn 54 [.agg [.i a,.i n]] H=some (v,none)∧∀L,iG none L v=(.sl .any 2 ((AA a n).map Iw),L):=fun H=>by rw[<-aeb];exact c54 hi
 have s1:=s.sz.1;have s2:=s.sz.2;have s4:=s.tk;have s5:=s.sc;have T:s.v[3]? =some (cu 22 (s.ms.map Me.v)):=rfl;have z:iG none=iG none:=rfl;unfold Iz;refine(av (by conv=>lhs;reduce)).trans ?_;simp only[↓zo,zp,seval];generalize K:Ht.start true H=F at*;have J:∀i,ax F (.o i)=⟨0,0,[],false⟩:=fun i=>by rw[<-K];exact jB
 obtain⟨v,Q,c3⟩:=R (bu (bu (bu F (.o 1) ⟨1,6,[s.v],false⟩) (.o 2) ⟨1,2,[[.i a,.i n]],false⟩) (.o 3) ⟨1,2,[[.i 0,.i 0]],false⟩::H);generalize AA a n=l at*;simp(disch:=omega) only[↓zd,seval,push_cast,s1,s2,s4,s5,J,Q,c3,uV];refine bI (fun i fr L=>ag fr 2= .ptr 0 (.o 1) 1 0 0∧ag fr 4= .ptr 0 (.o 3) 1 0 0∧ag fr 9= .sl .any 2 (l.map Iw)∧ag fr 10= .i l.length∧ag fr 11= .i i∧ax L (.o 1)=⟨1,6,[s.v],false⟩∧ax L (.o 3)=⟨1,2,[[.i 0,.i 0]],false⟩∧l.find? (Hy s.ms)=(l.drop i).find? (Hy s.ms)) l.length ?_ ?_ ?_
 ·refine⟨?_,?_,?_,?_,?_,?_,?_,rfl⟩
  (all_goals try simp only[↓zg,seval,aG]);all_goals try first|rfl|trivial|(simp only[zr,seval,aG];done)
 ·clear Q c3 J R
  rintro i fr L A ⟨C,u,h9,r,I,B,j,hfd⟩ next
  obtain⟨p,hp⟩:∃x,l[i]? =some x:=⟨_,ak A⟩
  have hd:l.drop i=p::l.drop (i+1):=by
   obtain⟨_,rfl⟩:=au.1 hp;exact gv A
  rw[hd,List.find?_cons]at hfd;have pi:=(O p (ah hp)).1;have cc:=fun(F:Mem)(g4:ax F (.o 4)=⟨(ax L (.o 4)).ver+1,2,[Iw p],false⟩)=>Hl (H:=F::H) (m:=55) (n:=98) (sz:=22) (f:=56) (caps:=[.ptr 1 (.o 4) ((ax L (.o 4)).ver+1) 0 0]) (enc:=Me.v) (p:=fun m=> !decide (Po m.fi p.1 p.2=0)) (l:=s.ms) rfl rfl (by omega) Me.sz rfl (fun m DV M N=>c56 (by omega) g4 (hf m DV) pi);have g:=cc (bu (bu L (.o 4) ⟨(ax L (.o 4)).ver+1,2,[[.i 0,.i 0]],false⟩) (.o 4) ⟨(ax L (.o 4)).ver+1,2,[Iw p],false⟩) (by rw[ay,aX rfl]);have Z:(Iw p).length=2:=rfl;have Y:(Iw p).take 2=Iw p:=rfl;have X:(Iw p).all V.scalar=true:=rfl;have W:(Iw p).all V.pure=true:=rfl;have U:∀d,V.bW d (Iw p)=Iw p:=fun _=>rfl;have c:Hy s.ms p= !(s.ms.any fun m=> !decide (Po m.fi p.1 p.2=0)):=rfl;clear cc hf O hd;cases hb:s.ms.any fun m=> !decide (Po m.fi p.1 p.2=0)with
  |false=>
   rw[hb]at c g;rw[c]at hfd;rw[hfd];unfold KD;clear next hfd
   simp(disch:=omega) only[↓zd,seval,push_cast,C,u,h9,r,I,B,j,hp,s1,T,Z,Y,X,W,U,g]
  |true=>
   rw[hb]at c g;rw[c]at hfd;simp(disch:=omega) only[↓zd,seval,push_cast,C,u,h9,r,I,B,j,hp,s1,T,Z,Y,X,W,U,g];refine next _ _ ⟨?_,?_,?_,?_,?_,?_,?_,hfd⟩
   (all_goals try simp only[↓zg,seval,C,u,h9,r,B,j]);all_goals try first|rfl|trivial|(simp only[zr,seval,C,u,h9,r,B,j];done)
 ·clear Q c3 J R
  rintro fr L ⟨C,u,h9,r,I,B,j,hfd⟩;rw[dZ]at hfd;rw[hfd];unfold KD;clear hf O;simp(disch:=omega) only[↓zd,seval,push_cast,u,r,I,j];rfl
def XU(s:Sc)(p:Pa):Option (Int×Int):=if s.wr then some (p.ts,p.tn)else Iz s.ms p.ts p.tn
theorem c47{s:Sc}{i:Nat}{p:Pa}(hm:s.ms.length<=1000)(hf:∀m∈s.ms,-7<=m.fi∧m.fi<=7)(hp:s.ps[i]? =some p)(C:wP p.ts p.tn=0):call bn 47 [.agg s.v,.i i] H=some (.eT (KD (XU s p)),none):=by
 have c:=fun H=>c30 (H:=H) hm hf C;have s1:=s.sz.1;have s2:=s.sz.2;have r:=s.tk;have l:=s.sc;have g:s.v[1]? =some (.bool s.wr):=rfl;have j:s.v[2]? =some (cu 6 (s.ps.map Pa.v)):=rfl;have A:=p.sz.1;have u:(p.v.drop 3).take 2=[.i p.ts,.i p.tn]:=rfl;unfold XU;clear hf C;refine(av (by conv=>lhs;reduce)).trans ?_;simp only[↓zo,zp,seval];cases B:s.wr with
 |true=>
  rw[B]at g;unfold KD Iw;simp(disch:=omega) only[↓zd,seval,push_cast,s1,s2,r,l,g,j,hp,A,u]
 |false=>
  rw[B]at g;rw[aP (by simp)];cases F:Iz s.ms p.ts p.tn with
  |none=>
   rw[F]at c;unfold KD at*;simp(disch:=omega) only[↓zd,seval,push_cast,s1,s2,r,l,g,j,hp,A,u,c]
  |some w=>
   rw[F]at c;unfold KD Iw at*;simp(disch:=omega) only[↓zd,seval,push_cast,s1,s2,r,l,g,j,hp,A,u,c]
def wH(md b:Bool)(hs:List Hd):List Row:=if hs=[]then[]else[⟨if md then hs.length else 1,5,hs.map Hd.v,b⟩]
def De(md b:Bool)(gs:List Gr):List Row:=if md then[]else if gs=[]then[]else[⟨1,5,gs.map Gr.v,b⟩]
def yL(md:Bool)(n:Nat)(hs:List Hd):V:=if hs=[]then .aL else .ref 0 (.g n) (if md then hs.length else 1) 5 0 hs.length
def Fz(md:Bool)(n:Nat)(gs:List Gr):V:=if md then cu 5 (gs.map Gr.v)else if gs=[]then .aL else .ref 0 (.g n) 1 5 0 gs.length
def rE(md b:Bool)(e:Ev):List Row:=wH md b e.hs++De md b e.gs
def sE(md:Bool)(n:Nat)(e:Ev):List V:=e.vg (yL md n e.hs) (Fz md (n+(wH md false e.hs).length) e.gs)
section
variable{α:Type}
def gY(sk:Nat->α->List V)(r:α->List Row):Nat->List α->List (List V)
 |_,[]=>[]
 |n,x::l=>sk n x::gY sk r (n+(r x).length) l
theorem fE{sk:Nat->α->List V}{r:α->List Row}:∀(l:List α)(n:Nat),(gY sk r n l).length=l.length:=by
 intro l;induction l with
 |nil=>intro n;rfl
 |cons x l c=>intro n;simp only[gY,aS,c]
theorem FB{sk:Nat->α->List V}{r:α->List Row}:∀(l c:List α)(n:Nat),gY sk r n (l++c)=gY sk r n l++gY sk r (n+(l.flatMap r).length) c:=by
 intro l;induction l with
 |nil=>intro c n;rfl
 |cons x l g=>
  intro c n;simp only[aW,gY,g,bF,aF,jd]
theorem CG{sk:Nat->α->List V}{r:α->List Row}{p:V->Bool}(h:∀n x,(sk n x).all p=true):∀(l:List α)(n:Nat),(gY sk r n l).all (fun e=>e.all p)=true:=by
 intro l;induction l with
 |nil=>intro n;rfl
 |cons x l c=>intro n;simp only[gY,aZ,h,c,bR]
end
def rV(md b:Bool)(v:Vo):List Row:=v.es.flatMap (rE md b)
def sV(md:Bool)(n:Nat)(v:Vo):List V:=[cu 13 (gY (sE md) (rE md false) n v.es),cu 4 (v.tu.map Tv)]
def rC(md b:Bool)(c:Ce):List Row:=c.vs.flatMap (rV md b)
def sC(md:Bool)(n:Nat)(c:Ce):List V:=[.aL,cu 2 (gY (sV md) (rV md false) n c.vs)]
def Me.vc(m:Me)(x:V):List V:=[.i 1,.i m.id,.i (mA m.mt),.i (mB m.mt),.i (mC m.mt),.i (mD m.mt),.i 0,.i 0,.i 0,.i 0,.i 0,.i m.fi,.bool m.rs,.i m.re,.i 0,.i 0,.i 0,.i m.sw,.i 0,.str ⟨#[]⟩,cu 3 (m.tm.map Qv),x]
def rM(md b:Bool)(m:Me):List Row:=m.cs.flatMap (rC md b)
def sM(md:Bool)(n:Nat)(m:Me):List V:=m.vc (cu 2 (gY (sC md) (rC md false) n m.cs))
theorem KE{α:Type}{r c:α->List Row}(h:∀x,(r x).length=(c x).length)(l:List α):(l.flatMap r).length=(l.flatMap c).length:=by
 induction l with
 |nil=>rfl
 |cons x l g=>simp only[bF,aF,h,g]
theorem Ur(md b c:Bool)(e:Ev):(rE md b e).length=(rE md c e).length:=by
 unfold rE wH De;rw[aF,aF];congr 1
 ·split<;>rfl
 ·split
  ·rfl
  ·split<;>rfl
theorem Us(md b c:Bool)(v:Vo):(rV md b v).length=(rV md c v).length:=KE (Ur md b c) _
theorem Ut(md b g:Bool)(c:Ce):(rC md b c).length=(rC md g c).length:=KE (Us md b g) _
theorem Pp(md b c:Bool)(m:Me):(rM md b m).length=(rM md c m).length:=KE (Ut md b c) _
theorem qF{A Z:List Row}{r:Row}:eP (A++r::Z) A.length=r:=by
 induction A with
 |nil=>rfl
 |cons a A c=>exact c
theorem pq{A Z:List Row}{r c:Row}:dE (A++r::Z) A.length c=A++c::Z:=by
 induction A with
 |nil=>rfl
 |cons a A g=>simp only[aW,aS,dE,g]
def Pq(m:Nat)(b:Bool){α:Type}(sk:Nat->α->List V)(r:Bool->α->List Row)(enc:α->List V):Prop:=
 ∀(x:α)(L:Mem)(A Z:List Row),L.D=A++r b x++Z->L.b<=A.length->vB (jJ m) L (sk A.length x)=some (enc x,⟨A++r true x++Z,L.O,L.b⟩)
theorem Ps{L:Mem}{D:List Row}(h:L.D=D):L=⟨D,L.O,L.b⟩:=by cases L;dsimp only at h;rw[h]
theorem zn{m:Nat}{b:Bool}{α:Type}{sk:Nat->α->List V}{r:Bool->α->List Row}{enc:α->List V}(h:Pq m b sk r enc)(hl:∀x,(r b x).length=(r true x).length)(C:∀x,(r b x).length=(r false x).length):∀(l:List α)(L:Mem)(A Z:List Row),L.D=A++l.flatMap (r b)++Z->L.b<=A.length->rD (jJ m) L (gY sk (r false) A.length l)=some (l.map enc,⟨A++l.flatMap (r true)++Z,L.O,L.b⟩):=by
 intro l;induction l with
 |nil=>intro L A Z c g;exact eU (fun M=>some ([],M)) (Ps c)
 |cons x l u=>
  intro L A Z c g;rw[bF]at c;have B:=h x L A (l.flatMap (r b)++Z) (by rw[c];simp only[aC]) g;have j:=u ⟨A++r true x++(l.flatMap (r b)++Z),L.O,L.b⟩ (A++r true x) Z (by simp only[aC]) (by rw[aF];dsimp only;omega);have e:(A++r true x).length=A.length+(r false x).length:=by rw[aF,<-hl,C]
  rw[e]at j;show(vB (jJ m) L (sk A.length x)).bind (fun q=>(rD (jJ m) q.2 (gY sk (r false) (A.length+(r false x).length) l)).map fun w=>(q.1::w.1,w.2))=_;rw[B];show(rD (jJ m) ⟨A++r true x++(l.flatMap (r b)++Z),L.O,L.b⟩ (gY sk (r false) (A.length+(r false x).length) l)).map _=_;rw[j,bF];simp only[aU,bO,aC]
theorem Gy:∀(m:Nat)(L:Mem)(v:V),v.pure=true->jJ m L v=some (v,L):=by
 intro m L v c;cases v with
 |sl k sz els=>
  rw[V.N7,aH]at c;cases m<;>simp only[jJ,c.2,bK]
 |ref d s ver sz off len=>cases c
 |_=>cases m<;>first|rfl|cases c
theorem Uu{m:Nat}{L:Mem}:∀{l:List V},l.all V.pure=true->vB (jJ m) L l=some (l,L):=by
 intro l;induction l with
 |nil=>intro _;rfl
 |cons v l c=>
  intro h;rw[aZ,aH]at h;show(jJ m L v).bind _=_;rw[Gy m L v h.1];show(vB (jJ m) L l).map _=_;rw[c h.2];rfl
theorem Eh{m:Nat}{L:Mem}:∀{l:List (List V)},l.all (fun e=>e.all V.pure)=true->rD (jJ m) L l=some (l,L):=by
 intro l;induction l with
 |nil=>intro _;rfl
 |cons v l c=>
  intro h;rw[aZ,aH]at h;show(vB (jJ m) L v).bind _=_;rw[Uu h.1];show(rD (jJ m) L l).map _=_;rw[c h.2];rfl
theorem Pt{m sz:Nat}{L L':Mem}{els els':List (List V)}(h:rD (jJ m) L els=some (els',L'))(hl:els'.length=els.length)(hp:els'.all (fun e=>e.all V.pure)=true):jJ (m+1) L (cu sz els)=some (cu sz els',L'):=by
 by_cases g:els=[]
 ·subst g
  have:els'=[]:=eF.1 hl;subst this;injection h with h;injection h with _ h
  rw[<-h];rfl
 ·have r:els'≠[]:=fun e=>g (eF.1 (by rw[<-hl,e];rfl))
  rw[jO g,jO r];by_cases c:els.all (fun e=>e.all V.pure)=true
  ·have:=Eh (m:=m) (L:=L) c
   rw[this]at h;injection h with h;injection h with l j
   subst l;subst j;simp only[jJ,c,bK]
  ·simp only[jJ,aP c,reduceCtorEq,bZ,h,bG,hp,bK]
theorem aaw{m sz ver:Nat}{L L':Mem}{q:Nat}{b:Bool}{els els':List (List V)}(hr:ax L (.g q)=⟨ver,sz,els,b⟩)(A:ax L' (.g q)=⟨ver,sz,els,b⟩)(r:0<ver)(u:L.b<=q)(B:L'.b<=q)(h:rD (jJ m) L els=some (els',L'))(hl:els'.length=els.length)(hp:els'.all (fun e=>e.all V.pure)=true):
  jJ (m+1) L (.ref 0 (.g q) ver sz 0 els.length)=some (.sl .any sz els',if b=true then L' else bu L' (.g q) ⟨ver,sz,els',true⟩):=by
 by_cases c:els.all (fun e=>e.all V.pure)=true
 ·have:=Eh (m:=m) (L:=L) c
  rw[this]at h;injection h with h;injection h with F C
  subst F;subst C;cases b<;>simp[jJ,hr,r,c,Mem.ok,u]
 ·have l:(b||L.ok (.g q))=true:=by simp[Mem.ok,hr,u]
  have j:(b||L'.ok (.g q))=true:=by simp[Mem.ok,A,B]
  have I:(List.drop 0 els').take els.length=els':=by rw[dH];exact aO (by omega)
  simp only[jJ,hr];rw[aX ⟨trivial,r,by omega,l⟩,aP c,h];simp only[bG,A];rw[aX ⟨hp,trivial,trivial,j⟩,I]
theorem aiJ{m:Nat}{md b:Bool}{hs:List Hd}{L:Mem}{A Z:List Row}(j:L.D=A++wH md b hs++Z)(r:L.b<=A.length):jJ m L (yL md A.length hs)=some (cu 5 (hs.map Hd.v),⟨A++wH md true hs++Z,L.O,L.b⟩):=by
 unfold yL wH at*;by_cases c:hs=[]
 ·rw[aX c]at j⊢
  rw[aX c,<-j];subst c;exact wR
 ·rw[aP c]at j⊢
  rw[aP c];have u:hs.map Hd.v≠[]:=by simpa using c
  rw[aC]at j;have hr:ax L (.g A.length)=⟨if md then hs.length else 1,5,hs.map Hd.v,b⟩:=by
   show eP L.D _=_;rw[j];exact qF
  have l:0<(if md then hs.length else 1):=by
   have:=dB.2 c;split<;>omega
  have hl:(hs.map Hd.v).length=hs.length:=aG _;have pu:=dh Hd.pu hs;generalize (if md then hs.length else 1)=ver at*;rw[mZ,jO u];rw[aX ⟨by rw[hr],l,by rw[hr];simp,by rw[hr];simp[Mem.ok,hr,r],by rw[hr];exact pu⟩,hr];simp only[dH];rw[aO (by omega)];cases b with
  |true=>
   rw[aX rfl];congr 2;refine Ps (j.trans ?_);simp
  |false=>
   rw[aP (by simp)];congr 2;show(⟨dE L.D A.length _,L.O,L.b⟩:Mem)=_;rw[j,aW,pq,aC];rfl
theorem aiK{m:Nat}{md b:Bool}{gs:List Gr}{L:Mem}{A Z:List Row}(c:L.D=A++De md b gs++Z)(l:L.b<=A.length):jJ m L (Fz md A.length gs)=some (cu 5 (gs.map Gr.v),⟨A++De md true gs++Z,L.O,L.b⟩):=by
 unfold Fz De at*;have pu:=dh Gr.pu gs;cases md with
 |true=>
  simp only[↓reduceIte]at c⊢;rw[<-c,sH,aX pu]
 |false=>
  simp only[↓reduceIte,bq]at c⊢;by_cases j:gs=[]
  ·rw[aX j]at c⊢
   rw[aX j,<-c];subst j;exact wR
  ·rw[aP j]at c⊢
   rw[aP j];have r:gs.map Gr.v≠[]:=by simpa using j
   rw[aC]at c;have hr:ax L (.g A.length)=⟨1,5,gs.map Gr.v,b⟩:=by
    show eP L.D _=_;rw[c];exact qF
   have hl:(gs.map Gr.v).length=gs.length:=aG _;rw[mZ,jO r];rw[aX ⟨by rw[hr],by omega,by rw[hr];simp,by rw[hr];simp[Mem.ok,hr,l],by rw[hr];exact pu⟩,hr];simp only[dH];rw[aO (by omega)];cases b with
   |true=>
    rw[aX rfl];congr 2;refine Ps (c.trans ?_);simp
   |false=>
    rw[aP (by simp)];congr 2;show(⟨dE L.D A.length _,L.O,L.b⟩:Mem)=_;rw[c,aW,pq,aC];rfl
theorem aiL(m:Nat)(md b:Bool):Pq m b (sE md) (rE md) Ev.v:=by
 intro e L A Z j g;have r:=aiJ (m:=m) (md:=md) (b:=b) (hs:=e.hs) (L:=L) (A:=A) (Z:=De md b e.gs++Z) (by rw[j,rE];simp only[aC]) g;have hl:(wH md true e.hs).length=(wH md false e.hs).length:=by unfold wH;split<;>rfl
 have c:=aiK (m:=m) (md:=md) (b:=b) (gs:=e.gs) (L:=⟨A++wH md true e.hs++(De md b e.gs++Z),L.O,L.b⟩) (A:=A++wH md true e.hs) (Z:=Z) (by simp only[aC]) (by rw[aF];dsimp only;omega);rw[aF,hl]at c;have l:=dh Lv.pu e.ly;simp only[sE,Ev.vg,vB,uX,r,c,bG,aU,sH,l,bK];rw[rE];simp only[aC];rfl
theorem aiM{m:Nat}{md b:Bool}(h:Pq m b (sE md) (rE md) Ev.v):Pq (m+1) b (sV md) (rV md) Vo.v:=by
 intro v L A Z g c;have r:=zn h (Ur md b true) (Ur md b false) v.es L A Z g c;have l:=Pt (sz:=13) r (by rw[fE,aG]) (dh Ev.pu v.es);have j:=dh Tv.pu v.tu;simp only[sV,vB,l,bG,aU,sH,j,bK];rfl
theorem aiN{m:Nat}{md b:Bool}(h:Pq m b (sV md) (rV md) Vo.v):Pq (m+1) b (sC md) (rC md) Ce.v:=by
 intro v L A Z g c;have l:=zn h (Us md b true) (Us md b false) v.vs L A Z g c;have j:=Pt (sz:=2) l (by rw[fE,aG]) (dh Vo.pu v.vs);simp only[sC,vB,wR,j,bG,aU];rfl
theorem aiO{m:Nat}{md b:Bool}(h:Pq m b (sC md) (rC md) Ce.v):Pq (m+1) b (sM md) (rM md) Me.v:=by
 intro v L A Z g c;have u:=zn h (Ut md b true) (Ut md b false) v.cs L A Z g c;have r:=Pt (sz:=2) u (by rw[fE,aG]) (dh Ce.pu v.cs);have l:=dh Qv.pu v.tm;have j:∀L,jJ (m+1) L (cu 3 (v.tm.map Qv))=some (cu 3 (v.tm.map Qv),L):=fun L=>by rw[sH,aX l]
 simp only[sM,Me.vc,vB,uX,rU,uY,r,bG,aU,j];rfl
theorem V4(md b:Bool):Pq 7 b (sM md) (rM md) Me.v:=aiO (aiN (aiM (aiL 4 md b)))
theorem aec(md:Bool)(n:Nat)(hs:List Hd):V.gL (yL md n hs)=true:=by unfold yL;split<;>rfl
theorem aed(md:Bool)(n:Nat)(gs:List Gr):V.gL (Fz md n gs)=true:=by
 unfold Fz;split
 ·exact uU
 ·split<;>rfl
theorem aiP(md:Bool)(n:Nat)(hs:List Hd):V.scalar (yL md n hs)=true:=by unfold yL;split<;>rfl
theorem aiQ(md:Bool)(n:Nat)(gs:List Gr):V.scalar (Fz md n gs)=true:=by
 unfold Fz;split
 ·exact gq
 ·split<;>rfl
theorem Ei(md:Bool)(n:Nat)(e:Ev):(sE md n e).all V.gL=true:=by simp only[sE,Ev.vg,aZ,cB,uU,BQ,aec,aed,bR]
theorem FC(md:Bool)(n:Nat)(e:Ev):(sE md n e).all V.scalar=true:=by simp only[sE,Ev.vg,aZ,cB,gq,mO,aiP,aiQ,bR]
theorem aax(md:Bool)(n d:Nat)(hs:List Hd):V.shift d (yL md n hs)=yL md n hs:=by unfold yL;split<;>rfl
theorem aay(md:Bool)(n d:Nat)(gs:List Gr):V.shift d (Fz md n gs)=Fz md n gs:=by
 unfold Fz;split
 ·exact nZ
 ·split<;>rfl
theorem uA(md:Bool)(n:Nat)(e:Ev):(sE md n e).length=13∧∀d,V.bW d (sE md n e)=sE md n e:=⟨rfl,fun d=>by simp only[sE,Ev.vg,V.bW,V.shift,nZ,aax,aay]⟩
theorem FD(md:Bool)(n:Nat)(e:Ev):(sE md n e).take 13=sE md n e:=rfl
theorem Pw(md:Bool)(n:Nat)(v:Vo):(sV md n v).all V.gL=true:=by simp only[sV,aZ,cB,uU,bR]
theorem V5(md:Bool)(n:Nat)(v:Vo):(sV md n v).all V.scalar=true:=by simp only[sV,aZ,cB,gq,bR]
theorem Hz(md:Bool)(n:Nat)(v:Vo):(sV md n v).length=2∧∀d,V.bW d (sV md n v)=sV md n v:=⟨rfl,fun d=>by simp only[sV,V.bW,V.shift,nZ]⟩
theorem aaz(md:Bool)(n:Nat)(v:Vo):(sV md n v).take 2=sV md n v:=rfl
theorem Uw(md:Bool)(n:Nat)(c:Ce):(sC md n c).all V.gL=true:=by simp only[sC,aZ,cB,uU,BQ,bR]
theorem anE(md:Bool)(n:Nat)(c:Ce):(sC md n c).all V.scalar=true:=by simp only[sC,aZ,cB,gq,mO,bR]
theorem RL(md:Bool)(n:Nat)(c:Ce):(sC md n c).length=2∧∀d,V.bW d (sC md n c)=sC md n c:=⟨rfl,fun d=>by simp only[sC,V.bW,V.shift,nZ]⟩
theorem anF(md:Bool)(n:Nat)(c:Ce):(sC md n c).take 2=sC md n c:=rfl
theorem aaA(md:Bool)(n:Nat)(m:Me):(sM md n m).all V.gL=true:=by simp only[sM,Me.vc,aZ,cB,uU,BQ,bR]
theorem aaB(md:Bool)(n:Nat)(m:Me):(sM md n m).all V.scalar=true:=by simp only[sM,Me.vc,aZ,cB,gq,mO,bR]
theorem zq(md:Bool)(n:Nat)(m:Me):(sM md n m).length=22∧∀d,V.bW d (sM md n m)=sM md n m:=⟨rfl,fun d=>by simp only[sM,Me.vc,V.bW,V.shift,nZ]⟩
theorem aaC(md:Bool)(n:Nat)(m:Me):(sM md n m).take 22=sM md n m:=rfl
theorem anG(D:List Row)(hs:List Hd):gD D 5 (hs.map Hd.v)=D++wH false false hs:=by
 unfold gD wH;by_cases h:hs=[]
 ·subst h;simp
 ·rw[aP (by simpa using h),aP h];rfl
theorem anH(D:List Row)(hs:List Hd):gV D 5 (hs.map Hd.v)=yL false D.length hs:=by
 unfold gV yL;by_cases h:hs=[]
 ·subst h;simp
 ·rw[aP (by simpa using h),aP h,aG];rfl
theorem anI(D:List Row)(gs:List Gr):gD D 5 (gs.map Gr.v)=D++De false false gs:=by
 unfold gD De;by_cases h:gs=[]
 ·subst h;simp
 ·rw[aP (by simpa using h),aP (by simp),aP h]
theorem anJ(D:List Row)(gs:List Gr):gV D 5 (gs.map Gr.v)=Fz false D.length gs:=by
 unfold gV Fz;by_cases h:gs=[]
 ·subst h;simp
 ·rw[aP (by simpa using h),aP (by simp),aP h,aG]
theorem anK{L:Mem}{e:Ev}(ok:mX e):call bn 199 [.agg e.v] (L::H)=some (.agg (sE false L.D.length e),some (L.D++rE false false e)):=by
 obtain⟨j,g,c⟩:=ok.lens;rw[amV j g c,anG,anH,anI,anJ,aC,aF];rfl
theorem KF{α:Type}{p:V->Bool}{enc:α->List V}(h:∀x,(enc x).all p=true)(l:List α):(l.map enc).all (fun e=>e.all p)=true:=by
 rw[vk];exact aV.2 fun x _=>h x
theorem aaD(L:Mem)(md:Bool)(n:Nat)(hs:List Hd):uy L (yL md n hs)=some (yL md n hs,L):=by unfold yL;split<;>rfl
theorem aaE(L:Mem)(md:Bool)(n:Nat)(gs:List Gr):uy L (Fz md n gs)=some (Fz md n gs,L):=by
 unfold Fz;split
 ·exact wO
 ·split<;>rfl
theorem uM(L:Mem)(k:IntKind)(n:Int):uy L (.int k n)=some (.int k n,L):=rfl
theorem Ej(L:Mem)(b:Bool):uy L (.bool b)=some (.bool b,L):=rfl
theorem zt(L:Mem)(b:ByteArray):uy L (.str b)=some (.str b,L):=rfl
theorem xe(L:Mem):uy L .aL=some (.aL,L):=rfl
theorem Ac(L:Mem)(md:Bool)(n:Nat)(e:Ev):kJ L (sE md n e)=some (sE md n e,L):=by
 simp only[sE,Ev.vg,kJ,uM,aaD,aaE,wO,bG,aU]
theorem V6(L:Mem)(md:Bool)(n:Nat)(v:Vo):kJ L (sV md n v)=some (sV md n v,L):=by
 simp only[sV,kJ,wO,bG,aU]
theorem aee(L:Mem)(md:Bool)(n:Nat)(v:Ce):kJ L (sC md n v)=some (sC md n v,L):=by
 simp only[sC,kJ,wO,xe,bG,aU]
theorem V7(L:Mem)(md:Bool)(n:Nat)(v:Me):kJ L (sM md n v)=some (sM md n v,L):=by
 simp only[sM,Me.vc,kJ,wO,uM,Ej,zt,bG,aU]
theorem CJ{α β:Type}{l:List α}{i:Nat}{x:α}{f:α->List β}(h:l[i]? =some x):(l.take (i+1)).flatMap f=(l.take i).flatMap f++f x:=by
 rw[aY,h,bH];simp
theorem FE{α:Type}{sk:Nat->α->List V}{r:α->List Row}{l:List α}{i n:Nat}{x:α}(h:l[i]? =some x):gY sk r n (l.take (i+1))=gY sk r n (l.take i)++[sk (n+((l.take i).flatMap r).length) x]:=by
 rw[aY,h,eQ,FB];rfl
def anL(L:Mem)(v:V):Option (V×Mem):=uy L v
theorem tO{L:Mem}{n ver sz off len:Nat}:uy L (.ref 0 (.o n) ver sz off len)=if(ax L (.o n)).ver=ver∧0<ver∧off+len<=(ax L (.o n)).els.length∧(ax L (.o n)).els.all (fun e=>e.all V.gL)=true∧((ax L (.o n)).fz||L.ok (.o n))=true then some (.sl .any sz (((ax L (.o n)).els.drop off).take len),if(ax L (.o n)).fz then L else bu L (.o n) ⟨(ax L (.o n)).ver,(ax L (.o n)).sz,(ax L (.o n)).els,true⟩)else anL L (.ref 0 (.o n) ver sz off len):=by
 split
 ·rename_i h
  obtain⟨r,l,j,g,c⟩:=h;simp only[uy,r,l,j,g,c,Bc,bK]
 ·rfl
theorem Px{q v z o l:Nat}:V.gL (.ref 0 (.o q) v z o l)=false:=rfl
theorem Ad{z:Nat}{els:List (List V)}:V.gL (.sl .any z els)=true:=rfl
theorem auv{L:Mem}{v:Vo}(B:∀e∈v.es,mX e)(fP:v.es≠[])(hl:v.es.length<=1000)(ht:v.tu.length<=1000):call bn 160 [.agg v.v] (L::H)=some (.agg (sV false L.D.length v),some (L.D++rV false false v)):=by
 have v1:=v.sz.1;have v2:=v.sc;have v4:v.v[0]? =some (cu 13 (v.es.map Ev.v)):=rfl;have W:v.v[1]? =some (cu 4 (v.tu.map Tv)):=rfl;have u:(Ht.start false (L::H)).D=L.D:=rfl;have Z:∀i,ax (Ht.start false (L::H)) (.o i)=⟨0,0,[],false⟩:=fun i=>jB;refine(av (by conv=>lhs;reduce)).trans ?_;simp only[↓zo,zp,seval];generalize Ht.start false (L::H)=L0 at*;simp(disch:=omega) only[↓zd,seval,push_cast,v1,v2,v4,W,Z,dS];refine bI (fun i fr g=>ag fr 7=cu 13 (v.es.map Ev.v)∧ag fr 8= .i v.es.length∧ag fr 9= .i i∧ag fr 1= .ptr 0 (.o 1) 1 0 0∧ag fr 2= .ptr 0 (.o 2) 1 0 0∧ag fr 3= .ptr 0 (.o 3) 1 0 0∧ax g (.o 1)=⟨1,2,[v.v],false⟩∧ax g (.o 2)=⟨1,2,[[.aL,.aL]],false⟩∧ax g (.o 6)=⟨0,0,[],false⟩∧g.D=L.D++(v.es.take i).flatMap (rE false false)∧∃x,ax g (.o 3)=⟨1,2,[[x,.aL]],false⟩∧sF g 5 13 x (gY (sE false) (rE false false) L.D.length (v.es.take i))) v.es.length ?_ ?_ ?_
 ·refine⟨?_,?_,?_,?_,?_,?_,?_,?_,?_,?_,.aL,?_,.inl ⟨rfl,rfl⟩⟩
  (all_goals try simp only[↓zg,seval,Z]);all_goals try first|rfl|trivial|(simp only[zr,seval,Z];done)
  all_goals (first|(simp only[cz,u,fZ,dK,bz];done)|skip)
 ·clear u Z
  rintro i fr g hi ⟨h7,N,h9,T,R,Q,U,J,Ql,u,x,I,hx⟩ next
  obtain⟨e,K⟩:∃e,v.es[i]? =some e:=⟨_,ak hi⟩
  have oe:=B e (ah K);rw[CJ K,FE K,<-aC,<-u]at next
  have j:L.D.length+((v.es.take i).flatMap (rE false false)).length=g.D.length:=by rw[u,aF]
  rw[j]at next
  have AX:(gY (sE false) (rE false false) L.D.length (v.es.take i)).length<=1000000:=by rw[fE,bf];omega
  generalize gY (sE false) (rE false false) L.D.length (v.es.take i)=X at*;have c:=fun F C H=>anK (H:=H) (L:=bu (bu g (.o 4) F) (.o 4) C) oe;simp only[cz]at c;have e1:=e.sz.1;have e2:=e.sz.2;have e3:=e.tk;have e4:=e.sc;have g1:=(uA false g.D.length e).1;have g2:=FD false g.D.length e;have g3:=FC false g.D.length e;have g4:=Ei false g.D.length e;have g6:∀l,List.drop 13 (sE false g.D.length e++l)=l:=fun l=>rfl;have sh:=fun L=>Ac L false g.D.length e;have ap:=fun D O b F C H(h:O=(bu (bu g (.o 4) F) (.o 4) C).O)=>lN (H:=H) (M:=⟨D,O,b⟩) (bytes:=152) (s:=4) hx (by rw[h];show ax (bu (bu g (.o 4) F) (.o 4) C) (.o 5)=_;simp[ay]) AX (by omega) (x:=sE false g.D.length e) g1 g3;have ap':=fun D b F C H=>ap D _ b F C H rfl;have f1:∀M,ax M (.o 5)=⟨(ax g (.o 5)).ver+1,13,X++[sE false g.D.length e],false⟩->sF M 5 13 (.ref 0 (.o 5) ((ax g (.o 5)).ver+1) 13 0 (X.length+1)) (X++[sE false g.D.length e]):=fun M h=>mJ (by omega) h;have sx:V.shift 0 x=x:=by rcases hx with⟨_,rfl⟩|⟨_,_,_,rfl,_⟩<;>rfl
  clear ap hx AX oe j B;generalize sE false g.D.length e=E at*;generalize rE false false e=RR at*;simp(disch:=omega) only[↓zd,seval,push_cast,h7,N,h9,T,R,Q,U,J,I,K,e1,e2,e3,e4,c,qg,jR,sh,lZ,g1,g2,g3,g4,sx,ap'];refine next _ _ ⟨?_,?_,?_,?_,?_,?_,?_,?_,?_,?_,_,?_,f1 _ ?_⟩
  (all_goals try simp only[↓zg,seval,h7,N,T,R,Q,U,J,I,Ql]);all_goals try first|rfl|trivial|(simp only[zr,seval,h7,N,T,R,Q,U,J,I,Ql];done)
 ·rintro fr g ⟨h7,N,h9,T,R,Q,U,J,Ql,u,x,I,hx⟩
  rw[aT]at hx u;have Sy:gY (sE false) (rE false false) L.D.length v.es≠[]:=fun h=>by
   have:=eU List.length h;rw[fE]at this;exact fP (eF.1 this)
  have gl:=CG (Ei false) (r:=rE false false) v.es L.D.length;have j:(gY (sE false) (rE false false) L.D.length v.es).length=v.es.length:=fE _ _;change g.D=L.D++rV false false v at u;unfold sV;generalize gY (sE false) (rE false false) L.D.length v.es=X at*;rcases hx with⟨h,_⟩|⟨_,ver,hv,rfl,h5⟩
  ·exact absurd h Sy
  clear B;rw[jO Sy];rcases yE v.tu with A|⟨a,t,A⟩
  ·rw[A,dX,gF]at W⊢
   simp(disch:=omega) only[↓zd,seval,push_cast,N,h9,T,R,Q,h5,hv,U,J,I,v1,W,u,Px,Ad,o9,AR,nD,jR,kJ,tO,xe,gl,dH,aT]
  ·have htn:v.tu.map Tv≠[]:=by rw[A];simp
   have htl:(v.tu.map Tv).length<=1000:=by rw[aG];exact ht
   have K:(v.tu.map Tv).isEmpty=false:=by rw[A];rfl
   have hz:(v.tu.map Tv).all (fun e=>decide (e.length=4∧e.all V.scalar=true))=true:=zY (enc:=Tv) (fun _=>⟨rfl,rfl⟩) _;have gl2:(v.tu.map Tv).all (fun e=>e.all V.gL)=true:=KF (enc:=Tv) (fun _=>rfl) _;rw[jO htn]at W⊢;generalize v.tu.map Tv=Y at*;simp(disch:=omega) only[↓zd,seval,push_cast,N,h9,T,R,Q,h5,hv,U,J,I,Ql,v1,W,u,K,hz,Px,Ad,o9,AR,nD,jR,kJ,tO,gl,gl2,dH,aT]
theorem aiR{v:Vo}{len:Int}(o:yD v len):v.tu.length<=16:=by
 rcases o.mr with⟨_,_,_,h⟩|⟨_,h,_⟩
 ·rw[h];simp
 ·exact h.len
theorem c95{L:Mem}{c:Ce}{len:Int}(vo:∀v∈c.vs,yD v len)(fP:c.vs≠[])(hl:c.vs.length<=1000):call bn 95 [.agg c.v] (L::H)=some (.agg (sC false L.D.length c),some (L.D++rC false false c)):=by
 have v1:=c.sz.1;have v2:=c.sc;have v4:c.v[0]? =some .aL:=rfl;have v5:c.v[1]? =some (cu 2 (c.vs.map Vo.v)):=rfl;have j:(Ht.start false (L::H)).D=L.D:=rfl;have R:∀i,ax (Ht.start false (L::H)) (.o i)=⟨0,0,[],false⟩:=fun i=>jB;have c0:=fun H=>atx (H:=H);refine(av (by conv=>lhs;reduce)).trans ?_;simp only[↓zo,zp,seval];generalize Ht.start false (L::H)=L0 at*;simp(disch:=omega) only[↓zd,seval,push_cast,v1,v2,v4,v5,R,c0,dS];refine bI (fun i fr g=>ag fr 11=cu 2 (c.vs.map Vo.v)∧ag fr 12= .i c.vs.length∧ag fr 13= .i i∧ag fr 2= .ptr 0 (.o 2) 1 0 0∧ag fr 3= .ptr 0 (.o 3) 1 0 0∧ax g (.o 2)=⟨1,2,[[.aL,.aL]],false⟩∧g.D=L.D++(c.vs.take i).flatMap (rV false false)∧∃x,ax g (.o 3)=⟨1,2,[[.aL,x]],false⟩∧sF g 5 2 x (gY (sV false) (rV false false) L.D.length (c.vs.take i))) c.vs.length ?_ ?_ ?_
 ·refine⟨?_,?_,?_,?_,?_,?_,?_,.aL,?_,.inl ⟨rfl,rfl⟩⟩
  (all_goals try simp only[↓zg,seval,R]);all_goals try first|rfl|trivial|(simp only[zr,seval,R];done)
  all_goals (first|(simp only[cz,j,fZ,dK,bz];done)|skip)
 ·clear j R
  rintro i fr g hi ⟨N,C,T,K,J,I,j,x,F,hx⟩ next
  obtain⟨e,Q⟩:∃e,c.vs[i]? =some e:=⟨_,ak hi⟩
  have B:=vo e (ah Q);have otu:=aiR B;have ocn:=B.Aw;rw[CJ Q,FE Q,<-aC,<-j]at next
  have l:L.D.length+((c.vs.take i).flatMap (rV false false)).length=g.D.length:=by rw[j,aF]
  rw[l]at next
  have AX:(gY (sV false) (rV false false) L.D.length (c.vs.take i)).length<=1000000:=by rw[fE,bf];omega
  generalize gY (sV false) (rV false false) L.D.length (c.vs.take i)=X at*;have Y:=fun A u H=>auv (H:=H) (L:=bu (bu g (.o 4) A) (.o 4) u) B.ev B.ne (by omega) (by omega);simp only[cz]at Y;have e1:=e.sz.1;have e2:=e.sz.2;have e3:=e.tk;have e4:=e.sc;have g1:=(Hz false g.D.length e).1;have g2:=aaz false g.D.length e;have W:=V5 false g.D.length e;have g4:=Pw false g.D.length e;have sh:=fun L=>V6 L false g.D.length e;have ap:=fun D O b A u H(h:O=(bu (bu g (.o 4) A) (.o 4) u).O)=>lN (H:=H) (M:=⟨D,O,b⟩) (bytes:=48) (s:=4) hx (by rw[h];show ax (bu (bu g (.o 4) A) (.o 4) u) (.o 5)=_;simp[ay]) AX (by omega) (x:=sV false g.D.length e) g1 W;have U:=fun D b A u H=>ap D _ b A u H rfl;have f1:∀M,ax M (.o 5)=⟨(ax g (.o 5)).ver+1,2,X++[sV false g.D.length e],false⟩->sF M 5 2 (.ref 0 (.o 5) ((ax g (.o 5)).ver+1) 2 0 (X.length+1)) (X++[sV false g.D.length e]):=fun M h=>mJ (by omega) h;have sx:V.shift 0 x=x:=by rcases hx with⟨_,rfl⟩|⟨_,_,_,rfl,_⟩<;>rfl
  clear ap hx AX B l vo;generalize sV false g.D.length e=E at*;generalize rV false false e=RR at*;simp(disch:=omega) only[↓zd,seval,push_cast,N,C,T,K,J,I,F,Q,e1,e2,e3,e4,Y,qg,jR,sh,lZ,g1,g2,W,g4,sx,U];refine next _ _ ⟨?_,?_,?_,?_,?_,?_,?_,_,?_,f1 _ ?_⟩
  (all_goals try simp only[↓zg,seval,N,C,K,J,I,F]);all_goals try first|rfl|trivial|(simp only[zr,seval,N,C,K,J,I,F];done)
 ·rintro fr g ⟨N,C,T,K,J,I,j,x,F,hx⟩
  rw[aT]at hx j;have Z:gY (sV false) (rV false false) L.D.length c.vs≠[]:=fun h=>by
   have:=eU List.length h;rw[fE]at this;exact fP (eF.1 this)
  have gl:=CG (Pw false) (r:=rV false false) c.vs L.D.length;change g.D=L.D++rC false false c at j;unfold sC;generalize gY (sV false) (rV false false) L.D.length c.vs=X at*;rcases hx with⟨h,_⟩|⟨_,ver,hv,rfl,h5⟩
  ·exact absurd h Z
  clear vo;rw[jO Z];simp(disch:=omega) only[↓zd,seval,push_cast,C,T,K,J,h5,hv,I,F,j,Px,Ad,o9,AR,nD,jR,kJ,tO,xe,gl,dH,aT]
theorem c49{L:Mem}{m:Me}(ok:vI m)(fP:m.cs≠[])(ht:m.tm.length<=1000):call bn 49 [.agg m.v] (L::H)=some (.agg (sM false L.D.length m),some (L.D++rM false false m)):=by
 have v1:=m.sz.1;have v2:=m.sc;have v4:m.v[20]? =some (cu 3 (m.tm.map Qv)):=rfl;have Z:m.v[21]? =some (cu 2 (m.cs.map Ce.v)):=rfl;have hl:=ok.cn;have g:(Ht.start false (L::H)).D=L.D:=rfl;have N:∀i,ax (Ht.start false (L::H)) (.o i)=⟨0,0,[],false⟩:=fun i=>jB;have c0:=fun H=>c94 (H:=H) m.tm (by omega);have vc:∀x,m.v.take 21++[x]=m.vc x:=fun _=>rfl;have u1:m.v.take 20++[cu 3 (m.tm.map Qv)]++m.v.drop 21=m.v:=rfl;have u2:m.v.drop 22=[]:=rfl;have w1:∀x,(m.vc x).length=22:=fun _=>rfl;have Y:∀x,(m.vc x)[21]? =some x:=fun _=>rfl;have w3:∀x,(m.vc x).take 21=m.v.take 21:=fun _=>rfl;have W:∀x,(m.vc x).drop 22=[]:=fun _=>rfl;have w5:∀x,(m.vc x).take 22=m.vc x:=fun _=>rfl;have U:∀x,V.scalar x=true->(m.vc x).all V.scalar=true:=fun x hx=>by simp only[Me.vc,aZ,cB,gq,mO,hx,bR]
 have T:∀x,V.shift 0 x=x->V.bW 0 (m.vc x)=m.vc x:=fun x hx=>by simp only[Me.vc,V.bW,V.shift,nZ,hx]
 refine(av (by conv=>lhs;reduce)).trans ?_;simp only[↓zo,zp,seval];generalize Ht.start false (L::H)=L0 at*;simp(disch:=omega) only[↓zd,seval,push_cast,v1,v2,v4,Z,N,c0,u1,u2,vc,dS];refine bI (fun i fr c=>ag fr 13=cu 2 (m.cs.map Ce.v)∧ag fr 14= .i m.cs.length∧ag fr 15= .i i∧ag fr 1= .ptr 0 (.o 1) 1 0 0∧ag fr 2= .ptr 0 (.o 2) 1 0 0∧ax c (.o 2)=⟨1,22,[[.i 0,.i 0,.i 0,.i 0,.i 0,.i 0,.i 0,.i 0,.i 0,.i 0,.i 0,.i 0,.bool false,.i 0,.i 0,.i 0,.i 0,.i 0,.i 0,.str ⟨#[]⟩,.aL,.aL]],false⟩∧c.D=L.D++(m.cs.take i).flatMap (rC false false)∧∃x,ax c (.o 1)=⟨1,22,[m.vc x],false⟩∧sF c 4 2 x (gY (sC false) (rC false false) L.D.length (m.cs.take i))) m.cs.length ?_ ?_ ?_
 ·refine⟨?_,?_,?_,?_,?_,?_,?_,.aL,?_,.inl ⟨rfl,rfl⟩⟩
  (all_goals try simp only[↓zg,seval,N]);all_goals try first|rfl|trivial|(simp only[zr,seval,N];done)
  all_goals (first|(simp only[cz,g,fZ,dK,bz];done)|skip)
 ·clear g N v2 v4 Z
  rintro i fr c hi ⟨K,A,Q,I,F,B,g,x,J,hx⟩ next
  obtain⟨e,C⟩:∃e,m.cs[i]? =some e:=⟨_,ak hi⟩
  have oe:=ok.vo e (ah C);have on:=ok.vn e (ah C);rw[CJ C,FE C,<-aC,<-g]at next
  have j:L.D.length+((m.cs.take i).flatMap (rC false false)).length=c.D.length:=by rw[g,aF]
  rw[j]at next
  have AX:(gY (sC false) (rC false false) L.D.length (m.cs.take i)).length<=1000000:=by rw[fE,bf];omega
  generalize gY (sC false) (rC false false) L.D.length (m.cs.take i)=X at*;have cc:=fun u l H=>c95 (H:=H) (L:=bu (bu c (.o 3) u) (.o 3) l) oe (by rintro h;rw[h]at on;simp at on) (by omega);simp only[cz]at cc;have e1:=e.sz.1;have e2:=e.sz.2;have e3:=e.tk;have e4:=e.sc;have g1:=(RL false c.D.length e).1;have g2:=anF false c.D.length e;have g3:=anE false c.D.length e;have g4:=Uw false c.D.length e;have sh:=fun L=>aee L false c.D.length e;have ap:=fun D O b u l H(h:O=(bu (bu c (.o 3) u) (.o 3) l).O)=>lN (H:=H) (M:=⟨D,O,b⟩) (bytes:=48) (s:=3) hx (by rw[h];show ax (bu (bu c (.o 3) u) (.o 3) l) (.o 4)=_;simp[ay]) AX (by omega) (x:=sC false c.D.length e) g1 g3;have R:=fun D b u l H=>ap D _ b u l H rfl;have f1:∀M,ax M (.o 4)=⟨(ax c (.o 4)).ver+1,2,X++[sC false c.D.length e],false⟩->sF M 4 2 (.ref 0 (.o 4) ((ax c (.o 4)).ver+1) 2 0 (X.length+1)) (X++[sC false c.D.length e]):=fun M h=>mJ (by omega) h;have sx:V.shift 0 x=x:=by rcases hx with⟨_,rfl⟩|⟨_,_,_,rfl,_⟩<;>rfl
  clear ap hx AX oe j ok;generalize sC false c.D.length e=E at*;generalize rC false false e=RR at*;simp(disch:=omega) only[↓zd,seval,push_cast,K,A,Q,I,F,J,B,C,e1,e2,e3,e4,cc,qg,jR,sh,lZ,g1,g2,g3,g4,sx,R,w1,Y,w3,W,vc];refine next _ _ ⟨?_,?_,?_,?_,?_,?_,?_,_,?_,f1 _ ?_⟩
  (all_goals try simp only[↓zg,seval,K,A,I,F,J,B]);all_goals try first|rfl|trivial|(simp only[zr,seval,K,A,I,F,J,B];done)
 ·rintro fr c ⟨K,A,Q,I,F,B,g,x,J,hx⟩
  rw[aT]at hx g;have Sy:gY (sC false) (rC false false) L.D.length m.cs≠[]:=fun h=>by
   have:=eU List.length h;rw[fE]at this;exact fP (eF.1 this)
  have gl:=CG (Uw false) (r:=rC false false) m.cs L.D.length;change c.D=L.D++rM false false m at g;unfold sM;generalize gY (sC false) (rC false false) L.D.length m.cs=X at*;rcases hx with⟨h,_⟩|⟨_,ver,hv,rfl,h5⟩
  ·exact absurd h Sy
  have y1:=U (.ref 0 (.o 4) ver 2 0 X.length) rfl;have y2:=T (.ref 0 (.o 4) ver 2 0 X.length) rfl;have y3:(m.vc (.ref 0 (.o 4) ver 2 0 X.length)).all V.gL=false:=by simp only[Me.vc,aZ,cB,Px,mh,iW]
  have y4:(m.vc (.sl .any 2 X)).all V.gL=true:=by simp only[Me.vc,aZ,cB,uU,BQ,Ad,bR]
  have y5:∀M:Mem,ax M (.o 4)=⟨ver,2,X,false⟩->kJ M (m.vc (.ref 0 (.o 4) ver 2 0 X.length))=some (m.vc (.sl .any 2 X),bu M (.o 4) ⟨ver,2,X,true⟩):=fun M hM=>by
   simp only[Me.vc,kJ,uM,Ej,zt,wO,bG,aU,tO,hM,hv,gl,Bc,dV,aJ,dH,aT,bK,iK,Mem.ok,nT,jK,bq,bZ]
  have y6:=fun r=>y5 (bu c (.o 2) r) (by rw[ay,aP (by simp)];exact h5);clear ok u1 vc Y w3 W U T;rw[jO Sy];simp(disch:=omega) only[↓zd,seval,push_cast,A,Q,I,F,J,B,g,w1,w5,y1,y2,y3,y4,y6,o9,AR,nD,jR]
theorem c48{p:Pa}(hl:p.ss.length<=1000):call bn 48 [.agg p.v] H=some (.agg p.v,none):=by
 have c:=fun H=>c93 (H:=H) p.ss (by omega);have C:=p.sz.1;have B:=p.sz.2;have A:=p.tk;have u:=p.sc;have r:=p.pu;have l:p.v[5]? =some (cu 3 (p.ss.map St.v)):=rfl;have j:p.v.take 5++[cu 3 (p.ss.map St.v)]=p.v:=rfl;have g:p.v.drop 6=[]:=rfl;refine(av (by conv=>lhs;reduce)).trans ?_;simp only[↓zo,zp,seval];simp(disch:=omega) only[↓zd,seval,push_cast,c,C,B,A,u,r,l,j,g]
theorem aef(L:Mem)(p:Pa):kJ L p.v=some (p.v,L):=by
 simp only[Pa.v,kJ,uM,zt,wO,bG,aU]
theorem Pa.g1(p:Pa):p.v.all V.gL=true:=by simp only[Pa.v,aZ,cB,uU,BQ,bR]
theorem Pa.gl(p:Pa):p.v.all V.qW=true:=by simp only[Pa.v,aZ,cB,J9,OV,bR]
theorem anM(md:Bool)(n:Nat)(m:Me):(sM md n m).all V.qW=true:=by simp only[sM,Me.vc,aZ,cB,J9,OV,bR]
def sI(s:Sc):Row:=⟨1+s.ps.length,6,s.ps.map Pa.v,false⟩
def zw(n:Nat)(s:Sc):Row:=⟨1+s.ms.length,22,gY (sM false) (rM false false) n s.ms,false⟩
def FV(s:Sc)(n:Nat):List V:=[.str iB,.bool s.wr,.ref 0 (.g n) (1+s.ps.length) 6 0 s.ps.length,.ref 0 (.g (n+1)) (1+s.ms.length) 22 0 s.ms.length,cu 7 (s.sp.map Sp.v),cu 2 (s.la.map Av)]
def Ux(s:Sc)(n:Nat):List Row:=sI s::zw (n+2) s::s.ms.flatMap (rM false false)
theorem RN{A:List Row}{r:Row}:dE A A.length r=A++[r]:=kI
theorem c26{L:Mem}{s:Sc}(ok:kN s)(hb:L.b<=L.D.length):call bn 26 [.agg s.v] (L::H)=some (.agg (FV s L.D.length),some (L.D++Ux s L.D.length)):=by
 have xK:=ok.ml;have hpl:=ok.ps.len;have hsp:=ok.sp;have Yn:s.la.length<=1000:=by obtain⟨n,h,_⟩:=ok.la;rw[h];simp
 have s1:=s.sz.1;have s2:=s.sz.2;have s4:=s.tk;have s5:=s.sc;have s7:s.v[2]? =some (cu 6 (s.ps.map Pa.v)):=rfl;have s8:s.v[3]? =some (cu 22 (s.ms.map Me.v)):=rfl;have s9:s.v[4]? =some (cu 7 (s.sp.map Sp.v)):=rfl;have Z:s.v[5]? =some (cu 2 (s.la.map Av)):=rfl;have j:(Ht.start false (L::H)).D=L.D:=rfl;have F:(Ht.start false (L::H)).b=L.b:=rfl;have hO:∀i,ax (Ht.start false (L::H)) (.o i)=⟨0,0,[],false⟩:=fun i=>jB;have U:=fun H=>c50 (H:=H) s.sp (by omega);have T:=fun H=>c51 (H:=H) s.la (by omega);refine(av (by conv=>lhs;reduce)).trans ?_;simp only[↓zo,zp,seval];generalize Ht.start false (L::H)=L0 at*;have Q:ax L0 (.g L.D.length)=⟨0,0,[],false⟩:=by rw[<-j];exact jH
 simp(disch:=omega) only[↓zd,seval,push_cast,s1,s2,s4,s5,s7,s8,hO,j,fq,Q,dS];refine bI (fun i fr c=>ag fr 1= .ptr 0 (.o 1) 1 0 0∧ag fr 2= .ptr 0 (.o 2) 1 0 0∧ag fr 14=cu 6 (s.ps.map Pa.v)∧ag fr 15= .i s.ps.length∧ag fr 16= .i i∧ag fr 3= .ref 0 (.g L.D.length) (1+i) 6 0 i∧ax c (.o 1)=⟨1,6,[s.v],false⟩∧ax c (.o 2)=⟨1,6,[[.str ⟨#[]⟩,.bool false,.aL,.aL,.aL,.aL]],false⟩∧c.b=L.b∧c.D=L.D++[⟨1+i,6,(s.ps.take i).map Pa.v,false⟩]) s.ps.length ?_ ?_ ?_
 ·refine⟨?_,?_,?_,?_,?_,?_,?_,?_,?_,?_⟩
  (all_goals try simp only[↓zg,seval]);all_goals try first|rfl|trivial|(simp only[zr,seval];done)
  all_goals (first|exact F|(rw[fF,cz,cz,j,RN];rfl)|skip)
 ·clear j F hO Q U T
  rintro i fr c hi ⟨A,u,W,K,l7,I,B,C,F,j⟩ next
  obtain⟨p,hp⟩:∃p,s.ps[i]? =some p:=⟨_,ak hi⟩
  have op:=ok.ps.st p (ah hp);have cc:=fun H=>c48 (H:=H) (p:=p) (by omega);have hr:ax c (.g L.D.length)=⟨1+i,6,(s.ps.take i).map Pa.v,false⟩:=by
   show eP c.D _=_;rw[j];exact qF
  have wb:c.b<=L.D.length:=by rw[F];exact hb
  have e1:=p.sz.1;have e2:=p.sz.2;have e3:=p.tk;have e4:=p.sc;have e5:=p.g1;have e6:=p.gl;have sh:=fun L=>aef L p;have tk:(s.ps.take (i+1)).map Pa.v=(s.ps.take i).map Pa.v++[p.v]:=by rw[aY,hp,aR];rfl
  have ln:((s.ps.take i).map Pa.v).length=i:=by rw[aG,bf];omega
  have tt:((s.ps.take i).map Pa.v).take i=(s.ps.take i).map Pa.v:=aO (by omega);have ls:∀r,dE c.D L.D.length r=L.D++[r]:=fun r=>by rw[j];exact pq
  rw[tk]at next
  generalize (s.ps.take i).map Pa.v=X at*;clear ok;simp(disch:=omega) only[↓zd,seval,push_cast,A,u,W,K,l7,I,B,C,hr,hp,e1,e2,e3,e4,e5,e6,cc,qg,jR,sh,lZ,ln,tt];refine next _ _ ⟨?_,?_,?_,?_,?_,?_,?_,?_,?_,?_⟩
  (all_goals try simp only[↓zg,seval,A,u,W,K,B,C]);all_goals try first|rfl|trivial|(simp only[zr,seval,A,u,W,K,B,C];done)
  all_goals (first|exact F|(rw[fF,cz,cz,ls];rfl)|skip)
 ·clear j F hO Q
  rintro fr c ⟨A,u,W,K,l7,I,B,C,F,j⟩;rw[aT]at j;have CE:c.D.length=L.D.length+1:=by rw[j];simp
  have Nr:ax c (.g (L.D.length+1))=⟨0,0,[],false⟩:=by rw[<-CE];exact jH
  simp(disch:=omega) only[↓zd,seval,push_cast,A,u,K,l7,I,B,C,s8,fq,CE,Nr,dS];refine bI (fun i fr c=>ag fr 1= .ptr 0 (.o 1) 1 0 0∧ag fr 2= .ptr 0 (.o 2) 1 0 0∧ag fr 31=cu 22 (s.ms.map Me.v)∧ag fr 32= .i s.ms.length∧ag fr 33= .i i∧ag fr 3= .ref 0 (.g L.D.length) (1+s.ps.length) 6 0 s.ps.length∧ag fr 6= .ref 0 (.g (L.D.length+1)) (1+i) 22 0 i∧ax c (.o 1)=⟨1,6,[s.v],false⟩∧ax c (.o 2)=⟨1,6,[[.str ⟨#[]⟩,.bool false,.aL,.aL,.aL,.aL]],false⟩∧c.b=L.b∧c.D=L.D++[sI s]++⟨1+i,22,gY (sM false) (rM false false) (L.D.length+2) (s.ms.take i),false⟩::(s.ms.take i).flatMap (rM false false)) s.ms.length ?_ ?_ ?_
  ·refine⟨?_,?_,?_,?_,?_,?_,?_,?_,?_,?_,?_⟩
   (all_goals try simp only[↓zg,seval,A,u,I,B,C]);all_goals try first|rfl|trivial|(simp only[zr,seval,A,u,I,B,C];done)
   all_goals (first|exact F|(rw[fF,<-CE,RN,j];rfl)|skip)
  ·clear j F Nr U T A u W K l7 I B C CE
   rintro i fr c hi ⟨A,u,Dw,Y,Az,I,h6,B,C,F,j⟩ next
   obtain⟨m,hm⟩:∃m,s.ms[i]? =some m:=⟨_,ak hi⟩
   have om:=ok.me m (ah hm);have otm:=(ok.mf m (ah hm)).tm;have N:=ok.cs m (ah hm);have sW:1<=mI s.ps:=by
    obtain⟨p,hp⟩:∃p,s.ps[0]? =some p:=⟨_,ak (by omega)⟩
    have A:=(ok.ps.st p (ah hp)).1;have u:p.ss.length∈s.ps.map fun p=>p.ss.length:=dQ.2 ⟨p,ah hp,rfl⟩;have I:p.ss.length<=(s.ps.map fun p=>p.ss.length).sum:=by
     clear ok xK hpl;generalize (s.ps.map fun p=>p.ss.length)=l at*;induction l with
     |nil=>cases u
     |cons a l ih=>
      rw[sQ];rcases ed.1 u with h|h
      ·omega
      ·have:=ih h;omega
    unfold mI;omega
   have fP:m.cs≠[]:=by intro h;rw[h]at N;simp at N;omega
   have J:L.D.length+2+((s.ms.take i).flatMap (rM false false)).length=c.D.length:=by rw[j];simp only[aF,aS,ek];omega
   rw[CJ hm,FE hm,J]at next
   have cc:=fun r1 r2 H=>c49 (H:=H) (L:=bu (bu c (.o 5) r1) (.o 5) r2) om fP (by omega);simp only[cz]at cc;have ln:(gY (sM false) (rM false false) (L.D.length+2) (s.ms.take i)).length=i:=by rw[fE,bf];omega
   generalize gY (sM false) (rM false false) (L.D.length+2) (s.ms.take i)=X at*;generalize (s.ms.take i).flatMap (rM false false)=R at*;have e1:=m.sz.1;have e2:=m.sz.2;have e3:=m.tk;have e4:=m.sc;have g1:=(zq false c.D.length m).1;have g2:=aaC false c.D.length m;have g3:=aaB false c.D.length m;have g4:=aaA false c.D.length m;have g5:=anM false c.D.length m;have sh:=fun L=>V7 L false c.D.length m;generalize sM false c.D.length m=E at*;generalize rM false false m=RR at*;have tt:X.take i=X:=aO (by omega);have wb:c.b<=L.D.length+1:=by rw[F];omega
   have la:(L.D++[sI s]).length=L.D.length+1:=by simp
   have hr:∀O b,ax (⟨c.D++RR,O,b⟩:Mem) (.g (L.D.length+1))=⟨1+i,22,X,false⟩:=fun O b=>by
    show eP (c.D++RR) _=_;rw[j,<-la,aC,aW];exact qF
   have ls:∀r,dE (c.D++RR) (L.D.length+1) r=L.D++[sI s]++r::(R++RR):=fun r=>by
    rw[j,<-la,aC (L.D++[sI s]),aW];exact pq
   clear ok om fP J N otm;simp(disch:=omega) only[↓zd,seval,push_cast,A,u,Dw,Y,Az,I,h6,B,C,hr,hm,e1,e2,e3,e4,g1,g2,g3,g4,g5,cc,qg,jR,sh,lZ,ln,tt];refine next _ _ ⟨?_,?_,?_,?_,?_,?_,?_,?_,?_,?_,?_⟩
   (all_goals try simp only[↓zg,seval,A,u,Dw,Y,I,B,C]);all_goals try first|rfl|trivial|(simp only[zr,seval,A,u,Dw,Y,I,B,C];done)
   all_goals (first|exact F|(rw[fF,ls];rfl)|skip)
  ·clear j F Nr A u W K l7 I B C CE
   rintro fr c ⟨A,u,Dw,Y,Az,I,h6,B,C,F,j⟩;rw[aT]at j;have hD':c.D=L.D++Ux s L.D.length:=by rw[j,aC];rfl
   unfold FV;generalize Ux s L.D.length=CD at*;unfold Sc.v at B s9 Z;clear ok j;simp(disch:=omega) only[↓zd,seval,push_cast,A,u,Y,Az,I,h6,B,C,s9,Z,U,T,hD']
theorem Ae{L:Mem}{q:Nat}{r:Row}(h:ax L (.g q)=r)(j:q<L.D.length):dE L.D q r=L.D:=by
 have c:eP L.D q=r:=h;clear h;generalize L.D=D at*;induction D generalizing q with
 |nil=>simp at j
 |cons a D l=>cases q with
  |zero=>unfold eP at c;subst c;rfl
  |succ q=>rw[dE,l (by simpa using j) c]
abbrev PF:=P3->P3×Int
def Gr.p(g:Gr):P3:=⟨g.st,g.al,g.oc⟩
def Hd.p'(h:Hd):P3:=⟨h.st,h.al,h.oc⟩
def Hd.mp(f:PF)(h:Hd):Hd:={h with st:=(f h.p').1.st,al:=(f h.p').1.al,oc:=(f h.p').1.oc}
def Gr.mp(f:PF)(h:Gr):Gr:={h with st:=(f h.p).1.st,al:=(f h.p).1.al,oc:=(f h.p).1.oc}
def Ev.mp(f:PF)(e:Ev):Ev:={e with hs:=e.hs.map (Hd.mp f),gs:=e.gs.map (Gr.mp f)}
def Vo.mp(f:PF)(v:Vo):Vo:={v with es:=v.es.map (Ev.mp f)}
def Ce.mp(f:PF)(c:Ce):Ce:=⟨c.vs.map (Vo.mp f)⟩
def nN(F:Nat->PF):Nat->List Ce->List Ce
 |_,[]=>[]
 |k,c::l=>c.mp (F k)::nN F (k+1) l
def Me.mp(F:Nat->PF)(m:Me):Me:={m with cs:=nN F 0 m.cs}
def RO(a e:Int):Int:=if a=0 then e else a
def erH(f:PF)(a:Int)(l:List Hd):Int:=l.foldl (fun a h=>RO a (f h.p').2) a
def erG(f:PF)(a:Int)(l:List Gr):Int:=l.foldl (fun a h=>RO a (f h.p).2) a
def erE(f:PF)(a:Int)(e:Ev):Int:=erG f (erH f a e.hs) e.gs
def erV(f:PF)(a:Int)(v:Vo):Int:=v.es.foldl (erE f) a
def erC(f:PF)(a:Int)(c:Ce):Int:=c.vs.foldl (erV f) a
def Cg(F:Nat->PF):Nat->Int->List Ce->Int
 |_,a,[]=>a
 |k,a,c::l=>Cg F (k+1) (erC (F k) a c) l
def erM(F:Nat->PF)(a:Int)(m:Me):Int:=Cg F 0 a m.cs
theorem c52{L:Mem}{q qf ver j f k:Nat}{caps:List V}{els:List (List V)}{x:List V}{p r:P3}{e B:Int}(u:ax L (.o 2)=⟨1,1,[[.fn f caps]],false⟩)(J:ax L (.g q)=⟨ver,5,els,false⟩)(U:0<ver)(F:ax L (.g qf)=⟨1,1,[[.i B]],false⟩)(Z:L.b<=q)(Y:L.b<=qf)(hx:els[j]? =some x)(l:x.length=5)(c:x.take 3=p.v)
  (hf:∀M,M.D=L.D->call bn f (.i k:: .agg p.v::V.bW 1 (V.bW 1 caps)) (M::L::H)=some (.eT [.agg r.v,.i e],none)):
  call bn 52 [.i k,.ptr 0 (.g q) ver j 0,.ptr 1 (.o 2) 1 0 0,.ptr 0 (.g qf) 1 0 0] (L::H)=some (.eT [],some (dE (dE L.D qf ⟨1,1,[[.i (RO B e)]],false⟩) q ⟨ver,5,els.set j (r.v++x.drop 3),false⟩)):=by
 have W:(Ht.start false (L::H)).D=L.D:=rfl;have X:(Ht.start false (L::H)).b=L.b:=rfl;have T:ax (Ht.start false (L::H)) (.g q)=⟨ver,5,els,false⟩:=J;have C:ax (Ht.start false (L::H)) (.g qf)=⟨1,1,[[.i B]],false⟩:=F;have ne:(qf=q)=False:=Fu (L:=L) F J (by simp);have I:(P3.v r).length=3:=rfl;have Q:=r.sz.2;have r3:=r.sc;have O:(P3.v r).all V.qW=true:=rfl;have N:(P3.v r).take 3=P3.v r:=rfl;have R:=p.sz.2;have lf:=gX F (by simp);have same:dE L.D qf ⟨1,1,[[.i B]],false⟩=L.D:=Ae F lf;have A:=fun I=>hf (bu (Ht.start false (L::H)) (.o 1) I) rfl;clear hf J F;unfold RO;refine(av (by conv=>lhs;reduce)).trans ?_;simp only[↓zo,zp,seval];generalize Ht.start false (L::H)=L0 at*;by_cases K:B=0
 ·subst K
  rw[aX rfl];simp(disch:=omega) only[↓zd,seval,push_cast,u,T,C,U,hx,l,c,A,R,I,Q,r3,O,N,X,W,ne,zK,DK,Ym]
 ·rw[aP K,same]
  simp(disch:=omega) only[↓zd,seval,push_cast,u,T,C,U,hx,l,c,A,R,I,Q,r3,O,N,X,W,ne,K,zK,DK,Ym]
theorem KG{α:Type}{sk:Nat->α->List V}{r:α->List Row}:∀{l:List α}{i n:Nat}{x:α},l[i]? =some x->(gY sk r n l)[i]? =some (sk (n+((l.take i).flatMap r).length) x):=by
 intro l;induction l with
 |nil=>intro i n x h;cases h
 |cons a l c=>
  intro i n x h;cases i with
  |zero=>injection h with h;subst h;rfl
  |succ i=>
   have:=c (n:=n+(r a).length) (i:=i) h;simp only[gY,di,this,lQ,bF,aF,jd]
theorem aeg(n:Nat)(hs:List Hd):AQ (yL false n hs)=some (.i (hs.length:Nat)):=by
 unfold yL;split
 ·rename_i h;subst h;rfl
 ·rfl
theorem aeh(n:Nat)(hs:List Gr):AQ (Fz false n hs)=some (.i (hs.length:Nat)):=by
 unfold Fz;rw[aP (by simp)];split
 ·rename_i h;subst h;rfl
 ·rfl
theorem aiV{n:Nat}{hs:List Hd}(h:hs≠[]):yL false n hs= .ref 0 (.g n) 1 5 0 hs.length:=by unfold yL;rw[aP h];rfl
theorem aiW{n:Nat}{hs:List Gr}(h:hs≠[]):Fz false n hs= .ref 0 (.g n) 1 5 0 hs.length:=by unfold Fz;rw[aP (by simp),aP h]
theorem Py(f:PF)(hs:List Hd):(wH false false (hs.map (Hd.mp f))).length=(wH false false hs).length:=by
 unfold wH;cases hs<;>rfl
theorem aiX(f:PF)(hs:List Gr):(De false false (hs.map (Gr.mp f))).length=(De false false hs).length:=by
 unfold De;cases hs<;>rfl
theorem V8(f:PF)(e:Ev):(rE false false (e.mp f)).length=(rE false false e).length:=by
 unfold rE Ev.mp;rw[aF,aF,Py,aiX]
theorem wS{α:Type}{r:α->List Row}{g:α->α}(h:∀x,(r (g x)).length=(r x).length)(l:List α):((l.map g).flatMap r).length=(l.flatMap r).length:=by
 induction l with
 |nil=>rfl
 |cons x l c=>simp only[bO,bF,aF,h,c]
theorem V9(f:PF)(v:Vo):(rV false false (v.mp f)).length=(rV false false v).length:=wS (V8 f) _
theorem af4(f:PF)(v:Ce):(rC false false (v.mp f)).length=(rC false false v).length:=wS (V9 f) _
theorem Gz(F:Nat->PF):∀(l:List Ce)(k:Nat),((nN F k l).flatMap (rC false false)).length=(l.flatMap (rC false false)).length:=by
 intro l;induction l with
 |nil=>intro k;rfl
 |cons c l g=>intro k;simp only[nN,bF,aF,af4,g]
theorem NC(F:Nat->PF)(m:Me):(rM false false (m.mp F)).length=(rM false false m).length:=Gz F _ _
theorem aaG(F:Nat->PF):∀(l g:List Ce)(k:Nat),nN F k (l++g)=nN F k l++nN F (k+l.length) g:=by
 intro l;induction l with
 |nil=>intro g k;rfl
 |cons c l j=>intro g k;simp only[aW,nN,j,aS,jd,nO 1]
theorem aaH(F:Nat->PF):∀(l g:List Ce)(k:Nat)(a:Int),Cg F k a (l++g)=Cg F (k+l.length) (Cg F k a l) g:=by
 intro l;induction l with
 |nil=>intro g k a;rfl
 |cons c l j=>intro g k a;simp only[aW,Cg,j,aS,jd,nO 1]
theorem KH(F:Nat->PF):∀(l:List Ce)(k:Nat),(nN F k l).length=l.length:=by
 intro l;induction l with
 |nil=>intro k;rfl
 |cons c l g=>intro k;simp only[nN,aS,g]
theorem bU{fr:List V}{i j:Nat}{v:V}(h:i≠j):ag (gW fr (some i) v) j=ag fr j:=by
 show ag (Ht.set fr i v) j=_;rw[qJ,aP h]
theorem bY{fr:List V}{j:Nat}{v:V}:ag (gW fr none v) j=ag fr j:=rfl
def lJ(a:Int):Row:=⟨1,1,[[.i a]],false⟩
def FOk(HH:List Mem)(D0:List Row)(f:Nat)(caps:List V)(F:Nat->PF):Prop:=
 ∀(M Lx:Mem)(Z:List Row)(k:Nat)(p:P3),M.D=D0++Z->k<=5->p.e=0->call bn f (.i k:: .agg p.v::V.bW 1 (V.bW 1 caps)) (M::Lx::HH)=some (.eT [.agg (F k p).1.v,.i (F k p).2],none)
def hsQ(f:PF)(i:Nat)(hs:List Hd):List Row:=if hs=[]then[]else[⟨1,5,((hs.take i).map fun h=>(h.mp f).v)++(hs.drop i).map Hd.v,false⟩]
def gsQ(f:PF)(i:Nat)(hs:List Gr):List Row:=if hs=[]then[]else[⟨1,5,((hs.take i).map fun h=>(h.mp f).v)++(hs.drop i).map Gr.v,false⟩]
theorem anQ(f:PF)(hs:List Hd):hsQ f 0 hs=wH false false hs:=by unfold hsQ wH;simp
theorem anR(f:PF)(hs:List Gr):gsQ f 0 hs=De false false hs:=by unfold gsQ De;simp
theorem anS(f:PF)(hs:List Hd):hsQ f hs.length hs=wH false false (hs.map (Hd.mp f)):=by
 unfold hsQ wH;by_cases h:hs=[]
 ·subst h;rfl
 ·rw[aP h,aP (by simpa using h)];simp
theorem anT(f:PF)(hs:List Gr):gsQ f hs.length hs=De false false (hs.map (Gr.mp f)):=by
 unfold gsQ De;by_cases h:hs=[]
 ·subst h;rfl
 ·rw[aP h,aP (by simp),aP (by simpa using h)];simp
theorem FH{α:Type}{f:Int->α->Int}{l:List α}{i:Nat}{x:α}{a:Int}(h:l[i]? =some x):(l.take (i+1)).foldl f a=f ((l.take i).foldl f a) x:=by
 rw[aY,h,kG];rfl
theorem KJ{α β:Type}{g g':α->β}{l:List α}{i:Nat}{x:α}(h:l[i]? =some x):(((l.take i).map g)++(l.drop i).map g')[i]? =some (g' x)∧(((l.take i).map g)++(l.drop i).map g').set i (g x)=((l.take (i+1)).map g)++(l.drop (i+1)).map g':=by
 obtain⟨c,rfl⟩:=au.1 h;have hl:((l.take i).map g).length=i:=by rw[aG,bf];omega
 have hd:l.drop i=l[i]::l.drop (i+1):=gv c;refine⟨?_,?_⟩
 ·rw[jb (by omega),hl,Bj,hd];rfl
 ·rw[List.set_append_right _ _ (by omega),hl,Bj,hd,bO,yP,aY,h,aR]
  simp
theorem Yv{cX:eu}(qG:cX=sb 27 70){HH:List Mem}{D0 A Z T:List Row}{F:Nat->PF}{hs:List Hd}{f k qf ver b:Nat}{caps evc:List V}{a:Int}{K:List KI}{rs:List sU}{R:Option (V×Option (List Row))}{fr:List V}{M:Mem}
  (hF:FOk HH D0 f caps F)(hk:k<=5)(hp:∀h∈hs,h.p'.e=0)(hl:hs.length<=1000)
  (h8:ag fr 8= .fn 52 [.ptr 0 (.o 2) 1 0 0,.ptr 0 (.g qf) 1 0 0])(jg:ag fr 11= .i k)(tJ:ag fr 15= .ptr 0 (.o 7) ver 0 0)(VP:ag fr 54= .i hs.length)(h55:ag fr 55= .i 0)
  (hv:0<ver)(Sz:ax M (.o 7)=⟨ver,13,[evc],false⟩)(lM:evc[5]? =some (yL false A.length hs))(jc:ax M (.o 2)=⟨1,1,[[.fn f caps]],false⟩)(J:M.b=b)(hbA:b<=A.length)
  (hA:A=D0++T)(c:M.D=A++wH false false hs++Z++[lJ a])(Df:(A++wH false false hs++Z).length=qf)
  (done:∀fr' B,(∀j,j<16∨(18<=j∧j<=54)->ag fr' j=ag fr j)->B.O=M.O->B.b=b->B.D=A++wH false false (hs.map (Hd.mp (F k)))++Z++[lJ (erH (F k) a hs)]->G bn HH false rs K fr' B=R):
  G bn HH false rs (.code (.loop cX):: .blk 8::K) fr M=R:=by
 subst qG;conv in sb _ _=>reduce
 simp only[↓zo,zp,seval];refine bI (fun i fr' B=>(∀j,j<16∨(18<=j∧j<=54)->ag fr' j=ag fr j)∧ag fr' 55= .i i∧B.O=M.O∧B.b=b∧B.D=A++hsQ (F k) i hs++Z++[lJ ((hs.take i).foldl (fun a h=>RO a (F k h.p').2) a)]) hs.length ⟨fun j _=>rfl,h55,rfl,J,by rw[anQ,c];rfl⟩ ?_ ?_
 ·clear c done J
  rintro i lV u hi ⟨C,I,N,J,c⟩ next
  have g8:=C 8 (by omega);have yM:=C 11 (by omega);have U:=C 15 (by omega);have l:=C 54 (by omega);rw[h8]at g8;rw[jg]at yM;rw[tJ]at U;rw[VP]at l;obtain⟨h,hh⟩:∃h,hs[i]? =some h:=⟨_,ak hi⟩
  have hpe:=hp h (ah hh);have fP:hs≠[]:=by rintro rfl;cases hh
  have aiZ:ax u (.o 7)=⟨ver,13,[evc],false⟩:=by rw[<-Sz];exact eU (fun O=>eP O 7) N
  have KL:ax u (.o 2)=⟨1,1,[[.fn f caps]],false⟩:=by rw[<-jc];exact eU (fun O=>eP O 2) N
  rw[aiV fP]at lM;have Yp:(wH false false hs).length=1:=by unfold wH;rw[aP fP];rfl
  obtain⟨s1,s2⟩:=KJ (g:=fun h:Hd=>(h.mp (F k)).v) (g':=Hd.v) hh;rw[FH hh]at next
  unfold hsQ at c next
  rw[aP fP]at c next
  rw[<-s2]at next
  generalize hX:((hs.take i).map fun h=>(h.mp (F k)).v)++(hs.drop i).map Hd.v=X at*;generalize (hs.take i).foldl (fun a h=>RO a (F k h.p').2) a=a' at*;have hq:ax u (.g A.length)=⟨1,5,X,false⟩:=by
   show eP u.D _=_;rw[c,aC A,aC A,aW,aW];exact qF
  have Y:(A++[(⟨1,5,X,false⟩:Row)]++Z).length=qf:=by rw[<-Df];simp only[aF,Yp,aS,ek]
  have W:ax u (.g qf)=⟨1,1,[[.i a']],false⟩:=by
   show eP u.D _=_;rw[c,<-Y];exact qF
  have hqA:A.length<qf:=by rw[<-Y];simp only[aF,aS,ek];omega
  have cc:=c52 (H:=HH) (L:=u) (q:=A.length) (qf:=qf) (j:=i) (k:=k) (p:=h.p') (r:=(F k h.p').1) (e:=(F k h.p').2) KL hq (by omega) W (by omega) (by omega) s1 rfl rfl (fun B uF=>hF B u (T++[(⟨1,5,X,false⟩:Row)]++Z++[lJ a']) k h.p' (by rw[uF,c,hA];simp only[aC]) hk hpe);have wL:(F k h.p').1.v++(Hd.v h).drop 3=(h.mp (F k)).v:=rfl;rw[wL]at cc;have Q:dE (dE u.D qf ⟨1,1,[[.i (RO a' (F k h.p').2)]],false⟩) A.length ⟨1,5,X.set i (h.mp (F k)).v,false⟩=A++[⟨1,5,X.set i (h.mp (F k)).v,false⟩]++Z++[lJ (RO a' (F k h.p').2)]:=by
   rw[c,<-Y,pq,aC A,aC A,aW,aW,pq];simp only[aC,aW,dm];rfl
  rw[Q]at cc;clear hF hp c Q s1 s2 hA hX Sz jc wL hq W Y Df;simp(disch:=omega) only[↓zd,seval,push_cast,g8,yM,U,l,I,aiZ,hv,lM,cc];refine next _ _ ⟨fun j hj=> ?_,?_,N,?_,?_⟩
  ·rw[<-C j hj]
   simp(disch:=omega) only[bU,bY]
  (all_goals try simp only[↓zg,seval]);all_goals try first|rfl|trivial|(simp only[zr,seval];done)
  all_goals (first|exact J|skip)
 ·rintro lV u ⟨C,I,N,J,c⟩
  have l:=C 54 (by omega);rw[VP]at l;rw[aT,anS]at c;have dn:=fun fr'(h:∀j,j<16∨(18<=j∧j<=54)->ag fr' j=ag fr j)=>done fr' u h N J c;clear done hF hp c hA Sz jc Df;simp(disch:=omega) only[↓zd,seval,push_cast,l,I];refine dn _ fun j hj=> ?_;rw[<-C j hj];simp(disch:=omega) only[bU,bY]
theorem g27{cX:eu}(qG:cX=sb 27 86){HH:List Mem}{D0 A Z T:List Row}{F:Nat->PF}{hs:List Gr}{f k qf ver b:Nat}{caps evc:List V}{a:Int}{K:List KI}{rs:List sU}{R:Option (V×Option (List Row))}{fr:List V}{M:Mem}
  (hF:FOk HH D0 f caps F)(hk:k<=5)(hp:∀h∈hs,h.p.e=0)(hl:hs.length<=1000)
  (h8:ag fr 8= .fn 52 [.ptr 0 (.o 2) 1 0 0,.ptr 0 (.g qf) 1 0 0])(jg:ag fr 11= .i k)(tJ:ag fr 15= .ptr 0 (.o 7) ver 0 0)(h69:ag fr 69= .i hs.length)(h70:ag fr 70= .i 0)
  (hv:0<ver)(Sz:ax M (.o 7)=⟨ver,13,[evc],false⟩)(lM:evc[6]? =some (Fz false A.length hs))(jc:ax M (.o 2)=⟨1,1,[[.fn f caps]],false⟩)(J:M.b=b)(hbA:b<=A.length)
  (hA:A=D0++T)(c:M.D=A++De false false hs++Z++[lJ a])(Df:(A++De false false hs++Z).length=qf)
  (done:∀fr' B,(∀j,j<16∨(18<=j∧j<=54)->ag fr' j=ag fr j)->B.O=M.O->B.b=b->B.D=A++De false false (hs.map (Gr.mp (F k)))++Z++[lJ (erG (F k) a hs)]->G bn HH false rs K fr' B=R):
  G bn HH false rs (.code (.loop cX):: .blk 10::K) fr M=R:=by
 subst qG;conv in sb _ _=>reduce
 simp only[↓zo,zp,seval];refine bI (fun i fr' B=>(∀j,j<16∨(18<=j∧j<=54)->ag fr' j=ag fr j)∧ag fr' 70= .i i∧ag fr' 69= .i hs.length∧B.O=M.O∧B.b=b∧B.D=A++gsQ (F k) i hs++Z++[lJ ((hs.take i).foldl (fun a h=>RO a (F k h.p).2) a)]) hs.length ⟨fun j _=>rfl,h70,h69,rfl,J,by rw[anR,c];rfl⟩ ?_ ?_
 ·clear c done J
  rintro i lV u hi ⟨N,I,C,Q,J,c⟩ next
  have g8:=N 8 (by omega);have yM:=N 11 (by omega);have W:=N 15 (by omega);rw[h8]at g8;rw[jg]at yM;rw[tJ]at W;have l:=C;obtain⟨h,hh⟩:∃h,hs[i]? =some h:=⟨_,ak hi⟩
  have hpe:=hp h (ah hh);have fP:hs≠[]:=by rintro rfl;cases hh
  have aiZ:ax u (.o 7)=⟨ver,13,[evc],false⟩:=by rw[<-Sz];exact eU (fun O=>eP O 7) Q
  have KL:ax u (.o 2)=⟨1,1,[[.fn f caps]],false⟩:=by rw[<-jc];exact eU (fun O=>eP O 2) Q
  rw[aiW fP]at lM;have Yp:(De false false hs).length=1:=by unfold De;rw[aP (by simp),aP fP];rfl
  obtain⟨s1,s2⟩:=KJ (g:=fun h:Gr=>(h.mp (F k)).v) (g':=Gr.v) hh;rw[FH hh]at next
  unfold gsQ at c next
  rw[aP fP]at c next
  rw[<-s2]at next
  generalize hX:((hs.take i).map fun h=>(h.mp (F k)).v)++(hs.drop i).map Gr.v=X at*;generalize (hs.take i).foldl (fun a h=>RO a (F k h.p).2) a=a' at*;have hq:ax u (.g A.length)=⟨1,5,X,false⟩:=by
   show eP u.D _=_;rw[c,aC A,aC A,aW,aW];exact qF
  have wI:(A++[(⟨1,5,X,false⟩:Row)]++Z).length=qf:=by rw[<-Df];simp only[aF,Yp,aS,ek]
  have Y:ax u (.g qf)=⟨1,1,[[.i a']],false⟩:=by
   show eP u.D _=_;rw[c,<-wI];exact qF
  have hqA:A.length<qf:=by rw[<-wI];simp only[aF,aS,ek];omega
  have cc:=c52 (H:=HH) (L:=u) (q:=A.length) (qf:=qf) (j:=i) (k:=k) (p:=h.p) (r:=(F k h.p).1) (e:=(F k h.p).2) KL hq (by omega) Y (by omega) (by omega) s1 rfl rfl (fun B uF=>hF B u (T++[(⟨1,5,X,false⟩:Row)]++Z++[lJ a']) k h.p (by rw[uF,c,hA];simp only[aC]) hk hpe);have wL:(F k h.p).1.v++(Gr.v h).drop 3=(h.mp (F k)).v:=rfl;rw[wL]at cc;have U:dE (dE u.D qf ⟨1,1,[[.i (RO a' (F k h.p).2)]],false⟩) A.length ⟨1,5,X.set i (h.mp (F k)).v,false⟩=A++[⟨1,5,X.set i (h.mp (F k)).v,false⟩]++Z++[lJ (RO a' (F k h.p).2)]:=by
   rw[c,<-wI,pq,aC A,aC A,aW,aW,pq];simp only[aC,aW,dm];rfl
  rw[U]at cc;clear hF hp c U s1 s2 hA hX Sz jc wL hq Y wI Df;simp(disch:=omega) only[↓zd,seval,push_cast,g8,yM,W,l,I,aiZ,hv,lM,cc];refine next _ _ ⟨fun j hj=> ?_,?_,?_,Q,?_,?_⟩
  ·rw[<-N j hj]
   simp(disch:=omega) only[bU,bY]
  (all_goals try simp only[↓zg,seval,l]);all_goals try first|rfl|trivial|(simp only[zr,seval,l];done)
  all_goals (first|exact J|skip)
 ·rintro lV u ⟨N,I,C,Q,J,c⟩
  have l:=C;rw[aT,anT]at c;have dn:=fun fr'(h:∀j,j<16∨(18<=j∧j<=54)->ag fr' j=ag fr j)=>done fr' u h Q J c;clear done hF hp c hA Sz jc Df;simp(disch:=omega) only[↓zd,seval,push_cast,l,I];refine dn _ fun j hj=> ?_;rw[<-N j hj];simp(disch:=omega) only[bU,bY]
theorem Pz{α β:Type}{g:α->α}{l:List α}{i:Nat}{x:α}{r:α->List β}(h:l[i]? =some x):((l.take (i+1)).map g).flatMap r=((l.take i).map g).flatMap r++r (g x):=by
 rw[aY,h,aR,bH];simp
theorem kE{α:Type}{l:List α}{i:Nat}{x:α}(h:l[i]? =some x):l.drop i=x::l.drop (i+1):=by
 obtain⟨c,rfl⟩:=au.1 h;exact gv c
theorem e27{cX:eu}(qG:cX=sb 27 55){HH:List Mem}{D0 A Z T:List Row}{F:Nat->PF}{es:List Ev}{f k qf b:Nat}{caps:List V}{a:Int}{K:List KI}{rs:List sU}{R:Option (V×Option (List Row))}{fr:List V}{M:Mem}
  (hF:FOk HH D0 f caps F)(hk:k<=5)(ok:∀e∈es,mX e)(hl:es.length<=1000)
  (h8:ag fr 8= .fn 52 [.ptr 0 (.o 2) 1 0 0,.ptr 0 (.g qf) 1 0 0])(jg:ag fr 11= .i k)(Iq:ag fr 46=cu 13 (gY (sE false) (rE false false) A.length es))(zX:ag fr 47= .i es.length)(Fp:ag fr 48= .i 0)
  (jc:ax M (.o 2)=⟨1,1,[[.fn f caps]],false⟩)(hb:M.b=b)(hbA:b<=A.length)
  (hA:A=D0++T)(I:M.D=A++es.flatMap (rE false false)++Z++[lJ a])(Df:(A++es.flatMap (rE false false)++Z).length=qf)
  (done:∀fr' N,(∀j,j<15∨(18<=j∧j<=47)->ag fr' j=ag fr j)->(∀r,r<7->ax N (.o r)=ax M (.o r))->N.b=b->N.D=A++(es.map (Ev.mp (F k))).flatMap (rE false false)++Z++[lJ (es.foldl (erE (F k)) a)]->G bn HH false rs K fr' N=R):
  G bn HH false rs (.code (.loop cX):: .blk 6::K) fr M=R:=by
 subst qG;conv in sb _ _=>reduce
 simp only[↓zo,zp,seval];refine bI (fun i fr' N=>(∀j,j<15∨(18<=j∧j<=47)->ag fr' j=ag fr j)∧ag fr' 48= .i i∧(∀r,r<7->ax N (.o r)=ax M (.o r))∧N.b=b∧N.D=A++((es.take i).map (Ev.mp (F k))).flatMap (rE false false)++(es.drop i).flatMap (rE false false)++Z++[lJ ((es.take i).foldl (erE (F k)) a)]) es.length ⟨fun j _=>rfl,Fp,fun _ _=>rfl,hb,by rw[I];simp⟩ ?_ ?_
 ·clear I done hb
  rintro i lV l hi ⟨J,u,hO,hb,I⟩ next
  have g8:=J 8 (by omega);have yM:=J 11 (by omega);have Y:=J 46 (by omega);have c:=J 47 (by omega);rw[h8]at g8;rw[jg]at yM;rw[Iq]at Y;rw[zX]at c;obtain⟨e,he⟩:∃e,es[i]? =some e:=⟨_,ak hi⟩
  have oe:=ok e (ah he);have KL:ax l (.o 2)=⟨1,1,[[.fn f caps]],false⟩:=by rw[hO 2 (by omega)];exact jc
  have hat:=KG (sk:=sE false) (r:=rE false false) (n:=A.length) he;have hAl:A.length+((es.take i).flatMap (rE false false)).length=(A++((es.take i).map (Ev.mp (F k))).flatMap (rE false false)).length:=by rw[aF,wS (V8 (F k))]
  rw[hAl]at hat;rw[kE he,bF]at I;rw[Pz he,FH he,<-aC A]at next
  have Qi:(A++((es.take i).map (Ev.mp (F k))).flatMap (rE false false)++(rE false false e++(es.drop (i+1)).flatMap (rE false false))++Z).length=qf:=by
   rw[<-Df];have h1:es.flatMap (rE false false)=(es.take i).flatMap (rE false false)++(es.drop i).flatMap (rE false false):=by rw[<-bH,mq]
   rw[h1,kE he,bF];simp only[aF,wS (V8 (F k))];omega
  have hT:A++((es.take i).map (Ev.mp (F k))).flatMap (rE false false)=D0++(T++((es.take i).map (Ev.mp (F k))).flatMap (rE false false)):=by rw[hA,aC]
  have Uy:b<=(A++((es.take i).map (Ev.mp (F k))).flatMap (rE false false)).length:=by rw[aF];omega
  generalize A++((es.take i).map (Ev.mp (F k))).flatMap (rE false false)=B at*;generalize (es.take i).foldl (erE (F k)) a=a' at*;generalize (es.drop (i+1)).flatMap (rE false false)=DR at*;have c1:=(uA false B.length e).1;have c2:=(uA false B.length e).2;have c3:=FD false B.length e;have c4:=FC false B.length e;have c5:(sE false B.length e)[5]? =some (yL false B.length e.hs):=rfl;have c6:(sE false B.length e)[6]? =some (Fz false (B.length+(wH false false e.hs).length) e.gs):=rfl;have zI:=oe.lens;have sh1:∀d,V.shift d (yL false B.length e.hs)=yL false B.length e.hs:=fun d=>aax ..;have sh2:∀d,V.shift d (Fz false (B.length+(wH false false e.hs).length) e.gs)=Fz false (B.length+(wH false false e.hs).length) e.gs:=fun d=>aay ..;have ln1:=aeg B.length e.hs;have ln2:=aeh (B.length+(wH false false e.hs).length) e.gs;clear hAl hA Df;simp(disch:=omega) only[↓zd,seval,push_cast,g8,yM,Y,c,u,hat,c1,c2,c3,c4,c5,sh1,ln1];refine Yv (by kernel_rfl) (T:=_) (Z:=De false false e.gs++(DR++Z)) (A:=B) (hs:=e.hs) (ver:=(ax l (.o 7)).ver+1) (evc:=sE false B.length e) (qf:=qf) (a:=a') hF hk (fun h hh=>(oe.hs h hh).pt) zI.1 ?_ ?_ ?_ ?_ ?_ (by omega) ?_ c5 ?_ ?_ Uy hT ?_ ?_ ?_
  ·simp only[↓zg,seval,g8]
  ·simp only[↓zg,seval,yM]
  ·simp only[↓zg,seval]
  ·simp only[↓zg,seval]
  ·simp only[↓zg,seval]
  ·rw[ay,aX rfl]
  ·rw[ay,aP (by simp),ay,aP (by simp)];exact KL
  ·simp only[eG];exact hb
  ·simp only[cz];rw[I,rE];simp only[aC]
  ·rw[<-Qi,rE];simp only[aC]
  intro fr2 M2 gI Yw hb2 AJ;have k8:ag fr2 8= .fn 52 [.ptr 0 (.o 2) 1 0 0,.ptr 0 (.g qf) 1 0 0]:=by rw[gI 8 (by omega)];simp only[↓zg,seval,g8]
  have W:ag fr2 11= .i k:=by rw[gI 11 (by omega)];simp only[↓zg,seval,yM]
  have U:ag fr2 15= .ptr 0 (.o 7) ((ax l (.o 7)).ver+1) 0 0:=by rw[gI 15 (by omega)];simp only[↓zg,seval]
  have Q:ag fr2 48= .i i:=by rw[gI 48 (by omega)];simp only[↓zg,seval,u]
  have m7:ax M2 (.o 7)=⟨(ax l (.o 7)).ver+1,13,[sE false B.length e],false⟩:=by
   have:ax M2 (.o 7)=ax (bu (bu l (.o 7) ⟨(ax l (.o 7)).ver+1,13,[[.i 0,.i 0,.i 0,.i 0,.i 0,.aL,.aL,.i 0,.i 0,.i 0,.aL,.i 0,.i 0]],false⟩) (.o 7) ⟨(ax l (.o 7)).ver+1,13,[sE false B.length e],false⟩) (.o 7):=eU (fun O=>eP O 7) Yw;rw[this,ay,aX rfl]
  have m2:∀r,r<7->ax M2 (.o r)=ax M (.o r):=fun r hr=>by
   have:ax M2 (.o r)=ax (bu (bu l (.o 7) ⟨(ax l (.o 7)).ver+1,13,[[.i 0,.i 0,.i 0,.i 0,.i 0,.aL,.aL,.i 0,.i 0,.i 0,.aL,.i 0,.i 0]],false⟩) (.o 7) ⟨(ax l (.o 7)).ver+1,13,[sE false B.length e],false⟩) (.o r):=eU (fun O=>eP O r) Yw;rw[this,ay,aP (by simp;omega),ay,aP (by simp;omega)];exact hO r hr
  have ND:∀j,j<15∨(18<=j∧j<=47)->ag fr2 j=ag fr j:=fun j X=>by
   rw[gI j (by omega),<-J j X];simp(disch:=omega) only[bU,bY]
  have anW:B.length+(wH false false e.hs).length=(B++wH false false (e.hs.map (Hd.mp (F k)))).length:=by rw[aF,Py]
  rw[anW]at ln2 c6 sh2;have hT2:B++wH false false (e.hs.map (Hd.mp (F k)))=D0++(T++((es.take i).map (Ev.mp (F k))).flatMap (rE false false)++wH false false (e.hs.map (Hd.mp (F k)))):=by rw[hT];simp only[aC]
  have hnx:B++rE false false (e.mp (F k))=B++wH false false (e.hs.map (Hd.mp (F k)))++De false false (e.gs.map (Gr.mp (F k))):=by unfold rE Ev.mp;simp only[aC]
  have hq3:(B++wH false false (e.hs.map (Hd.mp (F k)))++De false false e.gs++(DR++Z)).length=qf:=by
   rw[<-Qi,rE];simp only[aF,Py];omega
  have auE:b<=(B++wH false false (e.hs.map (Hd.mp (F k)))).length:=by rw[aF];omega
  rw[hnx]at next
  have her:erE (F k) a' e=erG (F k) (erH (F k) a' e.hs) e.gs:=rfl;rw[her]at next
  generalize B++wH false false (e.hs.map (Hd.mp (F k)))=C at*;generalize erH (F k) a' e.hs=a2 at*;clear gI Yw J hO g8 yM Y c u I Qi hnx her anW;simp(disch:=omega) only[↓zd,seval,push_cast,k8,W,U,Q,m7,c6,ln2,sh2];refine g27 (by kernel_rfl) (T:=_) (Z:=DR++Z) (A:=C) (hs:=e.gs) (ver:=(ax l (.o 7)).ver+1) (evc:=sE false B.length e) (qf:=qf) (a:=a2) hF hk (fun h hh=>(oe.gs h hh).pt) zI.2.1 ?_ ?_ ?_ ?_ ?_ (by omega) m7 c6 (by rw[m2 2 (by omega)];exact jc) hb2 auE hT2 ?_ hq3 ?_
  ·simp only[↓zg,seval,k8]
  ·simp only[↓zg,seval,W]
  ·simp only[↓zg,seval,U]
  ·simp only[↓zg,seval]
  ·simp only[↓zg,seval]
  ·rw[AJ];simp only[aC]
  intro SA M3 vL hO3 hb3 hD3;have j48:ag SA 48= .i i:=by rw[vL 48 (by omega)];simp only[↓zg,seval,Q]
  have anY:∀j,j<15∨(18<=j∧j<=47)->ag SA j=ag fr j:=fun j X=>by
   rw[vL j (by omega),<-ND j X];simp(disch:=omega) only[bU,bY]
  clear vL ND k8 W U Q;simp(disch:=omega) only[↓zd,seval,push_cast,j48];refine next _ _ ⟨fun j X=> ?_,?_,fun r hr=> ?_,hb3,?_⟩
  ·rw[<-anY j X]
   simp(disch:=omega) only[bU,bY]
  ·simp only[↓zg,seval]
   rfl
  ·have:ax M3 (.o r)=ax M2 (.o r):=eU (fun O=>eP O r) hO3
   rw[this];exact m2 r hr
  ·rw[hD3];simp only[aC]
 ·rintro lV l ⟨J,u,hO,hb,I⟩
  have c:=J 47 (by omega);rw[zX]at c;rw[aT,dZ,dK,bz]at I;have dn:=fun fr'(h:∀j,j<15∨(18<=j∧j<=47)->ag fr' j=ag fr j)=>done fr' l h hO hb I;clear done hF ok I hA Df;simp(disch:=omega) only[↓zd,seval,push_cast,c,u];refine dn _ fun j X=> ?_;rw[<-J j X];simp(disch:=omega) only[bU,bY]
theorem v27{cX:eu}(qG:cX=sb 27 41){HH:List Mem}{D0 A Z T:List Row}{F:Nat->PF}{vs:List Vo}{f k qf b:Nat}{len:Int}{caps:List V}{a:Int}{K:List KI}{rs:List sU}{R:Option (V×Option (List Row))}{fr:List V}{M:Mem}
  (hF:FOk HH D0 f caps F)(hk:k<=5)(ok:∀v∈vs,yD v len)(hl:vs.length<=1000)
  (h8:ag fr 8= .fn 52 [.ptr 0 (.o 2) 1 0 0,.ptr 0 (.g qf) 1 0 0])(jg:ag fr 11= .i k)(h39:ag fr 39=cu 2 (gY (sV false) (rV false false) A.length vs))(Lu:ag fr 40= .i vs.length)(BU:ag fr 41= .i 0)
  (jc:ax M (.o 2)=⟨1,1,[[.fn f caps]],false⟩)(O:M.b=b)(hbA:b<=A.length)
  (hA:A=D0++T)(u:M.D=A++vs.flatMap (rV false false)++Z++[lJ a])(Df:(A++vs.flatMap (rV false false)++Z).length=qf)
  (done:∀fr' I,(∀j,j<13∨(18<=j∧j<=40)->ag fr' j=ag fr j)->(∀r,r<6->ax I (.o r)=ax M (.o r))->I.b=b->I.D=A++(vs.map (Vo.mp (F k))).flatMap (rV false false)++Z++[lJ (vs.foldl (erV (F k)) a)]->G bn HH false rs K fr' I=R):
  G bn HH false rs (.code (.loop cX):: .blk 4::K) fr M=R:=by
 subst qG;conv in sb _ _=>reduce
 simp only[↓zo,zp,seval];refine bI (fun i fr' I=>(∀j,j<13∨(18<=j∧j<=40)->ag fr' j=ag fr j)∧ag fr' 41= .i i∧(∀r,r<6->ax I (.o r)=ax M (.o r))∧I.b=b∧I.D=A++((vs.take i).map (Vo.mp (F k))).flatMap (rV false false)++(vs.drop i).flatMap (rV false false)++Z++[lJ ((vs.take i).foldl (erV (F k)) a)]) vs.length ⟨fun j _=>rfl,BU,fun _ _=>rfl,O,by rw[u];simp⟩ ?_ ?_
 ·clear u done O
  rintro i lV M1 hi ⟨C,l,W,O,u⟩ next
  have g8:=C 8 (by omega);have Y:=C 11 (by omega);have J:=C 39 (by omega);have c:=C 40 (by omega);rw[h8]at g8;rw[jg]at Y;rw[h39]at J;rw[Lu]at c;obtain⟨v,N⟩:∃v,vs[i]? =some v:=⟨_,ak hi⟩
  have ov:=ok v (ah N);have ocn:=ov.Aw;have KL:ax M1 (.o 2)=⟨1,1,[[.fn f caps]],false⟩:=by rw[W 2 (by omega)];exact jc
  have U:=KG (sk:=sV false) (r:=rV false false) (n:=A.length) N;have X:A.length+((vs.take i).flatMap (rV false false)).length=(A++((vs.take i).map (Vo.mp (F k))).flatMap (rV false false)).length:=by rw[aF,wS (V9 (F k))]
  rw[X]at U;rw[kE N,bF]at u;rw[Pz N,FH N,<-aC A]at next
  have Qi:(A++((vs.take i).map (Vo.mp (F k))).flatMap (rV false false)++(rV false false v++(vs.drop (i+1)).flatMap (rV false false))++Z).length=qf:=by
   rw[<-Df];have h1:vs.flatMap (rV false false)=(vs.take i).flatMap (rV false false)++(vs.drop i).flatMap (rV false false):=by rw[<-bH,mq]
   rw[h1,kE N,bF];simp only[aF,wS (V9 (F k))];omega
  have hT:A++((vs.take i).map (Vo.mp (F k))).flatMap (rV false false)=D0++(T++((vs.take i).map (Vo.mp (F k))).flatMap (rV false false)):=by rw[hA,aC]
  have Uy:b<=(A++((vs.take i).map (Vo.mp (F k))).flatMap (rV false false)).length:=by rw[aF];omega
  generalize A++((vs.take i).map (Vo.mp (F k))).flatMap (rV false false)=B at*;generalize (vs.take i).foldl (erV (F k)) a=a' at*;generalize (vs.drop (i+1)).flatMap (rV false false)=DR at*;have c1:=(Hz false B.length v).1;have c2:=(Hz false B.length v).2;have c3:=aaz false B.length v;have c4:=V5 false B.length v;have c5:(sV false B.length v)[0]? =some (cu 13 (gY (sE false) (rE false false) B.length v.es)):=rfl;have ln1:AQ (cu 13 (gY (sE false) (rE false false) B.length v.es))=some (.i (v.es.length:Nat)):=by rw[dS,fE]
  clear X hA Df;simp(disch:=omega) only[↓zd,seval,push_cast,g8,Y,J,c,l,U,c1,c2,c3,c4,c5,fE];refine e27 (by kernel_rfl) (T:=_) (Z:=DR++Z) (A:=B) (es:=v.es) (qf:=qf) (a:=a') hF hk ov.ev (by omega) ?_ ?_ ?_ ?_ ?_ ?_ ?_ Uy hT ?_ ?_ ?_
  ·simp only[↓zg,seval,g8]
  ·simp only[↓zg,seval,Y]
  ·simp only[↓zg,seval]
  ·simp only[↓zg,seval]
  ·simp only[↓zg,seval]
  ·rw[ay,aP (by simp),ay,aP (by simp)];exact KL
  ·simp only[eG];exact O
  ·simp only[cz];rw[u];simp only[aC];rfl
  ·rw[<-Qi];simp only[aC];rfl
  intro fr2 M2 gI Yw hb2 AJ;have k41:ag fr2 41= .i i:=by rw[gI 41 (by omega)];simp only[↓zg,seval,l]
  have m2:∀r,r<6->ax M2 (.o r)=ax M (.o r):=fun r hr=>by
   rw[Yw r (by omega),ay,aP (by simp;omega),ay,aP (by simp;omega)];exact W r hr
  have ND:∀j,j<13∨(18<=j∧j<=40)->ag fr2 j=ag fr j:=fun j Q=>by
   rw[gI j (by omega),<-C j Q];simp(disch:=omega) only[bU,bY]
  clear gI Yw C W g8 Y J c l u Qi;simp(disch:=omega) only[↓zd,seval,push_cast,k41];refine next _ _ ⟨fun j Q=> ?_,?_,m2,hb2,?_⟩
  ·rw[<-ND j Q]
   simp(disch:=omega) only[bU,bY]
  ·simp only[↓zg,seval]
   rfl
  ·rw[AJ];simp only[aC];rfl
 ·rintro lV M1 ⟨C,l,W,O,u⟩
  have c:=C 40 (by omega);rw[Lu]at c;rw[aT,dZ,dK,bz]at u;have dn:=fun fr'(h:∀j,j<13∨(18<=j∧j<=40)->ag fr' j=ag fr j)=>done fr' M1 h W O u;clear done hF ok u hA Df;simp(disch:=omega) only[↓zd,seval,push_cast,c,l];refine dn _ fun j Q=> ?_;rw[<-C j Q];simp(disch:=omega) only[bU,bY]
theorem XV{F:Nat->PF}{l:List Ce}{i:Nat}{c:Ce}(h:l[i]? =some c):nN F 0 (l.take (i+1))=nN F 0 (l.take i)++[c.mp (F i)]:=by
 have g:=(au.1 h).1;rw[aY,h,eQ,aaG,bf];have:0+min i l.length=i:=by omega
 rw[this];rfl
theorem XW{F:Nat->PF}{l:List Ce}{i:Nat}{c:Ce}{a:Int}(h:l[i]? =some c):Cg F 0 a (l.take (i+1))=erC (F i) (Cg F 0 a (l.take i)) c:=by
 have g:=(au.1 h).1;rw[aY,h,eQ,aaH,bf];have:0+min i l.length=i:=by omega
 rw[this];rfl
theorem l27{cX:eu}(qG:cX=sb 27 27){HH:List Mem}{D0 A Z T:List Row}{F:Nat->PF}{m:Me}{f qf ver b:Nat}{caps:List V}{a:Int}{K:List KI}{rs:List sU}{R:Option (V×Option (List Row))}{fr:List V}{M:Mem}
  (hF:FOk HH D0 f caps F)(ok:vI m)
  (h8:ag fr 8= .fn 52 [.ptr 0 (.o 2) 1 0 0,.ptr 0 (.g qf) 1 0 0])(iQ:ag fr 10= .ptr 0 (.o 5) ver 0 0)(Kl:ag fr 30= .i m.cs.length)(Dw:ag fr 31= .i 0)
  (hv:0<ver)(IX:ax M (.o 5)=⟨ver,22,[sM false A.length m],false⟩)(jc:ax M (.o 2)=⟨1,1,[[.fn f caps]],false⟩)(N:M.b=b)(hbA:b<=A.length)
  (hA:A=D0++T)(u:M.D=A++rM false false m++Z++[lJ a])(Df:(A++rM false false m++Z).length=qf)
  (done:∀fr' I,(∀j,j<11∨(18<=j∧j<=30)->ag fr' j=ag fr j)->(∀r,r<6->ax I (.o r)=ax M (.o r))->I.b=b->I.D=A++rM false false (m.mp F)++Z++[lJ (erM F a m)]->G bn HH false rs K fr' I=R):
  G bn HH false rs (.code (.loop cX):: .blk 2::K) fr M=R:=by
 subst qG;conv in sb _ _=>reduce
 simp only[↓zo,zp,seval];have hcn:=ok.cn;refine bI (fun i fr' I=>(∀j,j<11∨(18<=j∧j<=30)->ag fr' j=ag fr j)∧ag fr' 31= .i i∧(∀r,r<6->ax I (.o r)=ax M (.o r))∧I.b=b∧I.D=A++(nN F 0 (m.cs.take i)).flatMap (rC false false)++(m.cs.drop i).flatMap (rC false false)++Z++[lJ (Cg F 0 a (m.cs.take i))]) m.cs.length ⟨fun j _=>rfl,Dw,fun _ _=>rfl,N,by rw[u];simp[nN,Cg,rM]⟩ ?_ ?_
 ·clear u done N
  rintro i lV M1 hi ⟨C,l,O,N,u⟩ next
  have Y:=C 8 (by omega);have uo:=C 10 (by omega);have Q:=C 30 (by omega);rw[h8]at Y;rw[iQ]at uo;rw[Kl]at Q;obtain⟨c,J⟩:∃c,m.cs[i]? =some c:=⟨_,ak hi⟩
  have oc:=ok.vo c (ah J);have on:=ok.vn c (ah J);have KL:ax M1 (.o 2)=⟨1,1,[[.fn f caps]],false⟩:=by rw[O 2 (by omega)];exact jc
  have auG:ax M1 (.o 5)=⟨ver,22,[sM false A.length m],false⟩:=by rw[O 5 (by omega)];exact IX
  have W:=KG (sk:=sC false) (r:=rC false false) (n:=A.length) J;have X:A.length+((m.cs.take i).flatMap (rC false false)).length=(A++(nN F 0 (m.cs.take i)).flatMap (rC false false)).length:=by rw[aF,Gz]
  rw[X]at W;rw[kE J,bF]at u;rw[XV J,XW J,bH,<-aC A]at next
  have Qi:(A++(nN F 0 (m.cs.take i)).flatMap (rC false false)++(rC false false c++(m.cs.drop (i+1)).flatMap (rC false false))++Z).length=qf:=by
   rw[<-Df,rM];have h1:m.cs.flatMap (rC false false)=(m.cs.take i).flatMap (rC false false)++(m.cs.drop i).flatMap (rC false false):=by rw[<-bH,mq]
   rw[h1,kE J,bF];simp only[aF,Gz];omega
  have hT:A++(nN F 0 (m.cs.take i)).flatMap (rC false false)=D0++(T++(nN F 0 (m.cs.take i)).flatMap (rC false false)):=by rw[hA,aC]
  have Uy:b<=(A++(nN F 0 (m.cs.take i)).flatMap (rC false false)).length:=by rw[aF];omega
  have c0:(sM false A.length m)[21]? =some (cu 2 (gY (sC false) (rC false false) A.length m.cs)):=rfl;have c1:=(zq false A.length m).1;generalize A++(nN F 0 (m.cs.take i)).flatMap (rC false false)=B at*;generalize Cg F 0 a (m.cs.take i)=a' at*;generalize (m.cs.drop (i+1)).flatMap (rC false false)=DR at*;have c2:=(RL false B.length c).1;have c5:(sC false B.length c)[1]? =some (cu 2 (gY (sV false) (rV false false) B.length c.vs)):=rfl;clear X hA Df;simp(disch:=omega) only[↓zd,seval,push_cast,Y,uo,Q,l,hv,auG,W,c0,c1,c2,c5,fE];refine v27 (by kernel_rfl) (T:=_) (Z:=DR++Z) (A:=B) (vs:=c.vs) (qf:=qf) (a:=a') (k:=i) hF (by omega) oc (by omega) ?_ ?_ ?_ ?_ ?_ KL N Uy hT ?_ ?_ ?_
  ·simp only[↓zg,seval,Y]
  ·simp only[↓zg,seval]
  ·simp only[↓zg,seval]
  ·simp only[↓zg,seval]
  ·simp only[↓zg,seval]
  ·rw[u];simp only[aC];rfl
  ·rw[<-Qi];simp only[aC];rfl
  intro fr2 M2 gI Yw hb2 AJ;have k31:ag fr2 31= .i i:=by rw[gI 31 (by omega)];simp only[↓zg,seval,l]
  have m2:∀r,r<6->ax M2 (.o r)=ax M (.o r):=fun r hr=>by rw[Yw r hr];exact O r hr
  have ND:∀j,j<11∨(18<=j∧j<=30)->ag fr2 j=ag fr j:=fun j U=>by
   rw[gI j (by omega),<-C j U];simp(disch:=omega) only[bU,bY]
  clear gI Yw C O Y uo Q l u Qi;simp(disch:=omega) only[↓zd,seval,push_cast,k31];refine next _ _ ⟨fun j U=> ?_,?_,m2,hb2,?_⟩
  ·rw[<-ND j U]
   simp(disch:=omega) only[bU,bY]
  ·simp only[↓zg,seval]
   rfl
  ·rw[AJ];simp only[aC,bF,dK,bz];rfl
 ·rintro lV M1 ⟨C,l,O,N,u⟩
  have Q:=C 30 (by omega);rw[Kl]at Q;rw[aT,dZ,dK,bz]at u;have dn:=fun fr'(h:∀j,j<11∨(18<=j∧j<=30)->ag fr' j=ag fr j)=>done fr' M1 h O N u;clear done hF ok u hA Df;simp(disch:=omega) only[↓zd,seval,push_cast,Q,l];refine dn _ fun j U=> ?_;rw[<-C j U];simp(disch:=omega) only[bU,bY]
def KM:List V:=[.str ⟨#[]⟩,.bool false,.aL,.aL,.aL,.aL]
def IY(F:Nat->PF)(s:Sc):Int:=s.ms.foldl (erM F) 0
def rpD(F:Nat->PF)(s:Sc)(n:Nat):List Row:=sI s::zw (n+2) s::(s.ms.map (Me.mp F)).flatMap (rM false false)++[lJ (IY F s)]
def rpR(F:Nat->PF)(s:Sc)(n:Nat):V:=if IY F s=0 then .eT [.agg (FV s n),.i 0]else .eT [.agg KM,.i (IY F s)]
theorem yF(s:Sc)(n:Nat):(FV s n).length=6∧∀d,V.bW d (FV s n)=FV s n:=⟨rfl,fun d=>by simp only[FV,V.bW,V.shift,nZ]⟩
theorem KN(s:Sc)(n:Nat):(FV s n).take 6=FV s n:=rfl
theorem KO(s:Sc)(n:Nat):(FV s n).all V.scalar=true:=by simp only[FV,aZ,cB,gq,mO,bR]
theorem ai3(s:Sc)(n:Nat):(FV s n).all V.gL=true:=by simp only[FV,aZ,cB,uU,BQ,ZN,bR]
theorem c27{L:Mem}{s:Sc}{f:Nat}{caps:List V}{F:Nat->PF}(ok:kN s)(hb:L.b<=L.D.length)(hF:FOk (L::H) L.D f caps F)(an0:V.scalar (.fn f caps)=true):call bn 27 [.agg s.v,.fn f caps] (L::H)=some (rpR F s L.D.length,some (L.D++rpD F s L.D.length)):=by
 have xK:=ok.ml;have s1:=s.sz.1;have s2:=s.sz.2;have s4:=s.tk;have s5:=s.sc;have c:(Ht.start false (L::H)).D=L.D:=rfl;have hB:(Ht.start false (L::H)).b=L.b:=rfl;have hO:∀i,ax (Ht.start false (L::H)) (.o i)=⟨0,0,[],false⟩:=fun i=>jB;have cl:=fun M(h:M.D=L.D)(h':M.b=L.b)=>c26 (H:=L::H) (L:=M) ok (by rw[h,h'];exact hb);have q1:=(yF s L.D.length).1;have q2:=(yF s L.D.length).2;have q3:=KN s L.D.length;have q4:=KO s L.D.length;have q5:=ai3 s L.D.length;have q6:(FV s L.D.length)[3]? =some (.ref 0 (.g (L.D.length+1)) (1+s.ms.length) 22 0 s.ms.length):=rfl;have bg:∀q n,(((0:Nat),Ix.g q)=((0:Nat),Ix.o n))=False:=by intros;simp
 refine(av (by conv=>lhs;reduce)).trans ?_;simp only[↓zo,zp,seval];generalize Ht.start false (L::H)=L0 at*;have l:=cl (bu (bu (bu L0 (.o 1) ⟨1,6,[s.v],false⟩) (.o 2) ⟨1,1,[[.fn f caps]],false⟩) (.o 3) ⟨1,6,[KM],false⟩) c hB;simp only[cz,c]at l;obtain⟨qf,J⟩:∃qf,(L.D++Ux s L.D.length).length=qf:=⟨_,rfl⟩
 have hn:∀O b,ax (⟨L.D++Ux s L.D.length,O,b⟩:Mem) (.g qf)=⟨0,0,[],false⟩:=fun O b=>by rw[<-J];exact jH (L:=⟨L.D++Ux s L.D.length,O,b⟩)
 unfold KM at l;have hqb:L.b<=qf:=by rw[<-J,aF];omega
 have I:∀r r',dE (dE (L.D++Ux s L.D.length) qf r) qf r'=L.D++Ux s L.D.length++[r']:=fun r r'=>by rw[<-J,kI,show L.D++Ux s L.D.length++[r]=(L.D++Ux s L.D.length)++r::[]from rfl,pq]
 have j:L.D++Ux s L.D.length=(L.D++[sI s,zw (L.D.length+2) s])++s.ms.flatMap (rM false false):=by unfold Ux;simp
 have auI:V.shift 0 (.fn f caps)=V.shift 0 (.fn f caps):=rfl;simp(disch:=omega) only[↓zd,seval,push_cast,s1,s2,s4,s5,hO,c,an0,l,q1,q2,q3,q4,q6,fq,J,hn,hB];refine bI (fun i fr M=>ag fr 8= .fn 52 [.ptr 0 (.o 2) 1 0 0,.ptr 0 (.g qf) 1 0 0]∧ag fr 7= .ptr 0 (.g qf) 1 0 0∧ag fr 6= .ptr 0 (.o 4) 1 0 0∧ag fr 4= .ptr 0 (.o 3) 1 0 0∧ag fr 22= .ref 0 (.g (L.D.length+1)) (1+s.ms.length) 22 0 s.ms.length∧ag fr 23= .i s.ms.length∧ag fr 24= .i i∧ax M (.o 2)=⟨1,1,[[.fn f caps]],false⟩∧ax M (.o 3)=⟨1,6,[KM],false⟩∧ax M (.o 4)=⟨1,6,[FV s L.D.length],false⟩∧M.b=L.b∧M.D=L.D++[sI s,zw (L.D.length+2) s]++((s.ms.take i).map (Me.mp F)).flatMap (rM false false)++(s.ms.drop i).flatMap (rM false false)++[lJ ((s.ms.take i).foldl (erM F) 0)]) s.ms.length ?_ ?_ ?_
 ·refine⟨?_,?_,?_,?_,?_,?_,?_,?_,?_,?_,?_,?_⟩
  (all_goals try simp only[↓zg,seval]);all_goals try first|rfl|trivial|(simp only[zr,seval];done)
  all_goals (first|(simp only[ay,dM,reduceCtorEq,Ix.o.injEq,Nat.reduceEqDiff,bZ,bK];rfl)|skip)
  rw[fF,fF,cz,cz];show dE (dE (L.D++Ux s L.D.length) qf _) qf _=_;rw[I,j];simp;rfl
 ·clear l hn hO c hB
  rintro i lV C hi ⟨h8,h7,h6,h4,l6,K,N,jc,W,nk,o7,c⟩ next
  obtain⟨m,Q⟩:∃m,s.ms[i]? =some m:=⟨_,ak hi⟩
  have om:=ok.me m (ah Q);have hMr:ax C (.g (L.D.length+1))=⟨1+s.ms.length,22,gY (sM false) (rM false false) (L.D.length+2) s.ms,false⟩:=by
   show eP C.D _=_;have e:(L.D++[sI s]).length=L.D.length+1:=by simp
   rw[c,<-e];simp only[aC,aW,dm];rw[show L.D++sI s::zw (L.D.length+2) s::(((s.ms.take i).map (Me.mp F)).flatMap (rM false false)++((s.ms.drop i).flatMap (rM false false)++[lJ ((s.ms.take i).foldl (erM F) 0)]))=(L.D++[sI s])++zw (L.D.length+2) s::(((s.ms.take i).map (Me.mp F)).flatMap (rM false false)++((s.ms.drop i).flatMap (rM false false)++[lJ ((s.ms.take i).foldl (erM F) 0)]))from by simp,qF];rfl
  have Y:=KG (sk:=sM false) (r:=rM false false) (n:=L.D.length+2) Q;have hAl:L.D.length+2+((s.ms.take i).flatMap (rM false false)).length=(L.D++[sI s,zw (L.D.length+2) s]++((s.ms.take i).map (Me.mp F)).flatMap (rM false false)).length:=by
   simp only[aF,wS (NC F),aS,ek]
  rw[hAl]at Y;rw[kE Q,bF]at c;rw[Pz Q,FH Q,<-aC (L.D++[sI s,zw (L.D.length+2) s])]at next
  have Qi:(L.D++[sI s,zw (L.D.length+2) s]++((s.ms.take i).map (Me.mp F)).flatMap (rM false false)++rM false false m++(s.ms.drop (i+1)).flatMap (rM false false)).length=qf:=by
   rw[<-J,j];have h1:s.ms.flatMap (rM false false)=(s.ms.take i).flatMap (rM false false)++(s.ms.drop i).flatMap (rM false false):=by rw[<-bH,mq]
   rw[h1,kE Q,bF];simp only[aF,wS (NC F)];omega
  have hT:L.D++[sI s,zw (L.D.length+2) s]++((s.ms.take i).map (Me.mp F)).flatMap (rM false false)=L.D++([sI s,zw (L.D.length+2) s]++((s.ms.take i).map (Me.mp F)).flatMap (rM false false)):=by rw[aC]
  have Uy:L.b<=(L.D++[sI s,zw (L.D.length+2) s]++((s.ms.take i).map (Me.mp F)).flatMap (rM false false)).length:=by simp only[aF];omega
  generalize L.D++[sI s,zw (L.D.length+2) s]++((s.ms.take i).map (Me.mp F)).flatMap (rM false false)=B at*;generalize (s.ms.take i).foldl (erM F) 0=a' at*;generalize (s.ms.drop (i+1)).flatMap (rM false false)=DR at*;have c1:=(zq false B.length m).1;have c2:=(zq false B.length m).2;have c3:=aaC false B.length m;have c4:=aaB false B.length m;have c5:(sM false B.length m)[21]? =some (cu 2 (gY (sC false) (rC false false) B.length m.cs)):=rfl;clear hAl J I j;simp(disch:=omega) only[↓zd,seval,push_cast,h8,l6,K,N,hMr,Y,c1,c2,c3,c4,c5,dS,fE];refine l27 (by kernel_rfl) (T:=_) (Z:=DR) (A:=B) (m:=m) (qf:=qf) (a:=a') (ver:=(ax C (.o 5)).ver+1) hF om ?_ ?_ ?_ ?_ (by omega) ?_ ?_ ?_ Uy hT ?_ Qi ?_
  ·simp only[↓zg,seval,h8]
  ·simp only[↓zg,seval]
  ·simp only[↓zg,seval]
  ·simp only[↓zg,seval]
  ·rw[ay,aX rfl]
  ·rw[ay,aP (by simp),ay,aP (by simp)];exact jc
  ·simp only[eG];exact o7
  ·simp only[cz];rw[c];simp only[aC]
  intro fr2 M2 u Yw hb2 AJ;have k8:ag fr2 8= .fn 52 [.ptr 0 (.o 2) 1 0 0,.ptr 0 (.g qf) 1 0 0]:=by rw[u 8 (by omega)];simp only[↓zg,seval,h8]
  have k7:ag fr2 7= .ptr 0 (.g qf) 1 0 0:=by rw[u 7 (by omega)];simp only[↓zg,seval,h7]
  have k6:ag fr2 6= .ptr 0 (.o 4) 1 0 0:=by rw[u 6 (by omega)];simp only[↓zg,seval,h6]
  have k4:ag fr2 4= .ptr 0 (.o 3) 1 0 0:=by rw[u 4 (by omega)];simp only[↓zg,seval,h4]
  have U:ag fr2 22= .ref 0 (.g (L.D.length+1)) (1+s.ms.length) 22 0 s.ms.length:=by rw[u 22 (by omega)];simp only[↓zg,seval,l6]
  have R:ag fr2 23= .i s.ms.length:=by rw[u 23 (by omega)];simp only[↓zg,seval,K]
  have k24:ag fr2 24= .i i:=by rw[u 24 (by omega)];simp only[↓zg,seval,N]
  have m2:∀r,r<5->ax M2 (.o r)=ax C (.o r):=fun r hr=>by
   rw[Yw r (by omega),ay,aP (by simp;omega),ay,aP (by simp;omega)]
  clear u Yw h8 h7 h6 h4 l6 K N c Qi;simp(disch:=omega) only[↓zd,seval,push_cast,k24];refine next _ _ ⟨?_,?_,?_,?_,?_,?_,?_,by rw[m2 2 (by omega)];exact jc,by rw[m2 3 (by omega)];exact W,by rw[m2 4 (by omega)];exact nk,hb2,?_⟩
  (all_goals try simp only[↓zg,seval,k8,k7,k6,k4,U,R]);all_goals try first|rfl|trivial|(simp only[zr,seval,k8,k7,k6,k4,U,R];done)
  all_goals (first|done|(rw[AJ];simp only[aC];done)|exact AJ|skip)
 ·clear l hn hO c hB
  rintro lV C ⟨h8,h7,h6,h4,l6,K,N,jc,W,nk,o7,c⟩;rw[aT,dZ,dK,bz]at c;have hD':C.D=L.D++rpD F s L.D.length:=by rw[c,rpD];simp only[aC,aW,dm];rfl
  have Qj:(L.D++[sI s,zw (L.D.length+2) s]++(s.ms.map (Me.mp F)).flatMap (rM false false)).length=qf:=by
   rw[<-J,j];simp only[aF,wS (NC F)]
  have X:ax C (.g qf)=⟨1,1,[[.i (IY F s)]],false⟩:=by
   show eP C.D _=_;rw[c,<-Qj];exact qF
  unfold rpR;unfold KM at W⊢;generalize L.D++rpD F s L.D.length=DD at*;generalize IY F s=er at*;clear ok hF I j c;by_cases h0:er=0
  ·subst h0
   rw[aX rfl];simp(disch:=omega) only[↓zd,seval,push_cast,h7,h6,h4,K,N,W,nk,X,q1,q2,q3,q4,q5,hD']
  ·rw[aP h0]
   simp(disch:=omega) only[↓zd,seval,push_cast,h7,h6,h4,K,N,W,nk,X,h0,bg,hD']
def lK(s:Sc)(vp vm n:Nat):List V:=[.str iB,.bool s.wr,.ref 0 (.g n) vp 6 0 s.ps.length,.ref 0 (.g (n+1)) vm 22 0 s.ms.length,cu 7 (s.sp.map Sp.v),cu 2 (s.la.map Av)]
def El(s:Sc)(vp vm n:Nat):List Row:=⟨vp,6,s.ps.map Pa.v,false⟩::⟨vm,22,gY (sM false) (rM false false) (n+2) s.ms,false⟩::s.ms.flatMap (rM false false)
def RP(s:Sc)(vp vm:Nat):List Row:=⟨vp,6,s.ps.map Pa.v,true⟩::⟨vm,22,s.ms.map Me.v,true⟩::s.ms.flatMap (rM false true)
theorem uN{A Z:List Row}{r c:Row}{n:Nat}(h:A.length=n):dE (A++r::Z) n c=A++c::Z:=by subst h;exact pq
theorem jC{A Z:List Row}{r:Row}{n:Nat}(h:A.length=n):eP (A++r::Z) n=r:=by subst h;exact qF
theorem CK{s:Sc}{vp vm n:Nat}{L:Mem}{D0 Z:List Row}(u:s.ps≠[])(Vf:s.ms≠[])(l:0<vp)(Cc:0<vm)(hn:D0.length=n)(F:L.b<=n)(I:L.D=D0++El s vp vm n++Z):qd L [.agg (lK s vp vm n)]=some ([.agg s.v],⟨D0++RP s vp vm++Z,L.O,L.b⟩):=by
 have U:=dh Pa.pu s.ps;have T:=dh Sp.pu s.sp;have R:=dh Av.pu s.la;have Q:=dh Me.pu s.ms;have N:ax L (.g n)=⟨vp,6,s.ps.map Pa.v,false⟩:=by
  show eP L.D n=_;rw[I,El,aC];exact jC hn
 have X:jJ 8 L (.ref 0 (.g n) vp 6 0 s.ps.length)=some (cu 6 (s.ps.map Pa.v),⟨D0++[⟨vp,6,s.ps.map Pa.v,true⟩]++(⟨vm,22,gY (sM false) (rM false false) (n+2) s.ms,false⟩::s.ms.flatMap (rM false false)++Z),L.O,L.b⟩):=by
  rw[mZ,N];rw[aX ⟨rfl,l,by simp,by simp[Mem.ok,N,F],U⟩];simp only[dH,bq,bZ];rw[aO (by simp),jO (by simpa using u)];congr 2;show(⟨dE L.D n _,L.O,L.b⟩:Mem)=_;rw[I,El,aC,aW,uN hn];simp only[aC,aW,dm]
 have W:∀j:Mem,j.D=D0++[⟨vp,6,s.ps.map Pa.v,true⟩]++(⟨vm,22,gY (sM false) (rM false false) (n+2) s.ms,false⟩::s.ms.flatMap (rM false false)++Z)->j.b<=n->jJ 8 j (.ref 0 (.g (n+1)) vm 22 0 s.ms.length)=some (cu 22 (s.ms.map Me.v),⟨D0++RP s vp vm++Z,j.O,j.b⟩):=by
  intro j C o7;have c:(D0++[(⟨vp,6,s.ps.map Pa.v,true⟩:Row)]).length=n+1:=by simp[hn]
  have r:ax j (.g (n+1))=⟨vm,22,gY (sM false) (rM false false) (n+2) s.ms,false⟩:=by
   show eP j.D _=_;rw[C];exact jC c
  have B:(D0++[(⟨vp,6,s.ps.map Pa.v,true⟩:Row)]++[(⟨vm,22,gY (sM false) (rM false false) (n+2) s.ms,false⟩:Row)]).length=n+2:=by simp[hn]
  have K:=zn (V4 false false) (Pp false false true) (Pp false false false) s.ms j (D0++[(⟨vp,6,s.ps.map Pa.v,true⟩:Row)]++[(⟨vm,22,gY (sM false) (rM false false) (n+2) s.ms,false⟩:Row)]) Z (by rw[C];simp only[aC,aW,dm]) (by rw[B];omega);rw[B]at K;have J:=aaw (m:=7) (q:=n+1) (sz:=22) (ver:=vm) (b:=false) (els':=s.ms.map Me.v) r (by
   show eP (D0++[(⟨vp,6,s.ps.map Pa.v,true⟩:Row)]++[⟨vm,22,gY (sM false) (rM false false) (n+2) s.ms,false⟩]++s.ms.flatMap (rM false true)++Z) (n+1)=_;rw[aC,aC (D0++_)];exact jC c) Cc (by omega) (by dsimp only;omega) K (by rw[List.length_map,fE]) Q
  rw[fE]at J;rw[J,jO (by simpa using Vf)];congr 2;show(⟨dE (D0++[(⟨vp,6,s.ps.map Pa.v,true⟩:Row)]++[⟨vm,22,gY (sM false) (rM false false) (n+2) s.ms,false⟩]++s.ms.flatMap (rM false true)++Z) (n+1) _,j.O,j.b⟩:Mem)=_;rw[aC,aC (D0++_),aW,uN c];simp only[RP,aC,aW,dm]
 have A:=W ⟨D0++[⟨vp,6,s.ps.map Pa.v,true⟩]++(⟨vm,22,gY (sM false) (rM false false) (n+2) s.ms,false⟩::s.ms.flatMap (rM false false)++Z),L.O,L.b⟩ rfl F;have Y:∀M,jJ 8 M (cu 7 (s.sp.map Sp.v))=some (cu 7 (s.sp.map Sp.v),M):=fun M=>by rw[sH,aX T]
 have f2:∀M,jJ 8 M (cu 2 (s.la.map Av))=some (cu 2 (s.la.map Av),M):=fun M=>by rw[sH,aX R]
 simp only[qd,sG,lK,zJ,xf,uY,rU,X,A,Y,f2,bG,aU];rfl
theorem XX{s:Sc}{vp vm n:Nat}{L:Mem}(j:s.ps≠[])(K:s.ms≠[])(c:0<vp)(Cc:0<vm)(C:ax L (.g n)=⟨vp,6,s.ps.map Pa.v,true⟩)(B:ax L (.g (n+1))=⟨vm,22,s.ms.map Me.v,true⟩):wJ L (.agg (lK s vp vm n))=some (.agg s.v,L):=by
 have A:=dh Pa.pu s.ps;have u:=dh Sp.pu s.sp;have r:=dh Av.pu s.la;have l:=dh Me.pu s.ms;have g1:jJ 8 L (.ref 0 (.g n) vp 6 0 s.ps.length)=some (cu 6 (s.ps.map Pa.v),L):=by
  rw[mZ,C];rw[aX ⟨rfl,c,by simp,by simp,A⟩];simp only[dH,bK];rw[aO (by simp),jO (by simpa using j)]
 have F:jJ 8 L (.ref 0 (.g (n+1)) vm 22 0 s.ms.length)=some (cu 22 (s.ms.map Me.v),L):=by
  rw[mZ,B];rw[aX ⟨rfl,Cc,by simp,by simp,l⟩];simp only[dH,bK];rw[aO (by simp),jO (by simpa using K)]
 have I:∀M,jJ 8 M (cu 7 (s.sp.map Sp.v))=some (cu 7 (s.sp.map Sp.v),M):=fun M=>by rw[sH,aX u]
 have J:∀M,jJ 8 M (cu 2 (s.la.map Av))=some (cu 2 (s.la.map Av),M):=fun M=>by rw[sH,aX r]
 simp only[wJ,sG,lK,zJ,xf,uY,rU,g1,F,I,J,bG,aU];rfl
theorem ai4(f:PF)(n:Nat)(hs:List Hd):yL false n (hs.map (Hd.mp f))=yL false n hs:=by unfold yL;cases hs<;>simp
theorem ai5(f:PF)(n:Nat)(hs:List Gr):Fz false n (hs.map (Gr.mp f))=Fz false n hs:=by unfold Fz;cases hs<;>simp
theorem an3(f:PF)(n:Nat)(e:Ev):sE false n (e.mp f)=sE false n e:=by
 unfold sE Ev.mp;dsimp only;rw[ai4,Py,ai5];rfl
theorem KP{α:Type}{sk:Nat->α->List V}{r:α->List Row}{g:α->α}(u:∀n x,sk n (g x)=sk n x)(j:∀x,(r (g x)).length=(r x).length):∀(l:List α)(n:Nat),gY sk r n (l.map g)=gY sk r n l:=by
 intro l;induction l with
 |nil=>intro n;rfl
 |cons x l c=>intro n;simp only[bO,gY,u,j,c]
theorem an4(f:PF)(n:Nat)(v:Vo):sV false n (v.mp f)=sV false n v:=by unfold sV Vo.mp;dsimp only;rw[KP (an3 f) (V8 f)]
theorem an5(f:PF)(n:Nat)(v:Ce):sC false n (v.mp f)=sC false n v:=by unfold sC Ce.mp;dsimp only;rw[KP (an4 f) (V9 f)]
theorem aaO(F:Nat->PF):∀(l:List Ce)(k n:Nat),gY (sC false) (rC false false) n (nN F k l)=gY (sC false) (rC false false) n l:=by
 intro l;induction l with
 |nil=>intro k n;rfl
 |cons c l g=>intro k n;simp only[nN,gY,an5,af4,g]
theorem aaP(F:Nat->PF)(n:Nat)(m:Me):sM false n (m.mp F)=sM false n m:=by unfold sM Me.mp;dsimp only;rw[aaO];rfl
def sJ(i:Int×Int):PF:=fun p=>if 0<=p.n+i.2∧p.n+i.2<=127 then(trP (p.at_+i.1) (p.n+i.2),0)else(⟨0,0,0⟩,18)
theorem an6{p:P3}{i:Int×Int}(hp:p.e=0)(c:wP i.1 i.2=0):call bn 32 [.agg p.v,.agg (Iw i)] H=some (.eT [.agg (sJ i p).1.v,.i (sJ i p).2],none):=by
 refine(c32 hp c).trans ?_;unfold sJ;by_cases h:0<=p.n+i.2∧p.n+i.2<=127
 ·rw[aX h,aX h]
 ·rw[aP h,aP h];rfl
theorem c31{M N l:Mem}{k:Nat}{p:P3}{i:Int×Int}(K:ax l (.o 5)=⟨1,2,[Iw i],false⟩)(hp:p.e=0)(J:wP i.1 i.2=0):call bn 31 [.i k,.agg p.v,.ptr 3 (.o 5) 1 0 0] (M::N::l::H)=some (.eT [.agg (sJ i p).1.v,.i (sJ i p).2],none):=by
 have c:=fun H=>an6 (H:=H) hp J;have j:=p.sz;have B:=p.tk;have A:=p.sc;have g:=(sJ i p).1.sz;have u:=(sJ i p).1.tk;have r3:=(sJ i p).1.sc;have r:=(sJ i p).1.pu;have I:(Iw i).length=2:=rfl;have F:(Iw i).take 2=Iw i:=rfl;have C:∀d,V.bW d (Iw i)=Iw i:=fun _=>rfl;have O:List.drop 3 [V.i 0,V.i 0,V.i 0]=[]:=rfl;generalize (sJ i p).1.v=Q at*;refine(av (by conv=>lhs;reduce)).trans ?_;simp only[↓zo,zp,seval];simp(disch:=omega) only[↓zd,seval,push_cast,K,c,j.1,j.2,B,A,g.1,g.2,u,r3,r,I,F,C]
def Me.tr(F:Nat->PF)(i:Int×Int)(m:Me):Me:={m with fi:=m.fi+7*i.2-12*i.1,cs:=nN F 0 m.cs}
def Me.fx(i:Int×Int)(m:Me):Me:={m with fi:=m.fi+7*i.2-12*i.1}
def Sc.tr(F:Nat->PF)(i:Int×Int)(s:Sc):Sc:={s with ms:=s.ms.map (Me.tr F i)}
theorem aej{α:Type}{sk:Nat->α->List V}{r:α->List Row}:∀(l1:List α)(x y:α)(l2:List α)(n:Nat),(r y).length=(r x).length->(gY sk r n (l1++x::l2)).set l1.length (sk (n+(l1.flatMap r).length) y)=gY sk r n (l1++y::l2):=by
 intro l1;induction l1 with
 |nil=>intro x y l2 n h;simp only[dm,gY,h];rfl
 |cons a l1 c=>
  intro x y l2 n h;simp only[aW,gY,aS,uu,bF,aF];rw[<-c x y l2 _ h,jd]
theorem an7{s:Sc}{a n:Int}(l:∀H,call bn 19 [.agg s.v] H=some (.bool true,none))(r:wP a n≠0):call bn 9 [.agg s.v,.agg [.i a,.i n]] H=some (.eT [.agg KM,.agg [.i 0,.i 0],.i 2],none):=by
 have c:=fun H=>c10 (H:=H) a n;have s1:=s.sz.1;have s2:=s.sz.2;have j:=s.tk;have g:=s.sc;generalize wP a n=e at*;unfold KM;refine(av (by conv=>lhs;reduce)).trans ?_;simp only[↓zo,zp,seval];simp(disch:=omega) only[↓zd,seval,push_cast,s1,s2,j,g,l,c,r]
theorem an8{s:Sc}{a n:Int}(r:∀H,call bn 19 [.agg s.v] H=some (.bool true,none))(hm:s.ms.length<=1000)(hf:∀m∈s.ms,-7<=m.fi∧m.fi<=7)(g:wP a n=0)(hn:Iz s.ms a n=none):call bn 9 [.agg s.v,.agg [.i a,.i n]] H=some (.eT [.agg KM,.agg [.i 0,.i 0],.i 18],none):=by
 have c:=fun H=>c10 (H:=H) a n;rw[g]at c;have d:=fun H=>c30 (H:=H) hm hf g;rw[hn]at d;have s1:=s.sz.1;have s2:=s.sz.2;have l:=s.tk;have j:=s.sc;unfold KD at d;unfold KM;clear hf;refine(av (by conv=>lhs;reduce)).trans ?_;simp only[↓zo,zp,seval];simp(disch:=omega) only[↓zd,seval,push_cast,s1,s2,l,j,r,c,d]
theorem ai6{c:Mem}{l:List Mem}{D0:List Row}{i:Int×Int}(j:ax c (.o 5)=⟨1,2,[Iw i],false⟩)(g:wP i.1 i.2=0):FOk (c::l) D0 31 [.ptr 1 (.o 5) 1 0 0] (fun _=>sJ i):=fun M r Z k p _ _ hp=>c31 j hp g
theorem aaQ{s:Sc}{a n:Int}{j:Int×Int}{b:Bool}(ok:kN s)(hv:∀H,call bn 19 [.agg s.v] H=some (.bool true,none))(hi:wP a n=0)(hn:Iz s.ms a n=some j)(hij:wP j.1 j.2=0)(he:IY (fun _=>sJ j) s=0∨IY (fun _=>sJ j) s=18)(I:IY (fun _=>sJ j) s=0->∀H,call bn 19 [.agg (s.tr (fun _=>sJ j) j).v] H=some (.bool b,none)):
  call bn 9 [.agg s.v,.agg [.i a,.i n]] H=some (if IY (fun _=>sJ j) s=0∧b=true then .eT [.agg (s.tr (fun _=>sJ j) j).v,.agg (Iw j),.i 0]else .eT [.agg KM,.agg [.i 0,.i 0],.i 18],none):=by
 have xK:=ok.ml;have hpl:=ok.ps.len;have c:=fun H=>c10 (H:=H) a n;rw[hi]at c;have d:=fun H=>c30 (H:=H) (s:=s) (by omega) (fun m hm=>(ok.mf m hm).fi) hi;rw[hn]at d;unfold KD at d;have s1:=s.sz.1;have s2:=s.sz.2;have s4:=s.tk;have s5:=s.sc;have hO:∀i,ax (Ht.start true H) (.o i)=⟨0,0,[],false⟩:=fun i=>jB;have vG:(Ht.start true H).b=(Ht.start true H).D.length:=by cases H<;>rfl
 have AY:=fun(M:Mem)(J:ax M (.o 5)=⟨1,2,[Iw j],false⟩)(hb:M.b<=M.D.length)=>c27 (H:=H) (L:=M) (F:=fun _=>sJ j) ok hb (ai6 J hij) rfl;have i1:(Iw j).length=2:=rfl;have i2:(Iw j).take 2=Iw j:=rfl;have i3:(Iw j).all V.scalar=true:=rfl;have i4:∀d,V.bW d (Iw j)=Iw j:=fun _=>rfl;have i5:(Iw j).all V.pure=true:=rfl;rw[av (f:=9) (by conv=>lhs;reduce)];change G bn H true _ _ _ (Ht.start true H)=_;simp only[↓zo,zp,seval];generalize Ht.start true H=u at*;have q1:=(yF s u.D.length).1;have q2:=(yF s u.D.length).2;have q3:=KN s u.D.length;have q4:=KO s u.D.length;have T:(FV s u.D.length)[3]? =some (.ref 0 (.g (u.D.length+1)) (1+s.ms.length) 22 0 s.ms.length):=rfl;have B:=AY (bu (bu (bu (bu (bu (bu u (.o 1) ⟨1,6,[s.v],false⟩) (.o 2) ⟨1,2,[[.i a,.i n]],false⟩) (.o 3) ⟨1,6,[[.str ⟨#[]⟩,.bool false,.aL,.aL,.aL,.aL]],false⟩) (.o 4) ⟨1,2,[[.i 0,.i 0]],false⟩) (.o 5) ⟨1,2,[[.i 0,.i 0]],false⟩) (.o 5) ⟨1,2,[Iw j],false⟩) (by rw[ay,aX rfl]) (by show u.b<=u.D.length;omega);simp only[cz]at B;unfold rpR at B;clear AY;rcases he with he|he
 ·have C:=I he
  rw[he]at B⊢;rw[aX rfl]at B;simp(disch:=omega) only[↓zd,seval,push_cast,s1,s2,s4,s5,hO,hv,c,d,i1,i2,i3,i4,B,q1,q2,q3,q4,T];obtain⟨n0,A⟩:∃n0,u.D.length=n0:=⟨_,rfl⟩
  obtain⟨l,R⟩:∃l,s.tr (fun _=>sJ j) j=l:=⟨_,rfl⟩
  have hcl:FV s n0=lK l (1+s.ps.length) (1+s.ms.length) n0:=by
   rw[<-R];unfold FV lK Sc.tr;dsimp only;rw[List.length_map]
  have Sy:gY (sM false) (rM false false) (n0+2) l.ms=gY (sM false) (rM false false) (n0+2) (s.ms.map (Me.fx j)):=by
   rw[<-R];show gY (sM false) (rM false false) (n0+2) (s.ms.map (Me.tr (fun _=>sJ j) j))=_;rw[show s.ms.map (Me.tr (fun _=>sJ j) j)=(s.ms.map (Me.fx j)).map (Me.mp (fun _=>sJ j))from by rw[jy];rfl,KP (aaP (fun _=>sJ j)) (fun m=>by rw[NC (fun _=>sJ j)])]
  have F6:l.ms.flatMap (rM false false)=(s.ms.map (Me.mp (fun _=>sJ j))).flatMap (rM false false):=by
   rw[<-R];show(s.ms.map (Me.tr (fun _=>sJ j) j)).flatMap (rM false false)=_;rw[CX,CX];rfl
  have RQ:l.ps=s.ps:=by rw[<-R];rfl
  have Nk:El l (1+s.ps.length) (1+s.ms.length) n0=sI s::⟨1+s.ms.length,22,gY (sM false) (rM false false) (n0+2) (s.ms.map (Me.fx j)),false⟩::(s.ms.map (Me.mp (fun _=>sJ j))).flatMap (rM false false):=by
   unfold El;rw[Sy,F6,RQ];rfl
  have hrp:rpD (fun _=>sJ j) s n0=sI s::⟨1+s.ms.length,22,gY (sM false) (rM false false) (n0+2) s.ms,false⟩::(s.ms.map (Me.mp (fun _=>sJ j))).flatMap (rM false false)++[lJ 0]:=by
   unfold rpD;rw[he];rfl
  have PC:l.ms≠[]:=by rw[<-R];intro h;have:=eU List.length h;simp[Sc.tr]at this;rw[this]at xK;simp at xK
  have K:l.ps≠[]:=by rw[RQ];intro h;rw[h]at hpl;simp at hpl
  generalize (s.ms.map (Me.mp (fun _=>sJ j))).flatMap (rM false false)=LF at*;rw[R]at C⊢;rw[A,hrp];have omf:∀m∈s.ms,-7<=m.fi∧m.fi<=7:=fun m hm=>(ok.mf m hm).fi;clear hrp Sy F6 R B ok I d c hv;refine bI (fun k fr M=>ag fr 9= .ptr 0 (.o 6) 1 0 0∧ag fr 7= .ptr 0 (.o 5) 1 0 0∧ag fr 4= .ptr 0 (.o 3) 1 0 0∧ag fr 5= .ptr 0 (.o 4) 1 0 0∧ag fr 8= .i 0∧ag fr 40= .i s.ms.length∧ag fr 41= .i k∧ax M (.o 3)=⟨1,6,[[.str ⟨#[]⟩,.bool false,.aL,.aL,.aL,.aL]],false⟩∧ax M (.o 4)=⟨1,2,[[.i 0,.i 0]],false⟩∧ax M (.o 5)=⟨1,2,[Iw j],false⟩∧ax M (.o 6)=⟨1,6,[FV s n0],false⟩∧M.b=n0∧M.D=u.D++(sI s::⟨1+s.ms.length,22,gY (sM false) (rM false false) (n0+2) ((s.ms.take k).map (Me.fx j)++s.ms.drop k),false⟩::LF++[lJ 0])) s.ms.length ?_ ?_ ?_
  ·refine⟨?_,?_,?_,?_,?_,?_,?_,?_,?_,?_,?_,?_,?_⟩
   (all_goals try simp only[↓zg,seval]);all_goals try first|rfl|trivial|(simp only[zr,seval];done)
   all_goals (first|(simp only[ay,dM,reduceCtorEq,Ix.o.injEq,Nat.reduceEqDiff,bZ,bK];done)|(rw[<-A];exact vG)|skip)
  ·rintro k lV Q hk ⟨h9,W,h4,J,h8,Lu,BU,ji,nk,IX,Y,o7,U⟩ next
   obtain⟨m,hm⟩:∃m,s.ms[k]? =some m:=⟨_,ak hk⟩
   have hlk:((s.ms.take k).map (Me.fx j)).length=k:=by rw[aG,bf];omega
   have hx:((s.ms.take k).map (Me.fx j)++s.ms.drop k)[k]? =some m:=by rw[jb (by omega),hlk,Bj,kE hm];rfl
   have hat:=KG (sk:=sM false) (r:=rM false false) (n:=n0+2) hx;have htk:(((s.ms.take k).map (Me.fx j)++s.ms.drop k).take k)=(s.ms.take k).map (Me.fx j):=by rw[gm (by omega),aO (by omega)]
   rw[htk]at hat;have qw:=aej (sk:=sM false) (r:=rM false false) ((s.ms.take k).map (Me.fx j)) m (m.fx j) (s.ms.drop (k+1)) (n0+2) rfl;rw[hlk,<-kE hm]at qw;have an9:(s.ms.take (k+1)).map (Me.fx j)++s.ms.drop (k+1)=(s.ms.take k).map (Me.fx j)++m.fx j::s.ms.drop (k+1):=by
    rw[aY,hm,aR,aC];rfl
   rw[an9,<-qw]at next
   have of:=omf m (ah hm);have oj:=jN.1 hij;have auK:∀H,call bn 33 [.i m.fi,.agg (Iw j)] H=some (.i (m.fi+7*j.2-12*j.1),none):=fun H=>c33 (H:=H) (by omega) (by omega) (by omega);generalize n0+2+(((s.ms.take k).map (Me.fx j)).flatMap (rM false false)).length=N at*;have g1:(sM false N m)[11]? =some (.i m.fi):=rfl;have g2:(sM false N m).length=22:=rfl;have g3:(sM false N m).take 11++[.i (m.fi+7*j.2-12*j.1)]++(sM false N m).drop 12=sM false N (m.fx j):=rfl;generalize gY (sM false) (rM false false) (n0+2) ((s.ms.take k).map (Me.fx j)++s.ms.drop k)=X at*;have e:(u.D++[sI s]).length=n0+1:=by simp[A]
   have hMr:ax Q (.g (n0+1))=⟨1+s.ms.length,22,X,false⟩:=by
    show eP Q.D _=_;rw[U,show u.D++(sI s::⟨1+s.ms.length,22,X,false⟩::LF++[lJ 0])=(u.D++[sI s])++⟨1+s.ms.length,22,X,false⟩::(LF++[lJ 0])from by simp];exact jC e
   have an':∀r,dE Q.D (n0+1) r=u.D++(sI s::r::LF++[lJ 0]):=fun r=>by
    rw[U,show u.D++(sI s::⟨1+s.ms.length,22,X,false⟩::LF++[lJ 0])=(u.D++[sI s])++⟨1+s.ms.length,22,X,false⟩::(LF++[lJ 0])from by simp,uN e];simp
   have wb:Q.b<=n0+1:=by omega
   rw[A]at T;clear hx htk qw an9 Nk C omf;simp(disch:=omega) only[↓zd,seval,push_cast,h9,W,Lu,BU,IX,Y,q1,T,hMr,hat,g1,g2,g3,auK,i1,i2,i4];refine next _ _ ⟨?_,?_,?_,?_,?_,?_,?_,?_,?_,?_,?_,?_,?_⟩
   (all_goals try simp only[↓zg,seval,h9,W,h4,J,h8,Lu,ji,nk,IX,Y]);all_goals try first|rfl|trivial|(simp only[zr,seval,h9,W,h4,J,h8,Lu,ji,nk,IX,Y];done)
   all_goals (first|exact o7|(rw[fF,an'];done)|skip)
  ·rintro lV Q ⟨h9,W,h4,J,h8,Lu,BU,ji,nk,IX,Y,o7,U⟩
   rw[aT,dZ,bz]at U;have hD':Q.D=u.D++El l (1+s.ps.length) (1+s.ms.length) n0++[lJ 0]:=by rw[U,Nk];simp
   have Uz:=CK (s:=l) (vp:=1+s.ps.length) (vm:=1+s.ms.length) (n:=n0) (L:=Q) (D0:=u.D) (Z:=[lJ 0]) K PC (by omega) (by omega) A (by omega) hD';rw[<-hcl]at Uz;have g1:∀O b,ax (⟨u.D++RP l (1+s.ps.length) (1+s.ms.length)++[lJ 0],O,b⟩:Mem) (.g n0)=⟨1+s.ps.length,6,l.ps.map Pa.v,true⟩:=fun O b=>by
    show eP _ n0=_;unfold RP;rw[aC];exact jC A
   have g2:∀O b,ax (⟨u.D++RP l (1+s.ps.length) (1+s.ms.length)++[lJ 0],O,b⟩:Mem) (.g (n0+1))=⟨1+s.ms.length,22,l.ms.map Me.v,true⟩:=fun O b=>by
    show eP _ (n0+1)=_;unfold RP;rw[show u.D++(⟨1+s.ps.length,6,l.ps.map Pa.v,true⟩::⟨1+s.ms.length,22,l.ms.map Me.v,true⟩::l.ms.flatMap (rM false true))++[lJ 0]=(u.D++[⟨1+s.ps.length,6,l.ps.map Pa.v,true⟩])++⟨1+s.ms.length,22,l.ms.map Me.v,true⟩::(l.ms.flatMap (rM false true)++[lJ 0])from by simp];exact jC (by simp[A])
   have fz1:=fun O b r1 r2=>XX (s:=l) (vp:=1+s.ps.length) (vm:=1+s.ms.length) (n:=n0) (L:=bu (bu ⟨u.D++RP l (1+s.ps.length) (1+s.ms.length)++[lJ 0],O,b⟩ (.o 3) r1) (.o 4) r2) K PC (by omega) (by omega) (by rw[ay,aP (by simp),ay,aP (by simp)];exact g1 O b) (by rw[ay,aP (by simp),ay,aP (by simp)];exact g2 O b);rw[<-hcl]at fz1;have fz2:∀M:Mem,wJ M (.agg (Iw j))=some (.agg (Iw j),M):=fun M=>by simp only[wJ,sG,Iw,zJ,xf,uX,bG,aU]
   have fz3:∀M:Mem,wJ M (.int .i64 0)=some (.int .i64 0,M):=fun M=>by simp only[wJ,sG,xf,uX]
   have np:(FV s n0).all V.pure=false:=by simp only[FV,aZ,V.pure,iW,mh]
   have vpu:=l.pu;have vsh:=l.sz.2;rw[A]at q1 q2 q3 q4 T;clear U Nk hD' g1 g2 K PC;cases b with
   |true=>
    simp(disch:=omega) only[↓zd,seval,push_cast,h9,W,h4,J,h8,Lu,BU,ji,nk,IX,Y,q1,q2,q3,q4,T,Uz,C,vsh,i1,i2,i3,i4,i5,np,vpu,lI,yu,rF,fz1,fz2,fz3,show(((0:Nat),Ix.o 5)=((0:Nat),Ix.o 3))=False from ru (by decide)]
    trace_state
   |false=>
    unfold KM;simp(disch:=omega) only[↓zd,seval,push_cast,h9,W,h4,J,h8,Lu,BU,ji,nk,IX,Y,q1,q2,q3,q4,T,Uz,C,vsh,i1,i2,i3,i4,i5]
    trace_state
 ·rw[he]at B⊢
  rw[aP (by omega)]at B;rw[aP (by omega)];unfold KM at*;clear I;simp(disch:=omega) only[↓zd,seval,push_cast,s1,s2,s4,s5,hO,hv,c,d,i1,i2,i3,i4,B,↓ik]
theorem Sc.gl(s:Sc):s.v.all V.qW=true:=by simp only[Sc.v,aZ,cB,J9,bR,jK,l9];rfl
theorem ael:∀(l:List Pa)(i k:Nat)(r:Nat×Nat),xy l i k=some r->r.1<i+l.length:=by
 intro l;induction l with
 |nil=>intro i k r h;simp[xy]at h
 |cons a l c=>
  intro i k r h;unfold xy at h;split at h
  ·injection h with h;subst h;simp
  ·have:=c _ _ _ h;simp only[aS];omega
def yN(s:Sc)(l:List (Int×Int))(k:Nat):PF:=sJ ((l[(Bf s k).1]?).getD (0,0))
theorem c53{M:Mem}{s:Sc}{l:List (Int×Int)}{k u A qp ver:Nat}{p:P3}(ok:T9 s.ps)(hk:k<=1000)(hp:p.e=0)(hr:ax M (.g u)=⟨1,6,[s.v],false⟩)(hl:ax M (.g A)=⟨1,1,[[.ref 0 (.g qp) ver 2 0 l.length]],false⟩)(hv:0<ver)(J:ax M (.g qp)=⟨ver,2,l.map Iw,false⟩)(hn:l.length=s.ps.length)(K:∀j∈l,wP j.1 j.2=0):
  call bn 53 [.i k,.agg p.v,.ptr 0 (.g u) 1 0 0,.ptr 0 (.g A) 1 0 0] (M::H)=some (.eT [.agg (yN s l k p).1.v,.i (yN s l k p).2],none):=by
 have hpl:=ok.len;have c:=fun H=>c22 (H:=H) (s:=s) ok hk;have C:(Bf s k).1<l.length:=by
  unfold Bf;cases h:xy s.ps 0 k with
  |none=>dsimp only[Option.getD_none];omega
  |some r=>have:=ael s.ps 0 k r h;dsimp only[Option.getD_some];omega
 have B:∃e:Int,ptR (xy s.ps 0 k)=[.i (Bf s k).1,.i (Bf s k).2,.i e]:=by
  unfold Bf ptR;cases h:xy s.ps 0 k with
  |none=>exact⟨2,rfl⟩
  |some r=>exact⟨0,rfl⟩
 obtain⟨e,N⟩:=B;rw[N]at c;obtain⟨x,hx⟩:∃x,l[(Bf s k).1]? =some x:=⟨_,ak C⟩
 have RJ:=K x (ah hx);have d:=fun H=>an6 (H:=H) hp RJ;have hF:yN s l k=sJ x:=by unfold yN;rw[hx];rfl
 rw[hF];generalize (Bf s k).1=pt at*;generalize (Bf s k).2=st at*;have I:=p.sz;have X:=p.tk;have W:=p.sc;have F:=(sJ x p).1.sz;have U:=(sJ x p).1.tk;have r3:=(sJ x p).1.sc;have T:=(sJ x p).1.pu;have s1:=s.sz.1;have s2:=s.sz.2;have R:=s.tk;have Q:=s.sc;have i1:(Iw x).length=2:=rfl;have i2:(Iw x).take 2=Iw x:=rfl;have Z:(Iw x).all V.scalar=true:=rfl;have Y:∀d,V.bW d (Iw x)=Iw x:=fun _=>rfl;have z0:List.drop 3 [V.i 0,V.i 0,V.i 0]=[]:=rfl;have hD:(Ht.start true (M::H)).D=M.D:=rfl;have AU:∀O b,ax (⟨M.D,O,b⟩:Mem) (.g u)=⟨1,6,[s.v],false⟩:=fun O b=>hr;have FX:∀O b,ax (⟨M.D,O,b⟩:Mem) (.g A)=⟨1,1,[[.ref 0 (.g qp) ver 2 0 l.length]],false⟩:=fun O b=>hl;have Qe:∀O b,ax (⟨M.D,O,b⟩:Mem) (.g qp)=⟨ver,2,l.map Iw,false⟩:=fun O b=>J;generalize (sJ x p).1.v=rv at*;clear K hn N hF;refine(av (by conv=>lhs;reduce)).trans ?_;simp only[↓zo,zp,seval];simp(disch:=omega) only[↓zd,seval,push_cast,hr,hl,J,c,d,I.1,I.2,X,W,F.1,F.2,U,r3,T,i1,i2,Z,Y,s1,s2,R,Q,hx,hv]
theorem c28{L:Mem}{s:Sc}{qp ver n:Nat}(O:L.b<=L.D.length):call bn 28 [.agg s.v,.ref 0 (.g qp) ver 2 0 n] (L::H)=some (.fn 53 [.ptr 0 (.g L.D.length) 1 0 0,.ptr 0 (.g (L.D.length+1)) 1 0 0],some (L.D++[⟨1,6,[s.v],false⟩,⟨1,1,[[.ref 0 (.g qp) ver 2 0 n]],false⟩])):=by
 have F:(Ht.start false (L::H)).D=L.D:=rfl;have I:(Ht.start false (L::H)).b=L.b:=rfl;have s1:=s.sz.1;have s2:=s.sz.2;have B:=s.tk;have A:=s.sc;have u:=s.gl;have hn:ax (Ht.start false (L::H)) (.g L.D.length)=⟨0,0,[],false⟩:=jH (L:=L);have K:ax (Ht.start false (L::H)) (.g (L.D.length+1))=⟨0,0,[],false⟩:=rA _ (Nat.le_succ _);have J:(L.D.length=L.D.length+1)=False:=by simp
 have C:∀r,dE L.D L.D.length r=L.D++[r]:=fun r=>kI;have N:∀r c,dE (L.D++[r]) (L.D.length+1) c=L.D++[r,c]:=fun r c=>by
  have:=kI (l:=L.D++[r]) (r:=c);rw[aF]at this;exact this.trans (by simp)
 have j:∀r,(L.D++[r]).length=L.D.length+1:=fun r=>by simp
 refine(av (by conv=>lhs;reduce)).trans ?_;simp only[↓zo,zp,seval];generalize Ht.start false (L::H)=Q at*;simp(disch:=omega) only[↓zd,seval,push_cast,s1,s2,B,A,u,F,I,hn,K,J,C,N,j]
theorem af7(x:Nt):dN [.int,.int,.int,.int,.int,.int,.int,.int,.int] x.v x.v=some true:=by
 simp[dN,Nt.v]
theorem c29(l:List Nt)(hl:l.length<=1000000000):call bn 29 [cu 9 (l.map Nt.v),cu 9 (l.map Nt.v)] H=some (.bool true,none):=by
 refine(av (show bn 29=some a29 from by kernel_rfl)).trans ?_;unfold a29;generalize Ht.start true H=F at*;simp(disch:=omega) only[↓zd,seval,push_cast,dS];refine bI (fun i fr L=>ag fr 0=cu 9 (l.map Nt.v)∧ag fr 1=cu 9 (l.map Nt.v)∧ag fr 5= .i i) l.length ?_ ?_ ?_
 ·refine⟨?_,?_,?_⟩
  (all_goals try simp only[↓zg,seval]);all_goals try first|rfl|trivial|(simp only[zr,seval];done)
 ·rintro i fr L A ⟨g,c,j⟩ next
  obtain⟨x,hx⟩:∃x,l[i]? =some x:=⟨_,ak A⟩
  have x1:=x.sz.1;have u:=x.tk;have r:=af7 x;have B:(l.map Nt.v)[i]? =some x.v:=by rw[aK,hx];rfl
  generalize x.v=C at*;simp(disch:=omega) only[↓zd,seval,push_cast,g,c,j,hx,B,x1,u,r];refine next _ _ ⟨?_,?_,?_⟩
  (all_goals try simp only[↓zg,seval,g,c]);all_goals try first|rfl|trivial|(simp only[zr,seval,g,c];done)
 ·rintro fr L ⟨g,c,j⟩
  simp(disch:=omega) only[↓zd,seval,push_cast,g,c,j]
theorem c8{s t:Sc}(os:kN s)(u:kN t)(hs:∀H,call bn 19 [.agg s.v] H=some (.bool true,none))(A:∀H,call bn 19 [.agg t.v] H=some (.bool true,none))(h:gN s=gN t)(hl:(gN t).length<=1000000000):call bn 8 [.agg s.v,.agg t.v] H=some (.bool true,none):=by
 have c:=fun H=>ad' (H:=H) os hs;have d:=fun H=>ad' (H:=H) u A;have e:=fun H=>c29 (H:=H) (gN t) hl;rw[h]at c;have s1:=s.sz.1;have s2:=s.sz.2;have r:=s.tk;have l:=s.sc;have t1:=t.sz.1;have t2:=t.sz.2;have j:=t.tk;have g:=t.sc;generalize (gN t).map Nt.v=els at*;clear h hl;refine(av (by conv=>lhs;reduce)).trans ?_;simp only[↓zo,zp,seval];simp(disch:=omega) only[↓zd,seval,push_cast,s1,s2,r,l,t1,t2,j,g,c,d,e]
end Go.Proofs.YtnahpjebkgbedaaGreat

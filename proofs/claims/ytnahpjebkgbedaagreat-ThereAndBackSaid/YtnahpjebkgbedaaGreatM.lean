/- Part of the proof of ThereAndBack: what the program's functions compute on the abstract machine, and that it answers as the law says. No condition. -/
import Derived.Test.YtnahpjebkgbedaaGreatI
import Derived.Test.YtnahpjebkgbedaaGreatL
set_option linter.all false
set_option maxRecDepth 100000
set_option maxHeartbeats 16000000
namespace Go.Proofs.YtnahpjebkgbedaaGreat
open Go Go.RowKit Go.Shelf
attribute [local go_sem] wy
def vE(x:Int×Int):Value:= .agg #[.int .i64 x.1,.int .i64 x.2]
def vR(k n:Nat):List (Int×Int):=(List.range n).map fun d:Nat=>((k:Int)-1,(d:Int))
def vP(k:Nat):List (Int×Int):=(List.range k).flatMap fun k=>vR k 4
theorem Xb(k:Nat):vP (k+1)=vP k++vR k 4:=by unfold vP;rw[gK,bH];simp
theorem afn(k n:Nat):vR k (n+1)=vR k n++[((k:Int)-1,(n:Int))]:=by unfold vR;rw[gK,aR];rfl
theorem ab2:∀k,(vP k).length=k*4
 |0=>rfl
 |k+1=>by rw[Xb,aF,ab2 k];simp[vR];omega
theorem afo(n:Nat)(hn:1<=n)(l n₀:Nat)(J Jx:List (Int×Int)->World->Prop)
  (hY:∀pre x W,J pre W->pre.length<40->YieldAt Fence.wide (n-1) Tryz.prog l #[vE x] W fun e W'=>
   (e= .returned (.bool true)∧J (pre++[x]) W'∧Below n₀ W W')∨(e= .returned (.bool false)∧Jx (pre++[x]) W'))
  (W:World)(h0:J [] W):
  CallsIn Fence.wide n Tryz.prog 229 #[.func (.yield l) #[] #[]] W fun e W'=>(∃v,e= .returned v)∧(J (vP 10) W'∨∃pre,Jx pre W'):=by
 refine callsIn_of_wp Tryz.func229 rfl trivial ?_ rfl;simp only[Tryz.ntmps229,fT,aS,ek,Nat.reduceAdd,Nat.reduceSub,gQ,gT,jo,iF,dm,aW];gi_wp2;gi_loopw [2] (fun i wr=>∃k:Nat,k<=10∧i= .int .i64 ((k:Int)-1)∧J (vP k) wr)
  (fun i _=>10-(intOf i+1).toNat)
 case atStart=>exact⟨0,ku _,rfl,h0⟩
 case round=>
  obtain⟨k,hk,rfl,hJs⟩:=hrel;by_cases hlt:k<10
  ·have h1:((k:Int)-1)<=8:=by omega
   obtain⟨g,hg⟩:∃g:Int,(k:Int)-1=g:=⟨_,rfl⟩
   rw[hg]at h1⊢;gi_wp2;gi_loopw [8] (fun i wr=>∃j:Nat,j<=4∧i= .int .i64 j∧J (vP k++vR k j) wr)
    (fun i _=>4-(intOf i).toNat)
   case atStart=>exact⟨0,ku _,rfl,by rw[show vR k 0=[]from rfl,bz];exact hJs⟩
   case round=>
    obtain⟨j,hj,rfl,hJs⟩:=hrel;by_cases hlj:j<4
    ·have hl:(vP k++vR k j).length<40:=by rw[aF,ab2];simp[vR];omega
     obtain⟨fn,tmps,assign,body,hy,hR⟩:=hY _ (g,(j:Int)) wr hJs hl;simp only[vE]at hy hR;gi_wp2;refine hR.mono ?_;rintro e W4 (⟨rfl,c,hk4⟩|⟨rfl,r⟩)
     ·gi_wp2
      go_roundw;case rel=>exact⟨j+1,by omega,by simp,by rw[afn,hg,<-aC];exact c⟩
      case measure=>simp[intOf];omega
     ·gi_wp2
      exact bodyPost_ret (results_none rfl _ _ _) rfl ⟨⟨_,rfl⟩,.inr ⟨_,r⟩⟩
    ·obtain rfl:j=4:=by omega
     gi_wp2;go_roundw;case rel=>exact⟨k+1,by omega,by simp;omega,by rw[Xb];exact hJs⟩
     case measure=>simp[intOf];omega
  ·obtain rfl:k=10:=by omega
   gi_wp2;go_end0;exact⟨⟨_,rfl⟩,.inl hJs⟩
def vC(x:Int×Int):Array Value:= #[.int .i64 x.1,.int .i64 x.2]
def xG(pre:List (Int×Int)):List Value:=(pre.map fun x=>(vC x).toList).flatten
theorem Sq(pre:List (Int×Int))(x:Int×Int):xG (pre++[x])=xG pre++(vC x).toList:=by simp[xG]
theorem afp:(Tryz.prog.info? 129).map (fun i=>(i.zero,i.size,i.bytes))=some (some (.agg #[.int .i64 0,.int .i64 0]),2,16):=by kernel_rfl
theorem MH(n:Nat)(hn:1<=n)(n₀:Nat)(w:World):
  SeqStopsK Fence.wide n Tryz.prog 229 #[] (fun x:Int×Int=> #[vE x]) (Below n₀) (fun ys=>ys=vP 10) (fun _=>True) 40 w:=by
 intro l J Jx W hW hJ hJx hY h0;refine(afo n hn l n₀ J Jx hY W h0).mono ?_;rintro e W' ⟨he,hj|⟨pre,hj⟩⟩
 ·exact⟨he,.inl ⟨_,rfl,hj⟩⟩
 ·exact⟨he,.inr ⟨_,trivial,hj⟩⟩
theorem apN(w:World):
  CallsIn Fence.wide 2 Tryz.prog 262 #[.slice none 0 0,.func (.func 229) #[] #[]] w fun e W'=>
   ∃v,e= .returned v∧W'.ownsRow w.heap.size 129 2 v 40 (xG (vP 10))∧(v= .slice none 0 0↔vP 10=[])∧Below w.heap.size w W':=by
 refine callsIn_of_wp_marks Tryz.func262 rfl trivial ?_ rfl;simp only[Tryz.ntmps262,fT,aS,ek,Nat.reduceAdd,Nat.reduceSub,gQ,gT,jo,iF,dm,aW];gi_wp2;have j:=Boxed.new w 181 (.slice none 0 0);have hB0:Below w.heap.size w (w.alloc (.cells #[.slice none 0 0] 181)):=(jh _ w).alloc (aJ _) _;have hsz:(w.alloc (.cells #[.slice none 0 0] 181)).heap.size=w.heap.size+1:=by simp
 obtain⟨W0,hW0⟩:∃W0,w.alloc (.cells #[.slice none 0 0] 181)=W0:=⟨_,rfl⟩
 rw[hW0]at j hB0 hsz⊢;clear hW0;refine wpIn_rangeFunc_ownH rfl (by omega) (gf:=229) (lb:= #[]) rfl trivial (enters_of Tryz.func229 (by kernel_rfl) rfl)
  (MH 1 (by omega) w.heap.size W0)
  belowK_t (belowK_b (by omega)) (jh _ _) (fun _=>rfl)
  (fun pre W=>(∃v,Boxed W w.heap.size 181 v∧W.ownsRow w.heap.size 129 2 v pre.length (xG pre)∧(v= .slice none 0 0↔pre=[]))∧Below w.heap.size w W)
  (fun _ _ _=>False)
  (uh (Own.from (holdsRow_own w.heap.size w.heap.size 181 129 2 (fun pre=>pre.length) (fun pre=>xG pre) (fun pre v=>(v= .slice none 0 0↔pre=[]))) _) (ownFrom_below (aJ _) (by omega)))
  (fun _ _ _ _ _ hs _ _=>hs)
  ⟨⟨_,j,World.ownsRow_nil _ _ _ _,by simp⟩,hB0⟩
  (fun x a' W=>∃Bx,w.heap.size<Bx∧W.heap[Bx]? =some (.cells (vC x) 129 (0,0))∧a'={tmps:= #[.slice none 0 0,.func (.func 229) #[] #[],.pointer (some ⟨w.heap.size,0,none⟩),undef,.slice none 0 0,.pointer (some ⟨Bx,0,none⟩),.func (.func 229) #[] #[],vE x,undef,undef,undef,undef,undef],defers:=[]})
  (fun x a' _ X Y row hs hg hr=>by
   obtain⟨Bx,h1,h2,h3⟩:=hs;refine⟨Bx,h1,(hg.block Bx (ic.1 h2).1 (fun e=> ?_)).trans h2,h3⟩;obtain⟨_,o,ho,hcl⟩:=hr Bx e.symm;rw[h2]at ho;cases ho;cases hcl)
  ?assign ?body ?done ?stop
 case assign=>
  rintro l pre ⟨x1,x2⟩ W K ⟨⟨v,g,hrow,hnil⟩,hB1⟩ hK;dsimp only[vE,vC]at hK⊢;gi_wp2;exact hK _ _ ((KeepsOthers.alloc _ _).from _) ((jh _ W).alloc (by have:=hB1.size;omega) _) ⟨⟨v,g.alloc _,hrow.alloc _,hnil⟩,hB1.alloc hB1.size _⟩ ⟨W.heap.size,g.lt,jD W _,rfl⟩
 case body=>
  rintro l pre ⟨x1,x2⟩ a' W hl ⟨r,hr⟩ ⟨⟨v,g,hrow,hnil⟩,hB1⟩ ⟨Bx,hBx,hX,rfl⟩ hlt;have hpl:pre.length<1000000:=by omega
  dsimp only[vE,vC]at hX⊢;have cv:=g.cell;have z0:W.cell? ⟨Bx,0,none⟩=some (.int .i64 x1):=by simp[World.cell?,hX]
  have z1:W.cell? ⟨Bx,1,none⟩=some (.int .i64 x2):=by simp[World.cell?,hX]
  obtain⟨i0,hi,hz0,hz1,hz2⟩:=info_parts afp;have u:=hB1.size
  gi_wp2_with (gi_at_builtin;refine wpListIn_append_own _ rfl _ _ 181 rfl w.heap.size 129 i0 _ 2 16 Tryz.underlying181 hi hz0 hz1 hz2 rfl (by decide) _ _ _ rfl (hrow.alloc _) ⟨W.heap.size,0,none⟩ 1 1 [.int .i64 x1,.int .i64 x2] rfl rfl (GI _ _ _) (by simp[Value.oneCell']) (by simp[maxLen];omega) (by omega) (by simp;omega) ?_;intro v' w1 hown' hgrow _;obtain⟨g',cap',rfl⟩:=ownsRow_succ hown';obtain⟨hv1,hv2,hr2,hk2,hb2⟩:=g.appended (by decide) hrow hB1.size (aJ _) hown' hgrow;have hc1:=hv1.cell;have hf1:=hv1.frozen)
  exact⟨hk2.from _,hb2,⟨_,hv2,by rw[aF,Sq];exact hr2,by simp⟩,hB1.trans hb2⟩
 case done=>
  rintro D ps W hD rfl ⟨⟨v,g,hrow,hnil⟩,hB1⟩ hK;have cv:=g.cell;gi_wp2;refine⟨by simp,.inl ⟨_,_,rfl,run_takeDeferred hK,?_⟩⟩;refine⟨_,results_tmp rfl _ _ _,v,rfl,ownsRow_putObj hrow _ hK rfl,hnil,hB1.trans (belowK_b (w:=w) (aJ _) W D _ _ (by omega) hK rfl rfl)⟩
 case stop=>
  rintro D c pre W _ _ h _;exact h.elim
end Go.Proofs.YtnahpjebkgbedaaGreat
namespace Go.Proofs.YtnahpjebkgbedaaGreat
open Go Go.Ht Go.RowKit
theorem agz:(vP 10).map (fun x=>[V.i x.1,V.i x.2])=OY:=by kernel_rfl
theorem ab3{E:Env}:∀{xs:List (Int×Int)}{l:List Value},l.take (xs.length*2)=xG xs->dF (xs.map fun x=>[V.i x.1,V.i x.2]) E 2 l
 |[],l,_=>by simp[dF]
 |x::t,l,h=>by
  have e:xG (x::t)=[.int .i64 x.1,.int .i64 x.2]++xG t:=rfl;rw[e]at h;have h5:l.take 2=[.int .i64 x.1,.int .i64 x.2]:=by
   have:=eU (List.take 2) h;rw[nQ,eH (by simp only[aS];omega)]at this;rw[this,gm (by simp)];exact aO (by simp)
  have h6:(l.drop 2).take (t.length*2)=xG t:=by
   have:=eU (List.drop 2) h;rw[A9,show(x::t).length*2-2=t.length*2 by simp only[aS];omega]at this;rw[this];simp
  rw[bO];simp only[dF];refine⟨rfl,?_,ab3 h6⟩;rw[h5];simp[dY,VR]
theorem apO{E:Env}{w:World}{M:List Mem}{L:Mem}{H:List Mem}(hM:eD E M w):Calls Tryz.prog 262 #[.slice none 0 0,.func (.func 229) #[] #[]] w (Ht.Leaves E L H w (kK 2 OY,none)):=by
 have hl:OY.length=40:=by decide+kernel
 refine P8 (args:=[.slice none 0 0,.func (.func 229) #[] #[]]) (t:=129) (lo:=w.heap.size) (cells:=xG (vP 10)) hM (aJ _) ?_ (by decide+kernel) (fun F l h=> ?_)
 ·refine(callsIn_wide.1 (apN w)).mono ?_
  rintro e w' ⟨v,he,h1,h2,h3⟩;refine⟨v,he,by rw[hl];exact h1,?_,h3⟩;rw[h2,<-agz,kC]
 ·rw[<-agz]at h⊢
  rw[aG]at h;exact ab3 h
theorem ab4:Ze Tryz.prog tY:=by
 intro f args H r hr;obtain⟨v,hv,rfl⟩:=ae.1 hr;change (if f=108 then none else prF f args)=some v at hv;split at hv
 ·cases hv
 rename_i hf;unfold prF at hv;split at hv
 ·rename_i s
  split at hv
  ·rename_i hp
   cases hv;refine⟨⟨_,Tryz.func112,by decide,rfl⟩,fun E w xs hx hM _ _=> ?_⟩;simp only[dY,VR]at hx;obtain⟨x1,l1,rfl,rfl,rfl⟩:=hx;exact apv hp
  ·cases hv
 ·exact absurd rfl hf
 ·cases hv
  refine⟨⟨_,Tryz.func262,by decide,rfl⟩,fun E w xs hx hM _ _=> ?_⟩;simp only[dY,VR]at hx;obtain⟨x1,l1,rfl,rfl,x2,l2,rfl,⟨cs,rfl,hcs⟩,rfl⟩:=hx;have hc:cs= #[]:=by
   apply Array.ext';rw[hcs]
  subst hc;exact apO hM
 ·rename_i c
  obtain⟨els,hs,hv⟩:=aj.1 hv;split at hv
  ·rename_i ha
   cases hv;exact⟨⟨_,Tryz.func156,by decide,rfl⟩,fun E w xs hx hM _ _=>apA hs ha hM hx⟩
  ·cases hv
 ·rename_i s
  obtain⟨l,hs,hv⟩:=aj.1 hv;split at hv
  ·rename_i hl
   cases hv;exact⟨⟨_,Tryz.func114,by decide,rfl⟩,fun E w xs hx hM _ _=>apL hs hl hM hx⟩
  ·cases hv
 ·rename_i s a b
  split at hv
  ·cases hv
  ·rename_i ha
   obtain⟨l,hs,hv⟩:=aj.1 hv;exact⟨⟨_,Tryz.func247,by decide,rfl⟩,fun E w xs hx hM _ _=>apM ha hs hv hM hx⟩
 ·cases hv
theorem awF{w:World}:eD ⟨fun _ _ _=>Option.none,fun _=>Option.none⟩ (Ht.start false []::[]) w:=by
 refine⟨fun b cs h=> ?_,fun d s v o h=> ?_,fun d s o h hp=> ?_,fun d s o h hp=> ?_,fun d s v o d' s' v' o' h=> ?_,fun d s o h=> ?_,fun d s o h=> ?_,fun _ _ _=>rfl⟩;all_goals cases h
theorem apP:Gb ⟨fun _ _ _=>Option.none,fun _=>Option.none⟩ (Ht.start false []):=by
 refine⟨fun n=> ?_,fun n v o h=> ?_,fun n=>rfl⟩
 ·simp[Ht.start,eP]
 ·cases h
theorem apQ:Ze Tryz.prog bn:=by
 intro f args H r hr;by_cases hf:f=108
 ·subst hf
  obtain⟨v,hv,rfl⟩:=ae.1 hr;change prF 108 args=some v at hv;unfold prF at hv;split at hv<;>first|(cases hv;done)|skip
  all_goals try(rename_i h1;exact absurd h1 (by decide))
  cases hv;refine⟨⟨_,Tryz.func108,by decide,rfl⟩,fun E w xs hx hM _ _=> ?_⟩;simp only[dY]at hx;subst hx;refine ajl (by decide) (by decide+kernel) ?_ (fun b c h=>(FR hM h).1);exact(J7 mixed amx ab4 108 [] [] _ avb).2 _ w [] (by simp only[dY]) awF apP (fun _ _=>rfl)
 ·refine ab4 f args H r ?_
  have e:tY.pr f args=bn.pr f args:=aP hf;show(tY.pr f args).map _=some r;rw[e];exact hr
theorem sound:iy Tryz.prog (call bn):=J7 mixed ahK apQ
end Go.Proofs.YtnahpjebkgbedaaGreat

/- Part of the proof of ThereAndBack: what the program's functions compute on the abstract machine, and that it answers as the law says. No condition. -/
import Derived.Test.YtnahpjebkgbedaaGreatD
set_option linter.all false
set_option maxRecDepth 100000
set_option maxHeartbeats 16000000
namespace Go.Proofs.YtnahpjebkgbedaaGreat
open Go Go.Ht
variable{H:List Mem}
theorem aa5{t u:yw}(h:∀f a H v,xk t (call u) (loop u) f a H=some v->call u f a H=some v):∀n,Vy (jf t n).1 (call u)∧LeL (jf t n).2 (loop u)
 |0=>⟨fun _ _ _ _ h=>(by cases h),fun _ _ _ _ h=>(by cases h)⟩
 |n+1=>by
  obtain⟨l,j⟩:=aa5 h n;refine⟨fun f a H v g=>h _ _ _ _ (D8 l j f a H v g),fun c H st v g=> ?_⟩;rw[Vz];exact D9 l j c H st v g
theorem aor{lg dt:Int}(h: -1<=lg∧lg<=8)(j:0<=dt∧dt<=3):call tY 106 [.agg [.i lg,.i dt]] H=some (.i (tk lg dt),none):=by
 obtain⟨g,c⟩:=ahN h j;rcases g with rfl|rfl|rfl|rfl|rfl|rfl|rfl|rfl|rfl|rfl<;>rcases c with rfl|rfl|rfl|rfl<;>(rcases H with _|⟨⟨D,O,b⟩,H⟩<;>exact mH 20 (by kernel_rfl))
theorem au'{a b c d:Int}(j: -1<=a∧a<=8)(g:0<=b∧b<=3)(hc: -1<=c∧c<=8)(hd:0<=d∧d<=3):call tY 172 [.agg [.i a,.i b],.agg [.i c,.i d]] H=some (.i (tk c d-tk a b),none):=by
 refine(av (by conv=>lhs;reduce)).trans ?_;simp only[↓zo,zp,seval];have r:=fun H=>aor (H:=H) j g;have l:=fun H=>aor (H:=H) hc hd;have A:=VG j g;have u:=VG hc hd;simp(disch:=omega) only[↓zd,seval,push_cast,r,l]
def okV(a b:Int):Bool:=decide (-1<=a)&&decide (a<=8)&&decide (0<=b)&&decide (b<=3)
noncomputable def prX:FuncId->List V->Option V:=fun f args=>
 if f=172 then match args with
  |[.agg [.int .i64 a,.int .i64 b],.agg [.int .i64 c,.int .i64 d]]=>if okV a b&&okV c d then some (.i (tk c d-tk a b))else none
  |_=>none
 else tY.pr f args
noncomputable def tX:yw:=⟨fun f=>if f=172 then none else TT f,prX⟩
theorem aos(n:Nat):Vy (jf tX n).1 (call tY):=by
 refine(aa5 (fun f a H v h=> ?_) n).1;by_cases hf:f=172
 ·subst hf
  unfold xk at h;simp only[tX,bK]at h;obtain⟨u,h,rfl⟩:=ae.1 h;simp only[prX,bK]at h;split at h
  ·split at h
   ·rename_i c
    cases h;simp only[okV,aH,bN]at c;exact au' ⟨c.1.1.1.1,c.1.1.1.2⟩ ⟨c.1.1.2,c.1.2⟩ ⟨c.2.1.1.1,c.2.1.1.2⟩ ⟨c.2.1.2,c.2.2⟩
   ·cases h
  ·cases h
 ·rw[OP]
  unfold xk at h⊢;have j:tX.fn f=tY.fn f:=aP hf;have g:tX.pr f a=tY.pr f a:=aP hf;rw[j,g]at h;exact h
theorem avb:call tY 108 [] []=some (.sl .any 2 OX,none):=aos 60 _ _ _ _ (by kernel_rfl)
theorem ajl{P:Program}{E:Env}{w:World}{L:Mem}{H:List Mem}{sz:Nat}{els:List (List V)}(I:els≠[])(hp:V.qZ els=true){f:FuncId}{xs:List Value}
  (h:Calls P f xs.toArray w (Ht.Leaves ⟨fun _ _ _=>Option.none,fun _=>Option.none⟩ (Ht.start false []) [] w (.sl .any sz els,none)))(B:∀b c,E.iY b=some c->b<w.heap.size):Calls P f xs.toArray w (Ht.Leaves E L H w (.sl .any sz els,none)):=by
 refine h.mono ?_;rintro e w' ⟨x,j,C,F,_,l,hr⟩;refine⟨x,fun b=>if b<w.heap.size then E.iY b else j b,C,F,fun b c h=> ?_,fun b c h=> ?_,?_⟩
 ·exact(aX (B b c h)).trans h
 ·simp only at h
  split at h
  ·exact .inl h
  ·rcases l b c h with h'|h'
   ·cases h'
   ·exact .inr h'
 ·have r:VR (.sl .any sz els) {(Env.up ⟨fun _ _ _=>Option.none,fun _=>Option.none⟩ 1)with iY:=j} x:=hr
  show VR (.sl .any sz els) {(E.up 1)with iY:=fun b=>if b<w.heap.size then E.iY b else j b} x;simp only[VR]at r⊢;obtain⟨A,a,cap,hx,hl,hf,hc⟩:=r;refine⟨A,a,cap,hx,hl,hf,.inr ?_⟩;obtain⟨cs,hs,g,u⟩:=hc.resolve_left I;refine⟨cs,hs,?_,dF.deep (fun b c h=> ?_) _ _ _ hp u⟩
  ·rcases l _ _ g with h'|h'
   ·cases h'
   ·exact(aP (by omega)).trans g
  ·rcases l _ _ h with h'|h'
   ·cases h'
   ·exact(aP (by omega)).trans h
end Go.Proofs.YtnahpjebkgbedaaGreat

import Derived.Test.YtcabmcfnjkeemaaGreatBM00
import Derived.Test.YtcabmcfnjkeemaaGreatB19
set_option maxRecDepth 100000
set_option maxHeartbeats 40000000
set_option linter.unusedVariables false
set_option linter.unusedSimpArgs false
namespace Go.Proofs.YtcabmcfnjkeemaaGreat
open Go.Deep Go.RowKit
open Go renaming World->L,Value->O
open Go.IntKind renaming i64->E,u64->JL
open Go.Obj renaming cells->JO
open Go.RowKit renaming Hid->F,Below->JK
open Go.Value renaming int->C,slice->G,string->H,bool->JM
open Option renaming none->I,some->J
attribute [local go_sem ↓] Go.wp_at_zero Go.wp_at_succ
def iP (S:SchD) (its:List dJ):ED->Bool
 | .mk op args n sc name attr at_=>(if op=23 then decide (0<=placeOf S.syms name) else if 24<=op then(jP S its op name attr).isSome else true) && (args.map λa=>iP S its a).all λb=>b
variable{its:List dJ}{S:SchD}
theorem ac'{op n sc at_:Int}{name attr:ByteArray}{args:List ED}(o:op=23->0<=placeOf S.syms name)(a8:24<=op->(jP S its op name attr).isSome=true)(aJ:∀x∈args,iP S its x=true):iP S its (.mk op args n sc name attr at_)=true:=by
 rw[iP.eq_def];simp only[Bool.and_eq_true,List.all_map,List.all_eq_true];refine⟨?_,λx ad=>aJ x ad⟩;split
 ·rename_i h;simpa using o h
 split
 ·rename_i h j;exact a8 j
 rfl
def aay (S:SchD) (its:List dJ) (k:Int):ED->Prop
 | .mk op args n sc name attr at_=>(op=20->k=1)/\(op=21->k=4)/\(op=22->k=2)/\(op=23->k=3)/\(24<=op->jP S its op name attr=J k)
def KiP (Q:Nat->Prop) (g:Nat) (vt vs vi:O) (S:SchD) (its:List dJ) (er:Int) (x:ED) (W:L) (e:Ending) (W':L):Prop:=
 ∃k er' at',e=.returned (C E k)/\wfi k/\W.grownBy W' (J g)/\kV Q g vt vs vi S its er' at' W'/\(er'=0->er=0/\iP S its x=true/\aay S its k x)
def FZ (_:Nat->Prop) (_:L) (cs:List O) (x:Int):Prop:=cs=[C E x]/\wfi x
theorem iY:bZ FZ:=λ_ _ _ _ _ _ h _ _=>h
theorem nG:kH Tryz.prog 26 3 1 8:=kH.of (z:=C E 0) Tryz.underlying26 U D Z
variable{w:L}{css:List (List O)}{B:Nat}{v:O}{e:TypeId}
theorem abA{xs:List Int}(h:Acc B e 1 FZ w v xs css):bU 1 fF w v xs:=(h.done iY).out λ_ _ h=>h
variable{er:Int}{g:Nat}{Q:Nat->Prop}{vi vs vt:O}
theorem kV.app{d3:Int}{X V:L}(ag:kV Q g vt vs vi S its er d3 X)(k:jk B v X V)(n:∀b,Q b->b < B)(ab:g < B)(af:∀j,v.ownBlock=J j->B<=j):kV Q g vt vs vi S its er d3 V:=by
 have bm:∀j,j < B->J j≠v.ownBlock:=λj bK a7=>by have:=af j a7.symm;omega
 have ah:aF Q X V:=aF.aS k.grown λb d=>bm b (n b d);exact⟨ag.blk.grown k.grown (bm g ab),ag.Dt.keep ah λ_ h=>h,aX.keep ag.Aq ah (λ_ h=>h) λ_ _ h=>h,ag.ok,ag.len,λb d=>⟨(ag.off b d).1,Kv (ag.off b d).2 k.grown.size⟩⟩
structure KiB (Q:Nat->Prop) (W:L) (g:Nat) (vt vs vi:O) (S:SchD) (its:List dJ) (er:Int) (bl:Array O) (X:L):Prop where
 grown:W.grownBy X (J g)
 gw:g < W.heap.size
 box:aj X W.heap.size 139 bl
 st:∃ea,kV Q g vt vs vi S its er ea X
 low:∀b,Q b->b < W.heap.size
section
variable {W:L} {er' ea':Int} {bl:Array O} {X Y:L}
theorem KiB.more(h:KiB Q W g vt vs vi S its er bl X)(d:JK X.heap.size X Y):KiB Q W g vt vs vi S its er bl Y:=by obtain⟨d3,ag⟩:=h.st;exact⟨h.grown.trans (aT d _),h.gw,h.box.below d h.box.lt,⟨d3,ag.below d⟩,h.low⟩
theorem KiB.next(h:KiB Q W g vt vs vi S its er bl X)(ab:X.grownBy Y (J g))(ag:kV Q g vt vs vi S its er' ea' Y):KiB Q W g vt vs vi S its er' bl Y:=
 ⟨h.grown.trans ab,h.gw,h.box.grown ab XH,⟨ea',ag⟩,h.low⟩
theorem KiB.fin(h:KiB Q W g vt vs vi S its er' bl X){x:ED}{k:Int}(ah:wfi k)(c7:er'=0->er=0/\iP S its x=true/\aay S its k x):KiP Q g vt vs vi S its er x W (.returned (C E k)) X:=by obtain⟨d3,ag⟩:=h.st;exact⟨k,er',d3,D,ah,h.grown,ag,c7⟩
theorem KiB.app(h:KiB Q W g vt vs vi S its er bl X)(k:jk B v X Y)(bW:W.heap.size < B)(af:∀j,v.ownBlock=J j->B<=j):KiB Q W g vt vs vi S its er bl Y:=by exact OA
end
def KiL (Q:Nat->Prop) (W:L) (g:Nat) (vt vs vi:O) (S:SchD) (its:List dJ) (er:Int) (bl:Array O) (args:List ED) (v i:O) (wr:L):Prop:=
 ∃(r:Nat) (er':Int) (xs:List Int) (css:List (List O)),r<=args.length/\i=C E r/\F (xs.length=r/\Acc (W.heap.size+1) 3 1 FZ wr v xs css)/\F (KiB Q W g vt vs vi S its er' bl wr)/\F (er'=0->er=0/\∀y∈args.take r,iP S its y=true)
theorem Ef(x:ED):∀(er d3:Int) (W:L) (cs':List O),kV Q g vt vs vi S its er d3 W->iD Q W cs' x->aP x<=100000->Calls Tryz.prog 78 #[.pointer (J ⟨g,0,I⟩),.agg cs'.toArray] W (KiP Q g vt vs vi S its er x W):=by
 refine vG (p:=λx=>∀(er d3:Int) (W:L) (cs':List O),kV Q g vt vs vi S its er d3 W->iD Q W cs' x->aP x<=100000->Calls Tryz.prog 78 #[.pointer (J ⟨g,0,I⟩),.agg cs'.toArray] W (KiP Q g vt vs vi S its er x W)) ?_ x;intro e M bQ ar bq bF b8 bf er d3 W cs' h ad V;obtain⟨bR,l,rfl,-,-⟩:=h.Dt.out.types.slice;obtain⟨c3,bj,rfl,-,-⟩:=h.Dt.out.syms.slice;have fx:=A ad;obtain⟨dg,rfl,ag,bN⟩:=ad.opened;have ec:=ag;obtain⟨Y,a9,rfl,d0,cR,-⟩:=ag;have f:=A ec;have dF:=A bf;have cw:=A V;have ae:=A h;have dh:=A (λy d=>(h.off y d).2);have dB:F (b8.length<=100000):=A (by have o:=nK b8;rw[aY] at V;omega);have eJ:=dB.out;obtain⟨an,bk⟩:∃an,an=W.alloc (JO #[C E e,G Y b8.length a9,C E M,C E bQ,H bq,H bF,C E ar] 139):=⟨_,D⟩;have aV:=A (show KiB Q W g (G bR S.types.length l) (G c3 S.syms.length bj) vi S its er #[C E e,G Y b8.length a9,C E M,C E bQ,H bq,H bF,C E ar] an by have d:JK W.heap.size W an:=Xq;exact⟨aT d _,h.blk.lt,Xr,⟨d3,h.below d⟩,dh.out⟩);unfold maxLen at cR;clear h bN ad ec bf V;go_in;go_upto_region 1 with fail;rw[<-bk];clear bk;obtain⟨al,am,ax,aW,T,bi,bM,a5,a6,aq,aZ,aO,be,bI⟩:=aK aV.box;go_wp2_with fail;clear al am ax aW T bi bM a5 a6 aq aZ aO be bI;go_loopw [5,11] (λbc a3 wr=>KiL Q W g (G bR S.types.length l) (G c3 S.syms.length bj) vi S its er #[C E e,G Y b8.length a9,C E M,C E bQ,H bq,H bF,C E ar] b8 bc a3 wr) (λbc a3 wr=>b8.length-(intOf a3).toNat);case atStart=>exact⟨0,er,[],[],Kw _,D,A ⟨D,Acc.nil _⟩,aV,A (λh=>⟨h,ZH⟩)⟩
 obtain⟨z,br,ce,cA,aS,rfl,t,b7,cN⟩:=hrel;obtain⟨ee,f0⟩:=b7.st;have cm:=A f0;clear f0;have ct:(0:Int)<=(z:Int):=N;have cu:(z:Int)<=100000:=N;obtain⟨al,am,ax,aW,T,bi,bM,a5,a6,aq,aZ,aO,be,bI⟩:=aK b7.box;have bp:F (bU 7 (iD Q) wr (G Y b8.length a9) b8):=A (aX.out (aX.keep f (aF.aS b7.grown λy d a7=>(ae.out.off y d).1 Zj) (λ_ h=>h) λ_ _ h=>h.keep (aF.aS b7.grown λy d a7=>(ae.out.off y d).1 Zj) λ_ h=>h) λ_ _ h=>h);by_cases bA:z < b8.length
 ·have c0:(z:Int) < (b8.length:Int):=N;obtain⟨a2,ak⟩:∃a2,b8[z]? =J a2:=⟨_,Kr bA⟩;have bV:=A ak;have dl:=A (show aP a2<=100000 by have o:=nP ak;have a8:=cw.out;rw[aY] at a8;omega);have dX:=A (dF.out z a2 ak);obtain⟨ca,c8,bD,dc,cV,bW,aw⟩:=a2;obtain⟨y,b5,ch,cl,cW,af,-,-,b',bv,bo,bZ,c5,bG,co,bS⟩:=iW bp ak;injection af with af _ cS;subst af cS;have e5:=A (dX br ee wr _ cm bS dl);clear bS ak dX;go_wp2_with fail;refine e5.mono ?_;rintro a7 r ⟨a0,dZ,eW,rfl,bE,dp,eB,eC⟩;have bX:=A (b7.next dp eB);have dA:=A dp;have aJ:=A bE;have e3:=A eC;clear bE dp eB eC e5 al am ax aW T bi bM a5 a6 aq aZ aO be bI b' bv bo bZ c5 bG co;obtain⟨di,bG,rfl⟩:=aB t.2.1;have ds:=A b7.gw;have ed:=A (λg ab=>aQ (g:=g) t.2.1 ab);have e9:=A (show W.heap.size+1<=wr.heap.size by have:=b7.box.lt;omega);go_upto_region 6 with(at_builtin;refine tV nG iY D _ _ D t.out.2 e9.out (mZ.aS dA.out (Nat.lt_succ_of_lt ds.out)) (cs:=[C E a0]) (x:=a0) D ⟨D,aJ.out⟩ VY XY WB D D ?_;intro cl ch av aR d5;have e1:=A aR;have dU:=A d5;clear aR d5);have s:=A (bX.app dU (KP _) λa4 bK=>(ed a4 bK).2);have cF:F (dZ=0->er=0/\∀a2∈b8.take (z+1),iP S its a2=true):=A (λh=>by
   obtain⟨o,a8,ac⟩:=e3.out h;obtain⟨b6,bz⟩:=cN.out o;refine⟨b6,λa2 ak=>?_⟩;rw[take_snoc' bV.out] at ak;rcases KQ.1 ak with c4|c4
   ·exact bz a2 c4
   rw[KG] at c4;subst c4;exact a8)
  go_wp2_with fail;exact⟨⟨z+1,dZ,ce++[a0],cA++[[C E a0]],N,ZF,A ⟨by rw[KC,t.out.1];rfl,e1.out⟩,s,cF⟩,YF⟩
 have c0:(b8.length:Int)<=(z:Int):=N;have ai:F (br=0->er=0/\∀a2∈b8,iP S its a2=true):=A (λh=>⟨(cN h).1,λa2 ak=>(cN h).2 a2 (by rw[KN N];exact ak)⟩);have bT:=A (abA t.2);obtain⟨di,bG,rfl⟩:=aB t.2.1;obtain⟨b0,aL,ao,b2,bu,dG,cC,d4,du,dH⟩:=cm.cells;by_cases bS:br=0;rotate_left
 ·have b3:(br !=0)=true:=ZA;have bC:=A bS;clear bS;go_wp2_with fail;go_ret;exact b7.fin bP (λh=>absurd h bC)
 have b3:(br !=0)=false:=ZA;have cP:=A (ai bS);have bC:=A bS;clear bS;have n:F (∀(a0:Int) (X:L) (dZ:Int),KiB Q W g (G bR S.types.length l) (G c3 S.syms.length bj) vi S its dZ #[C E e,G Y b8.length a9,C E M,C E bQ,H bq,H bF,C E ar] X->wfi a0->(dZ=0->(e=23->0<=placeOf S.syms bq)/\aay S its a0 (.mk e b8 M bQ bq bF ar))->KiP Q g (G bR S.types.length l) (G c3 S.syms.length bj) vi S its er (.mk e b8 M bQ bq bF ar) W (.returned (C E a0)) X):=A (λa0 X dZ az ah c7=>az.fin ah (λbw=>⟨cP.1,ac' (c7 bw).1 (λh=>by have o:=(c7 bw).2.2.2.2.2 h;rw[o];rfl) cP.2,(c7 bw).2⟩));have b:∀a0:Int,e≠a0->(e== a0)=false:=λa0 h=>by simpa using h
 by_cases dj:e=20
 ·have bh:(e== 20)=true:=by simp[dj]
  have ck:=A dj;clear dj b;go_wp2_with fail;go_ret;exact n _ _ _ b7 (aA Z Z) (λ_=>⟨λh=>Yh,λ_=>rfl,λh=>Yh,λh=>Yh,λh=>Yh,λh=>Yh⟩)
 have P:=b 20 dj;by_cases ba:e=21
 ·have bh:(e== 21)=true:=by simp[ba]
  have ck:=A ba;clear dj ba b;go_wp2_with fail;go_ret;exact n _ _ _ b7 (aA Z Z) (λ_=>⟨λh=>Yh,λh=>Yh,λ_=>rfl,λh=>Yh,λh=>Yh,λh=>Yh⟩)
 have ew:=b 21 ba;by_cases cG:e=22
 ·have bh:(e== 22)=true:=by simp[cG]
  have ck:=A cG;clear dj ba cG b;go_wp2_with fail;go_ret;exact n _ _ _ b7 (aA Z Z) (λ_=>⟨λh=>Yh,λh=>Yh,λh=>Yh,λ_=>rfl,λh=>Yh,λh=>Yh⟩)
 have R:=b 22 cG;by_cases dz:e=23
 ·have bh:(e== 23)=true:=by simp[dz]
  have ck:=A dz;clear dj ba cG dz b;go_upto_region 16 with fail;obtain⟨b4,bg⟩:∃b4,b4=World.drew wr:=⟨_,D⟩;have bV:=A (show KiB Q W g (G bR S.types.length l) (G c3 S.syms.length bj) vi S its br #[C E e,G Y b8.length a9,C E M,C E bQ,H bq,H bF,C E ar] b4 by rw[bg];exact b7.more (JY.drew));have f:F (b4.cell? ⟨g,1,I⟩=J (G c3 S.syms.length bj)/\b4.cell? ⟨W.heap.size,4,I⟩=J (H bq)):=A (by obtain⟨eE,bb⟩:=bV.st;exact⟨bb.cells.2.1,bV.box.cell 4⟩);have e8:F (bU 1 zG b4 (G c3 S.syms.length bj) S.syms/\S.syms.length<=1000):=A (by obtain⟨eE,bb⟩:=bV.st;exact⟨bb.Dt.out.syms,Ko bb.ok.syms Z⟩);clear b0 aL ao b2 bu dG cC d4 du dH al am ax aW T bi bM a5 a6 aq aZ aO be bI;refine aG (λX=>X.cell? ⟨g,1,I⟩=J (G c3 S.syms.length bj)/\X.cell? ⟨W.heap.size,4,I⟩=J (H bq)) (λa4=>!([0,1,2,3,4,5,6,7,8]:List Nat).contains a4) U ?_;rw[<-bg];clear bg;refine tl 0 f ?_;refine tl 1 f ?_;refine tl 2 f ?_;refine tl 3 f ?_;refine tl 4 f ?_;refine tl 5 f ?_;refine tl 6 f ?_;refine t1 7 λK j=>?_;go_simp;go_wp2_with (go_at_call 98;refine(aaX e8.1 e8.2 bq).mono ?_;rintro a7 bt ⟨rfl,d⟩);have bs:=A (bV.more d);have f:F (bt.cell? ⟨g,1,I⟩=J (G c3 S.syms.length bj)/\bt.cell? ⟨W.heap.size,4,I⟩=J (H bq)):=A (by obtain⟨eE,bb⟩:=bs.st;exact⟨bb.cells.2.1,bs.box.cell 4⟩);clear d;(refine j.out _ _ (λ_=>f) ?_;clear j K);refine tl 8 f ?_;refine td ?_;try simp only[Exit.then]
  go_simp;rcases ey:decide (placeOf S.syms bq < 0) with _|_
  ·have cb:F (0<=placeOf S.syms bq):=A (by have:=Lr ey;omega);go_wp2_with fail;go_ret;exact n _ _ _ bs (aA Z Z) (λ_=>⟨λ_=>cb,λh=>Yh,λh=>Yh,λh=>Yh,λ_=>rfl,λh=>Yh⟩)
  obtain⟨al,am,ax,aW,T,bi,bM,a5,a6,aq,aZ,aO,be,bI⟩:=aK bs.box;obtain⟨eE,bO⟩:=bs.st;have q:=A (iZ bO 10 ar Z);clear bO;go_wp2_with fail;refine q.mono ?_;rintro a7 cU ⟨k,au,rfl,bm,ab,cf⟩;have d6:=A bm;have cJ:=A (bs.next ab cf);clear bm ab cf al am ax aW T bi bM a5 a6 aq aZ aO be bI;go_wp2_with fail;go_ret;exact n _ _ _ cJ (aA Z Z) (λh=>absurd h d6)
 have eA:=b 23 dz;by_cases a':24<=e
 ·have ck:=A a';have v:=A (Jy cm (iD.keep fx (aF.aS b7.grown λy d a7=>(ae.out.off y d).1 Zj) λ_ h=>h));clear dj ba cG dz b;go_wp2_with fail;refine v.mono ?_;rintro a7 cU ⟨a0,k,au,rfl,bE,ab,cf,m⟩;have cJ:=A (b7.next ab cf);have aJ:=A bE;have B:=A m;clear bE ab cf m al am ax aW T bi bM a5 a6 aq aZ aO be bI b0 aL ao b2 bu dG cC d4 du dH;go_wp2_with fail;go_ret;exact n _ _ _ cJ aJ (λh=>⟨λh=>Yh,λh=>Yh,λh=>Yh,λh=>Yh,λh=>Yh,λ_=>(B h).2⟩)
 have ck:=A (show e≠20/\e≠21/\e≠22/\e≠23/\¬24<=e from⟨dj,ba,cG,dz,a'⟩);have a1:=A (BA e bT);have aM:F (∀a0,(e=23->0<=placeOf S.syms bq)/\aay S its a0 (.mk e b8 M bQ bq bF ar)):=A (λa0=>⟨λh=>absurd h ck.2.2.2.1,λh=>absurd h ck.1,λh=>absurd h ck.2.1,λh=>absurd h ck.2.2.1,λh=>absurd h ck.2.2.2.1,λh=>absurd h ck.2.2.2.2⟩);clear dj ba cG dz b;go_wp2_with fail;refine a1.mono ?_;rintro a7 cU ⟨a0,rfl,bE,d⟩;have cJ:=A (b7.more d);have aJ:=A bE;clear bE d al am ax aW T bi bM a5 a6 aq aZ aO be bI b0 aL ao b2 bu dG cC d4 du dH;obtain⟨al,am,ax,aW,T,bi,bM,a5,a6,aq,aZ,aO,be,bI⟩:=aK cJ.box;rcases d9:(a0== 0) with _|_
 ·go_wp2_with fail;go_ret;exact n _ _ _ cJ aJ (λ_=>aM a0)
 obtain⟨au,i⟩:=cJ.st;have q:=A (iZ i 11 ar Z);clear i;go_wp2_with fail;refine q.mono ?_;rintro a7 da ⟨aa,ex,rfl,bm,ab,cf⟩;have d6:=A bm;have bL:=A (cJ.next ab cf);clear bm ab cf al am ax aW T bi bM a5 a6 aq aZ aO be bI;go_wp2_with fail;go_ret;exact n _ _ _ bL aJ (λh=>absurd h d6)
section
variable {P:Program} {α:Type} {B' F bytes m:Nat} {t:TypeId} {R:(Nat->Prop)->L->List O->α->Prop} {w2:L} {xs ys:List α} {css':List (List O)} {A:Option Addr}
theorem aei(p:kH P t e F bytes)(f:bZ R){aN:Array Oper}{rest:List Oper}{bl:Oper}{a:Act}{Q:Exit->Act->L->Prop}(cz:bl.guard=I)(s a2:Operand)(br:bl.op=.call {callee:=.builtin .append,args:=#[s,a2],argTypes:=#[t,t]})(cN:Acc B e F R w v xs css)(j:B<=w.heap.size)(d:mZ B w w2)(aH:eF F (R (λb=>w.heap.size<=b/\b < w2.heap.size)) w2 css' ys)(aS:Reads w2 B' F A ys.length css'.flatten)(o:∀u∈css'.flatten,u.oneCell'=true)(V:(xs.length+ys.length)*bytes<=140737488355328)(bL:xs.length+ys.length<=maxLen){a9:Nat}(ag:a.eval s=v)(ak:a.eval a2=G A ys.length a9)(h:∀cl ch b1,Acc B e F R b1 (G cl (xs.length+ys.length) ch) (xs++ys) (css++css')->jk B v w2 b1->wpList P aN Q rest (a.put bl.dst (G cl (xs.length+ys.length) ch)) b1): wpList P aN Q (bl :: rest) a w2:=by
 obtain⟨a3,aA,b3,bh,ca,dc,cY,S,dw⟩:=p;have q:=Fq cN.1 d;have bA:∀ae,v.ownBlock=J ae->ae < w.heap.size/\B<=ae:=λae ab=>aQ cN.1 ab;refine aV _ cz s a2 t br B e a3 aA F bytes b3 bh ca dc cY S dw v xs.length css.flatten ag q B' A ys.length a9 css'.flatten ak aS o bL V (Ko j d.size) λz b1 i ab c8=>?_;obtain⟨cl,ch,rfl⟩:=aB i;refine h cl ch b1 ⟨?_,DN ?_ ?_⟩ ⟨ab,λa0 ah=>(bA a0 ah).2⟩
 ·rw[KC,MN];exact i
 ·have bm:∀b,J b≠v.ownBlock->b < w2.heap.size->J b≠(Value.slice cl (xs.length+ys.length) ch).ownBlock:=λb o a8=>by exact PO
  refine cN.2.keep λbj aa ad=>f _ _ _ _ _ _ ad ?_ λb a1=>⟨a1.1,Kv a1.2.1 (Ko d.size ab.size),bm b a1.2.2 (Kv a1.2.1 d.size)⟩;exact(d.keep λb a1=>a1.1).trans (aF.aS ab λb a1=>a1.2.2)
 have bm:∀b,J b≠v.ownBlock->b < w2.heap.size->J b≠(Value.slice cl (xs.length+ys.length) ch).ownBlock:=λb o a8=>by exact PO
 have g:∀b,w.heap.size<=b->J b≠v.ownBlock:=λb cq e=>by have:=(bA b e.symm).1;omega
 exact aH.keep λbj aa ad=>f _ _ _ _ _ _ ad (aF.aS ab λb a1=>g b a1.1) λb a1=>⟨Ko j a1.1,Kv a1.2 ab.size,bm b (g b a1.1) a1.2⟩
end
def ItR (_:Nat->Prop) (_:L) (cs:List O) (y:dJ):Prop:=cs=(itA y).toList/\ItW y
theorem wY:bZ ItR:=λ_ _ _ _ _ _ h _ _=>h
theorem Jj:kH Tryz.prog 130 193 6 56:=kH.of (z:=.agg (itA zIt)) Tryz.underlying130 U D Z
theorem adq{xs:List dJ}(h:Acc B e 6 ItR w v xs css):bU 6 ItC w v xs:=(h.done wY).out λ_ _ h=>h
theorem uy(its:List dJ)(b:Bool):∀x:ED,(dD its b x).length<=aP x
 | .mk e b8 M bQ bq bF ar=>by
  rw[dD.eq_def,aY]
  simp only[List.length_append,List.length_flatMap]
  have o:(if e=24\/(24 < e/\b=false) then [cO its bq] else []).length<=1:=by split <;> simp
  have a8:∀bP:List ED,(∀a2∈bP,(dD its b a2).length<=aP a2)->(bP.map λa=>(dD its b a).length).sum<=(bP.map aP).sum:=by
   intro bP
   induction bP with
   |nil=>intro _;simp
   |cons a2 bP bf=>
    intro a'
    have ac:=a' a2 ZH
    have b6:=bf λaA cv=>a' aA (by simp[cv])
    simp only[List.map_cons,List.sum_cons]
    omega
  have ac:=a8 b8 λa2 ak=>uy its b a2
  omega
theorem abu{q b:Type}(f:q->List b)(l:List q)(k:Nat):((l.take k).flatMap f).length<=(l.flatMap f).length:=by
 have h:l.flatMap f=(l.take k).flatMap f++(l.drop k).flatMap f:=by rw[<-Nv,Nq]
 rw[h,KC];omega
theorem aeR{aC:List dJ}(h:eF 6 ItC w css aC):∀u∈css.flatten,u.oneCell'=true:=by intro u ap;obtain⟨bj,cM,ap⟩:=List.mem_flatten.1 ap;obtain⟨a3,aR,rfl⟩:=MW cM;obtain⟨a9,o,a8,ac⟩:=h.2 a3 (aC[a3]' YE) (Kr _);rw[Kr aR] at o;injection o with o;rw[o,ac.1] at ap;exact Jq _ u ap
def NmP (its:List dJ) (plain:Bool) (x:ED) (W:L) (e:Ending) (W':L):Prop:=∃v,e=.returned v/\bU 6 ItC W' v (dD its plain x)/\JK W.heap.size W W'
def NmL (W:L) (its:List dJ) (plain:Bool) (hd:List dJ) (bl:Array O) (args:List ED) (v i:O) (wr:L):Prop:=
 ∃(r:Nat) (xs:List dJ) (css:List (List O)),r<=args.length/\i=C E r/\F (Acc (W.heap.size+1) 193 6 ItR wr v xs css)/\F (xs=hd++(args.take r).flatMap (dD its plain))/\F (JK W.heap.size W wr/\aj wr W.heap.size 139 bl)
theorem ac9{d3:Int}{W:L}(h:kV Q g vt vs vi S its er d3 W)(s:ByteArray):ItW (cO its s):=by
 unfold cO;cases aH:iO its s with
 |none=>exact agM
 |some a2=>obtain⟨a3,aR⟩:=List.mem_iff_getElem?.1 (zW aH).1;obtain⟨y,b5,a9,af,_,_,_,bj,a',aS,_⟩:=bU.get (aX.out h.Aq (R':=ItC) λ_ _ h=>h) aR;exact aS.2
theorem AV(b:Bool)(x:ED):∀(er d3:Int) (W:L) (cs':List O),kV Q g vt vs vi S its er d3 W->yX W cs' x->aP x<=100000->Calls Tryz.prog 79 #[.pointer (J ⟨g,0,I⟩),.agg cs'.toArray,JM b] W (NmP its b x W):=by
 refine vG (p:=λx=>∀(er d3:Int) (W:L) (cs':List O),kV Q g vt vs vi S its er d3 W->yX W cs' x->aP x<=100000->Calls Tryz.prog 79 #[.pointer (J ⟨g,0,I⟩),.agg cs'.toArray,JM b] W (NmP its b x W)) ?_ x;intro e M bQ ar bq bF b8 bf er d3 W cs' h ad V;obtain⟨dg,rfl,ag,bN⟩:=ad.opened;obtain⟨Y,a9,rfl,d0,cR⟩:=ag.slice;have f:=A ag;have dF:=A bf;have cw:=A V;have ae:=A h;have db:=A (λX (h:kV Q g vt vs vi S its er d3 X)=>uw h bq);have f8:=A (ac9 h bq);have dB:F (b8.length<=100000):=A (by have o:=nK b8;rw[aY] at V;omega);have eJ:=dB.out;obtain⟨an,bk⟩:∃an,an=W.alloc (JO #[C E e,G Y b8.length a9,C E M,C E bQ,H bq,H bF,C E ar] 139):=⟨_,D⟩;have aV:=A (show JK W.heap.size W an/\aj an W.heap.size 139 #[C E e,G Y b8.length a9,C E M,C E bQ,H bq,H bF,C E ar] by rw[bk];exact⟨JY.alloc c _,aj.new _ _ _⟩);unfold maxLen at cR;clear h bN ad ag bf V;go_in;go_upto_region 1 with fail;rw[<-bk];clear bk;obtain⟨al,am,ax,aW,T,bi,bM,a5,a6,aq,aZ,aO,be,bI⟩:=aK aV.2;go_upto_region 2 with fail;go_cut [22] from 11 to 22 (λbc bn=>∃cx:Bool,bc=JM cx/\F (cx=decide (e=24\/(24 < e/\b=false)))/\an=bn);case first=>
  rcases a':(e== 24) with _|_
  ·rcases b with _|_;all_goals by_cases fy:24 < e
   all_goals go_wp2_with fail
   all_goals(go_meet;exact⟨_,D,A (by simp only[beq_eq_false_iff_ne] at a';simp[a',fy];try omega),D⟩)
  go_wp2_with fail;go_meet;exact⟨_,D,A (by simp only[beq_iff_eq] at a';simp[a']),D⟩
 case rest=>
 obtain⟨cx,rfl,dQ,rfl⟩:=hcut;go_upto_if 22 with fail;go_cut [7] from 23 to 33 (λbc bn=>∃(j:List dJ) (cA:List (List O)),j=(if e=24\/(24 < e/\b=false) then [cO its bq] else [])/\F (Acc (W.heap.size+1) 193 6 ItR bn bc j cA)/\F (JK W.heap.size W bn/\aj bn W.heap.size 139 #[C E e,G Y b8.length a9,C E M,C E bQ,H bq,H bF,C E ar]));case first=>
  rcases cx with _|_
  ·have k:F ((if e=24\/(24 < e/\b=false) then [cO its bq] else [])=[]):=A (JZ (Lr dQ.symm));go_wp2_with fail;go_meet;exact⟨[],[],k.symm,A (Acc.nil _),aV⟩
  have k:F ((if e=24\/(24 < e/\b=false) then [cO its bq] else [])=[cO its bq]):=A (Kq (Lu dQ.symm));go_wp2_with fail;refine(db _ (ae.out.below aV.1)).mono ?_;rintro a7 b1 ⟨rfl,c9⟩;have bb:=Sj;obtain⟨bh,ea⟩:∃bh,bh=cO its bq:=⟨_,D⟩;rw[<-ea];have ev:=A ea;have eO:=A (show ItW bh by rw[ea];exact f8);clear c9 al am ax aW T bi bM a5 a6 aq aZ aO be bI ea;obtain⟨cH,dx,dk,bx,i,ah⟩:=bh;unfold itA;dsimp only;go_upto_region 4 with fail;have cy:=Ti;refine aI (Φ:=λX=>JK b1.heap.size b1 X/\aj X b1.heap.size 193 #[H cH,C E dx,C E dk,C E bx,C E i,C E ah]) ⟨cy,aj.new _ _ _⟩ ?_;intro cX aD;have bp:=A aD;have c4:=A (Kt (bb.1.trans (bp.1.mono bb.1.size)) (bb.2.below bp.1 bb.2.lt));clear aD cy;obtain⟨R,bd,bO,bY,cd,cj,cF,cz,cP,d1,dd,d9⟩:=fK bp.2;have dA:=A (show W.heap.size+1<=cX.heap.size by have:=c4.2.lt;omega);go_wp2_with (at_builtin;refine tV Jj wY D _ _ D (Acc.nil cX) dA.out (mZ.refl _ _) (cs:=(itA ⟨cH,dx,dk,bx,i,ah⟩).toList) (x:=⟨cH,dx,dk,bx,i,ah⟩) D ⟨D,eO.out⟩ (Jq _) Z Z D D ?_;intro cl ch av aR d5;have e1:=A aR;have dU:=A d5;clear aR d5);go_meet;refine⟨[cO its bq],_,k.symm,A (ev▸e1),A ?_⟩;exact⟨dU.app.below _ _ (Ld _) dA c4.1,dU.app.blk _ _ _ XU c4.2⟩
 case rest=>
 obtain⟨j,cA,n,t,b7⟩:=hcut;have ao:F (dD its b (.mk e b8 M bQ bq bF ar)=j++b8.flatMap (dD its b)):=A (by rw[dD.eq_def,n]);have a1:F (∀a0,(j++(b8.take a0).flatMap (dD its b)).length<=100000):=A (λa0=>by have o:=uy its b (.mk e b8 M bQ bq bF ar);have a8:=cw.out;have ac:=abu (dD its b) b8 a0;rw[ao.out,KC] at o;rw[KC];omega);clear n al am ax aW T bi bM a5 a6 aq aZ aO be bI;obtain⟨al,am,ax,aW,T,bi,bM,a5,a6,aq,aZ,aO,be,bI⟩:=aK b7.2;obtain⟨ds,co,rfl⟩:=aB t.1;go_wp2_with fail;clear al am ax aW T bi bM a5 a6 aq aZ aO be bI;go_loopw [7,37] (λbc a3 wr=>NmL W its b j #[C E e,G Y b8.length a9,C E M,C E bQ,H bq,H bF,C E ar] b8 bc a3 wr) (λbc a3 wr=>b8.length-(intOf a3).toNat);case atStart=>exact⟨0,j,cA,Kw _,D,t,A (by rw[List.take_zero,List.flatMap_nil,List.append_nil]),b7⟩
 obtain⟨z,ce,bg,aS,rfl,v,B,c6⟩:=hrel;have ct:(0:Int)<=(z:Int):=N;have cu:(z:Int)<=100000:=N;obtain⟨al,am,ax,aW,T,bi,bM,a5,a6,aq,aZ,aO,be,bI⟩:=aK c6.2;by_cases bA:z < b8.length
 ·have c0:(z:Int) < (b8.length:Int):=N;obtain⟨a2,ak⟩:∃a2,b8[z]? =J a2:=⟨_,Kr bA⟩;have bV:=A ak;have dl:=A (show aP a2<=100000 by have o:=nP ak;have a8:=cw.out;rw[aY] at a8;omega);have dX:=A (dF.out z a2 ak);obtain⟨ca,c8,bD,dc,cV,bW,aw⟩:=a2;obtain⟨y,b5,ch,cl,cW,af,-,-,b',bv,bo,bZ,c5,bG,m,bS⟩:=iW (jr f c6.1) ak;injection af with af _ cS;subst af cS;have e5:=A (dX er d3 wr _ (ae.out.below c6.1) bS dl);obtain⟨di,e4,rfl⟩:=aB v.1;clear bS ak dX;go_wp2_with fail;refine e5.mono ?_;rintro a7 r ⟨eV,rfl,dI,cG⟩;obtain⟨eh,dq,cL,rfl,ef,dC,P,d⟩:=fZ dI;have cc:=A cG;have l:=A P;have q:=A (d Z);have bX:=A (Kt (c6.1.trans (cG.mono c6.1.size)) (c6.2.below cG c6.2.lt));have dA:=A (show W.heap.size+1<=wr.heap.size by have:=c6.2.lt;omega);have ed:=A (λg ab=>aQ (g:=g) v.1 ab);have e8:F (ce.length+(dD its b (.mk ca c8 bD dc cV bW aw)).length<=100000):=A (by have o:=a1.out (z+1);rw[take_snoc' bV.out,Nv,<-LM,KC,<-B.out] at o;simpa using o);obtain⟨aC,eI⟩:∃aC,aC=dD its b (.mk ca c8 bD dc cV bW aw):=⟨_,D⟩;rw[<-eI] at e8 l q;rw[<-eI];have bs:=A eI;clear eI;clear cG dI P d ef dC e5 al am ax aW T bi bM a5 a6 aq aZ aO be bI b' bv bo bZ c5 bG m;go_upto_region 9 with(at_builtin;refine aei Jj wY D _ _ D v.out dA.out (mZ.of_below cc.out) (l.out.keep λ_ _ h=>h) q.out (aeR l.out) (by have:=e8.out;omega) (by have:=e8.out;unfold maxLen;omega) D D ?_;intro cl ch av aR d5;have e1:=A aR;have dU:=A d5;clear aR d5);have s:=A (show JK W.heap.size W av/\aj av W.heap.size 139 _ from⟨dU.app.below _ _ (Ld _) (Ko dA cc.size) bX.1,dU.app.blk _ _ _ (λa7=>by have:=(ed _ a7.symm).2;omega) bX.2⟩);go_wp2_with fail;refine⟨⟨z+1,ce++aC,bg++eh,N,ZF,e1,A ?_,s⟩,YF⟩;rw[take_snoc' bV.out,Nv,<-LM,B.out,bs.out];simp
 have c0:(b8.length:Int)<=(z:Int):=N;have bT:=A (adq v);go_wp2_with fail;go_ret;refine⟨_,D,?_,c6.1⟩;rw[ao.out];have o:=bT.out;rw[KN (show b8.length<=z by omega)] at B;rw[<-B.out];exact o
theorem Gt(a:Int):canon (canon a)=canon a:=by
 unfold canon;by_cases h:9218868437227405312 < a % 9223372036854775808
 ·rw[Kq h];rfl
 rw[JZ h,JZ h]
theorem some_hi{op:BinOp}{x a2 r:Nat}(h:floatBits op .f64 x a2=J r):r<=18446744073709551615:=by have:=floatBits_wf h;simp[Lit.wf] at this;omega
theorem zu{P:Program}(op:BinOp)(ah:op=.add\/op=.sub\/op=.mul\/op=.quo)(x a2:Nat)(w:L): ∃r n:Nat,(∀t,(binOp op t (.float .f64 x) (.float .f64 a2)).run P w=.ok (.float .f64 r) (w.drewN n))/\r<=18446744073709551615:=by
 cases h:floatBits op .f64 x a2 with
 |some r=>exact⟨r,0,λt=>run_float_arith (P:=P) w op t .f64 _ _ _ h,some_hi h⟩
 |none=>
  refine⟨(Question.nanBits .f64 x a2).cut (w.tape w.drawn (Question.nanBits .f64 x a2)),1,λt=>?_,by unfold Question.cut;simp only;omega⟩;unfold floatBits at h;rcases ah with rfl|rfl|rfl|rfl <;> simp only at h;all_goals simp[binOp,Op.floatArith,h,Question.forced]
  all_goals rfl
theorem Fg(a:Int)(w:L):(callFunc 130 #[C JL a]).run Tryz.prog w=.ok (.value (.float .f64 a.toNat)) w:=by rw[run_callFunc_extern (e:=Extern.MathFloatBits.float64frombits) Tryz.func130 U U U U];rfl
theorem aax(a:Nat)(w:L):(callFunc 122 #[.float .f64 a]).run Tryz.prog w=.ok (.value (C JL a)) w:=by rw[run_callFunc_extern (e:=Extern.MathFloatBits.float64bits) Tryz.func122 U U U U];rfl
theorem aam(a:Int)(w:L)(h:oU a):Calls Tryz.prog 120 #[C JL a] w λe w'=>e=.returned (.float .f64 (canon a).toNat)/\w=w':=by obtain⟨bw,o⟩:=tN h;have ad:=Fg;clear h;go_in;go_wp2_with (go_at_call 121;refine(jB _ _ N N).mono ?_;rintro e w' ⟨rfl,rfl⟩);go_ret;exact⟨D,D⟩
def rD (u:Int):Prop:=oU u/\canon u=u
theorem DF{a:Int}(bw:0<=a)(o:a<=18446744073709551615):rD (canon a):=⟨eH.2 ⟨acW a bw,acV a o⟩,Gt a⟩
theorem Je{u:Int}(bw:0<=u)(o:u<=18446744073709551615)(h:u % 9223372036854775808<=9218868437227405312):rD u:=
 ⟨eH.2 ⟨bw,o⟩,by unfold canon;rw[JZ N]⟩
def DoP (w:L) (e:Ending) (w':L):Prop:=∃u:Int,e=.returned (C JL u)/\rD u/\JK w.heap.size w w'
theorem aaW(op a b:Int)(w:L)(aJ:oU a)(d:oU b):Calls Tryz.prog 110 #[C E op,C JL a,C JL b] w (DoP w):=by
 obtain⟨z,M,aS,ae⟩:=zu (P:=Tryz.prog) .add ZH (canon a).toNat (canon b).toNat w;obtain⟨cb,cT,fg,bx⟩:=zu (P:=Tryz.prog) .sub ZH (canon a).toNat (canon b).toNat (w.drewN M);obtain⟨c7,cg,fd,bb⟩:=zu (P:=Tryz.prog) .mul ZH (canon a).toNat (canon b).toNat (w.drewN M);obtain⟨b9,q,e,bX⟩:=zu (P:=Tryz.prog) .quo ZH (canon a).toNat (canon b).toNat (w.drewN M);have ak:=aax;have dv:=A (λ(a0:Nat) (h:a0<=18446744073709551615)=>DF (a:=(a0:Int)) N N);have db:=A (λaa B h=>aam aa B h);have cy:=A aJ;have b7:=A d;clear aJ d;go_in;rcases bh:(op== 2) with _|_
 ·rcases ca:(op== 3) with _|_
  ·rcases dc:(op== 4) with _|_
   ·go_wp2_with (first|(go_at_call 120;refine UO ?_;rintro a7 aF ⟨rfl,rfl⟩)|(go_at_call 121;refine(jB _ _ N N).mono ?_;rintro a7 aF ⟨rfl,rfl⟩));go_ret;exact⟨_,D,dv _ ae,below_drewN JY _⟩
   go_wp2_with (first|(go_at_call 120;refine UO ?_;rintro a7 aF ⟨rfl,rfl⟩)|(go_at_call 121;refine(jB _ _ N N).mono ?_;rintro a7 aF ⟨rfl,rfl⟩));go_ret;exact⟨_,D,dv _ bX,below_drewN JY _⟩
  go_wp2_with (first|(go_at_call 120;refine UO ?_;rintro a7 aF ⟨rfl,rfl⟩)|(go_at_call 121;refine(jB _ _ N N).mono ?_;rintro a7 aF ⟨rfl,rfl⟩));go_ret;exact⟨_,D,dv _ bb,below_drewN JY _⟩
 go_wp2_with (first|(go_at_call 120;refine UO ?_;rintro a7 aF ⟨rfl,rfl⟩)|(go_at_call 121;refine(jB _ _ N N).mono ?_;rintro a7 aF ⟨rfl,rfl⟩));go_ret;exact⟨_,D,dv _ bx,below_drewN JY _⟩
theorem aev(M:Nat)(h:M < 18446744073709551616):bits BinOp.and IntKind.u64 (M:Int) 2047=(M:Int) % 2048:=by rw[u64_and _ 2047 N N Z Z];have:(M:Int).toNat &&& (2047:Int).toNat=(M:Int).toNat % 2 ^ 11:=NG _ 11;rw[this];omega
theorem and_one(M:Nat)(h:M < 18446744073709551616):bits BinOp.and IntKind.u64 ((M:Int) / 2048) 1=(M:Int) / 2048 % 2:=by rw[u64_and _ 1 N N Z Z];have:((M:Int) / 2048).toNat &&& (1:Int).toNat=((M:Int) / 2048).toNat % 2 ^ 1:=NG _ 1;rw[this];omega
theorem aek(n:Int)(V:n < 0)(bw: -9223372036854775808<=n):IntKind.u64.wrap (-(IntKind.u64.wrap n))=(n.natAbs:Nat):=by rw[MZ,MZ];omega
def ahp (w:L) (e:Ending) (w':L):Prop:=∃u:Int,e=.returned (C JL u)/\rD u/\w=w'
theorem BF(n:Int)(w:L)(h:wfi n):Calls Tryz.prog 111 #[C E n] w (ahp w):=by
 obtain⟨bw,o⟩:=ji.1 h;have dI:=A (λu (bw:0<=u) (o:u<=18446744073709551615)=>eH.2 ⟨bw,o⟩);have bP:=A (λu=>kR u);clear h;by_cases cv:n=0
 ·subst cv;go_in;go_wp2_with fail;go_ret;exact⟨_,D,⟨dI _ Z Z,Z⟩,D⟩
 have f3:(n== 0)=false:=by rw[NR];exact cv
 obtain⟨Y,cE,b⟩:∃Y:Nat,Y≠0/\Y=n.natAbs:=⟨_,N,D⟩;have f:Y<=9223372036854775808:=N;go_in;have cy:=A cE;have d:=A b;clear cE b;go_upto_if 13 with fail;go_cut [3,4] from 14 to 15 (λbm ba bn=>∃m:Int,bm=C JL (Y:Nat)/\ba=C JL m/\F (m=0\/m=9223372036854775808)/\w=bn);case first=>
  by_cases V:n < 0
  ·have bN:=aek n V bw;rw[<-d.out] at bN;go_wp2_with fail;go_meet;exact⟨_,D,D,A Z,D⟩
  go_wp2_with fail;go_meet;refine⟨0,?_,D,A Z,D⟩;congr 1;have:=d.out;(try rw[MZ]);omega
 case rest=>
 obtain⟨m,rfl,rfl,dl,rfl⟩:=hcut;go_wp2_with fail;go_loop [3,5] (λbm a7=>∃R a0:Nat,F (R=Y*2 ^ a0)/\R < 18446744073709551616/\a0<=63/\bm=C JL R/\a7=C E (63-a0)) (λ_ a7=>(intOf a7).toNat);case atStart=>exact⟨Y,0,A ZH,N,N,D,D⟩
 obtain⟨R,a0,ca,e,ah,rfl,rfl⟩:=hrel;by_cases bA:R < 9223372036854775808
 ·have c7:((R:Int) / 9223372036854775808== 0)=true:=by rw[beq_iff_eq];omega
  have g:a0 < 63:=by apply Classical.byContradiction;intro h;have:a0=63:=N;subst this;have:=ca.out;have:=cy.out;omega
  go_wp2_with fail;exact⟨⟨R*2,a0+1,A (by rw[ca.out,Nat.pow_succ,Nat.mul_assoc]),N,N,by congr 1,by congr 1;omega⟩,YF⟩
 have c7:((R:Int) / 9223372036854775808== 0)=false:=by rw[NR];omega
 have ct:=aev R e;have c0:=and_one R e;rcases dl with rfl|rfl;all_goals go_wp2_with fail
 all_goals(go_ret;exact⟨_,D,Je N N N,D⟩)
def agb (w:L) (e:Ending) (w':L):Prop:=∃(u:Int) (b:Bool),e=.returned (.tuple #[C JL u,JM b])/\rD u/\JK w.heap.size w w'
theorem Fz(n sc:Int)(w:L)(V:wfi n):Calls Tryz.prog 101 #[C E n,C E sc] w (agb w):=by
 have M:=A (λa0 B h=>BF a0 B h);have aQ:=A (λe a y B o a8=>aaW e a y B o a8);have cw:=A V;have ce:F (rD 0):=A ⟨eH.2 ⟨Z,Z⟩,Z⟩;have eL:=A (aA (a:=10) Z Z);clear V;go_in;go_upto_region 1 with fail;go_cut [21] from 8 to 21 (λbc bn=>∃cx:Bool,bc=JM cx/\F (cx=false->0<=sc/\sc<=15)/\w=bn);case first=>go_wp2_with fail;all_goals(go_meet;exact⟨_,D,A (λh=>by first|exact absurd h Z|(simp at h;omega)|omega),D⟩)
 case rest=>
 obtain⟨cx,rfl,dQ,rfl⟩:=hcut;rcases cx with _|_;rotate_left
 ·go_wp2_with fail;go_ret2;exact⟨_,_,D,ce,Ky _ _⟩
 have s:=dQ.out ZE;obtain⟨g,i⟩:=s;obtain⟨m,rfl⟩:=NM g;go_wp2_with fail;go_loopw [6,7] (λaI a3 wr=>∃(u:Int) (a0:Nat),a0<=m/\aI=C JL u/\a3=C E a0/\F (oU u)/\F (JK w.heap.size w wr)) (λaI a3 wr=>m-(intOf a3).toNat);case atStart=>exact⟨_,0,Kw _,D,D,A (eH.2 ⟨Z,Z⟩),A JY⟩
 obtain⟨u,a0,ah,rfl,rfl,dv,b7⟩:=hrel;have ct:(0:Int)<=(a0:Int):=N;by_cases bA:a0 < m
 ·have c0:(a0:Int) < (m:Int):=N;have cu:(a0:Int)<=15:=N;go_wp2_with fail;refine(M 10 _ eL).mono ?_;rintro a7 b1 ⟨p,rfl,aM,rfl⟩;have d:=A aM.1;clear aM;go_wp2_with fail;refine(aQ 3 u p _ dv d).mono ?_;rintro a7 r ⟨br,rfl,b,cG⟩;have f:=A b.1;have bX:=A (b7.trans (cG.mono b7.size));clear b cG;go_wp2_with fail;exact⟨⟨br,a0+1,N,D,ZF,f,bX⟩,YF⟩
 have c0:(m:Int)<=(a0:Int):=N;go_wp2_with fail;refine(M n _ cw).mono ?_;rintro a7 b1 ⟨p,rfl,aM,rfl⟩;have d:=A aM.1;clear aM;go_wp2_with fail;refine(aQ 4 p u _ d dv).mono ?_;rintro a7 r ⟨br,rfl,b,cG⟩;have f:=A b;have bX:=A (b7.trans (cG.mono b7.size));clear b cG;go_wp2_with fail;go_ret2;exact⟨_,_,D,f,bX.out⟩

import Derived.Test.YtcabmcfnjkeemaaGreatBM00
import Derived.Test.YtcabmcfnjkeemaaGreatB12
set_option maxRecDepth 100000
set_option maxHeartbeats 40000000
set_option linter.unusedVariables false
set_option linter.unusedSimpArgs false
namespace Go.Proofs.YtcabmcfnjkeemaaGreat
open Go.Deep Go.RowKit
open Go renaming World->L,Value->O
open Go.IntKind renaming i64->E
open Go.Obj renaming cells->JO
open Go.RowKit renaming Hid->F,Below->JK
open Go.Value renaming int->C,slice->G,string->H,bool->JM
open Option renaming none->I,some->J
attribute [local go_sem ↓] Go.wp_at_zero Go.wp_at_succ
theorem ac0:kH Tryz.prog 60 139 7 88:=kH.of (z:=.agg #[C E 0,G I 0 0,C E 0,C E 0,H ⟨#[]⟩,H ⟨#[]⟩,C E 0]) Tryz.underlying60 U D Z
variable{w:L}{Q:Nat->Prop}{v:O}
theorem iW{l:List ED}(h:bU 7 (iD Q) w v l){i:Nat}{op n sc at_:Int}{name attr:ByteArray}{args:List ED}(ad:l[i]? =J (.mk op args n sc name attr at_)): ∃b off a9 Y k,v=G (J ⟨b,off,I⟩) l.length a9/\l.length<=a9/\a9<=maxLen/\w.cell? ⟨b,off+i*7,I⟩=J (C E op)/\w.cell? ⟨b,off+i*7+1,I⟩=J (G Y args.length k)/\w.cell? ⟨b,off+i*7+2,I⟩=J (C E n)/\w.cell? ⟨b,off+i*7+3,I⟩=J (C E sc)/\w.cell? ⟨b,off+i*7+4,I⟩=J (H name)/\w.cell? ⟨b,off+i*7+5,I⟩=J (H attr)/\w.cell? ⟨b,off+i*7+6,I⟩=J (C E at_)/\iD Q w [C E op,G Y args.length k,C E n,C E sc,H name,H attr,C E at_] (.mk op args n sc name attr at_):=by obtain⟨b,off,a9,af,o,a8,aR,bj,a',aS,aw⟩:=h.get ad;obtain⟨dg,rfl,⟨Y,k,rfl,-⟩,bN⟩:=iD.opened aS;exact⟨b,off,a9,Y,k,af,o,a8,aw 0 _ D,aw 1 _ D,aw 2 _ D,aw 3 _ D,aw 4 _ D,aw 5 _ D,aw 6 _ D,aS⟩
variable{cs:List O}
theorem ac7{x:ED}(h:iD Q w cs x):∀u∈cs,u.oneCell'=true:=by obtain⟨e,b8,M,bQ,bq,bF,ar⟩:=x;exact Qk
variable{css:List (List O)}
theorem DN{q:Type}{m:Nat}{R:L->List O->q->Prop}{e:List (List O)}{xs aC:List q}(h:eF m R w css xs)(k:eF m R w e aC):eF m R w (css++e) (xs++aC):=by
 refine⟨by simp[h.1,k.1],λa3 aa ad=>?_⟩;rcases KT a3 xs.length with aR|aR
 ·rw[KW aR] at ad;obtain⟨a9,o,a8⟩:=h.2 a3 aa ad;exact⟨a9,VZ,a8⟩
 rw[Lh aR] at ad;obtain⟨a9,o,a8⟩:=k.2 _ aa ad;exact⟨a9,by rw[Lh YK,h.1];exact o,a8⟩
def agt (x:ED) (w:L) (e:Ending) (w':L):Prop:=e=.returned (C E (aP x:Nat))/\JK w.heap.size w w'
theorem abP(x:ED):∀(w:L) (cs:List O),yX w cs x->aP x<=100000->Calls Tryz.prog 67 #[.agg cs.toArray] w (agt x w):=by
 refine vG (p:=λx=>∀(w:L) (cs:List O),yX w cs x->aP x<=100000->Calls Tryz.prog 67 #[.agg cs.toArray] w (agt x w)) ?_ x;intro e M bQ ar bq bF b8 bf w cs h V;obtain⟨dg,rfl,ag,bN⟩:=h.opened;obtain⟨Y,a9,rfl,d0,cR⟩:=ag.slice;have dF:=A bf;have f:=A ag;have cw:=A V;have eJ:b8.length<=100000:=by
  have o:b8.length<=(b8.map aP).sum:=by
   clear ag d0 bf dF f V cw h;induction b8 with
   |nil=>simp
   |cons a bP bf=>simp only[List.length_cons,List.map_cons,List.sum_cons];have:=jw a;omega
  rw[aY] at V;omega
 have dB:=A eJ;obtain⟨an,bk⟩:∃an,an=w.alloc (JO #[C E e,G Y b8.length a9,C E M,C E bQ,H bq,H bF,C E ar] 139):=⟨_,D⟩;have aC:=QY;have cZ:=Ru;clear bf ag V h bN;go_in;go_upto_region 1 with fail;rw[<-bk];clear bk;obtain⟨al,am,ax,aW,T,bi,bM,a5,a6,aq,aZ,aO,be,bI⟩:=aK cZ;go_wp2_with fail;clear al am ax aW T bi bM a5 a6 aq aZ aO be bI;go_loopw [3,8] (λba a3 wr=>∃z b:Nat,z<=b8.length/\ba=C E b/\a3=C E z/\F (JK an.heap.size an wr)/\F (b=1+((b8.take z).map aP).sum)) (λ_ a3 _=>b8.length-(intOf a3).toNat);case atStart=>exact⟨0,1,Kw _,D,D,A JY,A ZH⟩
 obtain⟨z,b,aS,rfl,rfl,cx,bK⟩:=hrel;have ct:(0:Int)<=(z:Int):=N;have cu:(z:Int)<=100000:=N;have b4:=A (cZ.below cx cZ.lt);obtain⟨al,am,ax,aW,T,bi,bM,a5,a6,aq,aZ,aO,be,bI⟩:=aK b4;by_cases bA:z < b8.length
 ·have c0:(z:Int) < (b8.length:Int):=N;obtain⟨a2,ak⟩:∃a2,b8[z]? =J a2:=⟨_,Kr bA⟩;have bV:=A ak;obtain⟨c6,ae,af,b5,bb,cn,bs⟩:=a2;have d6:=jr f (aC.trans (cx.mono aC.size));obtain⟨bE,g,bG,q,X,_,_,b',bv,bo,bZ,c5,e4,co,dI,ac⟩:=abr d6 ak;injection X with X _ l;subst X l;obtain⟨di,aJ,rfl,_,_⟩:=dI.slice;have i:yX wr [C E c6,G di ae.length aJ,C E af,C E b5,H bb,H cn,C E bs] (.mk c6 ae af b5 bb cn bs):=by
   obtain⟨aN,bO,m,k,_,_,t,cy,aT,d,aQ⟩:=d6.get ak;injection k with k;injection k with k;injection k with b3 bh;subst b3 bh;have a7:cy=[C E c6,G di ae.length aJ,C E af,C E b5,H bb,H cn,C E bs]:=by obtain⟨r,rfl,-⟩:=yX.opened d;have aD:=aQ 1 _ D;rw[bv] at aD;injection aD with aD;rw[aD]
   rw[a7] at d;exact d
  have ao:=mG aP ak;have j:=pO aP b8 (z+1);have e8:=A (Kt ao j);have aX:=A (dF.out z _ ak wr _ i (by have o:=cw.out;rw[aY] at o;omega));clear i d6 dI ao j ak;have R:F ((1+((b8.take z).map aP).sum)+aP (.mk c6 ae af b5 bb cn bs)<=100000):=A (by have o:=cw.out;have a8:=e8.out;rw[aY] at o;omega);go_wp2_with fail;refine aX.mono ?_;rintro a7 b1 ⟨rfl,c9⟩;have cj:=A (cx.trans (c9.mono cx.size));clear c9 al am ax aW T bi bM a5 a6 aq aZ aO be bI b' bv bo bZ c5 e4 co;obtain⟨bR,cF⟩:∃bR:Nat,bR=aP (.mk c6 ae af b5 bb cn bs):=⟨_,D⟩;rw[<-cF];have n:=A cF;have cz:(b:Int)+(bR:Int)<=100000:=by have o:=R.out;have a8:=bK.out;rw[<-cF] at o;omega
  have cP:(0:Int)<=(b:Int):=N;have d1:(0:Int)<=(bR:Int):=N;clear cF;go_wp2_with fail;go_roundw;have bC:F (b+bR=1+((b8.take (z+1)).map aP).sum):=A (by rw[e8.1,bK.out,n.out];omega);case rel=>
   first
   |exact⟨z+1,b+bR,N,ZF,ZF,cj,bC⟩
   |((repeat apply KL);exact⟨⟨z+1,b+bR,N,ZF,ZF,cj,bC⟩,D⟩)
  simp[intOf];omega
 have cr:(b8.length:Int)<=(z:Int):=N;go_wp2_with fail;go_ret;refine⟨?_,aC.trans (cx.mono aC.size)⟩;show Ending.returned (C E (b:Int))=_;rw[aY,bK.out,KN N]
def agf (Q:Nat->Prop) (x:ED) (w:L) (e:Ending) (w':L):Prop:=∃(v:O) (l:List ED) (css:List (List O)),e=.returned v/\w'.ownsRow w.heap.size 139 7 v l.length css.flatten/\eF 7 (iD Q) w' css l/\(l.map aP).sum<=aP x/\l.length<=aP x/\JK w.heap.size w w'
theorem Gx(Q:Nat->Prop)(x:ED):∀(w:L) (cs:List O),(∀b,Q b->b < w.heap.size)->iD Q w cs x->pR x->aP x<=100000->Calls Tryz.prog 64 #[.agg cs.toArray] w (agf Q x w):=by
 refine vG (p:=λx=>∀(w:L) (cs:List O),(∀b,Q b->b < w.heap.size)->iD Q w cs x->pR x->aP x<=100000->Calls Tryz.prog 64 #[.agg cs.toArray] w (agf Q x w)) ?_ x;intro e M bQ ar bq bF b8 bf w cs n h ai V;have cH:=A h;have eS:=A n;clear n;obtain⟨dg,rfl,ag,bN⟩:=h.opened;obtain⟨Y,a9,rfl,d0,cR,ec⟩:=ag;have ag:bU 7 (iD Q) w (G Y b8.length a9) b8:=aX.out (Q:=Q) ⟨Y,a9,D,d0,cR,ec⟩ λ_ _ h=>h;obtain⟨_,_,_,_,_,_,_,W,ft⟩:=ai;have dF:=A bf;have f:=A ag;have cw:=A V;have bm:=A ft;obtain⟨an,bk⟩:∃an,an=w.alloc (JO #[C E e,G Y b8.length a9,C E M,C E bQ,H bq,H bF,C E ar] 139):=⟨_,D⟩;have aC:=QY;have cZ:=Ru;clear bf ag V h bN ft;go_in;go_upto_region 1 with fail;rw[<-bk];clear bk;obtain⟨al,am,ax,aW,T,bi,bM,a5,a6,aq,aZ,aO,be,bI⟩:=aK cZ;by_cases b2:e=13
 ·have cV:(e !=13)=false:=by simp[b2]
  have bC:=A (W b2);have dC:(b8.length:Int)=2:=by have:=W b2;omega
  clear W b2;go_upto_region 3 with fail;obtain⟨R,bd,rfl⟩:∃R bd,b8=[R,bd]:=by
   match b8,bC with
   | [R,bd],_=>exact⟨R,bd,D⟩
  obtain⟨l,q,aa,t,cl,c7,bJ⟩:=R;obtain⟨r,v,cq,y,S,s,bD⟩:=bd;clear dC;have dE:bU 7 (iD Q) an _ _:=bU.keep f (bW.of_below aC) λ_ _ h=>h.keep (aF.of_below aC eS) λ_ h=>h;obtain⟨bE,g,aJ,ad,b0,X,-,-,af,ao,ap,au,az,aD,aE,bn⟩:=iW dE (i:=0) D;injection X with X _ b7;subst X b7;obtain⟨aN,bO,bV,dw,aL,k,-,-,aV,aM,aS,aT,aU,b1,b5,eh⟩:=iW dE (i:=1) D;injection k with k _ _;injection k with k;injection k with b3 bh;subst b3 bh;simp only[Nat.zero_mul,Nat.add_zero,Nat.one_mul] at af ao ap au az aD aE aV aM aS aT aU b1 b5;have bj:=A bn;have bx:=A eh;have aA:F (([(.mk l q aa t cl c7 bJ),(.mk r v cq y S s bD)]:List ED)[0]? =J (.mk l q aa t cl c7 bJ)):=A D;have d6:F (([(.mk l q aa t cl c7 bJ),(.mk r v cq y S s bD)]:List ED)[1]? =J (.mk r v cq y S s bD)):=A D;have a0:F (aP (.mk e [(.mk l q aa t cl c7 bJ),(.mk r v cq y S s bD)] M bQ bq bF ar)=1+aP (.mk l q aa t cl c7 bJ)+aP (.mk r v cq y S s bD)):=A (by rw[aY];simp;omega);have a1:∀(B:L),JK an.heap.size an B->B.cell? ⟨w.heap.size,1,I⟩=J (G (J ⟨bE,g,I⟩) 2 a9)/\B.cell? ⟨bE,g,I⟩=J (C E l)/\B.cell? ⟨bE,g+1,I⟩=J (G ad q.length b0)/\B.cell? ⟨bE,g+2,I⟩=J (C E aa)/\B.cell? ⟨bE,g+3,I⟩=J (C E t)/\B.cell? ⟨bE,g+4,I⟩=J (H cl)/\B.cell? ⟨bE,g+5,I⟩=J (H c7)/\B.cell? ⟨bE,g+6,I⟩=J (C E bJ)/\B.cell? ⟨bE,g+7,I⟩=J (C E r)/\B.cell? ⟨bE,g+7+1,I⟩=J (G dw v.length aL)/\B.cell? ⟨bE,g+7+2,I⟩=J (C E cq)/\B.cell? ⟨bE,g+7+3,I⟩=J (C E y)/\B.cell? ⟨bE,g+7+4,I⟩=J (H S)/\B.cell? ⟨bE,g+7+5,I⟩=J (H s)/\B.cell? ⟨bE,g+7+6,I⟩=J (C E bD):=λB d=>⟨(cZ.below d cZ.lt).cell 1,(d.cell (ay af)).trans af,(d.cell (ay ao)).trans ao,(d.cell (ay ap)).trans ap,(d.cell (ay au)).trans au,(d.cell (ay az)).trans az,(d.cell (ay aD)).trans aD,(d.cell (ay aE)).trans aE,(d.cell (ay aV)).trans aV,(d.cell (ay aM)).trans aM,(d.cell (ay aS)).trans aS,(d.cell (ay aT)).trans aT,(d.cell (ay aU)).trans aU,(d.cell (ay b1)).trans b1,(d.cell (ay b5)).trans b5⟩;clear bn eh dE af ao ap au az aD aE aV aM aS aT aU b1 b5 al am ax aW T bi bM a5 a6 aq aZ aO be bI;have bP:=A a1;clear a1;have a1:=bP;obtain⟨b4,bg⟩:∃b4,b4=World.drew an:=⟨_,D⟩;have P:F (JK an.heap.size an b4):=A XP;have f:F (b4.cell? ⟨w.heap.size,1,I⟩=J (G (J ⟨bE,g,I⟩) 2 a9)/\b4.cell? ⟨bE,g,I⟩=J (C E l)/\b4.cell? ⟨bE,g+1,I⟩=J (G ad q.length b0)/\b4.cell? ⟨bE,g+2,I⟩=J (C E aa)/\b4.cell? ⟨bE,g+3,I⟩=J (C E t)/\b4.cell? ⟨bE,g+4,I⟩=J (H cl)/\b4.cell? ⟨bE,g+5,I⟩=J (H c7)/\b4.cell? ⟨bE,g+6,I⟩=J (C E bJ)/\b4.cell? ⟨bE,g+7,I⟩=J (C E r)/\b4.cell? ⟨bE,g+7+1,I⟩=J (G dw v.length aL)/\b4.cell? ⟨bE,g+7+2,I⟩=J (C E cq)/\b4.cell? ⟨bE,g+7+3,I⟩=J (C E y)/\b4.cell? ⟨bE,g+7+4,I⟩=J (H S)/\b4.cell? ⟨bE,g+7+5,I⟩=J (H s)/\b4.cell? ⟨bE,g+7+6,I⟩=J (C E bD)):=A (a1.out b4 P);refine aG (λB=>B.cell? ⟨w.heap.size,1,I⟩=J (G (J ⟨bE,g,I⟩) 2 a9)/\B.cell? ⟨bE,g,I⟩=J (C E l)/\B.cell? ⟨bE,g+1,I⟩=J (G ad q.length b0)/\B.cell? ⟨bE,g+2,I⟩=J (C E aa)/\B.cell? ⟨bE,g+3,I⟩=J (C E t)/\B.cell? ⟨bE,g+4,I⟩=J (H cl)/\B.cell? ⟨bE,g+5,I⟩=J (H c7)/\B.cell? ⟨bE,g+6,I⟩=J (C E bJ)/\B.cell? ⟨bE,g+7,I⟩=J (C E r)/\B.cell? ⟨bE,g+7+1,I⟩=J (G dw v.length aL)/\B.cell? ⟨bE,g+7+2,I⟩=J (C E cq)/\B.cell? ⟨bE,g+7+3,I⟩=J (C E y)/\B.cell? ⟨bE,g+7+4,I⟩=J (H S)/\B.cell? ⟨bE,g+7+5,I⟩=J (H s)/\B.cell? ⟨bE,g+7+6,I⟩=J (C E bD)) (λa4=>!([0,1,2,3,4,5,6,7,8,9,10]:List Nat).contains a4) U ?_;rw[<-bg];clear bg;refine tl 0 f ?_;refine tl 1 f ?_;refine tl 2 f ?_;refine tl 3 f ?_;refine tl 5 f ?_;refine tl 6 f ?_;refine tl 7 f ?_;refine tl 8 f ?_;refine t1 4 λK j=>?_;go_simp;go_wp2_with (go_at_call 64;refine(dF.out 0 _ aA b4 _ (λb d=>Kv (eS b d) (Ko aC.size P.size)) (bj.keep (aF.of_below P λb d=>Kv (eS b d) aC.size) λ_ h=>h) (bm _ (Kz aA)) VW).mono ?_;rintro a7 av ⟨df,d8,em,rfl,br,aH,V,a',d⟩);obtain⟨bo,c',rfl⟩:=aB br;have d2:=A br;have cA:=A (Kt aH (Kt V a'));have ae:=A d;clear br aH V a' d;have bR:=A (P.trans (ae.mono P.size));have f:F (av.cell? ⟨w.heap.size,1,I⟩=J (G (J ⟨bE,g,I⟩) 2 a9)/\av.cell? ⟨bE,g,I⟩=J (C E l)/\av.cell? ⟨bE,g+1,I⟩=J (G ad q.length b0)/\av.cell? ⟨bE,g+2,I⟩=J (C E aa)/\av.cell? ⟨bE,g+3,I⟩=J (C E t)/\av.cell? ⟨bE,g+4,I⟩=J (H cl)/\av.cell? ⟨bE,g+5,I⟩=J (H c7)/\av.cell? ⟨bE,g+6,I⟩=J (C E bJ)/\av.cell? ⟨bE,g+7,I⟩=J (C E r)/\av.cell? ⟨bE,g+7+1,I⟩=J (G dw v.length aL)/\av.cell? ⟨bE,g+7+2,I⟩=J (C E cq)/\av.cell? ⟨bE,g+7+3,I⟩=J (C E y)/\av.cell? ⟨bE,g+7+4,I⟩=J (H S)/\av.cell? ⟨bE,g+7+5,I⟩=J (H s)/\av.cell? ⟨bE,g+7+6,I⟩=J (C E bD)):=A (a1.out av bR);(refine j.out _ _ (λ_=>f) ?_;clear j K);refine t1 9 λK j=>?_;go_simp;go_wp2_with (go_at_call 64;refine(dF.out 1 _ d6 av _ (λb d=>Kv (eS b d) (Ko aC.size (P.trans (ae.mono P.size)).size)) (bx.keep (aF.of_below (P.trans (ae.mono P.size)) λb d=>Kv (eS b d) aC.size) λ_ h=>h) (bm _ (Kz d6)) VW).mono ?_;rintro a7 bt ⟨dY,cX,bp,rfl,br,aH,V,a',d⟩);obtain⟨aI,dS,rfl⟩:=aB br;have ba:=A br;have ce:=A (Kt aH (Kt V a'));have b9:=A d;clear br aH V a' d;have bb:=A (P.trans ((ae.trans (b9.mono ae.size)).mono P.size));have f:F (bt.cell? ⟨w.heap.size,1,I⟩=J (G (J ⟨bE,g,I⟩) 2 a9)/\bt.cell? ⟨bE,g,I⟩=J (C E l)/\bt.cell? ⟨bE,g+1,I⟩=J (G ad q.length b0)/\bt.cell? ⟨bE,g+2,I⟩=J (C E aa)/\bt.cell? ⟨bE,g+3,I⟩=J (C E t)/\bt.cell? ⟨bE,g+4,I⟩=J (H cl)/\bt.cell? ⟨bE,g+5,I⟩=J (H c7)/\bt.cell? ⟨bE,g+6,I⟩=J (C E bJ)/\bt.cell? ⟨bE,g+7,I⟩=J (C E r)/\bt.cell? ⟨bE,g+7+1,I⟩=J (G dw v.length aL)/\bt.cell? ⟨bE,g+7+2,I⟩=J (C E cq)/\bt.cell? ⟨bE,g+7+3,I⟩=J (C E y)/\bt.cell? ⟨bE,g+7+4,I⟩=J (H S)/\bt.cell? ⟨bE,g+7+5,I⟩=J (H s)/\bt.cell? ⟨bE,g+7+6,I⟩=J (C E bD)):=A (a1.out bt bb);(refine j.out _ _ (λ_=>f) ?_;clear j K);refine t1 10 λK j=>?_;obtain⟨dy,bS,bs,bu,bv,bw,bB,bG,bH⟩:=ac0;refine iV _ (by rfl) (.tmp 12) (.tmp 17) 60 (by rfl) b4.heap.size 139 dy bS 7 88 bs bu bv bw bB bG bH (G bo d8.length c') d8.length em.flatten (by rfl) (own_below d2 b9) bt.heap.size aI cX.length dS bp.flatten (by rfl) (Reads.JG ba) (lX ce.1 λ_ _ h=>ac7 h) (by have o:=cw.out;have a8:=a0.out;have ac:=cA.2.2;have b6:=ce.2.2;unfold maxLen;omega) (by have o:=cw.out;have a8:=a0.out;have ac:=cA.2.2;have b6:=ce.2.2;omega) (Ko ae.size b9.size) ?_;intro z cU br ab c8;obtain⟨bX,bc⟩:∃m,m=d8.length+cX.length:=⟨_,D⟩;rw[<-bc] at br;obtain⟨cT,aw,rfl⟩:=aB br;have eP:=A bc;have ck:=A br;have dj:=A ab;clear br ab c8 bc bs bu bv bw bB bG bH;have bK:=A (show JK an.heap.size an cU from bb.grown dj (by have a8:=bb.size;omega) λah bl=>by have a8:=P.size;have ac:=(aQ d2 bl).2;omega);have f:F (cU.cell? ⟨w.heap.size,1,I⟩=J (G (J ⟨bE,g,I⟩) 2 a9)/\cU.cell? ⟨bE,g,I⟩=J (C E l)/\cU.cell? ⟨bE,g+1,I⟩=J (G ad q.length b0)/\cU.cell? ⟨bE,g+2,I⟩=J (C E aa)/\cU.cell? ⟨bE,g+3,I⟩=J (C E t)/\cU.cell? ⟨bE,g+4,I⟩=J (H cl)/\cU.cell? ⟨bE,g+5,I⟩=J (H c7)/\cU.cell? ⟨bE,g+6,I⟩=J (C E bJ)/\cU.cell? ⟨bE,g+7,I⟩=J (C E r)/\cU.cell? ⟨bE,g+7+1,I⟩=J (G dw v.length aL)/\cU.cell? ⟨bE,g+7+2,I⟩=J (C E cq)/\cU.cell? ⟨bE,g+7+3,I⟩=J (C E y)/\cU.cell? ⟨bE,g+7+4,I⟩=J (H S)/\cU.cell? ⟨bE,g+7+5,I⟩=J (H s)/\cU.cell? ⟨bE,g+7+6,I⟩=J (C E bD)):=A (a1.out cU bK);(refine j.out _ _ (λ_=>f) ?_;clear j K);refine t1 11 λK j=>?_;go_simp;(refine TS ?_;clear j K);refine td ?_;try simp only[Exit.then]
  go_wp2_with fail;go_ret;have bA:∀ah,(Value.slice bo d8.length c').ownBlock=J ah->b4.heap.size<=ah:=λah bl=>(aQ d2 bl).2;have bL:aF Q bt cU:=aF.aS dj λb d a7=>by have o:=bA b a7.symm;have a8:=eS.out b d;have ac:=aC.size;have b6:=P.size;omega
  have bT:aF Q av bt:=aF.of_below b9 λb d=>by have a8:=eS.out b d;have ac:=aC.size;have b6:=P.size;have bz:=ae.size;omega
  refine⟨_,d8++cX,em++bp,D,?_,?_,?_,?_,?_⟩
  ·rw[KC,<-eP.out,MN];exact ku ck (by have o:=aC.size;have a8:=P.size;omega)
  ·refine DN (cA.1.keep λcs x h=>?_) (ce.1.keep λcs x h=>?_)
   ·exact h.keep (bT.trans bL) λ_ h=>h
   exact h.keep bL λ_ h=>h
  ·rw[KX,LD];have a8:=a0.out;have ac:=cA.2.1;have b6:=ce.2.1;omega
  ·rw[KC];have a8:=a0.out;have ac:=cA.2.2;have b6:=ce.2.2;omega
  exact aC.trans (bK.mono aC.size)
 have cV:(e !=13)=true:=by simp[b2]
 clear W b2;go_wp2_with fail;go_ret;refine⟨_,[.mk e b8 M bQ bq bF ar],[[C E e,G Y b8.length a9,C E M,C E bQ,H bq,H bF,C E ar]],D,?_,?_,ZH,jw _,aC.alloc aC.size _⟩
 ·refine World.ownsRow_lit an #[C E e,G Y b8.length a9,C E M,C E bQ,H bq,H bF,C E ar] 1 aC.size Z D
 refine⟨D,λa3 a2 ak=>?_⟩;have aR:=(KA.1 ak).1;have:a3=0:=YZ;subst this;simp at ak;subst ak;exact⟨_,D,D,cH.keep (aF.of_below (aC.alloc aC.size _) eS) λ_ h=>h⟩
variable{rest:List O}{toks:List dI}{g:Nat}{t:TypeId}{S:fV}
theorem abY(h:eP w g t v toks S rest)(n:Int)(V:n≠0):Calls Tryz.prog 65 #[.pointer (J ⟨g,0,I⟩),C E n] w (afo w g t v toks S rest):=by
 have db:=A (λB (h:eP B g t v toks S rest)=>kK h n V);have ae:=A h;obtain⟨b0,aL,ao,b2,bu,a5,a6,aq,aZ,aO⟩:=h.cells;clear h V;go_in;rcases bS:(S.er== 0) with _|_
 ·go_wp2_with fail;go_end0;exact⟨D,S,bT.refl ae.out⟩
 go_wp2_with fail;refine(db _ ae.out).mono ?_;rintro a7 ce ⟨rfl,cw,ar,-,ai⟩;go_wp2_with fail;go_end0;exact⟨D,_,ai⟩
variable{b:Nat}
theorem yH{off a9:Nat}{i:Nat}{x:dI}(h:eP w g t (G (J ⟨b,off,I⟩) toks.length a9) toks S rest)(ad:toks[i]? =J x): w.cell? ⟨b,off+i*5,I⟩=J (C E x.kind)/\w.cell? ⟨b,off+i*5+1,I⟩=J (H x.text)/\w.cell? ⟨b,off+i*5+2,I⟩=J (C E x.n)/\w.cell? ⟨b,off+i*5+3,I⟩=J (C E x.scale)/\w.cell? ⟨b,off+i*5+4,I⟩=J (C E x.at_):=by obtain⟨Y,ch,af,-,-,ac⟩:=h.tok;obtain⟨aY,de,rfl,-,aw⟩:=ac (by have:=(KA.1 ad).1;omega);injection af with af _ _;injection af with af;injection af with b3 bh;subst b3 bh;obtain⟨bj,a',⟨rfl,-⟩,aB⟩:=aw i _ ad;exact⟨aB 0 _ D,aB 1 _ D,aB 2 _ D,aB 3 _ D,aB 4 _ D⟩
theorem Ez(h:eP w g t v toks S rest):Calls Tryz.prog 66 #[.pointer (J ⟨g,0,I⟩)] w (agq w g t v toks S rest):=by
 have db:=A (λB (h:eP B g t v toks S rest)=>abY h 13 Z);have ae:=A h;obtain⟨b0,aL,ao,b2,bu,R,bd,bO,bY,cd⟩:=h.cells;obtain⟨aa,y,b5,a9,ad,bN,af,o,a8,b',bv,bo,bZ,c5⟩:=h.cur;have dz:=h.idxs;have ct:(0:Int)<=(S.i:Int):=N;have c0:(S.i:Int) < (toks.length:Int):=Yx;have q:=A (Kt ad bN);have b7:=A (show y < g by obtain⟨Y,ch,M,-,-,ac⟩:=h.tok;obtain⟨aY,de,cE,a1,-⟩:=ac Yx;rw[af] at M;injection M with M;rw[cE] at M;injection M with M;injection M with b3 bh;rw[b3];exact a1);subst af;unfold maxLen at a8;clear h ad bN;go_in;go_upto_region 1 with fail;go_cut [24] (λz bn=>∃(d2:Bool) (nq:Nat),z=JM d2/\F (d2=false->aa.kind=2)/\bn=w.drewN nq);case first=>
  refine MO U U ?_;repeat (any_goals(first|go_big_quiet_step (fail)|quiet_step (fail)|(refine MP (λK j=>?_);go_simp;split <;> (refine j _ ?_;clear j K))))
  all_goals(refine MQ ?_;intro _ ab;obtain⟨nq,b4⟩:=ab;subst b4)
  all_goals go_wp2_with fail
  all_goals(go_meet;first|exact⟨_,_,D,A (λh=>ZC),D⟩|exact⟨_,_,D,A (λh=>Zh),D⟩)
 obtain⟨d2,nq,rfl,e3,aG⟩:=hcut;have b:JK w.heap.size w wc:=by rw[aG];exact below_drewN JY _
 have aV:=A (ae.out.below b);have e:=A (bT.of_below ae.out b);clear aG b;clear b0 aL ao b2 bu R bd bO bY cd b' bv bo bZ c5;cases d2 with
 |true=>go_wp2_with fail;refine(db _ aV).mono ?_;rintro a7 ce ⟨rfl,a2,ai⟩;go_wp2_with fail;go_ret;exact⟨_,D,Kw _,a2,e.out.trans ai⟩
 |false=>
  have bH:=A (ae.out.ok.more q.1 (by rw[e3.out D];decide));have bv:=(aV.cur);obtain⟨k,aY,de,ch,d,ab,M,am,a6,c',dS,dD,e0,d7⟩:=bv;have ak:k=aa:=by have:=q.1;rw[d] at this;injection this
  injection M with M _ el;injection M with M;injection M with b3 bh;subst ak b3 bh el;obtain⟨b0,aL,ao,b2,bu,R,bd,bO,bY,cd⟩:=aV.cells;go_upto_region 5 with fail;have ac:=aV.rH (n:=S.i+1) bH;have bb:=A ac;have x:=A (e.out.trans ⟨ac,grownBy_set _ _ _ _,Ld _⟩);clear ac;refine aI (Φ:=λB=>bT w g t (G (J ⟨y,b5,I⟩) toks.length a9) toks S {S with i:=S.i+1} rest B) x.out ?_;intro e8 bz;have s:=A bz;clear bz b0 aL ao b2 bu R bd bO bY cd c' dS dD e0 d7;obtain⟨b0,aL,ao,b2,bu,R,bd,bO,bY,cd⟩:=s.st.cells;have be:=A (yH s.st q.1);have dS:=be.2.1;have aU:IntKind.i64.wrap (((S.i:Int)+1)-1)=(S.i:Int):=Zl;refine MO U U ?_;repeat (any_goals(first|go_big_quiet_step (fail)|quiet_step (fail)|(refine MP (λK j=>?_);go_simp;split <;> (refine j _ ?_;clear j K))))
  all_goals(refine MQ ?_;intro _ ab;obtain⟨nq,b4⟩:=ab;subst b4)
  go_wp2_with fail;go_ret;exact⟨_,D,q.2.2.1,_,s.below (below_drewN JY _)⟩
structure nZ where
 form:Int
 ty:ByteArray
 name:ByteArray
 at_:Int
def zh (x:nZ):Array O:=#[C E x.form,H x.ty,H x.name,C E x.at_]
def aem (x:nZ):Prop:=wfi x.form/\x.ty.size<=4000/\x.name.size<=4000/\wfi x.at_
def zI:Array O:=#[C E 0,H ⟨#[]⟩,H ⟨#[]⟩,C E 0]
theorem oC{bJ bD bs e:O}(h:aj w g t #[bJ,bD,bs,e]): w.cell? ⟨g,0,I⟩=J bJ/\w.cell? ⟨g,1,I⟩=J bD/\w.cell? ⟨g,2,I⟩=J bs/\w.cell? ⟨g,3,I⟩=J e/\w.frozen? ⟨g,0,I⟩=false/\w.frozen? ⟨g,1,I⟩=false/\w.frozen? ⟨g,2,I⟩=false/\w.frozen? ⟨g,3,I⟩=false:=
 ⟨h.cell 0,h.cell 1,h.cell 2,h.cell 3,h.frozen 0,h.frozen 1,h.frozen 2,h.frozen 3⟩
def agi (w:L) (g:Nat) (t:TypeId) (v:O) (toks:List dI) (S:fV) (rest:List O) (e:Ending) (w':L):Prop:=∃x S',e=.returned (.agg (zh x))/\aem x/\bT w g t v toks S S' rest w'
structure Df (w:L) (g:Nat) (t:TypeId) (v:O) (toks:List dI) (S S':fV) (rest:List O) (bt:TypeId) (b:Nat) (cells:Array O) (W:L):Prop where
 out:bT w g t v toks S S' rest W
 res:aj W w.heap.size 178 zI
 box:aj W b bt cells
 ord:w.heap.size < b/\g < w.heap.size
variable{cells:Array O}{W:L}{ba:TypeId}{P:fV}
theorem Df.more{a2:fV}{i:L}(h:Df w g t v toks S P rest ba b cells W)(k:bT W g t v toks P a2 rest i):Df w g t v toks S a2 rest ba b cells i:=
 ⟨h.out.trans k,h.res.grown k.grown XC,h.box.grown k.grown XC,h.ord⟩
theorem Df.jd{k:Nat}{cells':Array O}(h:Df w g t v toks S P rest ba b cells W)(u:O)(aw:cells.setIfInBounds k u=cells'):Df w g t v toks S P rest ba b cells' (W.setCell ⟨b,k,I⟩ u):=
 ⟨h.out.box Yy Yy u,h.res.far (p:=⟨b,k,I⟩) Xf u,Xm,h.ord⟩
theorem Df.inc(h:Df w g t v toks S P rest ba b cells W)(V:P.i+1 < toks.length):Df w g t v toks S {P with i:=P.i+1} rest ba b cells (W.setCell ⟨g,1,I⟩ (C E ((P.i:Int)+1))):=
 h.more ⟨h.out.st.rH (n:=P.i+1) V,grownBy_set _ _ _ _,Ld _⟩
theorem Df.fin{x:nZ}{X:L}(h:Df w g t v toks S P rest 178 b (zh x) W)(ag:aU w.heap.size W X)(bN:aem x):agi w g t v toks S rest (.returned (.agg (zh x))) X:=
 ⟨x,P,D,bN,h.out.qO ag c h.ord.2⟩
theorem adp(h:eP w g t v toks S rest)(n:Nat):Calls Tryz.prog 61 #[.pointer (J ⟨g,0,I⟩),C E n] w (agi w g t v toks S rest):=by
 have dj:=TA;have db:=A (λB S (h:eP B g t v toks S rest)=>kK h 2 Z);have aX:=A (λB S (h:eP B g t v toks S rest)=>Ez h);obtain⟨an,bk⟩:∃an,an=w.alloc (JO zI 178):=⟨_,D⟩;have aC:=QY;have cZ:=A (show aj an w.heap.size 178 zI by rw[bk];exact aj.new _ _ _);have b1:=A (bT.of_below h aC);have ds:=A h.blk.lt;clear h;unfold zI at bk;go_in;go_upto_region 1 with fail;rw[<-bk];clear bk;obtain⟨b4,bg⟩:∃b4,b4=World.drew an:=⟨_,D⟩;have ap:=A (show bT w g t v toks S S rest b4 by rw[bg];exact b1.below (JY.drew));have P:=A (show aj b4 w.heap.size 178 zI by rw[bg];exact cZ.drew);obtain⟨aa,y,b5,a9,ad,bN,af,o,a8,b',bv,bo,bZ,c5⟩:=ap.st.cur;obtain⟨b0,aL,ao,b2,bu,R,bd,bO,bY,cd⟩:=ap.st.cells;have dz:=ap.st.idxs;have ct:(0:Int)<=(S.i:Int):=N;have c0:(S.i:Int) < (toks.length:Int):=by have:=ap.st.idx;omega
 have q:=A (Kt ad bN);subst af;unfold maxLen at a8;have f:F (b4.cell? ⟨g,0,I⟩=J (G (J ⟨y,b5,I⟩) toks.length a9)/\b4.cell? ⟨g,1,I⟩=J (C E S.i)/\b4.cell? ⟨y,b5+S.i*5,I⟩=J (C E aa.kind)/\b4.cell? ⟨y,b5+S.i*5+1,I⟩=J (H aa.text)/\b4.cell? ⟨y,b5+S.i*5+2,I⟩=J (C E aa.n)/\b4.cell? ⟨y,b5+S.i*5+3,I⟩=J (C E aa.scale)/\b4.cell? ⟨y,b5+S.i*5+4,I⟩=J (C E aa.at_)):=A ⟨b0,aL,b',bv,bo,bZ,c5⟩;have a1:=A (λ(B:L) (d:JK b4.heap.size b4 B)=>show B.cell? ⟨g,0,I⟩=J (G (J ⟨y,b5,I⟩) toks.length a9)/\B.cell? ⟨g,1,I⟩=J (C E S.i)/\B.cell? ⟨y,b5+S.i*5,I⟩=J (C E aa.kind)/\B.cell? ⟨y,b5+S.i*5+1,I⟩=J (H aa.text)/\B.cell? ⟨y,b5+S.i*5+2,I⟩=J (C E aa.n)/\B.cell? ⟨y,b5+S.i*5+3,I⟩=J (C E aa.scale)/\B.cell? ⟨y,b5+S.i*5+4,I⟩=J (C E aa.at_) from⟨(d.cell (ay b0)).trans b0,(d.cell (ay aL)).trans aL,(d.cell (ay b')).trans b',(d.cell (ay bv)).trans bv,(d.cell (ay bo)).trans bo,(d.cell (ay bZ)).trans bZ,(d.cell (ay c5)).trans c5⟩);clear ad bN b0 aL ao b2 bu R bd bO bY cd b' bv bo bZ c5;refine aG (λB=>B.cell? ⟨g,0,I⟩=J (G (J ⟨y,b5,I⟩) toks.length a9)/\B.cell? ⟨g,1,I⟩=J (C E S.i)/\B.cell? ⟨y,b5+S.i*5,I⟩=J (C E aa.kind)/\B.cell? ⟨y,b5+S.i*5+1,I⟩=J (H aa.text)/\B.cell? ⟨y,b5+S.i*5+2,I⟩=J (C E aa.n)/\B.cell? ⟨y,b5+S.i*5+3,I⟩=J (C E aa.scale)/\B.cell? ⟨y,b5+S.i*5+4,I⟩=J (C E aa.at_)) (λa4=>!([0,1,2,3,4,5,6,7,8,9,10,11,12]:List Nat).contains a4) U ?_;rw[<-bg];clear bg;refine tl 0 f ?_;refine tl 1 f ?_;refine tl 2 f ?_;refine tl 3 f ?_;refine tl 4 f ?_;refine tl 5 f ?_;refine tl 6 f ?_;refine tl 7 f ?_;refine tl 8 f ?_;refine tl 9 f ?_;refine tl 10 f ?_;refine tl 11 f ?_;refine t1 12 λK j=>?_;go_simp;obtain⟨df,a0⟩:∃B,B=b4.alloc (JO #[C E 0,H ⟨#[]⟩,C E 0,C E 0,C E 0] 123):=⟨_,D⟩;have k:=A (show JK b4.heap.size b4 df by rw[a0];exact JY.alloc c _);have c6:=A (show aj df b4.heap.size 123 #[C E 0,H ⟨#[]⟩,C E 0,C E 0,C E 0] by rw[a0];exact aj.new _ _ _);rw[<-a0];clear a0;have f:F (df.cell? ⟨g,0,I⟩=J (G (J ⟨y,b5,I⟩) toks.length a9)/\df.cell? ⟨g,1,I⟩=J (C E S.i)/\df.cell? ⟨y,b5+S.i*5,I⟩=J (C E aa.kind)/\df.cell? ⟨y,b5+S.i*5+1,I⟩=J (H aa.text)/\df.cell? ⟨y,b5+S.i*5+2,I⟩=J (C E aa.n)/\df.cell? ⟨y,b5+S.i*5+3,I⟩=J (C E aa.scale)/\df.cell? ⟨y,b5+S.i*5+4,I⟩=J (C E aa.at_)):=A (a1 df k);(refine j.out _ _ (λ_=>f) ?_;clear j K);refine t1 13 λK j=>?_;obtain⟨cl,t1,d5,b8,aB⟩:=jO c6;have e:=c6.frozen 0;have aU:=c6.frozen 1;have p:=c6.frozen 2;have br:=c6.frozen 3;have et:=c6.frozen 4;go_simp;(refine TS ?_;clear j K);clear cl t1 d5 b8 aB e aU p br et;refine td ?_;try simp only[Exit.then]
 go_upto_region 2 with fail;refine aI (Φ:=λB=>Df w g t (G (J ⟨y,b5,I⟩) toks.length a9) toks S S rest 123 b4.heap.size (tokA aa) B) ?_ ?_
 ·have a2:=adY c6 D (C E aa.kind) (H aa.text) (C E aa.n) (C E aa.scale) (C E aa.at_);have bA:=P.lt;exact⟨(ap.below k).qO a2.2 (KI bA) (by have:=ds.out;omega),a2.2.blk _ _ _ N (P.below k bA),a2.1,bA,ds.out⟩
 intro dZ ac;have bb:=A ac;clear ac;have a5:(0:Int)<=(n:Int):=N;go_cut [31] from 19 to 31 (λz bn=>∃d2:Bool,z=JM d2/\F (Df w g t (G (J ⟨y,b5,I⟩) toks.length a9) toks S S rest 123 b4.heap.size (tokA aa) bn));case first=>
  obtain⟨cl,t1,d5,b8,aB⟩:=jO bb.box;rcases dy:((n:Int)== 8) with _|_
  ·go_wp2_with fail;go_meet;exact⟨_,D,bb⟩
  rcases a6:(aa.kind== 2) with _|_
  ·go_wp2_with fail;refine(dj _ _ bb.out.out.st _).mono ?_;rintro a7 r ⟨e1,rfl,-,cG⟩;have bX:=A (bb.more (bT.of_below bb.out.out.st cG));clear cG cl t1 d5 b8 aB;rcases e1 with _|_;all_goals(go_wp2_with fail;go_meet;exact⟨_,D,bX⟩)
  go_wp2_with fail;go_meet;exact⟨_,D,bb⟩
 obtain⟨d2,rfl,bX⟩:=hcut;clear bb;rcases d2 with _|_
 ·obtain⟨cl,t1,d5,b8,aB⟩:=jO bX.box;go_upto_region 6 with fail;refine aI (Φ:=λB=>∃b,b=wc.heap.size/\Df w g t (G (J ⟨y,b5,I⟩) toks.length a9) toks S S rest 178 b #[C E 1,H ⟨#[]⟩,H ⟨#[]⟩,C E aa.at_] B) ⟨_,D,⟨bX.out.out.below (JY.alloc c _),bX.res.alloc _,aj.new _ _ _,bX.res.lt,ds.out⟩⟩ ?_;rintro e8 ⟨b,M,bz⟩;rw[<-M];have s:=A bz;clear bz M bX cl t1 d5 b8 aB;go_wp2_with fail;refine(dj _ _ s.out.out.st _).mono ?_;rintro a7 bt ⟨aN,rfl,m,dx⟩;have bs:=A (s.more (bT.of_below s.out.out.st dx));have aP:=A m;clear dx m;go_upto_if 43 with fail;go_cut [] (λbn=>∃(i:Int) (l:fV),F (wfi i/\Df w g t (G (J ⟨y,b5,I⟩) toks.length a9) toks S l rest 178 b #[C E i,H ⟨#[]⟩,H ⟨#[]⟩,C E aa.at_] bn));case first=>
   rcases aN with _|_
   ·go_wp2_with fail;go_meet;exact⟨1,S,A ⟨aA Z Z,bs.out⟩⟩
   obtain⟨cl,t1,d5,b8,e,aU,p,br⟩:=oC bs.box;go_upto_region 8 with fail;refine aI (Φ:=λB=>Df w g t (G (J ⟨y,b5,I⟩) toks.length a9) toks S S rest 178 b #[C E 3,H ⟨#[]⟩,H ⟨#[]⟩,C E aa.at_] B) (bs.jd (C E 3) D) ?_;intro eC de;have cJ:=A de;clear de cl t1 d5 b8 e aU p br;obtain⟨b0,aL,ao,b2,bu,R,bd,bO,bY,cd⟩:=cJ.out.out.st.cells;go_wp2_with fail;go_meet;exact⟨3,_,A ⟨aA Z Z,cJ.inc (aP Yu)⟩⟩
  obtain⟨i,l,cJ⟩:=hcut;clear bs aP;go_wp2_with fail;refine(aX _ _ cJ.2.out.st).mono ?_;rintro a7 da ⟨bF,rfl,bh,ak,bx⟩;have bL:=A (cJ.2.more bx);have bq:=A bh;clear bx bh;obtain⟨cl,t1,d5,b8,e,aU,p,br⟩:=oC bL.box;go_upto_region 10 with fail;refine aI (Φ:=λB=>Df w g t (G (J ⟨y,b5,I⟩) toks.length a9) toks S ak rest 178 b #[C E i,H bF,H ⟨#[]⟩,C E aa.at_] B) (bL.jd (H bF) D) ?_;intro cX aD;have bp:=A aD;clear aD cl t1 d5 b8 e aU p br;go_cut [73] from 57 to 73 (λz bn=>∃d2:Bool,z=JM d2/\F (d2=true->ak.i+1 < toks.length)/\F (Df w g t (G (J ⟨y,b5,I⟩) toks.length a9) toks S ak rest 178 b #[C E i,H bF,H ⟨#[]⟩,C E aa.at_] bn));case first=>
   obtain⟨cl,t1,d5,b8,e,aU,p,br⟩:=oC bp.box;obtain⟨b0,aL,ao,b2,bu,R,bd,bO,bY,cd⟩:=bp.out.out.st.cells;rcases bS:(ak.er== 0) with _|_
   ·go_wp2_with fail;go_meet;exact⟨_,D,A (λh=>ZC),bp⟩
   rcases aH:(i== 1) with _|_
   ·go_wp2_with fail;go_meet;exact⟨_,D,A (λh=>ZC),bp⟩
   go_wp2_with fail;refine(dj _ _ bp.out.out.st _).mono ?_;rintro a7 du ⟨b3,rfl,m,dC⟩;have c9:=A (bp.more (bT.of_below bp.out.out.st dC));have aP:=A m;clear dC m cl t1 d5 b8 e aU p br b0 aL ao b2 bu R bd bO bY cd;go_wp2_with fail;go_meet;exact⟨_,D,aP,c9⟩
  obtain⟨d2,rfl,aP,c9⟩:=hcut;clear bp;go_upto_if 73 with fail;go_cut [] (λbn=>∃(i:Int) (l:fV),F (wfi i/\Df w g t (G (J ⟨y,b5,I⟩) toks.length a9) toks S l rest 178 b #[C E i,H bF,H ⟨#[]⟩,C E aa.at_] bn));case first=>
   rcases d2 with _|_
   ·go_wp2_with fail;go_meet;exact⟨i,ak,A ⟨cJ.1,c9.out⟩⟩
   obtain⟨cl,t1,d5,b8,e,aU,p,br⟩:=oC c9.box;go_upto_region 12 with fail;refine aI (Φ:=λB=>Df w g t (G (J ⟨y,b5,I⟩) toks.length a9) toks S ak rest 178 b #[C E 2,H bF,H ⟨#[]⟩,C E aa.at_] B) (c9.jd (C E 2) D) ?_;intro bQ e7;have cC:=A e7;clear e7 cl t1 d5 b8 e aU p br;obtain⟨b0,aL,ao,b2,bu,R,bd,bO,bY,cd⟩:=cC.out.out.st.cells;have bl:=cC.out.out.st.idxs;have dN:(0:Int)<=(ak.i:Int):=N;go_wp2_with fail;go_meet;exact⟨2,_,A ⟨aA Z Z,cC.inc (aP Yu)⟩⟩
  obtain⟨T,ab,cv⟩:=hcut;clear c9 aP;go_wp2_with fail;refine(aX _ _ cv.2.out.st).mono ?_;rintro a7 bG ⟨cH,rfl,Y,a3,V⟩;have bB:=A (cv.2.more V);have ae:=A Y;clear V Y;obtain⟨cl,t1,d5,b8,e,aU,p,br⟩:=oC bB.box;go_upto_region 14 with fail;refine aI (Φ:=λB=>Df w g t (G (J ⟨y,b5,I⟩) toks.length a9) toks S a3 rest 178 b #[C E T,H bF,H cH,C E aa.at_] B) (bB.jd (H cH) D) ?_;intro aJ dE;have d4:=A dE;clear dE cl t1 d5 b8 e aU p br;obtain⟨cl,t1,d5,b8,e,aU,p,br⟩:=oC d4.box;obtain⟨cp,cf,cb,c7,cF,cz,cP,d1⟩:=oC d4.res;go_wp2_with fail;refine afs d4.res D λX az aE=>?_;refine Ku (au D D az Tryz.underlying178 D D) D ?_;exact d4.out.fin (x:=⟨T,bF,cH,aa.at_⟩) aE ⟨cv.out.1,bq.out,ae.out,q.out.2.2.2.2.2⟩
 go_wp2_with fail;refine(db _ _ bX.out.out.st).mono ?_;rintro a7 av ⟨rfl,cw,ar,-,W⟩;have s:=A (bX.more W);clear W;obtain⟨cp,cf,cb,c7,cF,cz,cP,d1⟩:=oC s.res;go_wp2_with fail;refine afs s.res D λX az aE=>?_;refine Ku (au D D az Tryz.underlying178 D D) D ?_;exact⟨⟨0,⟨#[]⟩,⟨#[]⟩,0⟩,_,D,⟨bP,Kw _,Kw _,bP⟩,s.out.out.qO aE c ds.out⟩
structure mZ (B:Nat) (w w':L):Prop where
 size:w.heap.size<=w'.heap.size
 block:∀k,B<=k->k < w.heap.size->w'.heap[k]? =w.heap[k]?
theorem mZ.refl(B:Nat)(w:L):mZ B w w:=⟨KD _,λ_ _ _=>rfl⟩
variable{B:Nat}
theorem mZ.trans{a b a9:L}(h:mZ B a b)(k:mZ B b a9):mZ B a a9:=⟨Ko h.size k.size,λa3 o a8=>(k.block a3 o (Kv a8 h.size)).trans (h.block a3 o a8)⟩
variable{w':L}
theorem mZ.of_below(h:JK w.heap.size w w'):mZ B w w':=⟨h.size,λa0 _ a8=>h.block a0 a8⟩
theorem mZ.aS(h:w.grownBy w' (J g))(ab:g < B):mZ B w w':=⟨h.size,λa0 o a8=>h.block a0 a8 λa7=>Xi⟩
theorem mZ.cell(h:mZ B w w'){p:Addr}{u:O}(ai:w.cell? p=J u)(bW:B<=p.block):w'.cell? p=J u:=(KJ (h.block p.block bW (ay ai))).trans ai
theorem mZ.keep(h:mZ B w w')(n:∀b,Q b->B<=b):aF Q w w':=λaT u a1 ai=>h.cell ai (n _ a1)
variable{e:TypeId}
theorem Fq{s n:Nat}{xs:List O}(h:w.ownsRow B e s v n xs)(ap:mZ B w w'):w'.ownsRow B e s v n xs:=by
 refine⟨h.1,?_⟩;rcases h.2 with o|⟨ae,r,k,af,bW,X,aS⟩
 ·exact .inl o
 exact .inr ⟨ae,r,k,af,bW,(ap.block ae bW (Nc.1 X).1).trans X,aS⟩
section
variable {α:Type} {F:Nat} {R:(Nat->Prop)->L->List O->α->Prop} {w2 w3:L} {v':O} {xs:List α}
theorem Acc.up(f:bZ R)(h:Acc B e F R w v xs css)(d:mZ B w w'):Acc B e F R w' v xs css:=by refine⟨Fq h.1 d,h.2.keep λbj aa ad=>f _ _ _ _ _ _ ad (d.keep λy a1=>a1.1) λy a1=>⟨a1.1,Kv a1.2.1 d.size,a1.2.2⟩⟩
theorem Acc.afv(f:bZ R)(h:Acc B e F R w v xs css)(j:B<=w.heap.size)(d:mZ B w w2){x:α}(a':cs.length=F)(ad:R (λb=>w.heap.size<=b/\b < w2.heap.size) w2 cs x)(br:w3.ownsRow B e F v' (xs.length+1) (css.flatten++cs))(ab:w2.grownBy w3 v.ownBlock)(c8:v'.ownBlock=v.ownBlock\/v'.ownBlock=J w2.heap.size):Acc B e F R w3 v' (xs++[x]) (css++[cs]):=by
 have i:∀ae,v.ownBlock=J ae->ae < w.heap.size:=λae ab=>(aQ h.1 ab).1;have bm:∀b,J b≠v.ownBlock->b < w2.heap.size->J b≠v'.ownBlock:=λb o a8=>by exact PO
 refine⟨?_,eF.snoc ?_ a' ?_⟩
 ·rw[KC,MN];simpa using br
 ·refine h.2.keep λcs x ad=>f _ _ _ _ _ _ ad ?_ λb a1=>⟨a1.1,Kv a1.2.1 (Ko d.size ab.size),bm b a1.2.2 (Kv a1.2.1 d.size)⟩;exact(d.keep λb a1=>a1.1).trans (aF.aS ab λb a1=>a1.2.2)
 exact PX
end
structure jk (B:Nat) (v:O) (w w':L):Prop where
 grown:w.grownBy w' v.ownBlock
 ge:∀k,v.ownBlock=J k->B<=k
theorem jk.app(h:jk B v w w'):FX B v w w':=FX.aS h.grown h.ge
theorem jk.up(h:jk B v w w')(af:∀k,v.ownBlock=J k->k < b):mZ b w w':=⟨h.grown.size,λk o a8=>h.grown.block k a8 λa7=>by have:=af k a7.symm;omega⟩
section
variable {P:Program} {α:Type} {F bytes:Nat} {R:(Nat->Prop)->L->List O->α->Prop} {w2:L} {xs:List α} {x:α}
theorem tV(p:kH P t e F bytes)(f:bZ R){aN:Array Oper}{rest:List Oper}{bl:Oper}{a:Act}{Q:Exit->Act->L->Prop}(cz:bl.guard=I)(s a2:Operand)(br:bl.op=.call {callee:=.builtin .append,args:=#[s,a2],argTypes:=#[t,t]})(cN:Acc B e F R w v xs css)(j:B<=w.heap.size)(d:mZ B w w2)(a':cs.length=F)(ad:R (λb=>w.heap.size<=b/\b < w2.heap.size) w2 cs x)(o:∀u∈cs,u.oneCell'=true)(V:(xs.length+1)*bytes<=140737488355328)(bL:xs.length+1<=maxLen){a9:Nat}(ag:a.eval s=v)(ak:a.eval a2=G (J ⟨w2.heap.size,0,I⟩) 1 a9)(h:∀cl ch b1,Acc B e F R b1 (G cl (xs.length+1) ch) (xs++[x]) (css++[cs])->jk B v w2 b1->wpList P aN Q rest (a.put bl.dst (G cl (xs.length+1) ch)) b1): wpList P aN Q (bl :: rest) a (w2.alloc (JO cs.toArray e)):=by obtain⟨a3,aA,b3,bh,ca,dc,cY,S,dw⟩:=p;have cv:mZ B w2 (w2.alloc (JO cs.toArray e)):=mZ.of_below (JY.alloc c _);have cq:=d.trans cv;have q:=Fq cN.1 cq;have bA:∀ae,v.ownBlock=J ae->ae < w.heap.size/\B<=ae:=λae ab=>aQ cN.1 ab;refine aV _ cz s a2 t br B e a3 aA F bytes b3 bh ca dc cY S dw v xs.length css.flatten ag q (w2.heap.size+1) _ 1 a9 cs ak WY o bL V Xo λz b1 i ab c8=>?_;exact Px
end
section
variable {W':L} {S':fV}
theorem bT.app{u:O}(h:bT w g t v toks S S' rest W)(k:jk B u W W')(bW:w.heap.size<=B)(ab:g < B):bT w g t v toks S S' rest W':=by
 have bm:∀a4,a4 < B->J a4≠u.ownBlock:=λa4 bK a7=>by have:=k.ge a4 a7.symm;omega
 refine⟨⟨h.st.blk.grown k.grown (bm g ab),h.st.tok.keep (aF.aS k.grown λy d=>bm y N) (λ_ h=>h) λ_ _ h=>h,h.st.ok,h.st.idx⟩,?_,h.le⟩;exact⟨k.grown.os.trans h.grown.os,k.grown.tape.trans h.grown.tape,k.grown.output.trans h.grown.output,Ko h.grown.size k.grown.size,λa4 o a8=>(k.grown.block a4 (Kv o h.grown.size) (bm a4 N)).trans (h.grown.block a4 o a8)⟩
end

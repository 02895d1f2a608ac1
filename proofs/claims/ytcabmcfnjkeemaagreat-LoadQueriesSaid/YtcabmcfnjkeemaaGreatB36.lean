import Derived.Test.YtcabmcfnjkeemaaGreatBM00
import Derived.Test.YtcabmcfnjkeemaaGreatB35
set_option maxRecDepth 100000
set_option maxHeartbeats 40000000
set_option linter.unusedVariables false
set_option linter.unusedSimpArgs false
namespace Go.Proofs.YtcabmcfnjkeemaaGreat
open Go.Deep Go.RowKit
open Go renaming World->L,Value->O
open Go.IntKind renaming i64->E,u64->JL
open Go.Obj renaming cells->JO
open Go.RowKit renaming Hid->F,Below->JK
open Go.Value renaming int->C,slice->G,string->H,bool->JM
open Option renaming none->I,some->J
attribute [local go_sem ↓] Go.wp_at_zero Go.wp_at_succ
def CdP (Q:Nat->Prop) (g B gp:Nat) (vt vs vi:O) (S:SchD) (its:List dJ) (vk vb:O) (p:bD) (T0:Nat->Tg) (bs:List dB) (er:Int) (x:ED) (W:L) (e:Ending) (W':L):Prop:=
 ∃(er':Int) (bs':List dB) (T':Nat->Tg),e=.returned (.tuple #[])/\mJ Q g B vt vs vi S its vk vb p T0 W er' bs' [⟨gp,29,#[C E p.strategy,vk,vb]⟩] T' W'/\(er'=0->er=0/\CZ S its bs')/\lS bs'<=lS bs+4*aP x/\bs'.length=bs.length
def agV (Q:Nat->Prop) (g B gp:Nat) (vt vs vi:O) (S:SchD) (its:List dJ) (vk vb:O) (p:bD) (T0:Nat->Tg) (bs:List dB) (x:ED) (xc:Array O) (W:L) (i:O) (wr:L):Prop:=
 ∃(r:Nat) (er':Int) (bs':List dB) (T':Nat->Tg),r<=bs.length/\i=C E r/\F (mJ Q g B vt vs vi S its vk vb p T0 W er' bs' [⟨W.heap.size,139,xc⟩,⟨gp,29,#[C E p.strategy,vk,vb]⟩] T' wr)/\F ((er'=0->CZ S its bs')/\lS bs'<=lS bs+r*aP x/\bs'.length=bs.length/\∀b∈bs',b.parts≠[])
def CdM (w6:L) (X:L) (y:dJ):Prop:=JK w6.heap.size w6 X/\aj X w6.heap.size 193 (itA y)
theorem CdM.more{bt X V:L}{a2:dJ}(h:CdM bt X a2)(k:JK X.heap.size X V):CdM bt V a2:=⟨h.1.trans (k.mono h.1.size),h.2.below k h.2.lt⟩
def agW (l:List dJ) (w6:L) (o i:O) (wr:L):Prop:=∃(j:Nat) (last:dJ) (ok:Bool),j<=l.length/\o=JM ok/\i=C E j/\F (Lp2 l j last ok/\ItW last)/\F (CdM w6 wr last)
def agX (l:List dJ) (w6:L) (last:dJ) (ok0:Bool) (n o i:O) (wr:L):Prop:=∃(j:Nat) (nn:Int) (ok:Bool),j<=l.length/\n=C E nn/\o=JM ok/\i=C E j/\F (0<=nn/\nn<=j)/\F (Lp3 l j last ok0 ok)/\F (CdM w6 wr last)
def agY (l:List dJ) (w6 w7:L) (last:dJ) (ok0 ask0:Bool) (o k i:O) (wr:L):Prop:=∃(j:Nat) (ok ask:Bool),j<=l.length/\o=JM ok/\k=JM ask/\i=C E j/\F (Lp4 l j last ok0 ok ask0 ask)/\F (CdM w6 wr last/\JK w7.heap.size w7 wr)
theorem abM{Q:Nat->Prop}{g B b5:Nat}{vt vs vi:O}{S:SchD}{its:List dJ}{vk cn:O}{p:bD}{dh:Nat->Tg}{P:List dB}{er:Int}{W:L}{cs':List O}(x:ED)(h:mJ Q g B vt vs vi S its vk cn p dh W er P [⟨b5,29,#[C E p.strategy,vk,cn]⟩] dh W)(ad:iD Q W cs' x)(V:aP x<=10000)(eK:dO x=true)(f4:rV x=true)(ab:er=0->CZ S its P)(cG:P.length<=4)(eg:lS P<=100000): Calls Tryz.prog 43 #[.pointer (J ⟨g,0,I⟩),.pointer (J ⟨b5,0,I⟩),.agg cs'.toArray] W (CdP Q g B b5 vt vs vi S its vk cn p dh P er x W):=by
 obtain⟨e,b8,M,bQ,bq,bF,ar⟩:=x;obtain⟨cg,cV,af⟩:=h.pl.kU.slice;have af:cn=G cg P.length cV:=af;subst af;have fx:=A ad;obtain⟨dg,rfl,⟨Y,a9,rfl,-⟩,bN⟩:=ad.opened;have cw:=A (Ko V (show 10000<=100000 by decide));have fb:=A V;have ci:=A eK;have dv:=A f4;have dj:=A ab;have eL:=A eg;have dl:=A (h.push 139 #[C E e,G Y b8.length a9,C E M,C E bQ,H bq,H bF,C E ar]);have gh:=A (show ∀y,Q y->y≠g/\y < W.heap.size by obtain⟨a,ag⟩:=h.st;exact ag.off);have eS:=A h.hq;have cZ:=A (show JK W.heap.size W (W.alloc (JO #[C E e,G Y b8.length a9,C E M,C E bQ,H bq,H bF,C E ar] 139)) from JY.alloc c _);obtain⟨an,bk⟩:∃an,an=W.alloc (JO #[C E e,G Y b8.length a9,C E M,C E bQ,H bq,H bF,C E ar] 139):=⟨_,D⟩;rw[<-bk] at dl cZ;clear h ad bN V eK f4 ab eg;have eh:=A (show ∀X k er c0 ae,mJ Q g B vt vs vi S its vk (G cg P.length cV) p dh W er c0 ae k X->aF Q W X from λX k er c0 ae aw p u ai ap=>(KJ (by
  rcases KT p.block B with o|o
  ·exact aw.org.bel.block _ o
  have a8:=eS.out _ ai;exact aw.org.block _ o a8.1 (a8.2.resolve_left N))).trans ap)
 have bn:=A (show ∀X k er c0 ae,mJ Q g B vt vs vi S its vk (G cg P.length cV) p dh W er c0 ae k X->iD Q X [C E e,G Y b8.length a9,C E M,C E bQ,H bq,H bF,C E ar] (.mk e b8 M bQ bq bF ar) from λX k er c0 ae aw=>fx.keep (eh X k er c0 ae aw) λ_ h=>h);go_in;go_upto_region 1 with fail;rw[<-bk];clear bk;obtain⟨d3,dE⟩:=dl.st;have dP:=A dE;clear dE;obtain⟨b0,aL,ao,b2,bu,cI,c1,bT,cB,dm⟩:=dP.cells;rcases e5:(er !=0) with _|_;rotate_left
 ·go_wp2_with fail;go_end0;exact⟨er,P,dh,D,dl.drop,λh=>by simp[h] at e5,Nat.le_add_right _ _,D⟩
 have g7:er=0:=by simpa using e5
 subst g7;have eX:=A (show CZ S its P from dj D);clear dj;obtain⟨al,am,ax,aW,T,bi,bM,a5,a6,aq,aZ,aO,be,bI⟩:=aK (dl.fm.get 0 D);have eN:=A (Ef (.mk e b8 M bQ bq bF ar) 0 d3 an [C E e,G Y b8.length a9,C E M,C E bQ,H bq,H bF,C E ar] dP (bn an _ _ _ _ dl) cw);go_upto_region 3 with(go_at_call 78;refine eN.mono ?_;rintro a7 ce ⟨a0,dM,f5,rfl,bE,cW,ag,fY⟩;have eo:=A (dl.call cW ag);have ei:=A ag;have eq:=A fY;clear bE cW ag fY);clear e5 b0 aL ao b2 bu cI c1 bT cB dm al am ax aW T bi bM a5 a6 aq aZ aO be bI eN dP;obtain⟨al,am,ax,aW,T,bi,bM,a5,a6,aq,aZ,aO,be,bI⟩:=aK (eo.fm.get 0 D);rcases bh:(a0 !=2) with _|_;rotate_left
 ·have db:=A (iZ ei 11 ar Z);go_upto_region 5 with(go_at_call 75;refine db.mono ?_;rintro a7 b1 ⟨dZ,eW,rfl,bm,cW,ag⟩;have f8:=A (eo.call cW ag);have fu:=A ag;have d6:=A bm;clear bm cW ag);clear al am ax aW T bi bM a5 a6 aq aZ aO be bI;obtain⟨b0,aL,ao,b2,bu,cI,c1,bT,cB,dm⟩:=fu.cells;have ca:(dZ !=0)=true:=by simpa using d6.out
  go_wp2_with fail;go_end0;exact⟨dZ,P,dh,D,f8.drop,λh=>absurd h d6,Nat.le_add_right _ _,D⟩
 go_upto_region 5 with fail;obtain⟨b0,aL,ao,b2,bu,cI,c1,bT,cB,dm⟩:=ei.cells;rcases ca:(dM !=0) with _|_;rotate_left
 ·go_wp2_with fail;go_end0;exact⟨dM,P,dh,D,eo.drop,λh=>by simp[h] at ca,Nat.le_add_right _ _,D⟩
 have fS:dM=0:=Zg;subst fS;have eT:=A (eq D).2.1;have aX:=A (AV false (.mk e b8 M bQ bq bF ar) 0 f5 ce [C E e,G Y b8.length a9,C E M,C E bQ,H bq,H bF,C E ar] ei (bn ce _ _ _ _ eo).weak cw);go_upto_region 7 with(go_at_call 79;refine aX.mono ?_;rintro a7 bt ⟨bc,rfl,dI,d⟩;have dX:=A dI;have cM:=A (eo.more d);clear dI d);clear bh ca b0 aL ao b2 bu cI c1 bT cB dm al am ax aW T bi bM a5 a6 aq aZ aO be bI aX ei eq eo dl cZ;obtain⟨bP,a'⟩:∃bP,bP=dD its false (.mk e b8 M bQ bq bF ar):=⟨_,D⟩;rw[<-a'] at dX;have e8:=A a';have fV:=A (show bP.length<=10000 by rw[a'];exact Ko (uy its false _) fb);clear a';obtain⟨di,dq,rfl,ef,dC⟩:=dX.slice;have bB:=fV.out;unfold maxLen at dC;by_cases f3:bP.length=0
 ·have dc:((bP.length:Int)== 0)=true:=by simp[f3]
  have fG:=A (show dD its false (.mk e b8 M bQ bq bF ar)=[] by rw[<-e8.out];exact NP.1 f3);clear f3 bB dX fV eT ef dC;obtain⟨dT,v,c2,cp,cf,cb⟩:=bf (cM.fm.get 1 D);have fR:(0:Int)<=(P.length:Int):=N;go_wp2_with fail;clear dT v c2 cp cf cb dc;go_loopw [51] (λa3 wr=>agV Q g B b5 vt vs vi S its vk (G cg P.length cV) p dh P (.mk e b8 M bQ bq bF ar) #[C E e,G Y b8.length a9,C E M,C E bQ,H bq,H bF,C E ar] W a3 wr) (λa3 wr=>P.length-(intOf a3).toNat);case atStart=>exact⟨0,0,P,dh,Kw _,D,cM,A ⟨λ_=>eX,N,D,eX.afP⟩⟩
  clear cM eX;obtain⟨z,dM,ba,k,aS,rfl,f9,cS⟩:=hrel;have ct:(0:Int)<=(z:Int):=N;have cu:(z:Int)<=4:=N;by_cases bA:z < P.length
  ·have c0:(z:Int) < (P.length:Int):=N;obtain⟨y,d⟩:∃y,ba[z]? =J y:=⟨_,Kr (by rw[cS.2.2.1];exact bA)⟩;have cx:=A d;have fF:0 < y.parts.length:=List.length_pos_iff.2 (cS.2.2.2 y (Kz d));obtain⟨m,a1⟩:∃m,y.parts[0]? =J m:=⟨_,Kr fF⟩;have cO:=A a1;obtain⟨aQ,ck,aJ,fC,cR,aY,af,dL,fl,fn,fo,ao,b2,fd,eJ,ed,ch,c6⟩:=f9.part d a1;obtain⟨bR,cl,rfl⟩:=fd.slice;injection af with af aD cL;subst af;have fM:=A (show CdF aQ z 0 0 aJ fC P.length cV y (G bR m.guards.length cl) m.guards k B wr from⟨dL,fd,ao,fl,ch,⟨fn,c6⟩,fo,ed⟩);have dK:=A dL;have f1:=A (show m.guards.length<=200000 by have o:=kS m.guards;have a8:=fB gJ a1;have ac:=fB kG d;have b6:kG y=(y.parts.map gJ).sum:=D;have bz:lS ba=(ba.map kG).sum:=D;have c4:=cS.2.1;have de:z*aP (.mk e b8 M bQ bq bF ar)<=4*10000:=Nat.mul_le_mul N fb;have dy:=eL.out;have aD:fU m.guards<=gJ m:=YU;omega);have e1:(0:Int) < (y.parts.length:Int):=N;obtain⟨dT,v,c2,cp,cf,cb⟩:=bf (f9.fm.get 1 D);have fP:wr.cell? ⟨aQ,z*3+2,I⟩=J (G (J ⟨aJ,0,I⟩) y.parts.length fC):=dL;clear dL d a1 aD cL fl fn fo ao b2 fd eJ ed ch c6;go_upto_region 12 with fail;clear dT v c2 cp cf cb fP;obtain⟨dF,eY⟩:∃w,w=wr:=⟨_,D⟩;have eM:=f9;have eZ:=fM;rw[<-eY] at eM eZ;rw[<-eY];clear eY f9 fM;obtain⟨R,bg⟩:∃b4,b4=World.drew dF:=⟨_,D⟩;have q:=SX;have c7:=A (eZ.bG (Stp.of_below k (show JK dF.heap.size dF R by rw[bg];exact JY.drew) eM.pl.low) λ_ _=>trivial);have f:=A (show R.cell? ⟨aJ,2,I⟩=J (G bR m.guards.length cl)/\R.cell? ⟨W.heap.size,0,I⟩=J (C E e)/\R.cell? ⟨W.heap.size,1,I⟩=J (G Y b8.length a9)/\R.cell? ⟨W.heap.size,2,I⟩=J (C E M)/\R.cell? ⟨W.heap.size,3,I⟩=J (C E bQ)/\R.cell? ⟨W.heap.size,4,I⟩=J (H bq)/\R.cell? ⟨W.heap.size,5,I⟩=J (H bF)/\R.cell? ⟨W.heap.size,6,I⟩=J (C E ar) from⟨c7.rW,(q.fm.get 0 D).cell 0,(q.fm.get 0 D).cell 1,(q.fm.get 0 D).cell 2,(q.fm.get 0 D).cell 3,(q.fm.get 0 D).cell 4,(q.fm.get 0 D).cell 5,(q.fm.get 0 D).cell 6⟩);refine aG (λX=>X.cell? ⟨aJ,2,I⟩=J (G bR m.guards.length cl)/\X.cell? ⟨W.heap.size,0,I⟩=J (C E e)/\X.cell? ⟨W.heap.size,1,I⟩=J (G Y b8.length a9)/\X.cell? ⟨W.heap.size,2,I⟩=J (C E M)/\X.cell? ⟨W.heap.size,3,I⟩=J (C E bQ)/\X.cell? ⟨W.heap.size,4,I⟩=J (H bq)/\X.cell? ⟨W.heap.size,5,I⟩=J (H bF)/\X.cell? ⟨W.heap.size,6,I⟩=J (C E ar)) (λa4=>!([0,1,2,3,4,5,6,7]:List Nat).contains a4) U ?_;rw[<-bg];clear bg;refine tl 0 f ?_;refine tl 1 f ?_;refine tl 2 f ?_;refine tl 3 f ?_;refine tl 4 f ?_;refine tl 6 f ?_;refine bC (rs:=[5,7]) U ZH ?_;refine aN.cons D (λK j=>?_) (aN.cons D (λK j=>?_) aN.nil);go_simp;obtain⟨dS,dV⟩:=q.st;go_wp2_with (go_at_call 80;refine UC ?_;rintro a7 r ⟨eP,cy,bb,fc,rfl,a1,cW,ag,bS,cJ⟩);obtain⟨cY,e4⟩:∃b9,b9=lJ k R.heap.size r.heap.size I .nd:=⟨_,D⟩;have az:=A (q.node cW ag);have eb:=TK;rw[<-e4] at az eb;have fb:=Ry;have fj:=A bS;have e':=A cJ;obtain⟨c3,dt,bX,d5,d2,dz⟩:=eP;obtain⟨fI,rfl,⟨cD,d0,rfl,-⟩,-⟩:=dW.opened fb;have f:=A (show r.cell? ⟨aJ,2,I⟩=J (G bR m.guards.length cl)/\r.cell? ⟨W.heap.size,0,I⟩=J (C E e)/\r.cell? ⟨W.heap.size,1,I⟩=J (G Y b8.length a9)/\r.cell? ⟨W.heap.size,2,I⟩=J (C E M)/\r.cell? ⟨W.heap.size,3,I⟩=J (C E bQ)/\r.cell? ⟨W.heap.size,4,I⟩=J (H bq)/\r.cell? ⟨W.heap.size,5,I⟩=J (H bF)/\r.cell? ⟨W.heap.size,6,I⟩=J (C E ar) from⟨eb.rW,(az.fm.get 0 D).cell 0,(az.fm.get 0 D).cell 1,(az.fm.get 0 D).cell 2,(az.fm.get 0 D).cell 3,(az.fm.get 0 D).cell 4,(az.fm.get 0 D).cell 5,(az.fm.get 0 D).cell 6⟩);clear dV e4 a1 cW ag bS cJ;(refine j.out _ _ (λ_=>f) ?_;clear j K);refine t1 7 λK j=>?_;go_simp;have cN:=Si;have s:=Tt;refine j.out _ _ (λ_=>(show(r.alloc (JO zN 150)).cell? ⟨aJ,2,I⟩=J (G bR m.guards.length cl)/\(r.alloc (JO zN 150)).cell? ⟨W.heap.size,0,I⟩=J (C E e)/\(r.alloc (JO zN 150)).cell? ⟨W.heap.size,1,I⟩=J (G Y b8.length a9)/\(r.alloc (JO zN 150)).cell? ⟨W.heap.size,2,I⟩=J (C E M)/\(r.alloc (JO zN 150)).cell? ⟨W.heap.size,3,I⟩=J (C E bQ)/\(r.alloc (JO zN 150)).cell? ⟨W.heap.size,4,I⟩=J (H bq)/\(r.alloc (JO zN 150)).cell? ⟨W.heap.size,5,I⟩=J (H bF)/\(r.alloc (JO zN 150)).cell? ⟨W.heap.size,6,I⟩=J (C E ar) from⟨cN.rW,(s.fm.get 0 D).cell 0,(s.fm.get 0 D).cell 1,(s.fm.get 0 D).cell 2,(s.fm.get 0 D).cell 3,(s.fm.get 0 D).cell 4,(s.fm.get 0 D).cell 5,(s.fm.get 0 D).cell 6⟩)) ?_;clear j K cN s;refine UA ?_;intro cj h;have b:=A (az.more h.1);have b7:=Tc;have aR:=A h.2;have eR:=RG;have f:=Ri;clear h;rotate_left;go_simp;have cN:=A (c7.bG (Stp.of_below k ((Ky R.heap.size R).alloc c (JO zN 150)) q.pl.low) λ_ _=>trivial);have s:=Tv;refine j.out _ _ (λ_=>(show(R.alloc (JO zN 150)).cell? ⟨aJ,2,I⟩=J (G bR m.guards.length cl)/\(R.alloc (JO zN 150)).cell? ⟨W.heap.size,0,I⟩=J (C E e)/\(R.alloc (JO zN 150)).cell? ⟨W.heap.size,1,I⟩=J (G Y b8.length a9)/\(R.alloc (JO zN 150)).cell? ⟨W.heap.size,2,I⟩=J (C E M)/\(R.alloc (JO zN 150)).cell? ⟨W.heap.size,3,I⟩=J (C E bQ)/\(R.alloc (JO zN 150)).cell? ⟨W.heap.size,4,I⟩=J (H bq)/\(R.alloc (JO zN 150)).cell? ⟨W.heap.size,5,I⟩=J (H bF)/\(R.alloc (JO zN 150)).cell? ⟨W.heap.size,6,I⟩=J (C E ar) from⟨cN.rW,(s.fm.get 0 D).cell 0,(s.fm.get 0 D).cell 1,(s.fm.get 0 D).cell 2,(s.fm.get 0 D).cell 3,(s.fm.get 0 D).cell 4,(s.fm.get 0 D).cell 5,(s.fm.get 0 D).cell 6⟩)) ?_;clear j K cN s;refine Uz ?_;intro bd h;have ay:=A (q.more h.1);have fe:=A (c7.bG (Stp.of_below k h.1 q.pl.low) λ_ _=>trivial);have fi:=A h.2;have f:=A (show bd.cell? ⟨aJ,2,I⟩=J (G bR m.guards.length cl)/\bd.cell? ⟨W.heap.size,0,I⟩=J (C E e)/\bd.cell? ⟨W.heap.size,1,I⟩=J (G Y b8.length a9)/\bd.cell? ⟨W.heap.size,2,I⟩=J (C E M)/\bd.cell? ⟨W.heap.size,3,I⟩=J (C E bQ)/\bd.cell? ⟨W.heap.size,4,I⟩=J (H bq)/\bd.cell? ⟨W.heap.size,5,I⟩=J (H bF)/\bd.cell? ⟨W.heap.size,6,I⟩=J (C E ar) from⟨fe.rW,(ay.fm.get 0 D).cell 0,(ay.fm.get 0 D).cell 1,(ay.fm.get 0 D).cell 2,(ay.fm.get 0 D).cell 3,(ay.fm.get 0 D).cell 4,(ay.fm.get 0 D).cell 5,(ay.fm.get 0 D).cell 6⟩);clear h;refine t1 5 λK j=>?_;go_simp;obtain⟨dS,dV⟩:=ay.st;go_wp2_with (go_at_call 80;refine Uy ?_;rintro a7 cj ⟨eP,cy,bb,fc,rfl,a1,cW,ag,bS,cJ⟩);obtain⟨cY,e4⟩:∃b9,b9=lJ k bd.heap.size cj.heap.size I .nd:=⟨_,D⟩;have b:=A (ay.node cW ag);have b7:=TD;rw[<-e4] at b b7;have eR:=Rw;have fj:=A bS;have e':=A cJ;obtain⟨c3,dt,bX,d5,d2,dz⟩:=eP;obtain⟨fI,rfl,⟨cD,d0,rfl,-⟩,-⟩:=dW.opened eR;have aR:=SQ;have f:=Ri;clear dV e4 a1 cW ag bS cJ;(refine j.out _ _ (λ_=>f) ?_;clear j K);all_goals
    refine t1 8 λK j=>?_
    refine nX (t:=qW z 0 0) (n:=(.mk c3 dt bX d5 d2 dz)) (sO:=[C E c3,C E dt,G cD dz.length d0,C E bX.kind,C JL bX.bits,C E d5,C E d2]) D (.tmp 66) (.tmp 71) D b7.row (iG _ _ _).1 b.pl.low b.pl.fresh eR aR f1 D D ?_
    intro aT bG av cQ
    have fw:((m.guards.length:Int) < (m.guards.length:Int)+1):=N
    have aB:=A cQ
    have bU:=A (b7.mid cQ)
    clear cQ
    (refine TS ?_;clear j K)
    refine tp 9 ?_
    refine tp 11 ?_
    refine bC (rs:=[10,12]) U ZH ?_
    refine aN.cons D (λK j=>?_) (aN.cons D (λK j=>?_) aN.nil)
    go_simp
    have ev:av.frozen? ⟨aT,m.guards.length*7,I⟩=false:=aB.fz _
    have ew:av.cell? ⟨aT,m.guards.length*7,I⟩=J (C E 0):=aB.ce 0 _ D
    have ex:av.frozen? ⟨aT,m.guards.length*7+1,I⟩=false:=aB.fz _
    have ey:av.cell? ⟨aT,m.guards.length*7+1,I⟩=J (C E 0):=aB.ce 1 _ D
    have ez:av.frozen? ⟨aT,m.guards.length*7+2,I⟩=false:=aB.fz _
    have eA:av.cell? ⟨aT,m.guards.length*7+2,I⟩=J (G I 0 0):=aB.ce 2 _ D
    have eB:av.frozen? ⟨aT,m.guards.length*7+3,I⟩=false:=aB.fz _
    have eC:av.cell? ⟨aT,m.guards.length*7+3,I⟩=J (C E 0):=aB.ce 3 _ D
    have eD:av.frozen? ⟨aT,m.guards.length*7+4,I⟩=false:=aB.fz _
    have eE:av.cell? ⟨aT,m.guards.length*7+4,I⟩=J (C JL 0):=aB.ce 4 _ D
    have eF:av.frozen? ⟨aT,m.guards.length*7+5,I⟩=false:=aB.fz _
    have eG:av.cell? ⟨aT,m.guards.length*7+5,I⟩=J (C E 0):=aB.ce 5 _ D
    have eH:av.frozen? ⟨aT,m.guards.length*7+6,I⟩=false:=aB.fz _
    have eI:av.cell? ⟨aT,m.guards.length*7+6,I⟩=J (C E 0):=aB.ce 6 _ D
    go_simp
    clear ev ew ex ey ez eA eB eC eD eE eF eG eH eI
    (refine TS ?_;clear j K)
    refine UG ?_
    intro aa h
    have bs:=A h
    have fp:=A (show aa.frozen? ⟨aJ,2,I⟩=false by rw[h];exact jY _ _ (bU.2.1 _))
    have fq:=A (show aa.cell? ⟨aJ,2,I⟩=J (G bR m.guards.length cl) by rw[h];exact aB.bJ.keep (λy=>y≠aT) (λ_ h=>h) _ _ bU.2.2 bU.1)
    clear h
    refine t1 12 λK j=>?_
    go_simp
    have c':=fp.out
    have d7:=fq.out
    go_simp
    clear c' d7
    (refine TS ?_;clear j K)
    refine aC (Φ:=λX=>X=(dA aT (m.guards.length*7) [C E c3,C E dt,G cD dz.length d0,C E bX.kind,C JL bX.bits,C E d5,C E d2] av).setCell ⟨aJ,2,I⟩ (G (J ⟨aT,0,I⟩) (m.guards.length+1) bG)) Zu ?_
    intro cX h
    have bp:=A h
    clear h
    rotate_left
    go_simp
    have c':av.frozen? ⟨aJ,2,I⟩=false:=bU.2.1 _
    have d7:av.cell? ⟨aJ,2,I⟩=J (G bR m.guards.length cl):=bU.1
    go_simp
    clear c' d7
    (refine TS ?_;clear j K)
    refine aC (Φ:=λX=>X=av.setCell ⟨aJ,2,I⟩ (G (J ⟨aT,0,I⟩) (m.guards.length+1) bG)/\(∀a4,X.frozen? ⟨aT,m.guards.length*7+a4,I⟩=false)/\∀a4 u,zN.toList[a4]? =J u->X.cell? ⟨aT,m.guards.length*7+a4,I⟩=J u) ⟨D,λa4=>iK _ _ _ _ (aB.fz _),λa4 u ap=>(LJ _ _ _ _ Vy).trans (aB.ce a4 u ap)⟩ ?_
    intro aa h
    have bs:=A h
    clear h
    refine t1 10 λK j=>?_
    go_simp
    have ev:aa.frozen? ⟨aT,m.guards.length*7,I⟩=false:=bs.2.1 0
    have ew:aa.cell? ⟨aT,m.guards.length*7,I⟩=J (C E 0):=bs.2.2 0 _ D
    have ex:aa.frozen? ⟨aT,m.guards.length*7+1,I⟩=false:=bs.2.1 1
    have ey:aa.cell? ⟨aT,m.guards.length*7+1,I⟩=J (C E 0):=bs.2.2 1 _ D
    have ez:aa.frozen? ⟨aT,m.guards.length*7+2,I⟩=false:=bs.2.1 2
    have eA:aa.cell? ⟨aT,m.guards.length*7+2,I⟩=J (G I 0 0):=bs.2.2 2 _ D
    have eB:aa.frozen? ⟨aT,m.guards.length*7+3,I⟩=false:=bs.2.1 3
    have eC:aa.cell? ⟨aT,m.guards.length*7+3,I⟩=J (C E 0):=bs.2.2 3 _ D
    have eD:aa.frozen? ⟨aT,m.guards.length*7+4,I⟩=false:=bs.2.1 4
    have eE:aa.cell? ⟨aT,m.guards.length*7+4,I⟩=J (C JL 0):=bs.2.2 4 _ D
    have eF:aa.frozen? ⟨aT,m.guards.length*7+5,I⟩=false:=bs.2.1 5
    have eG:aa.cell? ⟨aT,m.guards.length*7+5,I⟩=J (C E 0):=bs.2.2 5 _ D
    have eH:aa.frozen? ⟨aT,m.guards.length*7+6,I⟩=false:=bs.2.1 6
    have eI:aa.cell? ⟨aT,m.guards.length*7+6,I⟩=J (C E 0):=bs.2.2 6 _ D
    go_simp
    clear ev ew ex ey ez eA eB eC eD eE eF eG eH eI
    (refine TS ?_;clear j K)
    refine aC (Φ:=λX=>X=(dA aT (m.guards.length*7) [C E c3,C E dt,G cD dz.length d0,C E bX.kind,C JL bX.bits,C E d5,C E d2] av).setCell ⟨aJ,2,I⟩ (G (J ⟨aT,0,I⟩) (m.guards.length+1) bG)) (by rw[bs.1];exact jC (p:=⟨aJ,2,I⟩) bU.2.2 (G (J ⟨aT,0,I⟩) (m.guards.length+1) bG) [C E c3,C E dt,G cD dz.length d0,C E bX.kind,C JL bX.bits,C E d5,C E d2] (m.guards.length*7) av) ?_
    intro cX h
    have bp:=A h
    clear h
    all_goals
     refine td ?_
     try simp only[Exit.then]
     obtain⟨bJ,ep⟩:=b.fin b7 aB cx cO Z
     rw[bp.out]
     refine aC (Φ:=λX=>mJ Q g B vt vs vi S its vk (G (J ⟨aQ,0,I⟩) P.length cV) p dh W cy (ba.set z {y with parts:=y.parts.set 0 (fA 0 m (m.guards++[(.mk c3 dt bX d5 d2 dz)]))}) [⟨W.heap.size,139,#[C E e,G Y b8.length a9,C E M,C E bQ,H bq,H bF,C E ar]⟩,⟨b5,29,#[C E p.strategy,vk,(G (J ⟨aQ,0,I⟩) P.length cV)]⟩] bJ X) ep ?_
     intro e6 h
     have c9:=A h
     clear h ep
     go_wp2_with fail
     exact⟨⟨z+1,cy,_,bJ,N,ZF,c9,A ⟨λh=>(cS.1 (e' h).1).none_ fG (e' h).2.2 cx cO,by rw[FU (kk:=0) (l:=m.guards) cx.out cO.out D,Nat.succ_mul];have:=cS.2.1;have:=fj.out;omega,by rw[Lj];exact cS.2.2.1,jv cS.2.2.2 (λa7=>by have b3:=congrArg List.length a7;rw[Lj] at b3;exact cS.2.2.2 y (Kz cx) (NP.1 b3))⟩⟩,YF⟩
  have c0:(P.length:Int)<=(z:Int):=N;have fg:z=P.length:=N;subst fg;go_wp2_with fail;go_end0;exact⟨dM,ba,k,D,f9.drop,λh=>⟨D,cS.1 h⟩,by have o:=cS.2.1;have a8:P.length*aP (.mk e b8 M bQ bq bF ar)<=4*aP (.mk e b8 M bQ bq bF ar):=Nat.mul_le_mul_right _ cG;omega,cS.2.2.1⟩
 have dc:((bP.length:Int)== 0)=false:=NR.2 N;obtain⟨aA,cv⟩:∃aA,bP[0]? =J aA:=⟨_,Kr N⟩;have co:=A cv;obtain⟨g8,fZ,g9,ga,gb,gc⟩:=aA;obtain⟨gi,gj,rfl,b',bv,bo,bZ,c5,bG,f'⟩:=nI dX cv;dsimp only at b' bv bo bZ c5 bG;simp only[Nat.zero_mul,Nat.add_zero] at b' bv bo bZ c5 bG;have gd:=A f';clear cv f';have d8:(0:Int) < (bP.length:Int):=N;have g0:0 < bP.length:=N;go_upto_region 15 with fail;refine aI (Φ:=λX=>CdM bt X ⟨g8,fZ,g9,ga,gb,gc⟩) ⟨JY.alloc c _,aj.new _ _ _⟩ ?_;intro da dy;have bL:=A dy;clear dy b' bv bo bZ c5 bG;have fT:(0:Int)<=(bP.length:Int):=N;have fH:(bP.length:Int)<=10000:=N;go_wp2_with fail;go_loopw [12,81] (λbl a3 wr=>agW bP bt bl a3 wr) (λbl a3 wr=>bP.length-(intOf a3).toNat);case atStart=>exact⟨0,_,true,Kw _,D,D,A ⟨⟨Kz co,(λa2 ak=>Zy),(λ_ a2 ak=>Zy)⟩,gd.out⟩,bL⟩
 clear bL;obtain⟨a4,au,c8,bK,rfl,rfl,bj,bH⟩:=hrel;obtain⟨aV,ff,ek,f0,eU,f2⟩:=au;have ct:(0:Int)<=(a4:Int):=N;have cu:(a4:Int)<=10000:=N;by_cases bA:a4 < bP.length
 ·have c0:(a4:Int) < (bP.length:Int):=N;obtain⟨a2,ak⟩:∃a2,bP[a4]? =J a2:=⟨_,Kr bA⟩;have bV:=A ak;obtain⟨cH,dx,dk,bx,i,ah⟩:=a2;obtain⟨dN,c3,cE,b',bv,bo,bZ,c5,bG,cr⟩:=nI (dX.keep (bW.of_below bH.1) λ_ _ h=>h) ak;injection cE with cE;injection cE with dw dU;subst dw dU;dsimp only at b' bv bo bZ c5 bG;clear ak;go_upto_region 19 with fail;refine Ug ?_;intro cX aD;have bp:=A aD;clear aD b' bv bo bZ c5 bG;obtain⟨R,bd,bO,bY,cd,cj,dG,cC,d4,du,dH,aT⟩:=fK bp.2;have e0:=A (bH.more bp.1);obtain⟨al,am,ax,aW,T,bi,a5,a6,aq,aZ,aO,be⟩:=fK e0.2;have eO:=A (show ItW ⟨cH,dx,dk,bx,i,ah⟩ from cr);rcases fy:decide (ek < dk) with _|_;go_upto_region 21 with fail;refine aI (Φ:=λX=>CdM bt X (if ek < dk then⟨cH,dx,dk,bx,i,ah⟩ else⟨aV,ff,ek,f0,eU,f2⟩)/\aj X wr.heap.size 193 #[H cH,C E dx,C E dk,C E bx,C E i,C E ah]) ⟨by rw[JZ (Lr fy)];exact e0,bp.2⟩ ?_;intro e6 cL;have c9:=A cL;clear cL R bd bO bY cd cj dG cC d4 du dH aT al am ax aW T bi a5 a6 aq aZ aO be;rotate_left;go_upto_region 21 with fail;refine aI (Φ:=λX=>CdM bt X (if ek < dk then⟨cH,dx,dk,bx,i,ah⟩ else⟨aV,ff,ek,f0,eU,f2⟩)/\aj X wr.heap.size 193 #[H cH,C E dx,C E dk,C E bx,C E i,C E ah]) (by have c4:=adZ (cs:=#[H aV,C E ff,C E ek,C E f0,C E eU,C E f2]) e0.2 D (H cH) (C E dx) (C E dk) (C E bx) (C E i) (C E ah);refine⟨by rw[Kq (Lu fy)];exact⟨c4.2.below _ _ c e0.1,c4.1⟩,c4.2.blk _ _ _ (λa7=>by have:=bH.2.lt;omega) bp.2⟩) ?_;intro e6 cL;have c9:=A cL;clear cL R bd bO bY cd cj dG cC d4 du dH aT al am ax aW T bi a5 a6 aq aZ aO be;all_goals
   obtain⟨fh,fs⟩:∃x:dJ,x=if ek < dk then⟨cH,dx,dk,bx,i,ah⟩ else⟨aV,ff,ek,f0,eU,f2⟩:=⟨_,D⟩
   have fv:F (ItW fh):=A (by rw[fs];split;exact eO.out;exact bj.2)
   rw[<-fs] at c9
   have fW:=A fs
   clear fs fy eO
   obtain⟨R,bd,bO,bY,cd,cj,dG,cC,d4,du,dH,aT⟩:=fK c9.2
   obtain⟨dN,c3,cE,-,bv,-,-,-,-,-⟩:=nI (dX.keep (bW.of_below c9.1.1) λ_ _ h=>h) co
   injection cE with cE
   injection cE with dw dU
   subst dw dU
   dsimp only at bv
   simp only[Nat.zero_mul,Nat.add_zero] at bv
   rcases c8 with _|_
   ·
    go_quiet (fail)
    go_wp2_with fail
    exact Qr
   rcases el:(dx== fZ) with _|_
   all_goals go_quiet (fail)
   all_goals go_wp2_with fail
   ·
    exact Qr
   exact⟨⟨a4+1,fh,true,N,D,ZF,A ⟨AU bj.1 bV co fW (λ_=>⟨D,by simpa using el⟩),fv.out⟩,A (c9.1.more (below_drewN JY _))⟩,YF⟩
 have c0:(bP.length:Int)<=(a4:Int):=N;have fN:a4=bP.length:=N;subst fN;clear bA bK;obtain⟨al,am,ax,aW,T,bi,a5,a6,aq,aZ,aO,be⟩:=fK bH.2;go_upto_region 24 with fail;obtain⟨aU,o⟩:∃u,u=wr:=⟨_,D⟩;rw[<-o] at bH;rw[<-o];clear o al am ax aW T bi a5 a6 aq aZ aO be ct c0 cu;have ej:=bj;obtain⟨fJ,cm⟩:∃y,y=c8:=⟨_,D⟩;rw[<-cm] at ej;rw[<-cm];obtain⟨g1,ds⟩:∃y,y=(eU !=2):=⟨_,D⟩;rw[<-ds];have f7:=A ds;clear bj cm ds;have bw:=bH;clear bH;go_wp2_with fail;go_loopw [11,12,107] (λM bl a3 wr=>agX bP bt ⟨aV,ff,ek,f0,eU,f2⟩ fJ M bl a3 wr) (λM bl a3 wr=>bP.length-(intOf a3).toNat);case atStart=>exact⟨0,0,fJ,Kw _,D,D,D,A ⟨Lp _,Lp _⟩,A (λh=>⟨h,λa2 ak=>Zy⟩),bw⟩
 clear bw;obtain⟨a4,dn,c8,bK,rfl,rfl,rfl,eu,bj,bH⟩:=hrel;have cq:=eu.1;have cT:=eu.2;have ct:(0:Int)<=(a4:Int):=N;have cu:(a4:Int)<=10000:=N;by_cases bA:a4 < bP.length
 ·have c0:(a4:Int) < (bP.length:Int):=N;obtain⟨a2,ak⟩:∃a2,bP[a4]? =J a2:=⟨_,Kr bA⟩;have bV:=A ak;obtain⟨cH,dx,dk,bx,i,ah⟩:=a2;obtain⟨dN,c3,cE,b',bv,bo,bZ,c5,bG,cr⟩:=nI (dX.keep (bW.of_below bH.1) λ_ _ h=>h) ak;injection cE with cE;injection cE with dw dU;subst dw dU;dsimp only at b' bv bo bZ c5 bG;clear ak cr;go_upto_region 27 with fail;refine Ug ?_;intro cX aD;have bp:=A aD;clear aD b' bv bo bZ c5 bG;obtain⟨R,bd,bO,bY,cd,cj,dG,cC,d4,du,dH,aT⟩:=fK bp.2;have e0:=A (bH.more bp.1);obtain⟨al,am,ax,aW,T,bi,a5,a6,aq,aZ,aO,be⟩:=fK e0.2;have em:=mD cH aV;rcases aH:(i== 3) with _|_
  ·go_wp2_with fail;exact⟨⟨a4+1,dn,c8,N,D,D,ZF,A (by have:=eu.out;omega),A (xg bj bV λh=>⟨h,λac=>by simp[show i=3 from ac] at aH⟩),e0⟩,YF⟩
  rcases c8 with _|_
  ·go_wp2_with fail;exact Qz
  rcases a1:decide (cH=aV) with _|_;all_goals rw[a1] at em
  all_goals go_wp2_with fail
  ·exact Qz
  exact⟨⟨a4+1,dn+1,true,N,ZF,D,ZF,A (by have:=eu.out;omega),A (xg bj bV λ_=>⟨D,λ_=>Lu a1⟩),e0⟩,YF⟩
 have c0:(bP.length:Int)<=(a4:Int):=N;have fN:a4=bP.length:=N;subst fN;clear bA bK ct c0 cu cq cT;obtain⟨br,o⟩:∃u,u=wr:=⟨_,D⟩;rw[<-o] at bH;rw[<-o];clear o;have e2:=bj;obtain⟨fL,fr⟩:∃y,y=c8:=⟨_,D⟩;rw[<-fr] at e2;rw[<-fr];clear bj fr;have g2:=bH;clear bH;have f8:=A (cM.more g2.1);obtain⟨fD,ec⟩:=f8.st;have g3:=A (bn br _ _ _ _ f8);have aX:=A (AV true (.mk e b8 M bQ bq bF ar) 0 fD br [C E e,G Y b8.length a9,C E M,C E bQ,H bq,H bF,C E ar] ec g3.weak cw);obtain⟨al,am,ax,aW,T,bi,bM,cF,cz,cP,d1,dd,d9,dp⟩:=aK (f8.fm.get 0 D);clear ec;go_wp2_with (go_at_call 79;refine aX.mono ?_;rintro a7 cU ⟨bc,rfl,dI,d⟩;have fO:=A dI;have d':=A (g2.more d);clear dI d;obtain⟨cA,dC⟩:∃cA,cA=dD its true (.mk e b8 M bQ bq bF ar):=⟨_,D⟩;rw[<-dC] at fO;have g4:=A dC;have g5:=A (show cA.length<=10000 by rw[dC];exact Ko (uy its true _) fb);clear dC;obtain⟨gl,gm,rfl,ge,f6⟩:=fO.slice;have gf:=g5.out;unfold maxLen at f6);clear al am ax aW T bi bM cF cz cP d1 dd d9 dp aX f8 g3;have gn:(0:Int)<=(cA.length:Int):=N;have go:(cA.length:Int)<=10000:=N;go_loopw [12,15,129] (λbl a0 a3 wr=>agY cA bt cU ⟨aV,ff,ek,f0,eU,f2⟩ fL g1 bl a0 a3 wr) (λbl a0 a3 wr=>cA.length-(intOf a3).toNat);case atStart=>exact⟨0,fL,g1,Kw _,D,D,D,A ⟨λh=>⟨h,λa2 ak=>Zy⟩,λh=>h⟩,A ⟨d',Ky _ _⟩⟩
 clear d';obtain⟨a4,c8,fz,bK,rfl,rfl,rfl,bj,eQ⟩:=hrel;have bH:=A eQ.1;have dR:=A eQ.2;clear eQ;have ct:(0:Int)<=(a4:Int):=N;have cu:(a4:Int)<=10000:=N;by_cases bA:a4 < cA.length
 ·have c0:(a4:Int) < (cA.length:Int):=N;obtain⟨a2,ak⟩:∃a2,cA[a4]? =J a2:=⟨_,Kr bA⟩;obtain⟨gp,gq,gg,-⟩:=nI fO ak;subst gg;clear ak a2;obtain⟨a2,ak⟩:∃a2,cA[a4]? =J a2:=⟨_,Kr bA⟩;have bV:=A ak;obtain⟨cH,dx,dk,bx,i,ah⟩:=a2;obtain⟨dN,c3,cE,b',bv,bo,bZ,c5,bG,cr⟩:=nI (fO.keep (bW.of_below dR) λ_ _ h=>h) ak;injection cE with cE;injection cE with dw dU;subst dw dU;dsimp only at b' bv bo bZ c5 bG;clear ak cr;go_upto_region 34 with fail;refine Ug ?_;intro cX aD;have bp:=A aD;clear aD b' bv bo bZ c5 bG;obtain⟨R,bd,bO,bY,cd,cj,dG,cC,d4,du,dH,aT⟩:=fK bp.2;have e0:=A (bH.more bp.1);obtain⟨al,am,ax,aW,T,bi,a5,a6,aq,aZ,aO,be⟩:=fK e0.2;have em:=mD cH aV;rcases aH:(i== 2) with _|_
  ·go_wp2_with fail;exact⟨⟨a4+1,c8,fz,N,D,D,ZF,A (sN bj bV (λh=>h) λh=>⟨h,λac=>by simp[show i=2 from ac] at aH⟩),A ⟨e0,dR.trans (bp.1.mono dR.size)⟩⟩,YF⟩
  rcases c8 with _|_
  ·go_wp2_with fail;exact OY
  rcases fE:(dn== 0) with _|_
  ·go_wp2_with fail;exact OY
  rcases a1:decide (cH=aV) with _|_;all_goals rw[a1] at em
  all_goals go_wp2_with fail
  ·exact OY
  exact⟨⟨a4+1,true,true,N,D,D,ZF,A (sN bj bV (λ_=>rfl) λ_=>⟨D,λ_=>⟨Lu a1,D⟩⟩),A ⟨e0,dR.trans (bp.1.mono dR.size)⟩⟩,YF⟩
 have c0:(cA.length:Int)<=(a4:Int):=N;have fN:a4=cA.length:=N;subst fN;clear bA bK ct c0 cu;obtain⟨et,o⟩:∃u,u=wr:=⟨_,D⟩;rw[<-o] at bH dR;rw[<-o];clear o;have dQ:=A (cM.more bH.1);obtain⟨gr,ee⟩:=dQ.st;have dr:=A ee.ok;have db:=A (iZ ee 15 ar Z);clear ee;obtain⟨al,am,ax,aW,T,bi,a5,a6,aq,aZ,aO,be⟩:=fK bH.2;rcases c8 with _|_
 ·obtain⟨df,dY,es,g6,eV,fX,gs,cF,cz,cP,d1,dd,d9,dp⟩:=aK (dQ.fm.get 0 D);go_wp2_with (go_at_call 75;refine db.mono ?_;rintro a7 cK ⟨cy,dS,rfl,bm,cW,ag⟩;have aM:=A (dQ.call cW ag);have d6:=A bm;clear bm cW ag);go_end0;exact⟨cy,P,dh,D,aM.drop,λh=>absurd h d6,Nat.le_add_right _ _,D⟩
 have fQ:=A (show qX its (.mk e b8 M bQ bq bF ar) ⟨aV,ff,ek,f0,eU,f2⟩ fz/\0 < aV.size by have a8:=ej.1;have ac:=e2.out;have b6:=bj.out;rw[e8.out] at a8 ac;rw[g4.out,f7.out] at b6;exact aeG ci eT (by rw[<-e8.out];intro a7;rw[a7] at g0;exact absurd g0 Z) a8 ac b6);obtain⟨z,cc,y,m,el,ft,d,a1,aE,e7⟩:=eX.place fQ.1;have el:ff=(z:Int):=el;have ft:ek=(cc:Int):=ft;subst el ft;have cx:=A d;have cO:=A a1;have fk:=A (Kt aE e7);have e9:(0:Int)<=(z:Int):=N;have ea:(z:Int) < (P.length:Int):=XB;have fa:(0:Int)<=(cc:Int):=N;have fm:(cc:Int) < (y.parts.length:Int):=by have:=(KA.1 a1).1;omega
 obtain⟨aQ,ck,aJ,fC,cR,aY,af,dL,fl,fn,fo,ao,b2,fd,eJ,ed,ch,c6⟩:=dQ.part cx cO;injection af with af aD cL;subst af;clear d a1 aE e7 aD cL db ej e2 bj f7 g4 fO g5 gf ge f6 dX fV bB ef dC;have fP:et.cell? ⟨aQ,z*3+2,I⟩=J (G (J ⟨aJ,0,I⟩) y.parts.length fC):=dL;obtain⟨dT,v,c2,cp,cf,cb⟩:=bf (dQ.fm.get 1 D);rcases fz with _|_
 ·obtain⟨bR,cl,rfl⟩:=eJ.slice;have e3:=A (show CdF aQ z cc 1 aJ fC P.length cV y (G bR m.closes.length cl) m.closes dh B et from⟨dL,eJ,b2,fl,ch,⟨fn,c6⟩,fo,ed⟩);have f1:=A (show m.closes.length<=200000 by have o:=kS m.closes;have a8:=fB gJ cO;have ac:=fB kG cx;have b6:kG y=(y.parts.map gJ).sum:=D;have bz:lS P=(P.map kG).sum:=D;have dy:=eL.out;have aD:fU m.closes<=gJ m:=YU;omega);clear dL fl fn fo ao b2 fd eJ ed ch c6;go_upto_region 40 with fail;go_quiet (fail);obtain⟨dF,eY⟩:∃w,w=et.drewN nq:=⟨_,D⟩;have en:JK et.heap.size et dF:=by rw[eY];exact below_drewN JY _
  have eM:=A (dQ.more en);have eZ:=A (e3.bG (Stp.of_below dh en dQ.pl.low) λ_ _=>trivial);rw[<-eY];clear eY en fP dT v c2 cp cf cb al am ax aW T bi a5 a6 aq aZ aO be;go_upto_region 43 with fail;obtain⟨R,bg⟩:∃b4,b4=World.drew dF:=⟨_,D⟩;have q:=SX;have c7:=Tn;have f:=A (show R.cell? ⟨aJ,cc*4+3,I⟩=J (G bR m.closes.length cl)/\R.cell? ⟨W.heap.size,0,I⟩=J (C E e)/\R.cell? ⟨W.heap.size,1,I⟩=J (G Y b8.length a9)/\R.cell? ⟨W.heap.size,2,I⟩=J (C E M)/\R.cell? ⟨W.heap.size,3,I⟩=J (C E bQ)/\R.cell? ⟨W.heap.size,4,I⟩=J (H bq)/\R.cell? ⟨W.heap.size,5,I⟩=J (H bF)/\R.cell? ⟨W.heap.size,6,I⟩=J (C E ar) from⟨c7.rW,(q.fm.get 0 D).cell 0,(q.fm.get 0 D).cell 1,(q.fm.get 0 D).cell 2,(q.fm.get 0 D).cell 3,(q.fm.get 0 D).cell 4,(q.fm.get 0 D).cell 5,(q.fm.get 0 D).cell 6⟩);refine aG (λX=>X.cell? ⟨aJ,cc*4+3,I⟩=J (G bR m.closes.length cl)/\X.cell? ⟨W.heap.size,0,I⟩=J (C E e)/\X.cell? ⟨W.heap.size,1,I⟩=J (G Y b8.length a9)/\X.cell? ⟨W.heap.size,2,I⟩=J (C E M)/\X.cell? ⟨W.heap.size,3,I⟩=J (C E bQ)/\X.cell? ⟨W.heap.size,4,I⟩=J (H bq)/\X.cell? ⟨W.heap.size,5,I⟩=J (H bF)/\X.cell? ⟨W.heap.size,6,I⟩=J (C E ar)) (λa4=>!([0,1,2,3,4,5,6,7,8]:List Nat).contains a4) U ?_;rw[<-bg];clear bg;refine tl 0 f ?_;refine tl 1 f ?_;refine tl 2 f ?_;refine tl 3 f ?_;refine tl 4 f ?_;refine tl 5 f ?_;refine tl 7 f ?_;refine bC (rs:=[6,8]) U ZH ?_;refine aN.cons D (λK j=>?_) (aN.cons D (λK j=>?_) aN.nil);go_simp;obtain⟨dS,dV⟩:=q.st;go_wp2_with (go_at_call 80;refine UC ?_;rintro a7 r ⟨eP,cy,bb,fc,rfl,a1,cW,ag,bS,cJ⟩);obtain⟨cY,e4⟩:∃b9,b9=lJ dh R.heap.size r.heap.size I .nd:=⟨_,D⟩;have az:=A (q.node cW ag);have eb:=TK;rw[<-e4] at az eb;have fb:=Ry;have fj:=A bS;have e':=A cJ;obtain⟨c3,dt,bX,d5,d2,dz⟩:=eP;obtain⟨fI,rfl,⟨cD,d0,rfl,-⟩,-⟩:=dW.opened fb;have f:=A (show r.cell? ⟨aJ,cc*4+3,I⟩=J (G bR m.closes.length cl)/\r.cell? ⟨W.heap.size,0,I⟩=J (C E e)/\r.cell? ⟨W.heap.size,1,I⟩=J (G Y b8.length a9)/\r.cell? ⟨W.heap.size,2,I⟩=J (C E M)/\r.cell? ⟨W.heap.size,3,I⟩=J (C E bQ)/\r.cell? ⟨W.heap.size,4,I⟩=J (H bq)/\r.cell? ⟨W.heap.size,5,I⟩=J (H bF)/\r.cell? ⟨W.heap.size,6,I⟩=J (C E ar) from⟨eb.rW,(az.fm.get 0 D).cell 0,(az.fm.get 0 D).cell 1,(az.fm.get 0 D).cell 2,(az.fm.get 0 D).cell 3,(az.fm.get 0 D).cell 4,(az.fm.get 0 D).cell 5,(az.fm.get 0 D).cell 6⟩);clear dV e4 a1 cW ag bS cJ;(refine j.out _ _ (λ_=>f) ?_;clear j K);refine t1 8 λK j=>?_;go_simp;have cN:=Si;have s:=Tt;refine j.out _ _ (λ_=>(show(r.alloc (JO zN 150)).cell? ⟨aJ,cc*4+3,I⟩=J (G bR m.closes.length cl)/\(r.alloc (JO zN 150)).cell? ⟨W.heap.size,0,I⟩=J (C E e)/\(r.alloc (JO zN 150)).cell? ⟨W.heap.size,1,I⟩=J (G Y b8.length a9)/\(r.alloc (JO zN 150)).cell? ⟨W.heap.size,2,I⟩=J (C E M)/\(r.alloc (JO zN 150)).cell? ⟨W.heap.size,3,I⟩=J (C E bQ)/\(r.alloc (JO zN 150)).cell? ⟨W.heap.size,4,I⟩=J (H bq)/\(r.alloc (JO zN 150)).cell? ⟨W.heap.size,5,I⟩=J (H bF)/\(r.alloc (JO zN 150)).cell? ⟨W.heap.size,6,I⟩=J (C E ar) from⟨cN.rW,(s.fm.get 0 D).cell 0,(s.fm.get 0 D).cell 1,(s.fm.get 0 D).cell 2,(s.fm.get 0 D).cell 3,(s.fm.get 0 D).cell 4,(s.fm.get 0 D).cell 5,(s.fm.get 0 D).cell 6⟩)) ?_;clear j K cN s;refine UA ?_;intro cj h;have b:=A (az.more h.1);have b7:=Tc;have aR:=A h.2;have eR:=RG;have f:=Rh;clear h;rotate_left;go_simp;have cN:=TI;have s:=Tv;refine j.out _ _ (λ_=>(show(R.alloc (JO zN 150)).cell? ⟨aJ,cc*4+3,I⟩=J (G bR m.closes.length cl)/\(R.alloc (JO zN 150)).cell? ⟨W.heap.size,0,I⟩=J (C E e)/\(R.alloc (JO zN 150)).cell? ⟨W.heap.size,1,I⟩=J (G Y b8.length a9)/\(R.alloc (JO zN 150)).cell? ⟨W.heap.size,2,I⟩=J (C E M)/\(R.alloc (JO zN 150)).cell? ⟨W.heap.size,3,I⟩=J (C E bQ)/\(R.alloc (JO zN 150)).cell? ⟨W.heap.size,4,I⟩=J (H bq)/\(R.alloc (JO zN 150)).cell? ⟨W.heap.size,5,I⟩=J (H bF)/\(R.alloc (JO zN 150)).cell? ⟨W.heap.size,6,I⟩=J (C E ar) from⟨cN.rW,(s.fm.get 0 D).cell 0,(s.fm.get 0 D).cell 1,(s.fm.get 0 D).cell 2,(s.fm.get 0 D).cell 3,(s.fm.get 0 D).cell 4,(s.fm.get 0 D).cell 5,(s.fm.get 0 D).cell 6⟩)) ?_;clear j K cN s;refine Uz ?_;intro bd h;have ay:=A (q.more h.1);have fe:=A (c7.bG (Stp.of_below dh h.1 q.pl.low) λ_ _=>trivial);have fi:=A h.2;have f:=A (show bd.cell? ⟨aJ,cc*4+3,I⟩=J (G bR m.closes.length cl)/\bd.cell? ⟨W.heap.size,0,I⟩=J (C E e)/\bd.cell? ⟨W.heap.size,1,I⟩=J (G Y b8.length a9)/\bd.cell? ⟨W.heap.size,2,I⟩=J (C E M)/\bd.cell? ⟨W.heap.size,3,I⟩=J (C E bQ)/\bd.cell? ⟨W.heap.size,4,I⟩=J (H bq)/\bd.cell? ⟨W.heap.size,5,I⟩=J (H bF)/\bd.cell? ⟨W.heap.size,6,I⟩=J (C E ar) from⟨fe.rW,(ay.fm.get 0 D).cell 0,(ay.fm.get 0 D).cell 1,(ay.fm.get 0 D).cell 2,(ay.fm.get 0 D).cell 3,(ay.fm.get 0 D).cell 4,(ay.fm.get 0 D).cell 5,(ay.fm.get 0 D).cell 6⟩);clear h;refine t1 6 λK j=>?_;go_simp;obtain⟨dS,dV⟩:=ay.st;go_wp2_with (go_at_call 80;refine Uy ?_;rintro a7 cj ⟨eP,cy,bb,fc,rfl,a1,cW,ag,bS,cJ⟩);obtain⟨cY,e4⟩:∃b9,b9=lJ dh bd.heap.size cj.heap.size I .nd:=⟨_,D⟩;have b:=A (ay.node cW ag);have b7:=TD;rw[<-e4] at b b7;have eR:=Rw;have fj:=A bS;have e':=A cJ;obtain⟨c3,dt,bX,d5,d2,dz⟩:=eP;obtain⟨fI,rfl,⟨cD,d0,rfl,-⟩,-⟩:=dW.opened eR;have aR:=SQ;have f:=Rh;clear dV e4 a1 cW ag bS cJ;(refine j.out _ _ (λ_=>f) ?_;clear j K);all_goals
   refine t1 9 λK j=>?_
   refine nX (t:=qW z cc 1) (n:=(.mk c3 dt bX d5 d2 dz)) (sO:=[C E c3,C E dt,G cD dz.length d0,C E bX.kind,C JL bX.bits,C E d5,C E d2]) D (.tmp 186) (.tmp 191) D b7.row (iG _ _ _).1 b.pl.low b.pl.fresh eR aR f1 D D ?_
   intro aT bG av cQ
   have fw:((m.closes.length:Int) < (m.closes.length:Int)+1):=N
   have aB:=A cQ
   have bU:=A (b7.mid cQ)
   clear cQ
   (refine TS ?_;clear j K)
   refine tp 10 ?_
   refine tp 12 ?_
   refine tp 13 ?_
   refine bC (rs:=[11,14]) U ZH ?_
   refine aN.cons D (λK j=>?_) (aN.cons D (λK j=>?_) aN.nil)
   go_simp
   have ev:av.frozen? ⟨aT,m.closes.length*7,I⟩=false:=aB.fz _
   have ew:av.cell? ⟨aT,m.closes.length*7,I⟩=J (C E 0):=aB.ce 0 _ D
   have ex:av.frozen? ⟨aT,m.closes.length*7+1,I⟩=false:=aB.fz _
   have ey:av.cell? ⟨aT,m.closes.length*7+1,I⟩=J (C E 0):=aB.ce 1 _ D
   have ez:av.frozen? ⟨aT,m.closes.length*7+2,I⟩=false:=aB.fz _
   have eA:av.cell? ⟨aT,m.closes.length*7+2,I⟩=J (G I 0 0):=aB.ce 2 _ D
   have eB:av.frozen? ⟨aT,m.closes.length*7+3,I⟩=false:=aB.fz _
   have eC:av.cell? ⟨aT,m.closes.length*7+3,I⟩=J (C E 0):=aB.ce 3 _ D
   have eD:av.frozen? ⟨aT,m.closes.length*7+4,I⟩=false:=aB.fz _
   have eE:av.cell? ⟨aT,m.closes.length*7+4,I⟩=J (C JL 0):=aB.ce 4 _ D
   have eF:av.frozen? ⟨aT,m.closes.length*7+5,I⟩=false:=aB.fz _
   have eG:av.cell? ⟨aT,m.closes.length*7+5,I⟩=J (C E 0):=aB.ce 5 _ D
   have eH:av.frozen? ⟨aT,m.closes.length*7+6,I⟩=false:=aB.fz _
   have eI:av.cell? ⟨aT,m.closes.length*7+6,I⟩=J (C E 0):=aB.ce 6 _ D
   go_simp
   clear ev ew ex ey ez eA eB eC eD eE eF eG eH eI
   (refine TS ?_;clear j K)
   refine aC (Φ:=λX=>X=dA aT (m.closes.length*7) [C E c3,C E dt,G cD dz.length d0,C E bX.kind,C JL bX.bits,C E d5,C E d2] av) D ?_
   intro aa h
   have bs:=A h
   have fp:=A (show aa.frozen? ⟨aJ,cc*4+3,I⟩=false by rw[h];exact jY _ _ (bU.2.1 _))
   have fq:=A (show aa.cell? ⟨aJ,cc*4+3,I⟩=J (G bR m.closes.length cl) by rw[h];exact aB.bJ.keep (λy=>y≠aT) (λ_ h=>h) _ _ bU.2.2 bU.1)
   clear h
   refine t1 14 λK j=>?_
   go_simp
   have c':=fp.out
   have d7:=fq.out
   go_simp
   clear c' d7
   (refine TS ?_;clear j K)
   refine aC (Φ:=λX=>X=(dA aT (m.closes.length*7) [C E c3,C E dt,G cD dz.length d0,C E bX.kind,C JL bX.bits,C E d5,C E d2] av).setCell ⟨aJ,cc*4+3,I⟩ (G (J ⟨aT,0,I⟩) (m.closes.length+1) bG)) Zu ?_
   intro cX h
   have bp:=A h
   clear h
   rotate_left
   go_simp
   have c':av.frozen? ⟨aJ,cc*4+3,I⟩=false:=bU.2.1 _
   have d7:av.cell? ⟨aJ,cc*4+3,I⟩=J (G bR m.closes.length cl):=bU.1
   go_simp
   clear c' d7
   (refine TS ?_;clear j K)
   refine aC (Φ:=λX=>X=av.setCell ⟨aJ,cc*4+3,I⟩ (G (J ⟨aT,0,I⟩) (m.closes.length+1) bG)/\(∀a4,X.frozen? ⟨aT,m.closes.length*7+a4,I⟩=false)/\∀a4 u,zN.toList[a4]? =J u->X.cell? ⟨aT,m.closes.length*7+a4,I⟩=J u) ⟨D,λa4=>iK _ _ _ _ (aB.fz _),λa4 u ap=>(LJ _ _ _ _ Vy).trans (aB.ce a4 u ap)⟩ ?_
   intro aa h
   have bs:=A h
   clear h
   refine t1 11 λK j=>?_
   go_simp
   have ev:aa.frozen? ⟨aT,m.closes.length*7,I⟩=false:=bs.2.1 0
   have ew:aa.cell? ⟨aT,m.closes.length*7,I⟩=J (C E 0):=bs.2.2 0 _ D
   have ex:aa.frozen? ⟨aT,m.closes.length*7+1,I⟩=false:=bs.2.1 1
   have ey:aa.cell? ⟨aT,m.closes.length*7+1,I⟩=J (C E 0):=bs.2.2 1 _ D
   have ez:aa.frozen? ⟨aT,m.closes.length*7+2,I⟩=false:=bs.2.1 2
   have eA:aa.cell? ⟨aT,m.closes.length*7+2,I⟩=J (G I 0 0):=bs.2.2 2 _ D
   have eB:aa.frozen? ⟨aT,m.closes.length*7+3,I⟩=false:=bs.2.1 3
   have eC:aa.cell? ⟨aT,m.closes.length*7+3,I⟩=J (C E 0):=bs.2.2 3 _ D
   have eD:aa.frozen? ⟨aT,m.closes.length*7+4,I⟩=false:=bs.2.1 4
   have eE:aa.cell? ⟨aT,m.closes.length*7+4,I⟩=J (C JL 0):=bs.2.2 4 _ D
   have eF:aa.frozen? ⟨aT,m.closes.length*7+5,I⟩=false:=bs.2.1 5
   have eG:aa.cell? ⟨aT,m.closes.length*7+5,I⟩=J (C E 0):=bs.2.2 5 _ D
   have eH:aa.frozen? ⟨aT,m.closes.length*7+6,I⟩=false:=bs.2.1 6
   have eI:aa.cell? ⟨aT,m.closes.length*7+6,I⟩=J (C E 0):=bs.2.2 6 _ D
   go_simp
   clear ev ew ex ey ez eA eB eC eD eE eF eG eH eI
   (refine TS ?_;clear j K)
   refine aC (Φ:=λX=>X=(dA aT (m.closes.length*7) [C E c3,C E dt,G cD dz.length d0,C E bX.kind,C JL bX.bits,C E d5,C E d2] av).setCell ⟨aJ,cc*4+3,I⟩ (G (J ⟨aT,0,I⟩) (m.closes.length+1) bG)) (by rw[bs.1];exact jC (p:=⟨aJ,cc*4+3,I⟩) bU.2.2 (G (J ⟨aT,0,I⟩) (m.closes.length+1) bG) [C E c3,C E dt,G cD dz.length d0,C E bX.kind,C JL bX.bits,C E d5,C E d2] (m.closes.length*7) av) ?_
   intro cX h
   have bp:=A h
   clear h
   all_goals
    refine td ?_
    try simp only[Exit.then]
    obtain⟨bJ,ep⟩:=b.fin b7 aB cx cO Z
    rw[bp.out]
    refine aC (Φ:=λX=>mJ Q g B vt vs vi S its vk (G (J ⟨aQ,0,I⟩) P.length cV) p dh W cy (P.set z {y with parts:=y.parts.set cc (fA 1 m (m.closes++[(.mk c3 dt bX d5 d2 dz)]))}) [⟨W.heap.size,139,#[C E e,G Y b8.length a9,C E M,C E bQ,H bq,H bF,C E ar]⟩,⟨b5,29,#[C E p.strategy,vk,(G (J ⟨aQ,0,I⟩) P.length cV)]⟩] bJ X) ep ?_
    intro e6 h
    have c9:=A h
    clear h ep
    go_wp2_with fail
    go_end0
    exact⟨cy,_,bJ,D,c9.drop,λh=>⟨D,eX.close dr ci eT fQ.1 D D cx cO fk.1 fk.2 (e' h).2.2⟩,by rw[FU (kk:=1) (l:=m.closes) cx.out cO.out D];have:=fj.out;omega,by rw[Lj]⟩
 obtain⟨bR,cl,rfl⟩:=fd.slice;have e3:=A (show CdF aQ z cc 0 aJ fC P.length cV y (G bR m.guards.length cl) m.guards dh B et from⟨dL,fd,ao,fl,ch,⟨fn,c6⟩,fo,ed⟩);have f1:=A (show m.guards.length<=200000 by have o:=kS m.guards;have a8:=fB gJ cO;have ac:=fB kG cx;have b6:kG y=(y.parts.map gJ).sum:=D;have bz:lS P=(P.map kG).sum:=D;have dy:=eL.out;have aD:fU m.guards<=gJ m:=YU;omega);clear dL fl fn fo ao b2 fd eJ ed ch c6;go_upto_region 40 with fail;go_quiet (fail);obtain⟨dF,eY⟩:∃w,w=et.drewN nq:=⟨_,D⟩;have en:JK et.heap.size et dF:=by rw[eY];exact below_drewN JY _
 have eM:=A ((dQ.out.more en).add (x:=⟨bt.heap.size,193,#[H aV,C E (z:Int),C E (cc:Int),C E f0,C E eU,C E f2]⟩) (bH.out.2.below en bH.out.2.lt) (cM.out.pl.fresh _ c) cM.out.pl.low (λa7=>by have o:=cM.out.gsz;have a8:bt.heap.size=g:=a7;omega) (λa2 ak a7=>by have o:=(cM.out.fm.box a2 ak).1.lt;have a8:a2.g=bt.heap.size:=a7;omega));have eZ:=A (e3.bG (Stp.of_below dh en dQ.pl.low) λ_ _=>trivial);rw[<-eY];clear eY en fP dT v c2 cp cf cb al am ax aW T bi a5 a6 aq aZ aO be;go_upto_region 42 with fail;obtain⟨R,bg⟩:∃b4,b4=World.drew dF:=⟨_,D⟩;have q:=SX;have c7:=Tn;have f:=A (show R.cell? ⟨aJ,cc*4+2,I⟩=J (G bR m.guards.length cl)/\R.cell? ⟨W.heap.size,0,I⟩=J (C E e)/\R.cell? ⟨W.heap.size,1,I⟩=J (G Y b8.length a9)/\R.cell? ⟨W.heap.size,2,I⟩=J (C E M)/\R.cell? ⟨W.heap.size,3,I⟩=J (C E bQ)/\R.cell? ⟨W.heap.size,4,I⟩=J (H bq)/\R.cell? ⟨W.heap.size,5,I⟩=J (H bF)/\R.cell? ⟨W.heap.size,6,I⟩=J (C E ar)/\R.cell? ⟨bt.heap.size,0,I⟩=J (H aV) from⟨c7.rW,(q.fm.get 1 D).cell 0,(q.fm.get 1 D).cell 1,(q.fm.get 1 D).cell 2,(q.fm.get 1 D).cell 3,(q.fm.get 1 D).cell 4,(q.fm.get 1 D).cell 5,(q.fm.get 1 D).cell 6,(q.fm.get 0 D).cell 0⟩);refine aG (λX=>X.cell? ⟨aJ,cc*4+2,I⟩=J (G bR m.guards.length cl)/\X.cell? ⟨W.heap.size,0,I⟩=J (C E e)/\X.cell? ⟨W.heap.size,1,I⟩=J (G Y b8.length a9)/\X.cell? ⟨W.heap.size,2,I⟩=J (C E M)/\X.cell? ⟨W.heap.size,3,I⟩=J (C E bQ)/\X.cell? ⟨W.heap.size,4,I⟩=J (H bq)/\X.cell? ⟨W.heap.size,5,I⟩=J (H bF)/\X.cell? ⟨W.heap.size,6,I⟩=J (C E ar)/\X.cell? ⟨bt.heap.size,0,I⟩=J (H aV)) (λa4=>!([0,1,2,3,4,5,6,7,8,9,10]:List Nat).contains a4) U ?_;rw[<-bg];clear bg;refine tl 0 f ?_;refine tl 1 f ?_;refine tl 2 f ?_;refine tl 3 f ?_;refine tl 4 f ?_;refine tl 5 f ?_;refine tl 6 f ?_;refine tl 7 f ?_;refine tl 9 f ?_;refine bC (rs:=[8,10]) U ZH ?_;refine aN.cons D (λK j=>?_) (aN.cons D (λK j=>?_) aN.nil);go_simp;obtain⟨dS,dV⟩:=q.st;go_wp2_with (go_at_call 80;refine(nV aV (.mk e b8 M bQ bq bF ar) _ dS R [C E e,G Y b8.length a9,C E M,C E bQ,H bq,H bF,C E ar] dV (bn R _ _ _ _ q) cw ci dv).mono ?_;rintro a7 r ⟨eP,cy,bb,fc,rfl,a1,cW,ag,bS,cJ⟩);obtain⟨cY,e4⟩:∃b9,b9=lJ dh R.heap.size r.heap.size I .nd:=⟨_,D⟩;have az:=A (q.node cW ag);have eb:=TK;rw[<-e4] at az eb;have fb:=Ry;have fj:=A bS;have e':=A cJ;obtain⟨c3,dt,bX,d5,d2,dz⟩:=eP;obtain⟨fI,rfl,⟨cD,d0,rfl,-⟩,-⟩:=dW.opened fb;have f:=A (show r.cell? ⟨aJ,cc*4+2,I⟩=J (G bR m.guards.length cl)/\r.cell? ⟨W.heap.size,0,I⟩=J (C E e)/\r.cell? ⟨W.heap.size,1,I⟩=J (G Y b8.length a9)/\r.cell? ⟨W.heap.size,2,I⟩=J (C E M)/\r.cell? ⟨W.heap.size,3,I⟩=J (C E bQ)/\r.cell? ⟨W.heap.size,4,I⟩=J (H bq)/\r.cell? ⟨W.heap.size,5,I⟩=J (H bF)/\r.cell? ⟨W.heap.size,6,I⟩=J (C E ar)/\r.cell? ⟨bt.heap.size,0,I⟩=J (H aV) from⟨eb.rW,(az.fm.get 1 D).cell 0,(az.fm.get 1 D).cell 1,(az.fm.get 1 D).cell 2,(az.fm.get 1 D).cell 3,(az.fm.get 1 D).cell 4,(az.fm.get 1 D).cell 5,(az.fm.get 1 D).cell 6,(az.fm.get 0 D).cell 0⟩);clear dV e4 a1 cW ag bS cJ;(refine j.out _ _ (λ_=>f) ?_;clear j K);refine t1 10 λK j=>?_;go_simp;have cN:=Si;have s:=Tt;refine j.out _ _ (λ_=>(show(r.alloc (JO zN 150)).cell? ⟨aJ,cc*4+2,I⟩=J (G bR m.guards.length cl)/\(r.alloc (JO zN 150)).cell? ⟨W.heap.size,0,I⟩=J (C E e)/\(r.alloc (JO zN 150)).cell? ⟨W.heap.size,1,I⟩=J (G Y b8.length a9)/\(r.alloc (JO zN 150)).cell? ⟨W.heap.size,2,I⟩=J (C E M)/\(r.alloc (JO zN 150)).cell? ⟨W.heap.size,3,I⟩=J (C E bQ)/\(r.alloc (JO zN 150)).cell? ⟨W.heap.size,4,I⟩=J (H bq)/\(r.alloc (JO zN 150)).cell? ⟨W.heap.size,5,I⟩=J (H bF)/\(r.alloc (JO zN 150)).cell? ⟨W.heap.size,6,I⟩=J (C E ar)/\(r.alloc (JO zN 150)).cell? ⟨bt.heap.size,0,I⟩=J (H aV) from⟨cN.rW,(s.fm.get 1 D).cell 0,(s.fm.get 1 D).cell 1,(s.fm.get 1 D).cell 2,(s.fm.get 1 D).cell 3,(s.fm.get 1 D).cell 4,(s.fm.get 1 D).cell 5,(s.fm.get 1 D).cell 6,(s.fm.get 0 D).cell 0⟩)) ?_;clear j K cN s;refine UA ?_;intro cj h;have b:=A (az.more h.1);have b7:=Tc;have aR:=A h.2;have eR:=RG;have f:=Rf;clear h;rotate_left;go_simp;have cN:=TI;have s:=Tv;refine j.out _ _ (λ_=>(show(R.alloc (JO zN 150)).cell? ⟨aJ,cc*4+2,I⟩=J (G bR m.guards.length cl)/\(R.alloc (JO zN 150)).cell? ⟨W.heap.size,0,I⟩=J (C E e)/\(R.alloc (JO zN 150)).cell? ⟨W.heap.size,1,I⟩=J (G Y b8.length a9)/\(R.alloc (JO zN 150)).cell? ⟨W.heap.size,2,I⟩=J (C E M)/\(R.alloc (JO zN 150)).cell? ⟨W.heap.size,3,I⟩=J (C E bQ)/\(R.alloc (JO zN 150)).cell? ⟨W.heap.size,4,I⟩=J (H bq)/\(R.alloc (JO zN 150)).cell? ⟨W.heap.size,5,I⟩=J (H bF)/\(R.alloc (JO zN 150)).cell? ⟨W.heap.size,6,I⟩=J (C E ar)/\(R.alloc (JO zN 150)).cell? ⟨bt.heap.size,0,I⟩=J (H aV) from⟨cN.rW,(s.fm.get 1 D).cell 0,(s.fm.get 1 D).cell 1,(s.fm.get 1 D).cell 2,(s.fm.get 1 D).cell 3,(s.fm.get 1 D).cell 4,(s.fm.get 1 D).cell 5,(s.fm.get 1 D).cell 6,(s.fm.get 0 D).cell 0⟩)) ?_;clear j K cN s;refine Uz ?_;intro bd h;have ay:=A (q.more h.1);have fe:=A (c7.bG (Stp.of_below dh h.1 q.pl.low) λ_ _=>trivial);have fi:=A h.2;have f:=A (show bd.cell? ⟨aJ,cc*4+2,I⟩=J (G bR m.guards.length cl)/\bd.cell? ⟨W.heap.size,0,I⟩=J (C E e)/\bd.cell? ⟨W.heap.size,1,I⟩=J (G Y b8.length a9)/\bd.cell? ⟨W.heap.size,2,I⟩=J (C E M)/\bd.cell? ⟨W.heap.size,3,I⟩=J (C E bQ)/\bd.cell? ⟨W.heap.size,4,I⟩=J (H bq)/\bd.cell? ⟨W.heap.size,5,I⟩=J (H bF)/\bd.cell? ⟨W.heap.size,6,I⟩=J (C E ar)/\bd.cell? ⟨bt.heap.size,0,I⟩=J (H aV) from⟨fe.rW,(ay.fm.get 1 D).cell 0,(ay.fm.get 1 D).cell 1,(ay.fm.get 1 D).cell 2,(ay.fm.get 1 D).cell 3,(ay.fm.get 1 D).cell 4,(ay.fm.get 1 D).cell 5,(ay.fm.get 1 D).cell 6,(ay.fm.get 0 D).cell 0⟩);clear h;refine t1 8 λK j=>?_;go_simp;obtain⟨dS,dV⟩:=ay.st;go_wp2_with (go_at_call 80;refine(nV aV (.mk e b8 M bQ bq bF ar) _ dS bd [C E e,G Y b8.length a9,C E M,C E bQ,H bq,H bF,C E ar] dV (bn bd _ _ _ _ ay) cw ci dv).mono ?_;rintro a7 cj ⟨eP,cy,bb,fc,rfl,a1,cW,ag,bS,cJ⟩);obtain⟨cY,e4⟩:∃b9,b9=lJ dh bd.heap.size cj.heap.size I .nd:=⟨_,D⟩;have b:=A (ay.node cW ag);have b7:=TD;rw[<-e4] at b b7;have eR:=Rw;have fj:=A bS;have e':=A cJ;obtain⟨c3,dt,bX,d5,d2,dz⟩:=eP;obtain⟨fI,rfl,⟨cD,d0,rfl,-⟩,-⟩:=dW.opened eR;have aR:=SQ;have f:=Rf;clear dV e4 a1 cW ag bS cJ;(refine j.out _ _ (λ_=>f) ?_;clear j K);all_goals
  refine t1 11 λK j=>?_
  refine nX (t:=qW z cc 0) (n:=(.mk c3 dt bX d5 d2 dz)) (sO:=[C E c3,C E dt,G cD dz.length d0,C E bX.kind,C JL bX.bits,C E d5,C E d2]) D (.tmp 171) (.tmp 178) D b7.row (iG _ _ _).1 b.pl.low b.pl.fresh eR aR f1 D D ?_
  intro aT bG av cQ
  have fw:((m.guards.length:Int) < (m.guards.length:Int)+1):=N
  have aB:=A cQ
  have bU:=A (b7.mid cQ)
  clear cQ
  (refine TS ?_;clear j K)
  refine tp 12 ?_
  refine tp 14 ?_
  refine tp 15 ?_
  refine bC (rs:=[13,16]) U ZH ?_
  refine aN.cons D (λK j=>?_) (aN.cons D (λK j=>?_) aN.nil)
  go_simp
  have ev:av.frozen? ⟨aT,m.guards.length*7,I⟩=false:=aB.fz _
  have ew:av.cell? ⟨aT,m.guards.length*7,I⟩=J (C E 0):=aB.ce 0 _ D
  have ex:av.frozen? ⟨aT,m.guards.length*7+1,I⟩=false:=aB.fz _
  have ey:av.cell? ⟨aT,m.guards.length*7+1,I⟩=J (C E 0):=aB.ce 1 _ D
  have ez:av.frozen? ⟨aT,m.guards.length*7+2,I⟩=false:=aB.fz _
  have eA:av.cell? ⟨aT,m.guards.length*7+2,I⟩=J (G I 0 0):=aB.ce 2 _ D
  have eB:av.frozen? ⟨aT,m.guards.length*7+3,I⟩=false:=aB.fz _
  have eC:av.cell? ⟨aT,m.guards.length*7+3,I⟩=J (C E 0):=aB.ce 3 _ D
  have eD:av.frozen? ⟨aT,m.guards.length*7+4,I⟩=false:=aB.fz _
  have eE:av.cell? ⟨aT,m.guards.length*7+4,I⟩=J (C JL 0):=aB.ce 4 _ D
  have eF:av.frozen? ⟨aT,m.guards.length*7+5,I⟩=false:=aB.fz _
  have eG:av.cell? ⟨aT,m.guards.length*7+5,I⟩=J (C E 0):=aB.ce 5 _ D
  have eH:av.frozen? ⟨aT,m.guards.length*7+6,I⟩=false:=aB.fz _
  have eI:av.cell? ⟨aT,m.guards.length*7+6,I⟩=J (C E 0):=aB.ce 6 _ D
  go_simp
  clear ev ew ex ey ez eA eB eC eD eE eF eG eH eI
  (refine TS ?_;clear j K)
  refine UG ?_
  intro aa h
  have bs:=A h
  have fp:=A (show aa.frozen? ⟨aJ,cc*4+2,I⟩=false by rw[h];exact jY _ _ (bU.2.1 _))
  have fq:=A (show aa.cell? ⟨aJ,cc*4+2,I⟩=J (G bR m.guards.length cl) by rw[h];exact aB.bJ.keep (λy=>y≠aT) (λ_ h=>h) _ _ bU.2.2 bU.1)
  clear h
  refine t1 16 λK j=>?_
  go_simp
  have c':=fp.out
  have d7:=fq.out
  go_simp
  clear c' d7
  (refine TS ?_;clear j K)
  refine aC (Φ:=λX=>X=(dA aT (m.guards.length*7) [C E c3,C E dt,G cD dz.length d0,C E bX.kind,C JL bX.bits,C E d5,C E d2] av).setCell ⟨aJ,cc*4+2,I⟩ (G (J ⟨aT,0,I⟩) (m.guards.length+1) bG)) Zu ?_
  intro cX h
  have bp:=A h
  clear h
  rotate_left
  go_simp
  have c':av.frozen? ⟨aJ,cc*4+2,I⟩=false:=bU.2.1 _
  have d7:av.cell? ⟨aJ,cc*4+2,I⟩=J (G bR m.guards.length cl):=bU.1
  go_simp
  clear c' d7
  (refine TS ?_;clear j K)
  refine aC (Φ:=λX=>X=av.setCell ⟨aJ,cc*4+2,I⟩ (G (J ⟨aT,0,I⟩) (m.guards.length+1) bG)/\(∀a4,X.frozen? ⟨aT,m.guards.length*7+a4,I⟩=false)/\∀a4 u,zN.toList[a4]? =J u->X.cell? ⟨aT,m.guards.length*7+a4,I⟩=J u) ⟨D,λa4=>iK _ _ _ _ (aB.fz _),λa4 u ap=>(LJ _ _ _ _ Vy).trans (aB.ce a4 u ap)⟩ ?_
  intro aa h
  have bs:=A h
  clear h
  refine t1 13 λK j=>?_
  go_simp
  have ev:aa.frozen? ⟨aT,m.guards.length*7,I⟩=false:=bs.2.1 0
  have ew:aa.cell? ⟨aT,m.guards.length*7,I⟩=J (C E 0):=bs.2.2 0 _ D
  have ex:aa.frozen? ⟨aT,m.guards.length*7+1,I⟩=false:=bs.2.1 1
  have ey:aa.cell? ⟨aT,m.guards.length*7+1,I⟩=J (C E 0):=bs.2.2 1 _ D
  have ez:aa.frozen? ⟨aT,m.guards.length*7+2,I⟩=false:=bs.2.1 2
  have eA:aa.cell? ⟨aT,m.guards.length*7+2,I⟩=J (G I 0 0):=bs.2.2 2 _ D
  have eB:aa.frozen? ⟨aT,m.guards.length*7+3,I⟩=false:=bs.2.1 3
  have eC:aa.cell? ⟨aT,m.guards.length*7+3,I⟩=J (C E 0):=bs.2.2 3 _ D
  have eD:aa.frozen? ⟨aT,m.guards.length*7+4,I⟩=false:=bs.2.1 4
  have eE:aa.cell? ⟨aT,m.guards.length*7+4,I⟩=J (C JL 0):=bs.2.2 4 _ D
  have eF:aa.frozen? ⟨aT,m.guards.length*7+5,I⟩=false:=bs.2.1 5
  have eG:aa.cell? ⟨aT,m.guards.length*7+5,I⟩=J (C E 0):=bs.2.2 5 _ D
  have eH:aa.frozen? ⟨aT,m.guards.length*7+6,I⟩=false:=bs.2.1 6
  have eI:aa.cell? ⟨aT,m.guards.length*7+6,I⟩=J (C E 0):=bs.2.2 6 _ D
  go_simp
  clear ev ew ex ey ez eA eB eC eD eE eF eG eH eI
  (refine TS ?_;clear j K)
  refine aC (Φ:=λX=>X=(dA aT (m.guards.length*7) [C E c3,C E dt,G cD dz.length d0,C E bX.kind,C JL bX.bits,C E d5,C E d2] av).setCell ⟨aJ,cc*4+2,I⟩ (G (J ⟨aT,0,I⟩) (m.guards.length+1) bG)) (by rw[bs.1];exact jC (p:=⟨aJ,cc*4+2,I⟩) bU.2.2 (G (J ⟨aT,0,I⟩) (m.guards.length+1) bG) [C E c3,C E dt,G cD dz.length d0,C E bX.kind,C JL bX.bits,C E d5,C E d2] (m.guards.length*7) av) ?_
  intro cX h
  have bp:=A h
  clear h
  all_goals
   refine td ?_
   try simp only[Exit.then]
   obtain⟨bJ,ep⟩:=b.fin b7 aB cx cO Z
   rw[bp.out]
   refine aC (Φ:=λX=>mJ Q g B vt vs vi S its vk (G (J ⟨aQ,0,I⟩) P.length cV) p dh W cy (P.set z {y with parts:=y.parts.set cc (fA 0 m (m.guards++[(.mk c3 dt bX d5 d2 dz)]))}) [⟨bt.heap.size,193,#[H aV,C E (z:Int),C E (cc:Int),C E f0,C E eU,C E f2]⟩,⟨W.heap.size,139,#[C E e,G Y b8.length a9,C E M,C E bQ,H bq,H bF,C E ar]⟩,⟨b5,29,#[C E p.strategy,vk,(G (J ⟨aQ,0,I⟩) P.length cV)]⟩] bJ X) ep ?_
   intro e6 h
   have c9:=A h
   clear h ep
   go_wp2_with fail
   go_end0
   exact⟨cy,_,bJ,D,c9.drop.drop,λh=>⟨D,eX.guard dr ci eT fQ.1 fQ.2 D D cx cO fk.1 fk.2 (e' h).2.2⟩,by rw[FU (kk:=0) (l:=m.guards) cx.out cO.out D];have:=fj.out;omega,by rw[Lj]⟩

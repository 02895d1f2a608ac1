import Derived.Test.YtcabmcfnjkeemaaGreatBM00
import Derived.Test.YtcabmcfnjkeemaaGreatB26
set_option maxRecDepth 100000
set_option maxHeartbeats 40000000
set_option linter.unusedVariables false
set_option linter.unusedSimpArgs false
namespace Go.Proofs.YtcabmcfnjkeemaaGreat
open Go.Deep Go.RowKit
open Go renaming World->L,Value->O
open Go.IntKind renaming i64->E,u64->JL
open Go.Obj renaming cells->JO
open Go.RowKit renaming Hid->F,Below->JK
open Go.Value renaming int->C,slice->G,bool->JM
open Option renaming none->I,some->J
attribute [local go_sem ↓] Go.wp_at_zero Go.wp_at_succ
variable{Q:Nat->Prop}
theorem Jf{w:L}{r s:Int}{vi aY aM:O}{x:aW}(h:jm Q w [C E r,C E s,vi,aY,aM] x):(∃Y n,vi=G Y x.inputs.length n)/\(∃Y n,aY=G Y x.consts.length n)/\∃Y n,aM=G Y x.list.length n:=by obtain⟨p,b,e,bS,⟨dw,cq,o,-⟩,⟨bq,cT,a8,-⟩,⟨bO,cg,ac,-⟩,-⟩:=h;simp only[List.cons.injEq] at bS;obtain⟨-,-,rfl,rfl,rfl,-⟩:=bS;exact⟨⟨_,_,o⟩,⟨_,_,a8⟩,⟨_,_,ac⟩⟩
variable{l:List ND}
theorem Ig(cs:List aW)(h:l≠[]):dR cs l=((cs.length:Int),cs++[codeOf l]):=by
 cases l with
 |nil=>exact absurd rfl h
 |cons M l=>rfl
def ahj (B bt:Nat) (a0 a1 a2 a3 a4 a5 a6:O) (N:Nat->Prop) (l:List ND) (cs:List aW) (vc:O) (W:L) (e:Ending) (W':L):Prop:=
 ∃vc',e=.returned (C E (dR cs l).1)/\qV B bt a0 a1 a2 a3 a4 a5 a6 N (dR cs l).2 vc' W'/\nY bt NoZ vc vc' W W'
variable{B:Nat}{bs v:O}
theorem jL{M ba:Nat}{bJ bD e i n k aY:O}{m:Nat->Prop}{cs:List aW}{W:L}(h:qV B ba bJ bD bs e i n k m cs aY W)(p:dM (λb=>b < M) W v l)(ca:M<=ba)(a':LOk l)(cM:cs.length<=1000000): Calls Tryz.prog 25 #[.pointer (J ⟨ba,0,I⟩),v] W (ahj B ba bJ bD bs e i n k m l cs aY W):=by
 have d8:=A h;have cw:=A p;have dh:=A a';have cH:=A cM;have bH:=A ca;obtain⟨Y,a9,rfl,-,-,-⟩:=p;obtain⟨c7,c6,rfl⟩:=h.slice;have eJ:l.length<=100000:=Ko (pG l) a'.2;clear h a' cM ca;go_in;rcases e5:((l.length:Int)== 0) with _|_;rotate_left
 ·have bA:=A (show l=[] from MG (by have:=LZ e5;omega));go_wp2_with fail;go_ret;have a7:=bA.out;subst a7;exact⟨_,D,d8,nY.refl _ _ _⟩
 have d6:=A (show l≠[] from λa7=>by rw[a7] at e5;cases e5);go_upto_region 3 with fail;have o:=A (show M<=W.heap.size from Ko bH (KI d8.blk.lt));have bw:=A (show ∀X,aj X ba 44 #[bJ,bD,bs,e,i,n,k,(G c7 cs.length c6)]->X.cell? ⟨ba,7,I⟩=J (G c7 cs.length c6) from λX h=>h.cell 7);obtain⟨R,bg⟩:∃b4,b4=World.drew W:=⟨_,D⟩;have be:=A (show JK W.heap.size W R by rw[bg];exact JY.drew);have b8:=A (d8.below be);have f:=A (bw R b8.blk);refine aG (λX=>X.cell? ⟨ba,7,I⟩=J (G c7 cs.length c6)) (λa4=>!([0,1,2,3,4,5,6,7,8]:List Nat).contains a4) U ?_;rw[<-bg];clear bg;refine tl 0 f ?_;refine tl 1 f ?_;refine tl 2 f ?_;refine tl 3 f ?_;refine tl 4 f ?_;refine tl 5 f ?_;refine t1 6 λK j=>?_;go_simp;go_wp2_with (go_at_call 51;refine(GI (dM.keep cw (aF.of_below be λb d=>Kv d o) λ_ h=>h) (Ko o be.size) d6 dh.1 dh.2).mono ?_;rintro a7 r ⟨em,aA,aM,rfl,a1,d⟩);obtain⟨g,cy⟩:∃aa,aa=codeOf l:=⟨_,D⟩;rw[<-cy] at a1⊢;obtain⟨⟨dw,cq,rfl⟩,⟨bq,cT,rfl⟩,bO,cg,rfl⟩:=Jf a1;have q:=A cy;have bF:=A a1;have cc:=A d;have T:=A (b8.below d);have f:=A (bw _ T.blk);clear a1 d cy;(refine j.out _ _ (λ_=>f) ?_;clear j K);refine t1 7 λK j=>?_;go_simp;have ak:=A (show JK r.heap.size r (r.alloc (JO #[C E g.regs,C E 0,G dw g.inputs.length cq,G bq g.consts.length cT,G bO g.list.length cg] 55)) from JY.alloc c _);refine j.out _ _ (λ_=>bw _ (T.below ak).blk) ?_;clear j K;refine aC (Φ:=λX=>JK r.heap.size r X/\aj X r.heap.size 55 #[C E g.regs,C E 0,G dw g.inputs.length cq,G bq g.consts.length cT,G bO g.list.length cg]) ⟨ak,aj.new _ _ _⟩ ?_;intro av h;have a2:=A h;have aR:=A (T.below h.1);have f:=A (bw av aR.blk);clear h ak;refine t1 8 λK j=>?_;obtain⟨cA,cN⟩:=T.acc;have ay:=A (show aaD m (QA B (G c7 cs.length c6) r) r [C E g.regs,C E 0,G dw g.inputs.length cq,G bq g.consts.length cT,G bO g.list.length cg] g from jm.keep bF (λ_ _ _ h=>h) λb d=>⟨⟨Ko b8.low d.1,d.2,λa7=>by have:=(b8.own a7.symm).1;omega⟩,λa7=>by have:=(b8.off b a7).1;omega⟩);refine gX acZ (pF m) D (.tmp 12) (.tmp 15) D cN T.out.low (cs:=[C E g.regs,C E 0,G dw g.inputs.length cq,G bq g.consts.length cT,G bO g.list.length cg]) (x:=g) D ay.out (by intro u ap;simp only[List.mem_cons,List.not_mem_nil,or_false] at ap;rcases ap with rfl|rfl|rfl|rfl|rfl <;> rfl) a2.out.2 a2.out.1 c (by have:=cH.out;omega) (by have:=cH.out;unfold maxLen;omega) D D ?_;intro cD cX bt bE bl c8;have t:=A bE;have bM:=A (Kt bl c8);have bQ:=A (aR.blk.grown bl.grown (λa7=>by have:=bl.ge ba a7.symm;have:=aR.lt;omega));have f:=A (bw bt bQ);clear bE bl c8 cN;(refine j.out _ _ (λ_=>f) ?_;clear j K);refine tp 9 ?_;refine tp 10 ?_;refine t1 11 λK j=>?_;go_simp;have c':=bQ.frozen 7;have d7:=bQ.cell 7;go_simp;clear c' d7;(refine TS ?_;clear j K);refine td ?_;try simp only[Exit.then]
 have V:=A (b8.put (cc.trans (a2.1.mono cc.size)) t bM.1 bM.2);obtain⟨bm,bL⟩:∃bm,bm=cs.length+1:=⟨_,D⟩;rw[<-bL] at V⊢;have e0:=A bL;refine aC (Φ:=λX=>qV B ba bJ bD bs e i n k m (cs++[g]) (G cD bm cX) X/\nY ba NoZ (G c7 cs.length c6) (G cD bm cX) W X) ⟨V.1,(nY.of_below _ be (KI d8.blk.lt)).trans V.2⟩ ?_;intro cU h;have cJ:=A h;clear h bL V b8 T a2 aR t bM bQ f bw bF cc ay;have aK:=cJ.1.blk.cell 7;have bh:IntKind.i64.wrap ((bm:Int)-1)=(cs.length:Int):=by rw[LP];have:=e0.out;have:=cH.out;omega
 go_wp2_with fail;go_ret;exact⟨_,by rw[Ig _ d6.out];rfl,by rw[Ig _ d6.out,<-q.out];exact cJ.1,cJ.2⟩
def agC (B bt:Nat) (a0 a1 a2 a3 a4 a5 a6:O) (N:Nat->Prop) (bs:List rM) (cs:List aW) (vc:O) (W:L) (e:Ending) (W':L):Prop:=
 ∃v vc',e=.returned v/\aa4 W.heap.size vc' W' v (dU cs bs).1/\qV B bt a0 a1 a2 a3 a4 a5 a6 N (dU cs bs).2 vc' W'/\nY bt NoZ vc vc' W W'
def ahl (B bt:Nat) (a0 a1 a2 a3 a4 a5 a6:O) (N:Nat->Prop) (bs:List rM) (cs:List aW) (vc:O) (W:L) (v i:O) (wr:L):Prop:=
 ∃(r:Nat) (st:List jg×List aW) (css:List (List O)) (vc':O),r<=bs.length/\i=C E r/\F (st=(bs.take r).foldl iU ([],cs))/\F (Acc W.heap.size 160 2 StopR wr v st.1 css)/\F (qV B bt a0 a1 a2 a3 a4 a5 a6 (λb=>N b\/J b=v.ownBlock) st.2 vc' wr)/\F (nY bt NoZ vc vc' W wr)
variable{k:Nat}
theorem aeA{w:L}{Y:Option Addr}{m a9:Nat}{P:List rM}(h:aX Q 2 (rO Q) w (G Y m a9) P){b:rM}(d:P[k]? =J b): ∃d2 off bu bP,Y=J ⟨d2,off,I⟩/\w.cell? ⟨d2,off+k*2,I⟩=J (C E b.ty)/\w.cell? ⟨d2,off+k*2+1,I⟩=J (G bu b.gd.length bP)/\dM Q w (G bu b.gd.length bP) b.gd/\wfi b.ty:=by obtain⟨cl,ch,af,-,-,ab⟩:=h;injection af with cE _ _;obtain⟨d2,off,o,-,a8⟩:=ab XB;obtain⟨bj,-,⟨cR,rfl,ac,b6⟩,aw⟩:=a8 k b d;obtain⟨bu,bP,rfl,-,-⟩:=ac.out.slice;exact⟨d2,off,bu,bP,cE.trans o,aw 0 _ D,aw 1 _ D,ac,b6⟩
theorem vT{M ba:Nat}{bJ bD e i n k aY:O}{m:Nat->Prop}{cs:List aW}{P:List rM}{W:L}(h:qV B ba bJ bD bs e i n k m cs aY W)(p:aX (λb=>b < M) 2 (rO (λb=>b < M)) W v P)(ca:M<=ba)(a':∀b∈P,LOk b.gd)(au:P.length<=1000)(cM:cs.length<=900000): Calls Tryz.prog 24 #[.pointer (J ⟨ba,0,I⟩),v] W (agC B ba bJ bD bs e i n k m P cs aY W):=by
 have d8:=A h;have cw:=A p;have dh:=A a';have cH:=A cM;have bH:=A ca;obtain⟨Y,a9,rfl,-,-,-⟩:=p;have bd:=A (show ba < W.heap.size from h.blk.lt);clear h a' cM ca;have fR:(0:Int)<=(P.length:Int):=N;go_in;go_wp2_with fail;go_loopw [5,10] (λv a3 wr=>ahl B ba bJ bD bs e i n k m P cs aY W v a3 wr) (λv a3 wr=>P.length-(intOf a3).toNat);case atStart=>exact⟨0,([],cs),[],aY,Kw _,D,A D,A (Acc.nil _),A (d8.to λb d=>d.elim id λa7=>Xn),A (nY.refl _ _ _)⟩
 obtain⟨z,aw,cA,y,aS,rfl,cm,cy,cS,dl⟩:=hrel;have ct:(0:Int)<=(z:Int):=N;have cu:(z:Int)<=1000:=N;obtain⟨cT,bS,bp⟩:=aB cy.1;subst bp;obtain⟨c7,c6,el⟩:=cS.slice;subst el;have dB:=A (show aw.2.length<=901000/\aw.1.length<=1000 by have o:=lH (P.take z) ([],cs);rw[<-cm.out] at o;have a8:(P.take z).length<=1000:=Zm;have ac:=cH.out;simp only[List.length_nil] at o;omega);by_cases bA:z < P.length
 ·have c0:(z:Int) < (P.length:Int):=N;obtain⟨b,d⟩:∃b,P[z]? =J b:=⟨_,Kr bA⟩;have b7:=A d;have bm:=A (dh b (Kz d));have e5:=A (aX.keep cw (Q':=λb=>b < M) (R':=rO (λb=>b < M)) (aF.of_below dl.bel λb d=>Kv d bH) (λ_ h=>h) λ_ _ h=>fM _ _ _ _ _ _ h (aF.of_below dl.bel λb d=>Kv d bH) λ_ h=>h);obtain⟨d2,b5,bu,bP,cE,b',bv,cz,bh⟩:=aeA e5 d;subst cE;obtain⟨bF,g⟩:=b;dsimp only at b' bv cz bh bm;have s:=A cz;have bq:=A bh;clear d cz bh;go_upto_region 5 with fail;refine aI (Φ:=λX=>JK wr.heap.size wr X/\aj X wr.heap.size 158 #[C E bF,G bu g.length bP]) ⟨JY.alloc c _,aj.new _ _ _⟩ ?_;intro b1 ac;have bb:=A ac;clear ac b' bv;have bw:=A (show ∀X,aj X wr.heap.size 158 #[C E bF,G bu g.length bP]->X.cell? ⟨wr.heap.size,0,I⟩=J (C E bF)/\X.cell? ⟨wr.heap.size,1,I⟩=J (G bu g.length bP) from λX h=>⟨h.cell 0,h.cell 1⟩);obtain⟨R,bg⟩:∃b4,b4=World.drew b1:=⟨_,D⟩;have be:=A (show JK b1.heap.size b1 R by rw[bg];exact JY.drew);have dt:=A (bb.1.trans (be.mono bb.1.size));have b8:=A (cS.below dt);have aA:=A (bb.2.below be bb.2.lt);have f7:=A (Acc.below yR cy dt);have f:=A (bw R aA);refine aG (λX=>X.cell? ⟨wr.heap.size,0,I⟩=J (C E bF)/\X.cell? ⟨wr.heap.size,1,I⟩=J (G bu g.length bP)) (λa4=>!([0,1,2,3,4,5,6,7,8,9]:List Nat).contains a4) U ?_;rw[<-bg];clear bg;refine tl 0 f ?_;refine tl 1 f ?_;refine tl 2 f ?_;refine tl 3 f ?_;refine tl 4 f ?_;refine tl 5 f ?_;refine t1 6 λK j=>?_;go_simp;go_wp2_with (go_at_call 25;refine(jL b8 (M:=M) (dM.keep s (aF.of_below dt λb d=>by have:=bH.out;have:=bd.out;have:=dl.bel.size;omega) λ_ h=>h) bH bm Yl).mono ?_;rintro a7 r ⟨bT,rfl,ch,dJ⟩);have l:=A ch;have dQ:=A dJ;have cK:=A (dJ.blk aA (by have:=bd.out;have:=dl.bel.size;omega) (b8.typed aA Z) id);have bz:=A (f7.cd (R':=StopR) dJ bd (b8.apart f7.1 Z) (λ_ _=>id) λ_ _ h=>h);have q:=A (show W.heap.size<=r.heap.size/\wr.heap.size < r.heap.size from⟨Ko dl.bel.size (KI cK.lt),cK.lt⟩);have f:=A (bw _ cK);clear ch dJ;(refine j.out _ _ (λ_=>f) ?_;clear j K);refine tl 7 f ?_;refine t1 8 λK j=>?_;go_simp;have ak:=A (show JK r.heap.size r (r.alloc (JO #[C E bF,C E (dR aw.2 g).1] 160)) from JY.alloc c _);refine j.out _ _ (λ_=>bw _ (cK.below ak cK.lt)) ?_;clear j K;refine aC (Φ:=λX=>JK r.heap.size r X/\aj X r.heap.size 160 #[C E bF,C E (dR aw.2 g).1]) ⟨ak,aj.new _ _ _⟩ ?_;intro av h;have a2:=A h;have cx:=A (cK.below h.1 cK.lt);have f:=A (bw av cx);clear h ak;refine t1 9 λK j=>?_;refine gX ac2 yR D (.tmp 14) (.tmp 22) D bz.out q.out.1 (cs:=[C E bF,C E (dR aw.2 g).1]) (x:=⟨bF,(dR aw.2 g).1⟩) D ⟨D,bq.out,uD _ Yl⟩ Vk a2.out.2 a2.out.1 c Yl WJ D D ?_;intro cD cX bt bE bl c8;have t:=A bE;have dr:=A (show qV B ba bJ bD bs e i n k (λb=>m b\/J b=(Value.slice cD (aw.1.length+1) cX).ownBlock) (dR aw.2 g).2 bT bt/\nY ba NoZ aY bT W bt from by have T:=l.below a2.1;refine⟨T.app bl.grown.size (λae o a8=>bl.grown.block ae o λa7=>a8 (.inr a7)) (λb d a7=>a7.elim .inl λa7=>.inr ((c8 b a7.symm).elim (λh=>h.symm) λh=>absurd d N)) λb a7=>a7.elim (λh=>Kv (T.off b (.inl h)).1 bl.grown.size) λa7=>(aQ bE.1 a7.symm).1,?_⟩;have ao:=KI bd;have o:=dl.up ((bb.1.trans (be.mono bb.1.size)).mono dl.bel.size) ao;exact(o.trans dQ).up (bl.app.below W.heap.size r c (Ko q.1 a2.1.size) (a2.1.mono q.1)) ao);have dc:=A (cx.grown bl.grown (cZ bz.1 cK Z));have f:=A (bw bt dc);clear bE bl c8;(refine j.out _ _ (λ_=>f) ?_;clear j K);refine tp 10 ?_;refine td ?_;try simp only[Exit.then]
  go_wp2_with fail;exact⟨⟨z+1,iU aw ⟨bF,g⟩,_,_,N,ZF,A (by rw[take_one b7.out,MR,<-cm.out];rfl),A t,A dr.1,A dr.2⟩,YF⟩
 have c0:(P.length:Int)<=(z:Int):=N;go_wp2_with fail;go_ret;have b3:P.take z=P:=KN N;have aD:=cm.out;rw[b3] at aD;have aD:aw=dU cs P:=aD;unfold agC;rw[<-aD];exact⟨_,_,D,bQ (show eF 2 jR wr cA aw.1 from cy.2) cy.1 (λae ab o a8=>⟨o,a8,cS.apart cy.1 Z ae ab⟩) (.inr trivial),cS.to (λb d=>.inl d),dl.out⟩
def uN (pos:Int):ND->ND
 | .mk op kind val p attr args=>.mk (if op=42/\p=pos then 41 else op) kind val (if op=42/\p=pos then 0 else p) attr (args.map λa=>uN pos a)
theorem EY(pos op kind p attr:Int)(val:dP)(args:List ND):uN pos (.mk op kind val p attr args)=.mk (if op=42/\p=pos then 41 else op) kind val (if op=42/\p=pos then 0 else p) attr (args.map (uN pos)):=by rw[uN.eq_def]
def afw (pos:Int) (x:ND) (w:L) (e:Ending) (w':L):Prop:=∃cs2:List O,e=.returned (.agg cs2.toArray)/\dW (λb=>w.heap.size<=b/\b < w'.heap.size) w' cs2 (uN pos x)/\JK w.heap.size w w'
structure IQ (w:L) (bl nb:Array O) (X:L):Prop where
 bel:JK w.heap.size w X
 box:aj X w.heap.size 150 bl
 res:aj X (w.heap.size+1) 150 zN
 out:aj X (w.heap.size+2) 150 nb
variable{ae cV:Array O}
theorem IQ.more{w X V:L}(h:IQ w ae cV X)(d:JK X.heap.size X V):IQ w ae cV V:=
 ⟨h.bel.trans (d.mono h.bel.size),h.box.below d h.box.lt,h.res.below d h.res.lt,h.out.below d h.out.lt⟩
theorem IQ.app{w X V:L}(h:IQ w ae cV X)(k:jk B v X V)(bW:w.heap.size+2 < B)(af:∀j,v.ownBlock=J j->B<=j):IQ w ae cV V:=by
 have bm:∀j,j < B->J j≠v.ownBlock:=λj bK a7=>by have:=af j a7.symm;omega
 exact⟨h.bel.grown k.grown (KI h.box.lt) λj bK=>by have:=af j bK;omega,h.box.grown k.grown (bm _ N),h.res.grown k.grown (bm _ N),h.out.grown k.grown (bm _ bW)⟩
theorem IQ.oset{w X:L}{b:Array O}(h:IQ w ae cV X)(i:Nat)(u:O)(aw:cV.setIfInBounds i u=b):IQ w ae b (X.setCell ⟨w.heap.size+2,i,I⟩ u):=by have aE:=aU.one X (w.heap.size+2) i u;exact⟨aE.below _ _ N h.bel,aE.blk _ _ _ N h.box,aE.blk _ _ _ N h.res,by rw[<-aw];exact h.out.bJ i u⟩
def AsL (pos:Int) (w:L) (bl:Array O) (op kd:Int) (vl:dP) (ps at_:Int) (ar:List ND) (i:O) (wr:L):Prop:=
 ∃(r:Nat) (va:O) (xs:List ND) (css:List (List O)),r<=ar.length/\i=C E r/\F (Acc (w.heap.size+3) 150 7 dW wr va xs css)/\F (xs=(ar.take r).map (uN pos))/\F (IQ w bl #[C E op,C E kd,va,C E vl.kind,C JL vl.bits,C E ps,C E at_] wr)
theorem Dy(pos:Int)(x:ND):∀(w:L) (cs:List O),qg w cs x->aH x<=100000->Calls Tryz.prog 48 #[.agg cs.toArray,C E pos] w (afw pos x w):=by
 refine vN (p:=λx=>∀(w:L) (cs:List O),qg w cs x->aH x<=100000->Calls Tryz.prog 48 #[.agg cs.toArray,C E pos] w (afw pos x w)) ?_ x;intro e aP aM ba ar S bf w cs h V;obtain⟨dg,rfl,ag,bN⟩:=h.opened;obtain⟨Y,a9,rfl,d0,cR⟩:=ag.slice;have f:=A ag;have cY:=A bN;have dF:=A bf;have cw:=A V;have eJ:S.length<=100000:=Vq;obtain⟨an,bk⟩:∃an,an=(w.alloc (JO #[C E e,C E aP,G Y S.length a9,C E aM.kind,C JL aM.bits,C E ba,C E ar] 150)).alloc (JO zN 150):=⟨_,D⟩;have aV:=A (show JK w.heap.size w an/\aj an w.heap.size 150 #[C E e,C E aP,G Y S.length a9,C E aM.kind,C JL aM.bits,C E ba,C E ar]/\aj an (w.heap.size+1) 150 zN/\an.heap.size=w.heap.size+2 by rw[bk];refine⟨(JY.alloc c _).alloc ZH _,(aj.new _ _ _).alloc _,?_,ZH⟩;have a8:=aj.new (w.alloc (JO #[C E e,C E aP,G Y S.length a9,C E aM.kind,C JL aM.bits,C E ba,C E ar] 150)) 150 zN;rw[KE] at a8;exact a8);unfold maxLen at cR;clear bf ag V h bN;unfold zN at bk;go_in;go_upto_region 1 with fail;rw[<-bk];clear bk;obtain⟨al,am,ax,aW,T,bi,bM,a5,a6,aq,aZ,aO,be,bI⟩:=aK aV.2.1;go_upto_region 2 with fail;have R:=A aV.2.2.2;have e8:an.heap.size=w.heap.size+2:=aV.2.2.2;rw[e8];refine aI (Φ:=λX=>IQ w #[C E e,C E aP,G Y S.length a9,C E aM.kind,C JL aM.bits,C E ba,C E ar] #[C E e,C E aP,G Y S.length a9,C E aM.kind,C JL aM.bits,C E ba,C E ar] X) (by refine⟨aV.1.trans (((Ky an.heap.size an).alloc c _).mono aV.1.size),aV.2.1.alloc _,aV.2.2.1.alloc _,?_⟩;have a8:=aj.new an 150 #[C E e,C E aP,G Y S.length a9,C E aM.kind,C JL aM.bits,C E ba,C E ar];rw[e8] at a8;exact a8) ?_;intro df a8;have bx:=A a8;clear a8 al am ax aW T bi bM a5 a6 aq aZ aO be bI e8;obtain⟨aa,cq,cT,cg,q,dt,dw,cQ,cJ,db,dr,da,P,de⟩:=aK bx.out.out;go_upto_region 3 with fail;refine aI (Φ:=λX=>IQ w #[C E e,C E aP,G Y S.length a9,C E aM.kind,C JL aM.bits,C E ba,C E ar] #[C E e,C E aP,G I 0 0,C E aM.kind,C JL aM.bits,C E ba,C E ar] X) (bx.oset 2 _ D) ?_;intro dZ ac;have bb:=A ac;clear ac aa cq cT cg q dt dw cQ cJ db dr da P de;obtain⟨al,am,ax,aW,T,bi,bM,a5,a6,aq,aZ,aO,be,bI⟩:=aK bb.box;go_wp2_with fail;clear al am ax aW T bi bM a5 a6 aq aZ aO be bI;go_loopw [12] (λa3 wr=>AsL pos w #[C E e,C E aP,G Y S.length a9,C E aM.kind,C JL aM.bits,C E ba,C E ar] e aP aM ba ar S a3 wr) (λa3 wr=>S.length-(intOf a3).toNat);case atStart=>exact⟨0,_,[],[],Kw _,D,A (Acc.nil _),A D,bb⟩
 obtain⟨z,dg,ce,cA,aS,rfl,t,B,b7⟩:=hrel;obtain⟨di,bG,rfl⟩:=aB t.1;have bd:F (ce.length=z):=A (by rw[B.out,KZ,Lc];omega);have ct:(0:Int)<=(z:Int):=N;have cu:(z:Int)<=100000:=N;obtain⟨al,am,ax,aW,T,bi,bM,a5,a6,aq,aZ,aO,be,bI⟩:=aK b7.box;obtain⟨aa,cq,cT,cg,q,dt,dw,cQ,cJ,db,dr,da,P,de⟩:=aK b7.out.out;by_cases bA:z < S.length
 ·have c0:(z:Int) < (S.length:Int):=N;obtain⟨a2,ak⟩:∃a2,S[z]? =J a2:=⟨_,Kr bA⟩;have f1:=A ak;have dl:F (aH a2<=100000):=A (by have o:=Tj;have:=cw.out;omega);have dX:=A (dF.out z a2 ak);obtain⟨c6,d',i,e2,cn,bu⟩:=a2;obtain⟨y,b5,ch,cl,cW,af,-,-,b',bv,bo,bZ,c5,e4,co,bS⟩:=fC f ak;injection af with af _ cS;subst af cS;have eV:F (∀X,JK w.heap.size w X->qg X [C E c6,C E d',G cl bu.length cW,C E i.kind,C JL i.bits,C E e2,C E cn] (.mk c6 d' i e2 cn bu)/\X.cell? ⟨y,b5+z*7,I⟩=J (C E c6)/\X.cell? ⟨y,b5+z*7+1,I⟩=J (C E d')/\X.cell? ⟨y,b5+z*7+2,I⟩=J (G cl bu.length cW)/\X.cell? ⟨y,b5+z*7+3,I⟩=J (C E i.kind)/\X.cell? ⟨y,b5+z*7+4,I⟩=J (C JL i.bits)/\X.cell? ⟨y,b5+z*7+5,I⟩=J (C E e2)/\X.cell? ⟨y,b5+z*7+6,I⟩=J (C E cn)):=A (λX az=>⟨qg.below bS az,(az.cell (ay b')).trans b',(az.cell (ay bv)).trans bv,(az.cell (ay bo)).trans bo,(az.cell (ay bZ)).trans bZ,(az.cell (ay c5)).trans c5,(az.cell (ay e4)).trans e4,(az.cell (ay co)).trans co⟩);clear bS ak b' bv bo bZ c5 e4 co al am ax aW T bi bM a5 a6 aq aZ aO be bI aa cq cT cg q dt dw cQ cJ db dr da P de;go_upto_region 6 with fail;obtain⟨b4,bg⟩:∃b4,b4=World.drew wr:=⟨_,D⟩;have eg:F (b4.heap.size=wr.heap.size):=A (by rw[bg];rfl);have eY:F (JK wr.heap.size wr b4):=A XP;have bV:=A (show IQ w #[C E e,C E aP,G (J ⟨y,b5,I⟩) S.length a9,C E aM.kind,C JL aM.bits,C E ba,C E ar] #[C E e,C E aP,G di ce.length bG,C E aM.kind,C JL aM.bits,C E ba,C E ar] b4 from b7.more eY);have bw:F (∀X,IQ w #[C E e,C E aP,G (J ⟨y,b5,I⟩) S.length a9,C E aM.kind,C JL aM.bits,C E ba,C E ar] #[C E e,C E aP,G di ce.length bG,C E aM.kind,C JL aM.bits,C E ba,C E ar] X->X.cell? ⟨w.heap.size+2,2,I⟩=J (G di ce.length bG)/\X.cell? ⟨w.heap.size,2,I⟩=J (G (J ⟨y,b5,I⟩) S.length a9)/\X.cell? ⟨y,b5+z*7,I⟩=J (C E c6)/\X.cell? ⟨y,b5+z*7+1,I⟩=J (C E d')/\X.cell? ⟨y,b5+z*7+2,I⟩=J (G cl bu.length cW)/\X.cell? ⟨y,b5+z*7+3,I⟩=J (C E i.kind)/\X.cell? ⟨y,b5+z*7+4,I⟩=J (C JL i.bits)/\X.cell? ⟨y,b5+z*7+5,I⟩=J (C E e2)/\X.cell? ⟨y,b5+z*7+6,I⟩=J (C E cn)):=A (λX az=>⟨az.out.cell 2,az.box.cell 2,(eV X az.bel).2⟩);have f:=A (bw b4 bV);have dj:=A (dX b4 _ (eV b4 bV.bel).1 dl);have e9:=A (show w.heap.size+3<=wr.heap.size by have:=b7.out.out.lt;omega);have eF:F (mZ (w.heap.size+3) wr b4):=A (mZ.of_below eY);have ed:=A (λae ab=>aQ (g:=ae) t.1 ab);clear dX;refine aG (λX=>X.cell? ⟨w.heap.size+2,2,I⟩=J (G di ce.length bG)/\X.cell? ⟨w.heap.size,2,I⟩=J (G (J ⟨y,b5,I⟩) S.length a9)/\X.cell? ⟨y,b5+z*7,I⟩=J (C E c6)/\X.cell? ⟨y,b5+z*7+1,I⟩=J (C E d')/\X.cell? ⟨y,b5+z*7+2,I⟩=J (G cl bu.length cW)/\X.cell? ⟨y,b5+z*7+3,I⟩=J (C E i.kind)/\X.cell? ⟨y,b5+z*7+4,I⟩=J (C JL i.bits)/\X.cell? ⟨y,b5+z*7+5,I⟩=J (C E e2)/\X.cell? ⟨y,b5+z*7+6,I⟩=J (C E cn)) (λa4=>!([0,1,2,3,4,5,6,7,8,9,10,11]:List Nat).contains a4) U ?_;rw[<-bg];clear bg;refine tl 0 f ?_;refine tl 1 f ?_;refine tl 2 f ?_;refine tl 3 f ?_;refine tl 4 f ?_;refine tl 5 f ?_;refine tl 6 f ?_;refine tl 7 f ?_;refine t1 8 λK j=>?_;go_simp;go_wp2_with (go_at_call 48;refine dj.mono ?_;rintro a7 r ⟨eo,rfl,a1,cG⟩);obtain⟨dc,l⟩:∃M,M=uN pos (.mk c6 d' i e2 cn bu):=⟨_,D⟩;rw[<-l] at a1;have v:=A l;clear l;obtain⟨b1,bL,k,bQ,bR,c4⟩:=dc;obtain⟨ev,rfl,ec,dh⟩:=a1.opened;have ee:=ec;obtain⟨bO,b2,rfl,-,-,-⟩:=ee;have bF:=A a1;have cc:=A cG;have bX:=A (bV.more cG);have f:=A (bw _ bX);clear a1 cG ec dh dj;(refine j.out _ _ (λ_=>f) ?_;clear j K);refine t1 9 λK j=>?_;go_simp;refine j.out _ _ (λ_=>bw _ (bX.more (JY.alloc c _))) ?_;clear j K;refine t1 10 λK j=>?_;refine EK lW iR D (.tmp 16) (.tmp 24) D t.out e9.out (eF.out.trans (mZ.of_below cc.out)) (cs:=[C E b1,C E bL,G bO c4.length b2,C E k.kind,C JL k.bits,C E bQ,C E bR]) (x:=.mk b1 bL k bQ bR c4) D (bF.out.keep (λ_ _ _ h=>h) λd2 d=>⟨by have:=eg.out;omega,d.2⟩) (vO bF.out) (by rw[bd.out];omega) (by rw[bd.out];unfold maxLen;omega) D D ?_;intro ds co av aR d5;have e1:=A aR;have s:=A (bX.app d5 (KP _) λa4 bK=>(ed a4 bK).2);have f:=A (bw _ s);clear aR d5;(refine j.out _ _ (λ_=>f) ?_;clear j K);refine tl 11 f ?_;refine t1 12 λK j=>?_;go_simp;have c':=s.out.out.frozen 2;have d7:=s.out.out.cell 2;go_simp;(refine TS ?_;clear j K);clear c' d7;refine td ?_;try simp only[Exit.then]
  have fa:=A (s.oset 2 (G ds (ce.length+1) co) D);have ef:=A (e1.up iR (mZ.aS (grownBy_set av (w.heap.size+2) 2 (G ds (ce.length+1) co)) (KP _)));go_wp2_with fail;refine⟨⟨z+1,_,ce++[.mk b1 bL k bQ bR c4],_,N,ZF,ef,A ?_,fa⟩,YF⟩;rw[take_snoc' f1.out,KX,B.out,v.out];rfl
 have c0:(S.length:Int)<=(z:Int):=N;have bB:=A (t.done iR);have n:F (ce=S.map (uN pos)):=A (by rw[B.out,KN N]);clear aa cq cT cg q dt dw cQ cJ db dr da P de al am ax aW T bi bM a5 a6 aq aZ aO be bI;obtain⟨al,am,ax,aW,T,bi,bM,a5,a6,aq,aZ,aO,be,bI⟩:=aK b7.box;obtain⟨aa,cq,cT,cg,q,dt,dw,cQ,cJ,db,dr,da,P,de⟩:=aK b7.out.out;obtain⟨cp,cf,cb,c7,b9,cM,cm,cI,c1,bT,cB,dm,dG,dH⟩:=aK (show aj wr (w.heap.size+1) 150 #[C E 0,C E 0,G I 0 0,C E 0,C JL 0,C E 0,C E 0] from b7.res);have ep:F (∀(bl aT:Int) (X cr:L),bl=(if e=42/\ba=pos then 41 else e)->aT=(if e=42/\ba=pos then 0 else ba)->JK w.heap.size w X->dM (λy=>w.heap.size<=y/\y < X.heap.size/\y≠w.heap.size+1) X (G di ce.length bG) ce->aU (w.heap.size+1) X cr->afw pos (.mk e aP aM ba ar S) w (.returned (.agg #[C E bl,C E aP,G di ce.length bG,C E aM.kind,C JL aM.bits,C E aT,C E ar])) cr):=A (λbl aT X cr br ai bY a1 aE=>by
  refine⟨[C E bl,C E aP,G di ce.length bG,C E aM.kind,C JL aM.bits,C E aT,C E ar],D,?_,aE.below _ _ N bY⟩;rw[EY,<-br,<-ai,<-n.out];refine dW.shut (a1.keep (aE.keep _ λy d=>d.2.2) λy d=>⟨d.1,by rw[aE.size];exact d.2.1⟩) ⟨?_,cY.2.1,cY.2.2.1,cY.2.2.2.1,?_,cY.2.2.2.2.2⟩
  ·rw[br];split
   ·exact aA Z Z
   exact cY.1
  rw[ai];split
  ·exact bP
  exact cY.2.2.2.2.1)
 have el:F (dM (λy=>w.heap.size+3<=y/\y < wr.heap.size) wr (G di ce.length bG) ce):=A bB;go_upto_region 8 with fail;go_cut [36] from 28 to 36 (λbc bn=>∃cx:Bool,bc=JM cx/\F (cx=decide (e=42/\ba=pos))/\wr=bn);case first=>
  rcases b:(e== 42) with _|_
  ·go_wp2_with fail;go_meet;exact⟨_,D,A (by simp only[beq_eq_false_iff_ne,ne_eq] at b;simp[b]),D⟩
  rcases m:(ba== pos) with _|_;all_goals go_wp2_with fail
  all_goals(go_meet;exact⟨_,D,A (by simp only[beq_iff_eq,beq_eq_false_iff_ne,ne_eq] at b m;simp[b,m]),D⟩)
 case rest=>
 obtain⟨cx,rfl,dQ,rfl⟩:=hcut;rcases cx with _|_
 ·have cH:=A (Lr dQ.symm);go_wp2_with fail;refine post7 b7.res D λcr az aE=>?_;refine Ud ?_;exact ep e ba wr cr (by rw[JZ cH.out]) (by rw[JZ cH.out]) b7.bel (el.keep (λ_ _ _ h=>h) λy d=>⟨N,d.2,N⟩) aE
 have cH:=A (Lu dQ.symm);go_upto_region 10 with fail;refine aI (Φ:=λX=>IQ w #[C E e,C E aP,G Y S.length a9,C E aM.kind,C JL aM.bits,C E ba,C E ar] #[C E 41,C E aP,G di ce.length bG,C E aM.kind,C JL aM.bits,C E 0,C E ar] X/\dM (λy=>w.heap.size+3<=y/\y < X.heap.size) X (G di ce.length bG) ce) ⟨(b7.oset 0 _ D).oset 5 _ D,by have o:=(aU.one wr (w.heap.size+2) 0 (C E 41)).trans (aU.one _ (w.heap.size+2) 5 (C E 0));exact el.keep (o.keep _ λy d=>N) λy d=>⟨d.1,by rw[o.size];exact d.2⟩⟩ ?_;intro b0 aD;have bp:=A aD;clear aD aa cq cT cg q dt dw cQ cJ db dr da P de cp cf cb c7 b9 cM cm cI c1 bT cB dm dG dH al am ax aW T bi bM a5 a6 aq aZ aO be bI;obtain⟨aa,cq,cT,cg,q,dt,dw,cQ,cJ,db,dr,da,P,de⟩:=aK bp.1.out;obtain⟨cp,cf,cb,c7,b9,cM,cm,cI,c1,bT,cB,dm,dG,dH⟩:=aK (show aj b0 (w.heap.size+1) 150 #[C E 0,C E 0,G I 0 0,C E 0,C JL 0,C E 0,C E 0] from bp.1.res);go_wp2_with fail;refine post7 bp.1.res D λcr az aE=>?_;refine Ud ?_;exact ep 41 0 b0 cr (by rw[Kq cH.out]) (by rw[Kq cH.out]) bp.1.bel (bp.2.keep (λ_ _ _ h=>h) λy d=>⟨N,d.2,N⟩) aE
variable{attr kind op pos:Int}
theorem GZ{L:Int}(aR:dY ⟨op,kind,pos,attr⟩=true)(g:op≠41)(a':uU op pos<=L):pos<=L:=by unfold dY AP at aR;simp only[Bool.and_eq_true,Bool.or_eq_true,decide_eq_true_eq] at aR;unfold uU at a';rw[Kq N] at a';exact a'
theorem AO{L:Int}{val:dP}{args:List ND}(h:kZ (.mk op kind val pos attr args)<=L):uU op pos<=L/\∀a∈args,kZ a<=L:=by
 rw[GY] at h;have e:∀(bP:List Int) (bm:Int),bP.foldl max bm<=L->bm<=L/\∀aa∈bP,aa<=L:=by
  intro bP;induction bP with
  |nil=>intro bm h;exact⟨h,λaa ad=>Zx⟩
  |cons a2 bP bf=>
   intro bm h;obtain⟨o,a8⟩:=bf _ h;refine⟨N,λaa ad=>?_⟩;rcases Nh.1 ad with rfl|ad
   ·omega
   exact a8 aa ad
 obtain⟨o,a8⟩:=e _ _ h;exact⟨o,λa aJ=>a8 _ (LC.2 ⟨a,aJ,D⟩)⟩
theorem zH{val:dP}{args:List ND}(h:kX (.mk op kind val pos attr args)=false):op≠41/\∀a∈args,kX a=false:=by rw[Gl] at h;simp only[Bool.or_eq_false_iff,decide_eq_false_iff_not,List.any_eq_false] at h;exact⟨h.1,λa aJ=>by simpa using h.2 a aJ⟩
theorem zq{P Q:gI->Bool}{L:Int}(b:∀x:gI,dY x=true->P x=true->x.op≠41->x.pos<=L->Q x=true):∀n:ND,jZ P n=true->kX n=false->kZ n<=L->jZ Q n=true
 | .mk e j q bK bF b8,aT,aJ,a'=>by
  obtain⟨bD,bs⟩:=zH aJ
  obtain⟨cX,cA⟩:=AO a'
  rw[jZ.eq_def] at aT⊢
  simp only at aT⊢
  by_cases g:e=40
  ·rw[Kq g] at aT⊢;exact aT
  rw[JZ g] at aT⊢
  match b8,aT,bs,cA with
  | [],aT,_,_=>
   simp only[Bool.and_eq_true] at aT⊢
   exact⟨aT.1,b _ aT.1 aT.2 bD (GZ aT.1 bD cX)⟩
  | [a],aT,bs,cA=>
   simp only[Bool.and_eq_true] at aT⊢
   exact⟨aT.1,zq b a aT.2 (bs a ZH) (cA a ZH)⟩
  | [a,y],aT,bs,cA=>
   simp only[Bool.and_eq_true] at aT⊢
   exact⟨⟨aT.1.1,zq b a aT.1.2 (bs a ZH) (cA a ZH)⟩,zq b y aT.2 (bs y ZH) (cA y ZH)⟩
  |_ :: _ :: _ :: _,aT,_,_=>cases aT
def Gj (L:Int) (x:gI):gI:=⟨if x.op=42/\x.pos=L then 41 else x.op,x.kind,if x.op=42/\x.pos=L then 0 else x.pos,x.attr⟩
theorem zo{P Q:gI->Bool}{L:Int}(b:∀x:gI,dY x=true->P x=true->x.op≠41->x.pos<=L->dY (Gj L x)=true/\Q (Gj L x)=true):∀n:ND,jZ P n=true->kX n=false->kZ n<=L->jZ Q (uN L n)=true
 | .mk e j q bK bF b8,aT,aJ,a'=>by
  obtain⟨bD,bs⟩:=zH aJ
  obtain⟨cX,cA⟩:=AO a'
  rw[EY]
  rw[jZ.eq_def] at aT⊢
  simp only at aT⊢
  by_cases g:e=40
  ·rw[Kq g] at aT
   rw[JZ (show ¬(e=42/\bK=L) by omega),Kq g]
   rw[LH] at aT⊢
   exact⟨aT.1,by have o:b8=[]:=(by simpa using aT.2);rw[o];rfl⟩
  rw[JZ g] at aT
  have d:¬(if e=42/\bK=L then(41:Int) else e)=40:=YT
  rw[JZ d]
  match b8,aT,bs,cA with
  | [],aT,_,_=>
   simp only[Bool.and_eq_true] at aT
   obtain⟨o,a8⟩:=b _ aT.1 aT.2 bD (GZ aT.1 bD cX)
   simp only[List.map_nil,Bool.and_eq_true]
   exact⟨o,a8⟩
  | [a],aT,bs,cA=>
   simp only[Bool.and_eq_true,Bool.or_eq_true,decide_eq_true_eq] at aT
   have a7:¬(e=42/\bK=L):=N
   simp only[List.map_cons,List.map_nil,if_neg a7,Bool.and_eq_true,Bool.or_eq_true,decide_eq_true_eq]
   exact⟨aT.1,zo b a aT.2 (bs a ZH) (cA a ZH)⟩
  | [a,y],aT,bs,cA=>
   simp only[Bool.and_eq_true,decide_eq_true_eq,Bool.not_eq_true',decide_eq_false_iff_not] at aT
   have a7:¬(e=42/\bK=L):=N
   simp only[List.map_cons,List.map_nil,if_neg a7,Bool.and_eq_true,decide_eq_true_eq,Bool.not_eq_true',decide_eq_false_iff_not]
   exact⟨⟨aT.1.1,zo b a aT.1.2 (bs a ZH) (cA a ZH)⟩,zo b y aT.2 (bs y ZH) (cA y ZH)⟩
  |_ :: _ :: _ :: _,aT,_,_=>cases aT
theorem oh(L:Int):∀n:ND,aH (uN L n)=aH n
 | .mk e j q bK bF b8=>by
  rw[EY,dn,dn,List.map_map]
  congr 2
  exact List.map_congr_left λa aJ=>oh L a
variable{kinds:List (List Int)}
theorem abt{b:List (Int×Bool)}{one many t L:Int}{x:gI}(g:x.op≠41)(fz:x.pos<=L)(h:nH kinds b one many t x=true):nH kinds b (L+1) (L+1) (-1) x=true:=by
 unfold nH at h⊢;rw[JZ g] at h⊢;by_cases a9:(if x.op=42 then one else many)<=x.pos
 ·rw[Kq a9] at h;cases h
 rw[JZ a9] at h;rw[JZ YT];exact h
theorem aeN{b:List (Int×Bool)}{one many t bF:Int}{L:Nat}{x:gI}(f:b[L]? =J (bF,false))(aR:dY x=true)(g:x.op≠41)(fz:x.pos<=(L:Int))(h:nH kinds b one many t x=true): dY (Gj L x)=true/\nH kinds b L (L+1:Nat) bF (Gj L x)=true:=by
 have cZ:0<=x.pos:=by unfold dY at aR;simp only[Bool.and_eq_true,decide_eq_true_eq] at aR;exact aR.1.1.1.1.1.2
 unfold nH at h;rw[JZ g] at h;by_cases a9:(if x.op=42 then one else many)<=x.pos
 ·rw[Kq a9] at h;cases h
 rw[JZ a9] at h;by_cases aw:x.op=42/\x.pos=(L:Int)
 ·obtain⟨o,a8⟩:=aw;have a7:Gj L x=⟨41,x.kind,0,x.attr⟩:=by unfold Gj;rw[Kq ⟨o,a8⟩,Kq ⟨o,a8⟩]
  rw[a7];rw[a8,LX,f] at h;simp only at h;unfold ada at h;rw[JZ (by simp[o]),JZ N] at h;by_cases ah:jS kinds bF x.attr=0\/jS kinds bF x.attr≠x.kind
  ·rw[Kq ah] at h;cases h
  refine⟨?_,?_⟩
  ·unfold dY AP at aR⊢;simp only[Bool.and_eq_true,Bool.or_eq_true,decide_eq_true_eq,Bool.not_eq_true',decide_eq_false_iff_not] at aR;simp;omega
  unfold nH;rw[Kq D];simp only[Bool.and_eq_true,Bool.not_eq_true',decide_eq_false_iff_not,decide_eq_true_eq];exact⟨λh=>ah (.inl h),Classical.byContradiction λh=>ah (.inr h)⟩
 have a7:Gj L x=x:=by unfold Gj;rw[JZ aw,JZ aw]
 rw[a7];refine⟨aR,?_⟩;unfold nH;rw[JZ g,JZ YT];exact h
variable{ps:List aO}
section
variable {b:dB} {i L:Nat} {q qt:aO} {n:ND}
theorem Eo(h:qj kinds b)(a1:b.parts[i]? =J q)(aE:q.form≠3)(V:n∈q.guards\/n∈q.closes):∃one many t,jZ (nH kinds (vW b.parts) one many t) n=true:=by
 have ai:=h.part i q a1;rcases V with V|V
 ·exact⟨_,_,_,ai.guards aE n V⟩
 exact⟨_,_,_,ai.closes aE n V⟩
theorem Jz(h:qj kinds b)(a1:b.parts[i]? =J q)(aE:q.form≠3)(V:n∈q.guards\/n∈q.closes)(aJ:kX n=false)(a':kZ n=(L:Int))(da:(dh b.parts)[L]? =J k)(e7:b.parts[k]? =J qt): qj kinds {b with parts:=b.parts.set k {qt with closes:=qt.closes++[n]}}:=by
 obtain⟨p,l,t,aH⟩:=Eo h a1 aE V;obtain⟨o,a8,ac⟩:=jI _ _ _ _ da;have ai:=h.part k qt e7;refine h.set e7 D D ⟨ai.ty,ai.not,ai.guards,λey bm bL=>?_⟩;rcases KQ.1 bL with bL|bL
 ·exact ai.closes ey bm bL
 rw[KG] at bL;subst bL;rw[ac];exact zq (L:=(L:Int)) (λaa j a4 d g=>abt d g a4) bm aH aJ N
theorem JA(h:qj kinds b)(a1:b.parts[i]? =J q)(aE:q.form≠3)(V:n∈q.guards\/n∈q.closes)(aJ:kX n=false)(a':kZ n=(L:Int))(da:(dh b.parts)[L]? =J k)(e7:b.parts[k]? =J qt)(e:qt.form≠2): qj kinds {b with parts:=b.parts.set k {qt with guards:=qt.guards++[uN L n]}}:=by
 obtain⟨p,l,t,aH⟩:=Eo h a1 aE V;obtain⟨o,a8,ac⟩:=jI _ _ _ _ da;have m:qt.form≠3:=by unfold dZ at a8;rw[e7] at a8;simpa using a8
 have ai:=h.part k qt e7;have f:=ad6 e7 m;rw[ac,KR e] at f;refine h.set e7 D D ⟨ai.ty,λh=>absurd h m,λey bm bL=>?_,ai.closes⟩;rcases KQ.1 bL with bL|bL
 ·exact ai.guards ey bm bL
 rw[KG] at bL;subst bL;rw[ac];exact zo (λaa j a4 d g=>aeN f j d g a4) n aH aJ N
theorem Cc(h:qj kinds b)(a1:b.parts[i]? =J q)(ag:eG q.guards l):qj kinds {b with parts:=b.parts.set i {q with guards:=l}}:=by have ai:=h.part i q a1;exact h.set a1 D D ⟨ai.ty,λaH=>ag.ok (ai.not aH),λaH=>ag.ok (ai.guards aH),ai.closes⟩
theorem Cb(h:qj kinds b)(a1:b.parts[i]? =J q)(ag:eG q.closes l):qj kinds {b with parts:=b.parts.set i {q with closes:=l}}:=by have ai:=h.part i q a1;exact h.set a1 D D ⟨ai.ty,ai.not,ai.guards,λaH=>ag.ok (ai.closes aH)⟩
theorem ae3{p:Nat}(aR:(dh ps)[p]? =J i)(da:(dh ps)[L]? =J k)(fz:L < p):k≠i:=by obtain⟨-,-,o⟩:=jI _ _ _ _ aR;obtain⟨-,-,a8⟩:=jI _ _ _ _ da;rintro rfl;omega
end
theorem qL{w:L}(h:aX Q 4 (jo Q) w v ps){q:aO}(a1:ps[k]? =J q): ∃b off a9 Y n cl bD,v=G (J ⟨b,off,I⟩) ps.length a9/\ps.length<=a9/\a9<=maxLen/\w.cell? ⟨b,off+k*4,I⟩=J (C E q.form)/\w.cell? ⟨b,off+k*4+1,I⟩=J (C E q.ty)/\w.cell? ⟨b,off+k*4+2,I⟩=J (G Y q.guards.length n)/\w.cell? ⟨b,off+k*4+3,I⟩=J (G cl q.closes.length bD)/\dM Q w (G Y q.guards.length n) q.guards/\dM Q w (G cl q.closes.length bD) q.closes/\wfi q.form/\wfi q.ty:=by obtain⟨b,off,a9,af,o,a8,aR,bj,a',aS,aw⟩:=(aX.out h λ_ _ h=>h).get a1;obtain⟨cR,aY,rfl,ac,b6,bz,c4⟩:=aS;obtain⟨Y,n,rfl,b3⟩:=id ac;obtain⟨cl,bD,rfl,bh⟩:=id b6;exact⟨b,off,a9,Y,n,cl,bD,af,o,a8,aw 0 _ D,aw 1 _ D,aw 2 _ D,aw 3 _ D,ac,b6,bz,c4⟩
theorem Fa{w:L}{P:List dB}(h:aX Q 3 (BrQ Q) w v P){i:Nat}{x:dB}(ad:P[i]? =J x): ∃b off a9 Y n,v=G (J ⟨b,off,I⟩) P.length a9/\P.length<=a9/\a9<=maxLen/\w.cell? ⟨b,off+i*3,I⟩=J (C E x.id)/\w.cell? ⟨b,off+i*3+1,I⟩=J (C E x.win)/\w.cell? ⟨b,off+i*3+2,I⟩=J (G Y x.parts.length n)/\aX Q 4 (jo Q) w (G Y x.parts.length n) x.parts/\wfi x.id/\wfi x.win:=by obtain⟨b,off,a9,af,o,a8,aR,bj,a',aS,aw⟩:=(aX.out h λ_ _ h=>h).get ad;obtain⟨dn,rfl,ac,b6,bz⟩:=aS;obtain⟨Y,n,rfl,b3⟩:=id ac;exact⟨b,off,a9,Y,n,af,o,a8,aw 0 _ D,aw 1 _ D,aw 2 _ D,ac,b6,bz⟩
theorem bf{w:L}{g:Nat}{t:TypeId}{bJ bD:O}(h:aj w g t #[bJ,bD,bs]): w.cell? ⟨g,0,I⟩=J bJ/\w.cell? ⟨g,1,I⟩=J bD/\w.cell? ⟨g,2,I⟩=J bs/\w.frozen? ⟨g,0,I⟩=false/\w.frozen? ⟨g,1,I⟩=false/\w.frozen? ⟨g,2,I⟩=false:=
 ⟨h.cell 0,h.cell 1,h.cell 2,h.frozen 0,h.frozen 1,h.frozen 2⟩
def ints (l:List Nat):List Int:=List.map (α:=Nat) (β:=Int) (λn=>(n:Int)) l
def PrP (ps:List aO) (W:L) (e:Ending) (W':L):Prop:=∃v,e=.returned v/\aX (λb=>W.heap.size<=b/\b < W'.heap.size) 1 fF W' v (ints (dh ps))/\JK W.heap.size W W'
def PrL (W:L) (ps:List aO) (bl:Array O) (v i:O) (wr:L):Prop:=∃(r:Nat) (css:List (List O)),r<=ps.length/\i=C E r/\F (Acc (W.heap.size+1) 3 1 FZ wr v (ints (dH ps r)) css)/\F (JK W.heap.size W wr/\aj wr W.heap.size 72 bl)
theorem ae4{n:Nat}(h:n<=1000):wfi (n:Int):=ji.2 ⟨N,N⟩
theorem vV{W:L}{dn:O}(id win:Int)(h:aX Q 4 (jo Q) W dn ps)(a':ps.length<=8):Calls Tryz.prog 21 #[.agg #[C E id,C E win,dn]] W (PrP ps W):=by
 obtain⟨Y,a9,rfl,d0,cR,-⟩:=(show aX Q 4 (jo Q) W dn ps from h);have f:=A h;unfold maxLen at cR;obtain⟨an,bk⟩:∃an,an=W.alloc (JO #[C E id,C E win,G Y ps.length a9] 72):=⟨_,D⟩;have aV:=SL;clear h;go_in;go_upto_region 1 with fail;rw[<-bk];clear bk;obtain⟨al,am,ax,a5,a6,aq⟩:=bf aV.2;go_wp2_with fail;clear al am ax a5 a6 aq;go_loopw [3,9] (λbc a3 wr=>PrL W ps #[C E id,C E win,G Y ps.length a9] bc a3 wr) (λbc a3 wr=>ps.length-(intOf a3).toNat);case atStart=>exact⟨0,[],Kw _,D,A (Acc.nil _),aV⟩
 obtain⟨z,cA,aS,rfl,t,b7⟩:=hrel;obtain⟨ce,b⟩:∃ce,ce=ints (dH ps z):=⟨_,D⟩;rw[<-b] at t;have B:=A b;clear b;obtain⟨di,bG,rfl⟩:=aB t.1;have ct:(0:Int)<=(z:Int):=N;have cu:(z:Int)<=8:=N;have bd:F (ce.length<=z):=A (by rw[B.out];unfold ints;rw[KZ];exact mg ps z);have dA:F (W.heap.size+1<=wr.heap.size):=A b7.2.lt;by_cases bA:z < ps.length
 ·have c0:(z:Int) < (ps.length:Int):=N;obtain⟨m,a1⟩:∃m,ps[z]? =J m:=⟨_,Kr bA⟩;have bB:=A a1;obtain⟨y,b5,ch,bu,bP,c7,c6,af,-,-,b0,aL,ao,b2,-,-,-,-⟩:=qL (aX.keep f (Q':=λ_=>True) (R':=jo (λ_=>True)) (λaT u _ ai=>(b7.1.cell (ay ai)).trans ai) (λ_ _=>trivial) λ_ _ h=>jo.keep h (λaT u _ ai=>(b7.1.cell (ay ai)).trans ai) λ_ _=>trivial) a1;injection af with af _ cS;subst af cS;clear a1;go_upto_region 5 with fail;refine Uj ?_;intro df a8;have bx:=A a8;clear a8 b0 aL ao b2;obtain⟨al,am,ax,aW,a5,a6,aq,aZ⟩:=oC bx.2;have dv:F (ints (dH ps (z+1))=if m.form=3 then ints (dH ps z) else ints (dH ps z)++[(z:Int)]):=A (by unfold ints;rw[gW];unfold dZ;rw[bB.out];by_cases ac:m.form=3 <;> simp[ac]);rcases ca:(m.form== 3) with _|_
  ·have e:(m.form !=3)=true:=Zg;have bC:F (ce++[(z:Int)]=ints (dH ps (z+1))):=A (by rw[dv.out,JZ Zg,B.out]);go_wp2_with (at_builtin;refine jU nG iY D _ _ D t.out dA.out bx.out.1 (cs:=[C E (z:Int)]) (x:=(z:Int)) D ⟨D,ae4 (by have:=cu;omega)⟩ VY (by have:=bd.out;omega) WI D D ?_;intro ds dp bt aR d5;have e1:=A aR;have dU:=A d5;clear aR d5);have bM:=A (dU.below W.heap.size W (Ld _) (Ko dA bx.1.size) (b7.1.trans (bx.1.mono b7.1.size)));have b4:=A (dU.blk _ _ _ (λa7=>by have o:=(aQ t.1 (g:=W.heap.size) a7.symm).2;omega) (b7.2.below bx.1 b7.2.lt));have ef:F (Acc (W.heap.size+1) 3 1 FZ bt (G ds (ce.length+1) dp) (ints (dH ps (z+1))) (cA++[[C E (z:Int)]])):=A (bC▸e1);exact⟨⟨z+1,_,N,ZF,ef,A ⟨bM,b4.out⟩⟩,YF⟩
  have e:(m.form !=3)=false:=Zg;have bC:F (ce=ints (dH ps (z+1))):=A (by rw[dv.out,Kq Zg,B.out]);go_wp2_with fail;have ef:F (Acc (W.heap.size+1) 3 1 FZ df (G di ce.length bG) (ints (dH ps (z+1))) cA):=A (bC▸t.below iY bx.1);exact⟨⟨z+1,_,N,ZF,ef,A ⟨b7.1.trans (bx.1.mono b7.1.size),b7.2.below bx.1 b7.2.lt⟩⟩,YF⟩
 have c0:(ps.length:Int)<=(z:Int):=N;have ci:F (ce=ints (dh ps)):=A (by rw[B.out];unfold dh;rw[show z=ps.length by omega]);have be:=A (t.done iY);go_wp2_with fail;go_ret;refine⟨_,D,?_,b7.1⟩;have o:=aX.keep be (Q':=λy=>W.heap.size<=y/\y < wr.heap.size) (R':=fF) (λ_ _ _ h=>h) (λy d=>⟨N,d.2⟩) λ_ _ h=>h;rw[ci.out] at o⊢;exact o

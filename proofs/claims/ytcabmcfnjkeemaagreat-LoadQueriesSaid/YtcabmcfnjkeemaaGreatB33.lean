import Derived.Test.YtcabmcfnjkeemaaGreatBM00
import Derived.Test.YtcabmcfnjkeemaaGreatB32
set_option maxRecDepth 100000
set_option maxHeartbeats 40000000
set_option linter.unusedVariables false
set_option linter.unusedSimpArgs false
namespace Go.Proofs.YtcabmcfnjkeemaaGreat
open Go.Deep Go.RowKit
open Go renaming World->L,Value->O
open Go.IntKind renaming i64->E,u64->JL
open Go.Obj renaming cells->JO
open Go.RowKit renaming Hid->F,Below->JK
open Go.Value renaming int->C,slice->G,bool->JM
open Option renaming none->I,some->J
attribute [local go_sem ↓] Go.wp_at_zero Go.wp_at_succ
def FoP (x:ND) (w:L) (e:Ending) (w':L):Prop:=∃(n:ND) (cs2:List O),e=.returned (.agg cs2.toArray)/\dW (λb=>w.heap.size<=b/\b < w'.heap.size) w' cs2 n/\kJ x n/\aH n<=aH x/\JK w.heap.size w w'
structure FoB (w:L) (bl:Array O) (X:L):Prop where
 bel:JK w.heap.size w X
 box:aj X w.heap.size 150 bl
 res:aj X (w.heap.size+1) 150 zN
theorem aeO(w:L)(ae:Array O):FoB w ae ((w.alloc (JO ae 150)).alloc (JO zN 150)):=by have a8:=aj.new (w.alloc (JO ae 150)) 150 zN;rw[KE] at a8;exact⟨(JY.alloc c _).alloc ZH _,(aj.new _ _ _).alloc _,a8⟩
variable{ae:Array O}{X w:L}
theorem FoB.more{V:L}(h:FoB w ae X)(d:JK X.heap.size X V):FoB w ae V:=
 ⟨h.bel.trans (d.mono h.bel.size),h.box.below d h.box.lt,h.res.below d h.res.lt⟩
theorem FoB.app{V:L}{B:Nat}{v:O}(h:FoB w ae X)(k:jk B v X V)(bW:w.heap.size+1 < B):FoB w ae V:=by
 have bm:∀a4,a4 < B->J a4≠v.ownBlock:=λa4 bK a7=>by have:=k.ge a4 a7.symm;omega
 exact⟨h.bel.grown k.grown (KI h.box.lt) λa4 bK=>by have:=k.ge a4 bK;omega,h.box.grown k.grown (bm _ N),h.res.grown k.grown (bm _ bW)⟩
theorem FoP.fin{x n:ND}{cr:L}{cs2:List O}(d:JK w.heap.size w X)(aE:aU (w.heap.size+1) X cr)(a1:dW (λb=>w.heap.size+2<=b/\b < X.heap.size) X cs2 n)(ag:kJ x n)(V:aH n<=aH x):FoP x w (.returned (.agg cs2.toArray)) cr:=
 ⟨n,cs2,D,a1.keep (aE.keep _ (λb d=>N)) (λb d=>⟨N,XJ⟩),ag,V,aE.below _ _ N d⟩
theorem FoB.jd{Gp:Array O}(h:FoB w ae X)(i:Nat)(u:O)(aw:ae.setIfInBounds i u=Gp):FoB w Gp (X.setCell ⟨w.heap.size,i,I⟩ u)/\aU w.heap.size X (X.setCell ⟨w.heap.size,i,I⟩ u):=by have aE:=aU.one X w.heap.size i u;exact⟨⟨aE.below _ _ c h.bel,by rw[<-aw];exact h.box.bJ i u,aE.blk _ _ _ N h.res⟩,aE⟩
theorem adA(Q:Nat->Prop)(w:L)(aP:Int)(v:dP)(ah:wfi aP)(o:wfi v.kind)(a8:oU v.bits):dW Q w [C E 40,C E aP,G I 0 0,C E v.kind,C JL v.bits,C E 0,C E 0] (.mk 40 aP v 0 0 []):=
 dW.shut (aX.nil _ _ _) ⟨aA Z Z,ah,o,a8,bP,bP⟩
theorem Hu(aP:Int)(v:dP):aH (.mk 40 aP v 0 0 [])=1:=by rw[dn];rfl
theorem Gz{B:Nat}{wr:L}{di:Option Addr}{n d9:Nat}{xs:List ND}(h:aX (λb=>B<=b/\b < wr.heap.size) 7 (dW (λb=>B<=b/\b < wr.heap.size)) wr (G di n d9) xs){i:Nat}{op aP ps at_:Int}{aM:dP}{S:List ND}(aR:xs[i]? =J (.mk op aP aM ps at_ S)): ∃b off Y k,di=J ⟨b,off,I⟩/\∀X,JK wr.heap.size wr X->(X.cell? ⟨b,off+i*7,I⟩=J (C E op)/\X.cell? ⟨b,off+i*7+1,I⟩=J (C E aP)/\X.cell? ⟨b,off+i*7+2,I⟩=J (G Y S.length k)/\X.cell? ⟨b,off+i*7+3,I⟩=J (C E aM.kind)/\X.cell? ⟨b,off+i*7+4,I⟩=J (C JL aM.bits)/\X.cell? ⟨b,off+i*7+5,I⟩=J (C E ps)/\X.cell? ⟨b,off+i*7+6,I⟩=J (C E at_))/\dW (λb=>B<=b/\b < wr.heap.size) X [C E op,C E aP,G Y S.length k,C E aM.kind,C JL aM.bits,C E ps,C E at_] (.mk op aP aM ps at_ S):=by obtain⟨b,off,a9,Y,k,af,-,-,b',bv,bo,bZ,c5,bG,co,bS⟩:=fC (dM.slr h) aR;injection af with af _ _;exact⟨b,off,Y,k,af,λX az=>⟨⟨(az.cell (ay b')).trans b',(az.cell (ay bv)).trans bv,(az.cell (ay bo)).trans bo,(az.cell (ay bZ)).trans bZ,(az.cell (ay c5)).trans c5,(az.cell (ay bG)).trans bG,(az.cell (ay co)).trans co⟩,bS.keep (aF.of_below az λb d=>d.2) λ_ h=>h⟩⟩
def FoL (w:L) (bl:Array O) (ar:List ND) (a b i:O) (wr:L):Prop:=
 ∃(r:Nat) (xs:List ND) (ys:List dP) (css ds:List (List O)),r<=ar.length/\i=C E r/\F (Acc (w.heap.size+2) 150 7 (NdU b.ownBlock) wr a xs css)/\F (Acc (w.heap.size+2) 202 2 VaR wr b ys ds)/\
  F (xs.length=r/\ys.length<=r/\∀(k:Nat) (y y':ND),ar[k]? =J y->xs[k]? =J y'->kJ y y'/\aH y'<=aH y)/\F (FoB w bl wr)
theorem adb(x:ND):∀(w:L) (cs:List O) (P:gI->Bool),jZ P x=true->qg w cs x->aH x<=100000->Calls Tryz.prog 81 #[.agg cs.toArray] w (FoP x w):=by
 refine vN (p:=λx=>∀(w:L) (cs:List O) (P:gI->Bool),jZ P x=true->qg w cs x->aH x<=100000->Calls Tryz.prog 81 #[.agg cs.toArray] w (FoP x w)) ?_ x;intro e aP aM ba ar S bf w cs P aT h V;obtain⟨dg,rfl,ag,bN⟩:=h.opened;obtain⟨Y,a9,rfl,d0,cR⟩:=ag.slice;have f:=A ag;have cY:=A bN;have dF:=A bf;have cw:=A V;have dr:=A aT;have eJ:S.length<=2:=aaT aT;obtain⟨an,bk⟩:∃an,an=(w.alloc (JO #[C E e,C E aP,G Y S.length a9,C E aM.kind,C JL aM.bits,C E ba,C E ar] 150)).alloc (JO zN 150):=⟨_,D⟩;have aV:=A (show FoB w #[C E e,C E aP,G Y S.length a9,C E aM.kind,C JL aM.bits,C E ba,C E ar] an from bk▸aeO w _);unfold maxLen at cR;clear bf ag V h bN aT;unfold zN at bk;go_in;go_upto_region 1 with fail;rw[<-bk];clear bk;obtain⟨al,am,ax,aW,T,bi,bM,a5,a6,aq,aZ,aO,be,bI⟩:=aK aV.box;obtain⟨cp,cf,cb,c7,b9,cM,cm,cI,c1,bT,cB,dm,dG,dH⟩:=aK (show aj an (w.heap.size+1) 150 #[C E 0,C E 0,G I 0 0,C E 0,C JL 0,C E 0,C E 0] from aV.res);rcases e5:((S.length:Int)== 0) with _|_;rotate_left
 ·have bC:F (S=[]):=A (NP.1 (by have h:=LZ e5;omega));go_wp2_with fail;refine post7 aV.res D λcr az aE=>?_;refine Ud ?_;exact⟨.mk e aP aM ba ar S,_,D,dW.shut ⟨Y,a9,D,d0,Ya,λbw=>absurd bw (by rw[bC.out];simp)⟩ cY,kJ.refl _,KD _,aE.below _ _ N aV.bel⟩
 have bw:¬S.length=0:=λa7=>by rw[a7] at e5;exact absurd e5 Z
 go_wp2_with fail;clear al am ax aW T bi bM a5 a6 aq aZ aO be bI cp cf cb c7 b9 cM cm cI c1 bT cB dm dG dH e5;go_loopw [3,4,16] (λa y a3 wr=>FoL w #[C E e,C E aP,G Y S.length a9,C E aM.kind,C JL aM.bits,C E ba,C E ar] S a y a3 wr) (λa y a3 wr=>S.length-(intOf a3).toNat);case atStart=>exact⟨0,[],[],[],[],Kw _,D,A (Acc.nil _),A (Acc.nil _),A ⟨D,KD _,λa0 a2 W _ h=>Zw⟩,aV⟩
 obtain⟨z,ce,aC,cA,db,aS,rfl,cy,b,q,b7⟩:=hrel;obtain⟨di,d9,rfl⟩:=aB cy.1;obtain⟨ds,dp,rfl⟩:=aB b.1;have ct:(0:Int)<=(z:Int):=N;have cu:(z:Int)<=2:=N;obtain⟨al,am,ax,aW,T,bi,bM,a5,a6,aq,aZ,aO,be,bI⟩:=aK b7.box;by_cases bA:z < S.length
 ·have c0:(z:Int) < (S.length:Int):=N;obtain⟨a2,ak⟩:∃a2,S[z]? =J a2:=⟨_,Kr bA⟩;have bV:=A ak;have dl:F (aH a2<=100000):=A (by have o:=Tj;have:=cw.out;omega);have dX:=A (dF.out z a2 ak);have ez:=A (Fp dr ak);obtain⟨c6,d',i,e2,cn,bu⟩:=a2;obtain⟨y,b5,ch,cl,cW,af,-,-,b',bv,bo,bZ,c5,e4,co,bS⟩:=fC (iH f b7.bel) ak;injection af with af _ cS;subst af cS;have dj:=A (dX wr _ P ez bS dl);have eZ:=A (λae ab=>aQ (g:=ae) cy.1 ab);clear bS ak dX;go_upto_region 9 with(go_at_call 81;refine dj.mono ?_;rintro a7 r ⟨dc,eo,rfl,a1,cF,ao,cG⟩;obtain⟨b1,bL,k,bQ,bR,c4⟩:=dc;obtain⟨ev,rfl,ec,dh⟩:=a1.opened;have ee:=ec;obtain⟨bO,b2,rfl,-,-,-⟩:=ee;have bF:=A a1;have cc:=A cG;have eh:=A (Kt cF ao);have cE:=A dh;clear a1 cF ao cG ec dh);refine aI (Φ:=λX=>JK wr.heap.size wr X/\aj X r.heap.size 150 #[C E b1,C E bL,G bO c4.length b2,C E k.kind,C JL k.bits,C E bQ,C E bR]/\dW (λa4=>wr.heap.size<=a4/\a4 < X.heap.size) X [C E b1,C E bL,G bO c4.length b2,C E k.kind,C JL k.bits,C E bQ,C E bR] (.mk b1 bL k bQ bR c4)) ⟨cc.alloc cc.size _,aj.new _ _ _,bF.keep (aF.of_below (JY.alloc c _) λa4 bK=>bK.2) λa4 bK=>⟨bK.1,Zk⟩⟩ ?_;intro e8 bz;have s:=A bz;clear bz al am ax aW T bi bM a5 a6 aq aZ aO be bI b' bv bo bZ c5 e4 co;have d6:F (ce.length<=2):=A (by have:=q.1;omega);have n:F (w.heap.size+2<=wr.heap.size):=A (by have:=b7.res.lt;omega);have eA:F (∀a4,(Value.slice ds aC.length dp).ownBlock=J a4->a4 < wr.heap.size):=A (λa4 bK=>(aQ b.1 bK).1);obtain⟨al,am,ax,aW,T,bi,bM,a5,a6,aq,aZ,aO,be,bI⟩:=aK s.2.1;go_upto_region 10 with(at_builtin;go_loud (refine IG lW (DY (Value.slice ds aC.length dp).ownBlock) D _ _ D cy.out n.out s.out.1 (cs:=[C E b1,C E bL,G bO c4.length b2,C E k.kind,C JL k.bits,C E bQ,C E bR]) (x:=.mk b1 bL k bQ bR c4) D (dW.keep s.out.2.2 (λ_ _ _ h=>h) λa4 bK=>⟨bK,λa7=>by have o:=eA.out a4 a7.symm;have a8:=bK.1;omega⟩) (vO s.out.2.2) Yi (by have:=d6.out;unfold maxLen;omega) D D ?_;intro dq dB bt cN br c8;have ci:=A cN;have dE:=A br;have eL:=A c8;clear cN br c8));have eb:=A (show ∀ae,(Value.slice di ce.length d9).ownBlock=J ae->ae < wr.heap.size/\w.heap.size+2<=ae from eZ);have bs:=A (dE.app.blk _ _ _ (λa7=>by have o:=(eb _ a7.symm).1;have a8:=cc.size;omega) s.2.1);have eg:=A ((b.below sG s.1).EX dE.app (iI b.1 cy.1 Z) λ_ _ _ _ h=>h);have d3:=A ((b7.more s.1).app dE (KP _));have cZ:F ((ce++[ND.mk b1 bL k bQ bR c4]).length=z+1/\∀(a0:Nat) (a2 W:ND),S[a0]? =J a2->(ce++[ND.mk b1 bL k bQ bR c4])[a0]? =J W->kJ a2 W/\aH W<=aH a2):=A ⟨by rw[KC,q.1];rfl,λa0 a2 W ak m=>by
   by_cases ah:a0 < ce.length
   ·rw[KW ah] at m;exact q.2.2 a0 a2 W ak m
   rw[Lh N] at m;have o:a0=z:=by have a8:=(KA.1 m).1;have ac:=q.1;simp at a8;omega
   subst o;rw[q.1,Me] at m;rw[bV.out] at ak;injection ak with ak;have b6:ND.mk b1 bL k bQ bR c4=W:=by simpa using m
   subst ak b6;exact eh.out⟩
  clear al am ax aW T bi bM a5 a6 aq aZ aO be bI;obtain⟨al,am,ax,aW,T,bi,bM,a5,a6,aq,aZ,aO,be,bI⟩:=aK bs;rcases e3:(b1== 40) with _|_
  ·go_wp2_with fail;exact⟨⟨z+1,ce++[ND.mk b1 bL k bQ bR c4],aC,_,_,N,ZF,ci,eg,A ⟨cZ.1,Yz,cZ.2⟩,d3⟩,YF⟩
  have dK:F (w.heap.size+2<=bt.heap.size):=A (by have:=d3.res.lt;omega);have ew:F (aC.length<=2):=A Yz;go_wp2_with (at_builtin;go_loud (refine IG ac5 sG D _ _ D eg.out dK.out JY (cs:=[C E k.kind,C JL k.bits]) (x:=k) D ⟨D,cE.out.2.2.1,cE.out.2.2.2.1⟩ Vk (by have:=ew.out;omega) (by have:=ew.out;unfold maxLen;omega) D D ?_;intro cT eM cU cN br c8;have eB:=A cN;have dV:=A br;have eD:=A c8;clear cN br c8));have er:=A (ci.ahu dV (iI ci.1 eg.1 Z) eD);have dR:=A (d3.app dV (KP _));exact⟨⟨z+1,ce++[ND.mk b1 bL k bQ bR c4],aC++[k],_,_,N,ZF,er,eB,A ⟨cZ.1,by rw[KC];have:=q.2.1;simp;omega,cZ.2⟩,dR⟩,YF⟩
 have c0:(S.length:Int)<=(z:Int):=N;have ej:F (ce.length=1\/ce.length=2):=A (by have o:=q.1;omega);have dN:F (ce.length=S.length):=A (by have o:=q.1;omega);have bB:F (aX (λy=>w.heap.size+2<=y/\y < wr.heap.size) 7 (dW (λy=>w.heap.size+2<=y/\y < wr.heap.size)) wr (G di ce.length d9) ce):=A (aX.keep (cy.done (DY _)) (λ_ _ _ h=>h) (λ_ h=>h) λ_ _ h=>dW.keep h (λ_ _ _ h=>h) λ_ d=>d.1);have et:F (bU 2 rU wr (G ds aC.length dp) aC):=A ((b.done sG).out λ_ _ h=>h);have eF:=A (λ(X:L) (az:JK wr.heap.size wr X) (a':aC.length=ce.length)=>aaz e cY.1 (et.keep (bW.of_below az) λ_ _ h=>h) (by rw[a'];exact ej));have n:F (∀(a0:Nat) (a2 W:ND),S[a0]? =J a2->ce[a0]? =J W->kJ a2 W/\aH W<=aH a2):=A q.2.2;have ei:F (w.heap.size+2<=wr.heap.size):=A (by have:=b7.res.lt;omega);have ex:F (∀(bc:dP) (X cr:L),kQ bc=true->wfi bc.kind->oU bc.bits->JK wr.heap.size wr X->aU (w.heap.size+1) X cr->FoP (.mk e aP aM ba ar S) w (.returned (.agg #[C E 40,C E aP,G I 0 0,C E bc.kind,C JL bc.bits,C E 0,C E 0])) cr):=A (λbc X cr o a8 ac az aE=>FoP.fin (b7.bel.trans (az.mono b7.bel.size)) aE (adA _ X aP bc cY.2.1 a8 ac) (aat o) (by rw[Hu];exact oI _));have ed:F (∀(a3:Nat) (a2 aA:ND) (eo:List O) (X cr:L),ce[a3]? =J a2->kJ a2 aA->aH aA<=aH a2->dW (λy=>w.heap.size+2<=y/\y < wr.heap.size) X eo aA->JK wr.heap.size wr X->aU (w.heap.size+1) X cr->FoP (.mk e aP aM ba ar S) w (.returned (.agg eo.toArray)) cr):=A (λa3 a2 aA eo X cr aR eX cD a1 az aE=>by have bA:=(KA.1 aR).1;have o:=dN.out;obtain⟨a,aJ⟩:∃a,S[a3]? =J a:=⟨_,Kr N⟩;obtain⟨a8,ac⟩:=n.out a3 a a2 aJ aR;have b6:=jy (op:=e) (kind:=aP) (val:=aM) (pos:=ba) (attr:=ar) aJ;exact FoP.fin (b7.bel.trans (az.mono b7.bel.size)) aE (a1.keep (λ_ _ _ h=>h) λy d=>⟨d.1,Kv d.2 az.size⟩) (kJ.trans (xE aJ a8) eX) N);obtain⟨R,ek⟩:∃a2,ce[0]? =J a2:=⟨_,Kr (by have:=ej.out;omega)⟩;have b8:=A ek;obtain⟨ey,b0,df,dT,bJ,d8⟩:=R;obtain⟨y,b5,ad,cQ,rfl,el⟩:=Gz bB ek;simp only[Nat.zero_mul,Nat.add_zero] at el;have d1:=A el;clear el ek;have cC:(0:Int) < (ce.length:Int):=by have:=ej.out;omega
 obtain⟨B,cq⟩:∃bl,(e== 14)=bl:=⟨_,D⟩;go_upto_region 13 with fail;go_cut [52] from 38 to 52 (λbc bn=>∃cx:Bool,bc=JM cx/\F (cx=true->aC.length=ce.length)/\wr=bn);case first=>
  rcases b3:((aC.length:Int)== (ce.length:Int)) with _|_
  ·exact Oq
  have bx:F (aC.length=ce.length):=A (by have h:=LZ b3;omega);rcases dJ:decide (1<=e) with _|_
  ·have eG:¬1<=e:=Lr dJ;exact QO
  have eG:1<=e:=Lu dJ;rcases cP:decide (e<=17) with _|_
  ·have eI:¬e<=17:=Lr cP;exact QO
  have eI:e<=17:=Lu cP;exact QO
 case rest=>
 obtain⟨cx,rfl,dQ,rfl⟩:=hcut;rcases cx with _|_;rotate_left
 ·go_upto_region 14 with fail;clear al am ax aW T bi bM a5 a6 aq aZ aO be bI;obtain⟨bj,bg⟩:∃b4,b4=World.drew wr:=⟨_,D⟩;have bp:=A (show JK wr.heap.size wr bj by rw[bg];exact(Ky wr.heap.size wr).drew);have bq:=A (b7.more bp);have f:F (bj.cell? ⟨w.heap.size,1,I⟩=J (C E aP)/\bj.cell? ⟨w.heap.size,0,I⟩=J (C E e)):=A ⟨bq.box.cell 1,bq.box.cell 0⟩;refine aG (λX=>X.cell? ⟨w.heap.size,1,I⟩=J (C E aP)/\X.cell? ⟨w.heap.size,0,I⟩=J (C E e)) (λa4=>!([0,1,2,3,4,5,6,7]:List Nat).contains a4) U ?_;rw[<-bg];clear bg;refine tl 0 f ?_;refine tl 1 f ?_;refine tl 2 f ?_;refine tl 3 f ?_;refine tl 4 f ?_;refine t1 5 λK j=>?_;go_simp;go_wp2_with (go_at_call 102;refine(eF _ bp (dQ D)).mono ?_;rintro a7 du ⟨M,rfl,cH,bm,cK,dC⟩);have dd:=A (bp.trans (dC.mono bp.size));have c9:=A (b7.more dd);have b:=A (Kt cH (Kt bm cK));clear cH bm cK;have f:F (du.cell? ⟨w.heap.size,1,I⟩=J (C E aP)/\du.cell? ⟨w.heap.size,0,I⟩=J (C E e)):=A ⟨c9.box.cell 1,c9.box.cell 0⟩;clear dC;(refine j.out _ _ (λ_=>f) ?_;clear j K);refine tl 6 f ?_;refine t1 7 λK j=>?_;go_simp;obtain⟨cp,cf,cb,c7,b9,cM,cm,cI,c1,bT,cB,dm,dG,dH⟩:=TG;go_simp;have dA:=SN;(refine j.out _ _ (λ_=>⟨dA.cell 1,dA.cell 0⟩) ?_;clear j K);exact PK
 go_upto_region 15 with fail;go_cut [72] from 60 to 72 (λbc bn=>∃cx:Bool,bc=JM cx/\F (cx=true->ce.length=2)/\wr=bn);case first=>
  rcases bh:((ce.length:Int)== 2) with _|_
  ·exact Oq
  have ca:F (ce.length=2):=A (by have h:=LZ bh;omega);rcases cV:(e== 13) with _|_
  ·rcases B with _|_;all_goals(go_wp2_with fail;go_meet;exact⟨_,D,A (λ_=>ca),D⟩)
  go_wp2_with fail;go_meet;exact⟨_,D,A (λ_=>ca),D⟩
 case rest=>
 obtain⟨cx,rfl,fy,rfl⟩:=hcut;rcases cx with _|_
 ·clear al am ax aW T bi bM a5 a6 aq aZ aO be bI;have da:=A (Ky wr.heap.size wr);obtain⟨al,am,ax,aW,T,bi,bM,a5,a6,aq,aZ,aO,be,bI⟩:=aK (b7.more da).box;go_upto_region 23 with fail;go_cut [133] from 111 to 133 (λbc bn=>∃cx:Bool,bc=JM cx/\F (cx=true->d8.length=1)/\wr=bn);case first=>
   rcases cL:(e== 15) with _|_
   ·exact Oq
   rcases b3:((ce.length:Int)== 1) with _|_
   ·exact Oq
   obtain⟨⟨b',bv,bo,bZ,c5,bG,co⟩,-⟩:=d1.out wr da;rcases eu:(ey== 15) with _|_
   ·exact Oq
   rcases ea:((d8.length:Int)== 1) with _|_
   ·exact Oq
   have bx:F (d8.length=1):=A (by have h:=LZ ea;omega);go_wp2_with fail;go_meet;exact⟨_,D,A (λ_=>bx),D⟩
  case rest=>
  obtain⟨cx,rfl,em,rfl⟩:=hcut;rcases cx with _|_;rotate_left
  ·clear al am ax aW T bi bM a5 a6 aq aZ aO be bI;obtain⟨⟨b',bv,bo,bZ,c5,bG,co⟩,t⟩:=d1.out wr da;obtain⟨dy,dL,l,-⟩:=t.opened;have bh:dy=G ad d8.length cQ:=by exact QU
   subst bh;have ef:=em.out D;obtain⟨a5,cd⟩:∃aA,d8[0]? =J aA:=⟨_,Kr N⟩;have cv:=A cd;obtain⟨c3,dt,bX,d5,d2,dz⟩:=a5;obtain⟨eK,f',eE,eH,bY,af,-,-,c',dS,dD,e0,d7,dk,dI,eC⟩:=fC (dM.slr l) cd;injection af with af _ cS;subst af cS;simp only[Nat.zero_mul,Nat.add_zero] at c' dS dD e0 d7 dk dI;have cz:=A eC;have bb:(0:Int) < (d8.length:Int):=N;clear t dL l cd eC ef;obtain⟨cp,cf,cb,c7,b9,cM,cm,cI,c1,bT,cB,dm,dG,dH⟩:=aK (show aj wr (w.heap.size+1) 150 #[C E 0,C E 0,G I 0 0,C E 0,C JL 0,C E 0,C E 0] from(b7.more da).res);exact Qb
  go_upto_region 26 with fail;have dU:=SG;refine aI (Φ:=λX=>FoB w #[C E e,C E aP,G (J ⟨y,b5,I⟩) ce.length d9,C E aM.kind,C JL aM.bits,C E ba,C E ar] X/\aU w.heap.size wr X) dU.out ?_;exact Oj
 obtain⟨bd,aa⟩:∃a2,ce[1]? =J a2:=⟨_,Kr (by have:=fy.out D;omega)⟩;have bH:=A aa;obtain⟨dJ,aL,dY,v,bD,cX⟩:=bd;obtain⟨aY,de,dw,cJ,e9,ep⟩:=Gz bB aa;injection e9 with e9;injection e9 with b3 bh;subst b3 bh;simp only[Nat.one_mul] at ep;have ai:=A ep;have d4:(1:Int) < (ce.length:Int):=by have:=fy.out D;omega
 clear ep aa;go_upto_region 17 with fail;clear al am ax aW T bi bM a5 a6 aq aZ aO be bI;go_cut [87] from 76 to 87 (λbc bn=>∃cx:Bool,bc=JM cx/\F (JK wr.heap.size wr bn));case first=>
  obtain⟨⟨b',bv,bo,bZ,c5,bG,co⟩,t⟩:=d1.out wr (Ky wr.heap.size wr);have e7:=A t;clear t;go_wp2_with fail;refine(uz e7.weak B).mono ?_;rintro a7 r ⟨e1,rfl,cG⟩;have cc:=A cG;clear b' bv bo bZ c5 bG co cG;rcases e1 with _|_
  ·obtain⟨⟨b',bv,bo,bZ,c5,bG,co⟩,cj⟩:=ai.out r (cc);have cg:=A cj;clear cj;go_wp2_with fail;refine(uz cg.weak B).mono ?_;rintro a7 av ⟨bE,rfl,cO⟩;have dv:=A (cc.trans (cO.mono cc.size));clear b' bv bo bZ c5 bG co cO;go_wp2_with fail;go_meet;exact⟨_,D,dv⟩
  go_wp2_with fail;go_meet;exact⟨_,D,cc⟩
 case rest=>
 obtain⟨cx,rfl,dZ⟩:=hcut;rcases cx with _|_;rotate_left
 ·go_upto_region 18 with fail;obtain⟨bj,bg⟩:∃b4,b4=World.drew wc:=⟨_,D⟩;have bp:=A (show JK wr.heap.size wr bj by rw[bg];exact(dZ).drew);have bq:=A (b7.more bp);have f:F (bj.cell? ⟨w.heap.size,1,I⟩=J (C E aP)):=A bq.box.cell 1;refine aG (λX=>X.cell? ⟨w.heap.size,1,I⟩=J (C E aP)) (λa4=>!([0,1,2,3,4,5]:List Nat).contains a4) U ?_;rw[<-bg];clear bg;refine tl 0 f ?_;refine tl 1 f ?_;refine tl 2 f ?_;refine t1 3 λK j=>?_;go_simp;go_wp2_with (go_at_call 82;refine(lI B _).mono ?_;rintro a7 du ⟨rfl,dC⟩);have dd:=A (bp.trans (dC.mono bp.size));have c9:=A (b7.more dd);obtain⟨M,eq⟩:∃x,x=oN B:=⟨_,D⟩;rw[<-eq];have b:=A (show kQ M=true/\wfi M.kind/\oU M.bits from eq▸jM B);clear eq;have f:F (du.cell? ⟨w.heap.size,1,I⟩=J (C E aP)):=A c9.box.cell 1;clear dC;(refine j.out _ _ (λ_=>f) ?_;clear j K);refine tl 4 f ?_;refine t1 5 λK j=>?_;go_simp;obtain⟨cp,cf,cb,c7,b9,cM,cm,cI,c1,bT,cB,dm,dG,dH⟩:=TG;go_simp;have dA:=SN;(refine j.out _ _ (λ_=>dA.cell 1) ?_;clear j K);exact PK
 obtain⟨⟨b',bv,bo,bZ,c5,bG,co⟩,t⟩:=d1.out wc (dZ);have e7:=A t;clear t;go_wp2_with fail;refine(uz e7.weak (!B)).mono ?_;rintro a7 bt ⟨aN,rfl,dx⟩;have d3:=A (dZ.trans (dx.mono dZ.size));clear b' bv bo bZ c5 bG co dx;rcases aN with _|_;rotate_left
 ·skip;obtain⟨cp,cf,cb,c7,b9,cM,cm,cI,c1,bT,cB,dm,dG,dH⟩:=aK (show aj bt (w.heap.size+1) 150 #[C E 0,C E 0,G I 0 0,C E 0,C JL 0,C E 0,C E 0] from(b7.more (d3)).res);obtain⟨⟨b',bv,bo,bZ,c5,bG,co⟩,cj⟩:=ai.out bt (d3);have cg:=A cj;clear cj;go_wp2_with fail;refine post7 (b7.more (d3)).res D λcr az aE=>?_;refine Ud ?_;exact ed 1 _ _ _ _ cr bH (kJ.refl _) c cg (d3) aE
 obtain⟨⟨b',bv,bo,bZ,c5,bG,co⟩,cj⟩:=ai.out bt (d3);have cg:=A cj;clear cj;go_wp2_with fail;refine(uz cg.weak (!B)).mono ?_;rintro a7 cU ⟨c2,rfl,dO⟩;have dR:=A (d3.trans (dO.mono d3.size));clear b' bv bo bZ c5 bG co dO;rcases c2 with _|_;rotate_left
 ·skip;obtain⟨cp,cf,cb,c7,b9,cM,cm,cI,c1,bT,cB,dm,dG,dH⟩:=aK (show aj cU (w.heap.size+1) 150 #[C E 0,C E 0,G I 0 0,C E 0,C JL 0,C E 0,C E 0] from(b7.more (dR)).res);obtain⟨⟨b',bv,bo,bZ,c5,bG,co⟩,t⟩:=d1.out cU (dR);have e7:=A t;clear t;go_wp2_with fail;refine post7 (b7.more (dR)).res D λcr az aE=>?_;refine Ud ?_;exact ed 0 _ _ _ _ cr b8 (kJ.refl _) c e7 (dR) aE
 skip;have da:=A (dR);obtain⟨al,am,ax,aW,T,bi,bM,a5,a6,aq,aZ,aO,be,bI⟩:=aK (b7.more da).box;go_upto_region 23 with fail;go_cut [133] from 111 to 133 (λbc bn=>∃cx:Bool,bc=JM cx/\F (cx=true->d8.length=1)/\cU=bn);case first=>
  rcases cL:(e== 15) with _|_
  ·exact Oq
  rcases b3:((ce.length:Int)== 1) with _|_
  ·exact Oq
  obtain⟨⟨b',bv,bo,bZ,c5,bG,co⟩,-⟩:=d1.out cU da;rcases eu:(ey== 15) with _|_
  ·exact Oq
  rcases ea:((d8.length:Int)== 1) with _|_
  ·exact Oq
  have bx:F (d8.length=1):=A (by have h:=LZ ea;omega);go_wp2_with fail;go_meet;exact⟨_,D,A (λ_=>bx),D⟩
 case rest=>
 obtain⟨cx,rfl,em,rfl⟩:=hcut;rcases cx with _|_;rotate_left
 ·clear al am ax aW T bi bM a5 a6 aq aZ aO be bI;obtain⟨⟨b',bv,bo,bZ,c5,bG,co⟩,t⟩:=d1.out cU da;obtain⟨dy,dL,l,-⟩:=t.opened;have bh:dy=G ad d8.length cQ:=by exact QU
  subst bh;have ef:=em.out D;obtain⟨a5,cd⟩:∃aA,d8[0]? =J aA:=⟨_,Kr N⟩;have cv:=A cd;obtain⟨c3,dt,bX,d5,d2,dz⟩:=a5;obtain⟨eK,f',eE,eH,bY,af,-,-,c',dS,dD,e0,d7,dk,dI,eC⟩:=fC (dM.slr l) cd;injection af with af _ cS;subst af cS;simp only[Nat.zero_mul,Nat.add_zero] at c' dS dD e0 d7 dk dI;have cz:=A eC;have bb:(0:Int) < (d8.length:Int):=N;clear t dL l cd eC ef;obtain⟨cp,cf,cb,c7,b9,cM,cm,cI,c1,bT,cB,dm,dG,dH⟩:=aK (show aj cU (w.heap.size+1) 150 #[C E 0,C E 0,G I 0 0,C E 0,C JL 0,C E 0,C E 0] from(b7.more da).res);exact Qb
 go_upto_region 26 with fail;have dU:=SG;refine aI (Φ:=λX=>FoB w #[C E e,C E aP,G (J ⟨y,b5,I⟩) ce.length d9,C E aM.kind,C JL aM.bits,C E ba,C E ar] X/\aU w.heap.size cU X) dU.out ?_;exact Oj
def FlP (l:List ND) (W:L) (e:Ending) (W':L):Prop:=∃v xs css,e=.returned v/\Acc W.heap.size 150 7 dW W' v xs css/\eG l xs/\(xs.map aH).sum<=(l.map aH).sum/\JK W.heap.size W W'
def FlL (W:L) (l:List ND) (v i:O) (wr:L):Prop:=∃(r:Nat) (xs:List ND) (css:List (List O)),r<=l.length/\i=C E r/\F (Acc W.heap.size 150 7 dW wr v xs css)/\F (eG l xs/\(xs.map aH).sum<=((l.take r).map aH).sum/\xs.length=r)/\F (JK W.heap.size W wr)
theorem Jm{l:List ND}{W:L}{v:O}(h:bU 7 qg W v l)(aT:∀n∈l,∃P,jZ P n=true)(V:(l.map aH).sum<=100000):Calls Tryz.prog 45 #[v] W (FlP l W):=by
 obtain⟨Y,a9,rfl,d0,cR⟩:=h.slice;have f:=A h;have cw:=A V;have dr:=A aT;have dH:l.length<=100000:=YJ;unfold maxLen at cR;clear h V aT;go_in;go_wp2_with fail;go_loopw [3,7] (λv a3 wr=>FlL W l v a3 wr) (λv a3 wr=>l.length-(intOf a3).toNat);case atStart=>exact⟨0,[],[],Kw _,D,A (Acc.nil _),A ⟨(λ_ h=>ZC),KD _,D⟩,A JY⟩
 obtain⟨z,ce,cA,aS,rfl,t,B,b7⟩:=hrel;obtain⟨di,bG,rfl⟩:=aB t.1;have ct:(0:Int)<=(z:Int):=N;have cu:(z:Int)<=100000:=N;by_cases bA:z < l.length
 ·have c0:(z:Int) < (l.length:Int):=N;obtain⟨a2,ak⟩:∃a2,l[z]? =J a2:=⟨_,Kr bA⟩;have bV:=A ak;obtain⟨P,ag⟩:=dr.out a2 (Kz ak);have dl:F (aH a2<=100000):=A (by have o:=qQ aH ak;have:=cw.out;omega);have aw:=A ag;obtain⟨e,aP,aM,ba,ar,S⟩:=a2;obtain⟨y,b5,ch,cl,cW,af,-,-,b',bv,bo,bZ,c5,e4,co,bS⟩:=fC (iH f b7) ak;injection af with af _ cS;subst af cS;have dj:=A (adb (.mk e aP aM ba ar S) wr _ P aw bS dl);clear bS ak ag;have ab:F (ce.length<=100000):=A (by have:=B.2.2;omega);go_wp2_with fail;refine dj.mono ?_;rintro a7 r ⟨dc,eo,rfl,a1,cF,ao,cG⟩;obtain⟨b1,bL,k,bQ,bR,c4⟩:=dc;obtain⟨ev,rfl,ec,dh⟩:=a1.opened;obtain⟨bO,b2,rfl,-,-,-⟩:=ec;have bF:=A a1;have cc:=A cG;have eh:=A (Kt cF ao);clear a1 cF ao cG dh b' bv bo bZ c5 e4 co;go_wp2_with (at_builtin;go_loud (refine jU lW iR D _ _ D t.out b7.out.size cc.out (cs:=[C E b1,C E bL,G bO c4.length b2,C E k.kind,C JL k.bits,C E bQ,C E bR]) (x:=.mk b1 bL k bQ bR c4) D bF.out (vO bF.out) Yb WE D D ?_;intro ds dp bt aR d5;have e1:=A aR;have dU:=A d5;clear aR d5));have bM:=A (dU.below _ _ c (Ko b7.size cc.size) (b7.trans (cc.mono b7.size)));exact⟨⟨z+1,_,_,N,ZF,e1,A ⟨λaa ad=>by
   rcases KQ.1 ad with h|h
   ·exact B.1 aa h
   rw[KG] at h;exact⟨_,Kz bV,h▸eh.1⟩,by
   rw[KX,LD,qR aH bV.out];have o:=B.2.1;have a8:=eh.2;simp only[List.map_cons,List.map_nil,List.sum_cons,List.sum_nil];omega,by rw[KC,B.2.2];rfl⟩,bM⟩,YF⟩
 have c0:(l.length:Int)<=(z:Int):=N;go_wp2_with fail;go_ret;refine⟨_,ce,cA,D,t,B.1,?_,b7.out⟩;have o:=B.2.1;have a8:=nO aH l z;omega

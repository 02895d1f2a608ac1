import Derived.Test.YtcabmcfnjkeemaaGreatBM00
import Derived.Test.YtcabmcfnjkeemaaGreatB33
set_option maxRecDepth 100000
set_option maxHeartbeats 40000000
set_option linter.unusedVariables false
set_option linter.unusedSimpArgs false
namespace Go.Proofs.YtcabmcfnjkeemaaGreat
open Go.Deep Go.RowKit
open Go renaming World->L,Value->O
open Go.IntKind renaming i64->E
open Go.Obj renaming cells->JO
open Go.RowKit renaming Hid->F,Below->JK
open Go.Value renaming int->C,slice->G
open Option renaming none->I,some->J
attribute [local go_sem ↓] Go.wp_at_zero Go.wp_at_succ
theorem iK(w:L)(a b:Addr)(u:O)(h:w.frozen? b=false):(w.setCell a u).frozen? b=false:=by rw[World.frozen?_setCell];exact h
variable{w:L}{Q:Nat->Prop}{p:bD}
theorem qU.DW{w':L}{cs:List O}(h:qU Q w cs p)(d:JK w.heap.size w w'):qU Q w' cs p:=h.keep (λm u _ ai=>(d.cell (ay ai)).trans ai) λ_ h=>h
variable{W:L}{l:List ND}{B:Nat}{T:Nat->Tg}{v:O}{t:Tg}
section
variable {t0:Tg}
theorem zZ(h:bY T t0 B W v l)(bW:B<=W.heap.size)(aT:∀n∈l,∃P,jZ P n=true)(V:fU l<=40000):Calls Tryz.prog 45 #[v] W (agm T B t l W):=
 (Jm h.out aT (Ko V Z)).mono λa7 i ⟨z,ce,cA,bS,aJ,ab,bN,d⟩=>⟨z,ce,_,bS,FB T aJ bW,qP T d bW z.ownBlock t,lC T d z.ownBlock t,ab,bN⟩
theorem BN(h:bY T t0 B W v l)(bW:B<=W.heap.size)(V:fU l<=40000):Calls Tryz.prog 50 #[v] W (agm T B t l W):=
 (aap h.elts (Ko V Z)).mono λa7 i ⟨z,ce,cA,bS,aJ,bL,bN,d⟩=>by
  refine⟨z,ce,lJ T W.heap.size i.heap.size z.ownBlock t,bS,⟨cA,⟨ku aJ.1 bW,aJ.2.keep λbj aa ad=>?_⟩,λae ab=>?_⟩,qP T d bW z.ownBlock t,lC T d z.ownBlock t,λM V=>⟨M,bL M V,kJ.refl M⟩,bN⟩
  ·refine dW.keep ad (aF.of_below d λy d=>d.2.1) λy cq=>⟨⟨cq.1,Kv cq.2.1 d.size,λa7=>?_⟩,(xG cq.2.1).trans cq.2.2⟩
   have:=(aQ aJ.1 (g:=y) a7.symm).2
   omega
  have o:=aQ aJ.1 ab
  rw[ab]
  exact Ir o.2 o.1
end
def FoO (kinds:List (List Int)) (W:L) (p:bD) (B b7:Nat) (Avk:Option Addr) (nvk:Nat) (Avb:Option Addr) (nvb:Nat) (i:O) (wr:L):Prop:=
 ∃(r:Nat) (T:Nat->Tg) (bs:List dB),r<=p.branches.length/\i=C E r/\F (oW T B wr (G Avk p.keys.length nvk) (G Avb p.branches.length nvb) {p with branches:=bs})/\F (bs.length=p.branches.length/\(∀b∈bs,lu kinds b)/\lS bs<=lS p.branches)/\F (bV B T wr (W.heap.size+1) 29 #[C E 0,G I 0 0,G I 0 0]/\bV B T wr b7 29 #[C E p.strategy,(G Avk p.keys.length nvk),(G Avb p.branches.length nvb)]/\JK W.heap.size W wr)
def FoJ (kinds:List (List Int)) (W:L) (p:bD) (B b7:Nat) (Avk:Option Addr) (nvk:Nat) (Avb:Option Addr) (nvb gb r m b5:Nat) (bid bwin:Int) (Ap:Option Addr) (np:Nat) (i:O) (wr:L):Prop:=
 ∃(k:Nat) (T:Nat->Tg) (bs:List dB) (b:dB),k<=m/\i=C E k/\F (oW T B wr (G Avk p.keys.length nvk) (G Avb p.branches.length nvb) {p with branches:=bs})/\F (bs.length=p.branches.length/\(∀b∈bs,lu kinds b)/\lS bs<=lS p.branches)/\F (bs[r]? =J b/\b.parts.length=m/\wr.cell? ⟨gb,r*3+2,I⟩=J (G Ap m np))/\F ((bV B T wr (W.heap.size+1) 29 #[C E 0,G I 0 0,G I 0 0]/\bV B T wr b7 29 #[C E p.strategy,(G Avk p.keys.length nvk),(G Avb p.branches.length nvb)]/\JK W.heap.size W wr)/\bV B T wr b5 72 #[C E bid,C E bwin,G Ap m np])
theorem abZ{kinds:List (List Int)}{cs':List O}(h:qU Q W cs' p)(ab:kW kinds p):Calls Tryz.prog 16 #[.agg cs'.toArray] W (IV kinds p W):=by
 have bw:=h;obtain⟨e1,cn,rfl,ah,d,eu⟩:=h;have ah:=aX.out ah (R':=fF) λ_ _ h=>h;obtain⟨dk,dl,rfl,-,-⟩:=ah.slice;obtain⟨cg,cV,rfl,ej,cq,-⟩:=d;have dj:=A ab;have f7:=A eu;have et:p.branches.length<=4:=ab.count;obtain⟨an,bk⟩:∃an,an=(W.alloc (JO #[C E p.strategy,G dk p.keys.length dl,G cg p.branches.length cV] 29)).alloc (JO #[C E 0,G I 0 0,G I 0 0] 29):=⟨_,D⟩;have aV:=A (show JK W.heap.size W an/\aj an W.heap.size 29 #[C E p.strategy,G dk p.keys.length dl,G cg p.branches.length cV]/\aj an (W.heap.size+1) 29 #[C E 0,G I 0 0,G I 0 0]/\an.heap.size=W.heap.size+2 by rw[bk];refine⟨(JY.alloc c _).alloc ZH _,(aj.new _ _ _).alloc _,?_,ZH⟩;have a8:=QZ;rw[KE] at a8;exact a8);have cB:=Rq;clear ah ab bw eu;go_in;go_upto_region 1 with fail;rw[<-bk];clear bk;obtain⟨al,am,ax,a5,a6,aq⟩:=bf aV.2.1;go_upto_region 2 with(go_at_call 44;refine cB.mono ?_;rintro a7 r ⟨k,e1,cn,rfl,eW,cG⟩;obtain⟨dV,cy,rfl⟩:=eW.kU.slice;obtain⟨ai,aA,rfl,-⟩:=id eW.keys;have eo:=A eW;have cc:=A cG;clear eW cG);obtain⟨b,bW⟩:∃y,y=an.heap.size:=⟨_,D⟩;rw[<-bW] at eo;have b7:F (b=W.heap.size+2):=A (by rw[bW];exact aV.2.2.2);have d8:F (W.heap.size<=b):=A Yc;obtain⟨c2,dO⟩:∃y,y=r.heap.size:=⟨_,D⟩;rw[<-dO];refine aI (Φ:=λX=>oW k b X (G ai p.keys.length aA) (G dV p.branches.length cy) {p with branches:=p.branches}/\(bV b k X (W.heap.size+1) 29 #[C E 0,G I 0 0,G I 0 0]/\bV b k X c2 29 #[C E p.strategy,(G ai p.keys.length aA),(G dV p.branches.length cy)]/\JK W.heap.size W X)) (by have cv:JK r.heap.size r (r.alloc (JO #[C E p.strategy,(G ai p.keys.length aA),(G dV p.branches.length cy)] 29)):=JY.alloc c _;refine⟨eo.more cv,⟨((aV.2.2.1.below cc aV.2.2.1.lt).alloc _),λh=>Yc⟩,⟨dO▸aj.new _ _ _,λ_=>eo.fresh _ N⟩,(aV.1.trans (cc.mono aV.1.size)).trans (cv.mono ?_)⟩;have o:=aV.1.size;have a8:=cc.size;omega) ?_;intro df a8;have bx:=A a8;have dE:F (b<=c2):=A Xz;clear a8 al am ax a5 a6 aq dO bW;obtain⟨al,am,ax,a5,a6,aq⟩:=bf bx.2.2.1.blk;go_wp2_with fail;clear al am ax a5 a6 aq eo cc cB;go_loopw [12] (λa3 wr=>FoO kinds W p b c2 ai aA dV cy a3 wr) (λa3 wr=>p.branches.length-(intOf a3).toNat);case atStart=>exact⟨0,k,p.branches,Kw _,D,A bx.1,A ⟨D,dj.br,KD _⟩,A bx.2⟩
 clear bx k;obtain⟨z,k,P,aS,rfl,dP,b1,q⟩:=hrel;have ct:(0:Int)<=(z:Int):=N;have cu:(z:Int)<=4:=N;by_cases bA:z < p.branches.length
 ·have c0:(z:Int) < (p.branches.length:Int):=N;obtain⟨y,d⟩:∃y,P[z]? =J y:=⟨_,Kr YD⟩;obtain⟨aQ,a9,dn,af,-,-,-,-,-,b0,aL,ao,e5,f3,f4⟩:=dP.kU.at d;obtain⟨dd,cd,rfl⟩:=e5.slice;injection af with af aD cL;subst af cL;clear aD;have dv:=A d;have eX:=A ao;obtain⟨b5,f8⟩:∃aa,aa=y.id:=⟨_,D⟩;obtain⟨b8,f9⟩:∃aa,aa=y.win:=⟨_,D⟩;obtain⟨bm,bL⟩:∃aa,aa=y.parts.length:=⟨_,D⟩;rw[<-f8] at b0;rw[<-f9] at aL;rw[<-bL] at ao eX;have bH:=A bL;have aK:bm<=8:=Wh;have ep:(0:Int)<=(bm:Int):=N;obtain⟨bE,cO⟩:∃y,y=wr.heap.size:=⟨_,D⟩;have f5:F (c2 < bE):=A Xu;clear d e5 f3 f4 f8 f9 bL;go_upto_region 5 with fail;rw[<-cO];refine aI (Φ:=λX=>oW k b X (G ai p.keys.length aA) (G (J ⟨aQ,0,I⟩) p.branches.length cy) {p with branches:=P}/\(bV b k X (W.heap.size+1) 29 #[C E 0,G I 0 0,G I 0 0]/\bV b k X c2 29 #[C E p.strategy,(G ai p.keys.length aA),(G (J ⟨aQ,0,I⟩) p.branches.length cy)]/\JK W.heap.size W X)/\bV b k X bE 72 #[C E b5,C E b8,G dd bm cd]/\X.cell? ⟨aQ,z*3+2,I⟩=J (G dd bm cd)) (by have cv:JK wr.heap.size wr (wr.alloc (JO #[C E b5,C E b8,G dd bm cd] 72)):=JY.alloc c _;have ag:=Stp.of_below k cv dP.low;exact⟨dP.more cv,⟨q.1.bG ag λ_=>trivial,q.2.1.bG ag λ_=>trivial,q.2.2.alloc q.2.2.size _⟩,⟨cO▸aj.new _ _ _,λ_=>dP.fresh _ N⟩,(cv.cell (ay eX)).trans eX.out⟩) ?_;intro e8 bz;have s:=A bz;clear bz b0 aL ao cO;obtain⟨al,am,ax,a5,a6,aq⟩:=bf s.2.2.1.blk;go_wp2_with fail;clear al am ax a5 a6 aq;go_loopw [19] (λa3 wr=>FoJ kinds W p b c2 ai aA (J ⟨aQ,0,I⟩) cy aQ z bm bE b5 b8 dd cd a3 wr) (λa3 wr=>bm-(intOf a3).toNat);case atStart=>exact⟨0,k,P,y,Kw _,D,A s.1,b1,A ⟨dv,bH.symm,s.2.2.2⟩,A ⟨s.2.1,s.2.2.1⟩⟩
  clear dP b1 q s dv eX bH k P y;obtain⟨a0,k,P,y,ah,rfl,dP,b1,b7,q⟩:=hrel;have dS:(0:Int)<=(a0:Int):=N;have e0:(a0:Int)<=8:=N;by_cases e2:a0 < bm
  ·have dD:(a0:Int) < (bm:Int):=N;obtain⟨m,a1⟩:∃m,y.parts[a0]? =J m:=⟨_,Kr (by rw[b7.2.1];exact e2)⟩;have bB:=A a1;obtain⟨e5,eO,-,-⟩:=dP.kU.parts b7.1 b7.2.2;obtain⟨aJ,a9,cR,aY,af,-,aW,eR,eS,eT,b0,aL,ao,b2,cz,cU,e7,eg,ed⟩:=e5.at a1;obtain⟨bu,bP,rfl⟩:=cz.slice;obtain⟨c7,c6,rfl⟩:=cU.slice;injection af with af aD cS;subst af cS;clear aD;have bQ:=TP;have dK:=A (show rQ wr aQ z aJ y.parts.length cd from by rw[b7.2.1];exact b7.2.2);have l:=A (Kt ao b2);have eZ:=A ed;have ba:=A cU;have aZ:=A cz;have eY:F (gJ m<=40000):=A (by have o:=fB gJ a1;have a8:=fB kG b7.1;have ac:=b1.2.2;have b6:=dj.wt;have bz:kG y=(y.parts.map gJ).sum:=D;have c4:lS P=(P.map kG).sum:=D;omega);have b3:F (fU m.guards<=40000):=A VX;have b9:F (fU m.closes<=40000):=A VX;have be:=A ((b1.2.1 y (Kz b7.1)).guards bB);have bh:=A ((b1.2.1 y (Kz b7.1)).closes bB);have bj:F (cd<=maxLen):=A aW;clear a1 e5 eO eR eS eT b0 aL ao b2 cz cU e7 eg ed aW;go_upto_region 8 with fail;obtain⟨R,bg⟩:∃b4,b4=World.drew wr:=⟨_,D⟩;have g:=A (show Stp zx b k wr k R by rw[bg];exact Stp.of_below k (JY.drew) dP.low);have M:F (wr.heap.size<=R.heap.size):=A g.bel.size;have bq:=Rj;have ad:F (R.heap[aJ]? =wr.heap[aJ]?):=A (g.block aJ bQ.2.1 bQ.2.2.1 trivial);have f:=Sm;have bb:=A (aZ.fO (g.fO (V:=λ_=>True) λ_ _=>trivial) trivial trivial);have aw:F (b<=R.heap.size):=A bq.1.low;refine Ul ?_;rw[<-bg];clear bg;refine tl 0 f ?_;refine tl 1 f ?_;refine tl 2 f ?_;refine tl 3 f ?_;refine tl 4 f ?_;refine tl 5 f ?_;refine tl 6 f ?_;refine tl 7 f ?_;refine tl 8 f ?_;refine tl 9 f ?_;refine tl 10 f ?_;refine tl 13 f ?_;refine tl 14 f ?_;refine tl 15 f ?_;refine tl 16 f ?_;refine tl 17 f ?_;refine tl 18 f ?_;refine t1 11 λK j=>?_;have d7:=(KJ (a:=⟨aJ,a0*4+2,I⟩) ad).trans l.1;go_simp;clear d7;(refine j.out _ _ (λ_=>f) ?_;clear j K);refine t1 12 λK j=>?_;go_simp;go_wp2_with (go_at_call 45;refine(zZ (T:=k) (B:=b) (t:=.gd z a0) bb aw be b3).mono ?_;rintro a7 r ⟨bi,v,cY,rfl,aS,ag,aH,cW,eg⟩);obtain⟨S,a2,rfl⟩:=aS.slice;have ak:=A aS;have n:=A ag;have aB:=A (Kt cW eg);have bX:=Rk;have aF:=A ((ag.block aJ bQ.2.1 (Kv bQ.2.2.1 (M)) trivial).trans ad);have f:=Sr;have bc:=Tz;have bd:=A (Ko aw ag.bel.size);clear aS ag aH cW eg;(refine j.out _ _ (λ_=>f) ?_;clear j K);refine t1 19 λK j=>?_;go_simp;go_wp2_with (go_at_call 45;refine(zZ (T:=cY) (B:=b) (t:=.cl z a0) bc bd bh b9).mono ?_;rintro a7 av ⟨bv,ap,e,rfl,aS,ag,aH,cW,eg⟩);exact NV
  exact QI
 exact Oh
theorem ab5{kinds:List (List Int)}{cs':List O}(h:qU Q W cs' p)(ab:kW kinds p):Calls Tryz.prog 20 #[.agg cs'.toArray] W (IV kinds p W):=by
 have bw:=h;obtain⟨e1,cn,rfl,ah,d,eu⟩:=h;have ah:=aX.out ah (R':=fF) λ_ _ h=>h;obtain⟨dk,dl,rfl,-,-⟩:=ah.slice;obtain⟨cg,cV,rfl,ej,cq,-⟩:=d;have dj:=A ab;have f7:=A eu;have et:p.branches.length<=4:=ab.count;obtain⟨an,bk⟩:∃an,an=(W.alloc (JO #[C E p.strategy,G dk p.keys.length dl,G cg p.branches.length cV] 29)).alloc (JO #[C E 0,G I 0 0,G I 0 0] 29):=⟨_,D⟩;have aV:=A (show JK W.heap.size W an/\aj an W.heap.size 29 #[C E p.strategy,G dk p.keys.length dl,G cg p.branches.length cV]/\aj an (W.heap.size+1) 29 #[C E 0,G I 0 0,G I 0 0]/\an.heap.size=W.heap.size+2 by rw[bk];refine⟨(JY.alloc c _).alloc ZH _,(aj.new _ _ _).alloc _,?_,ZH⟩;have a8:=QZ;rw[KE] at a8;exact a8);have cB:=Rq;clear ah ab bw eu;go_in;go_upto_region 1 with fail;rw[<-bk];clear bk;obtain⟨al,am,ax,a5,a6,aq⟩:=bf aV.2.1;go_upto_region 2 with(go_at_call 44;refine cB.mono ?_;rintro a7 r ⟨k,e1,cn,rfl,eW,cG⟩;obtain⟨dV,cy,rfl⟩:=eW.kU.slice;obtain⟨ai,aA,rfl,-⟩:=id eW.keys;have eo:=A eW;have cc:=A cG;clear eW cG);obtain⟨b,bW⟩:∃y,y=an.heap.size:=⟨_,D⟩;rw[<-bW] at eo;have b7:F (b=W.heap.size+2):=A (by rw[bW];exact aV.2.2.2);have d8:F (W.heap.size<=b):=A Yc;obtain⟨c2,dO⟩:∃y,y=r.heap.size:=⟨_,D⟩;rw[<-dO];refine aI (Φ:=λX=>oW k b X (G ai p.keys.length aA) (G dV p.branches.length cy) {p with branches:=p.branches}/\(bV b k X (W.heap.size+1) 29 #[C E 0,G I 0 0,G I 0 0]/\bV b k X c2 29 #[C E p.strategy,(G ai p.keys.length aA),(G dV p.branches.length cy)]/\JK W.heap.size W X)) (by have cv:JK r.heap.size r (r.alloc (JO #[C E p.strategy,(G ai p.keys.length aA),(G dV p.branches.length cy)] 29)):=JY.alloc c _;refine⟨eo.more cv,⟨((aV.2.2.1.below cc aV.2.2.1.lt).alloc _),λh=>Yc⟩,⟨dO▸aj.new _ _ _,λ_=>eo.fresh _ N⟩,(aV.1.trans (cc.mono aV.1.size)).trans (cv.mono ?_)⟩;have o:=aV.1.size;have a8:=cc.size;omega) ?_;intro df a8;have bx:=A a8;have dE:F (b<=c2):=A Xz;clear a8 al am ax a5 a6 aq dO bW;obtain⟨al,am,ax,a5,a6,aq⟩:=bf bx.2.2.1.blk;go_wp2_with fail;clear al am ax a5 a6 aq eo cc cB;go_loopw [12] (λa3 wr=>FoO kinds W p b c2 ai aA dV cy a3 wr) (λa3 wr=>p.branches.length-(intOf a3).toNat);case atStart=>exact⟨0,k,p.branches,Kw _,D,A bx.1,A ⟨D,dj.br,KD _⟩,A bx.2⟩
 clear bx k;obtain⟨z,k,P,aS,rfl,dP,b1,q⟩:=hrel;have ct:(0:Int)<=(z:Int):=N;have cu:(z:Int)<=4:=N;by_cases bA:z < p.branches.length
 ·have c0:(z:Int) < (p.branches.length:Int):=N;obtain⟨y,d⟩:∃y,P[z]? =J y:=⟨_,Kr YD⟩;obtain⟨aQ,a9,dn,af,-,-,-,-,-,b0,aL,ao,e5,f3,f4⟩:=dP.kU.at d;obtain⟨dd,cd,rfl⟩:=e5.slice;injection af with af aD cL;subst af cL;clear aD;have dv:=A d;have eX:=A ao;obtain⟨b5,f8⟩:∃aa,aa=y.id:=⟨_,D⟩;obtain⟨b8,f9⟩:∃aa,aa=y.win:=⟨_,D⟩;obtain⟨bm,bL⟩:∃aa,aa=y.parts.length:=⟨_,D⟩;rw[<-f8] at b0;rw[<-f9] at aL;rw[<-bL] at ao eX;have bH:=A bL;have aK:bm<=8:=Wh;have ep:(0:Int)<=(bm:Int):=N;obtain⟨bE,cO⟩:∃y,y=wr.heap.size:=⟨_,D⟩;have f5:F (c2 < bE):=A Xu;clear d e5 f3 f4 f8 f9 bL;go_upto_region 5 with fail;rw[<-cO];refine aI (Φ:=λX=>oW k b X (G ai p.keys.length aA) (G (J ⟨aQ,0,I⟩) p.branches.length cy) {p with branches:=P}/\(bV b k X (W.heap.size+1) 29 #[C E 0,G I 0 0,G I 0 0]/\bV b k X c2 29 #[C E p.strategy,(G ai p.keys.length aA),(G (J ⟨aQ,0,I⟩) p.branches.length cy)]/\JK W.heap.size W X)/\bV b k X bE 72 #[C E b5,C E b8,G dd bm cd]/\X.cell? ⟨aQ,z*3+2,I⟩=J (G dd bm cd)) (by have cv:JK wr.heap.size wr (wr.alloc (JO #[C E b5,C E b8,G dd bm cd] 72)):=JY.alloc c _;have ag:=Stp.of_below k cv dP.low;exact⟨dP.more cv,⟨q.1.bG ag λ_=>trivial,q.2.1.bG ag λ_=>trivial,q.2.2.alloc q.2.2.size _⟩,⟨cO▸aj.new _ _ _,λ_=>dP.fresh _ N⟩,(cv.cell (ay eX)).trans eX.out⟩) ?_;intro e8 bz;have s:=A bz;clear bz b0 aL ao cO;obtain⟨al,am,ax,a5,a6,aq⟩:=bf s.2.2.1.blk;go_wp2_with fail;clear al am ax a5 a6 aq;go_loopw [19] (λa3 wr=>FoJ kinds W p b c2 ai aA (J ⟨aQ,0,I⟩) cy aQ z bm bE b5 b8 dd cd a3 wr) (λa3 wr=>bm-(intOf a3).toNat);case atStart=>exact⟨0,k,P,y,Kw _,D,A s.1,b1,A ⟨dv,bH.symm,s.2.2.2⟩,A ⟨s.2.1,s.2.2.1⟩⟩
  clear dP b1 q s dv eX bH k P y;obtain⟨a0,k,P,y,ah,rfl,dP,b1,b7,q⟩:=hrel;have dS:(0:Int)<=(a0:Int):=N;have e0:(a0:Int)<=8:=N;by_cases e2:a0 < bm
  ·have dD:(a0:Int) < (bm:Int):=N;obtain⟨m,a1⟩:∃m,y.parts[a0]? =J m:=⟨_,Kr (by rw[b7.2.1];exact e2)⟩;have bB:=A a1;obtain⟨e5,eO,-,-⟩:=dP.kU.parts b7.1 b7.2.2;obtain⟨aJ,a9,cR,aY,af,-,aW,eR,eS,eT,b0,aL,ao,b2,cz,cU,e7,eg,ed⟩:=e5.at a1;obtain⟨bu,bP,rfl⟩:=cz.slice;obtain⟨c7,c6,rfl⟩:=cU.slice;injection af with af aD cS;subst af cS;clear aD;have bQ:=TP;have dK:=A (show rQ wr aQ z aJ y.parts.length cd from by rw[b7.2.1];exact b7.2.2);have l:=A (Kt ao b2);have eZ:=A ed;have ba:=A cU;have aZ:=A cz;have eY:F (gJ m<=40000):=A (by have o:=fB gJ a1;have a8:=fB kG b7.1;have ac:=b1.2.2;have b6:=dj.wt;have bz:kG y=(y.parts.map gJ).sum:=D;have c4:lS P=(P.map kG).sum:=D;omega);have b3:F (fU m.guards<=40000):=A VX;have b9:F (fU m.closes<=40000):=A VX;have bj:F (cd<=maxLen):=A aW;clear a1 e5 eO eR eS eT b0 aL ao b2 cz cU e7 eg ed aW;go_upto_region 8 with fail;obtain⟨R,bg⟩:∃b4,b4=World.drew wr:=⟨_,D⟩;have g:=A (show Stp zx b k wr k R by rw[bg];exact Stp.of_below k (JY.drew) dP.low);have M:F (wr.heap.size<=R.heap.size):=A g.bel.size;have bq:=Rj;have ad:F (R.heap[aJ]? =wr.heap[aJ]?):=A (g.block aJ bQ.2.1 bQ.2.2.1 trivial);have f:=Sm;have bb:=A (aZ.fO (g.fO (V:=λ_=>True) λ_ _=>trivial) trivial trivial);have aw:F (b<=R.heap.size):=A bq.1.low;refine Ul ?_;rw[<-bg];clear bg;refine tl 0 f ?_;refine tl 1 f ?_;refine tl 2 f ?_;refine tl 3 f ?_;refine tl 4 f ?_;refine tl 5 f ?_;refine tl 6 f ?_;refine tl 7 f ?_;refine tl 8 f ?_;refine tl 9 f ?_;refine tl 10 f ?_;refine tl 13 f ?_;refine tl 14 f ?_;refine tl 15 f ?_;refine tl 16 f ?_;refine tl 17 f ?_;refine tl 18 f ?_;refine t1 11 λK j=>?_;have d7:=(KJ (a:=⟨aJ,a0*4+2,I⟩) ad).trans l.1;go_simp;clear d7;(refine j.out _ _ (λ_=>f) ?_;clear j K);refine t1 12 λK j=>?_;go_simp;go_wp2_with (go_at_call 50;refine(BN (T:=k) (B:=b) (t:=.gd z a0) bb aw b3).mono ?_;rintro a7 r ⟨bi,v,cY,rfl,aS,ag,aH,cW,eg⟩);obtain⟨S,a2,rfl⟩:=aS.slice;have ak:=A aS;have n:=A ag;have aB:=A (Kt cW eg);have bX:=Rk;have aF:=A ((ag.block aJ bQ.2.1 (Kv bQ.2.2.1 (M)) trivial).trans ad);have f:=Sr;have bc:=Tz;have bd:=A (Ko aw ag.bel.size);clear aS ag aH cW eg;(refine j.out _ _ (λ_=>f) ?_;clear j K);refine t1 19 λK j=>?_;go_simp;go_wp2_with (go_at_call 50;refine(BN (T:=cY) (B:=b) (t:=.cl z a0) bc bd b9).mono ?_;rintro a7 av ⟨bv,ap,e,rfl,aS,ag,aH,cW,eg⟩);exact NV
  exact QI
 exact Oh
def zND:ND:=.mk 0 0 ⟨0,0⟩ 0 0 []
theorem ahC:oU 0:=eH.2 ⟨Z,Z⟩
theorem agN(Q:Nat->Prop)(w:L):dW Q w zN.toList zND:=dW.shut (val:=⟨0,0⟩) (aX.nil _ _ _) ⟨bP,bP,bP,ahC,bP,bP⟩
structure aa3 (T9:Nat->Tg) (t:Tg) (B:Nat) (w9 w5:L) (l:List ND) (n:ND) (sO:List O) (g5 c5:Nat):Prop where
 ge:B<=g5
 fz:∀j,w5.frozen? ⟨g5,j,I⟩=false
 ce:∀j u,zN.toList[j]? =J u->w5.cell? ⟨g5,l.length*7+j,I⟩=J u
 row:bY (eU T9 (J g5) t) t B (dA g5 (l.length*7) sO w5) (G (J ⟨g5,0,I⟩) (l.length+1) c5) (l++[n])
 bG:Stp (λg=>T9 g≠t) B T9 w9 (eU T9 (J g5) t) (dA g5 (l.length*7) sO w5)
 fresh:∀g,(dA g5 (l.length*7) sO w5).heap.size<=g->eU T9 (J g5) t g=.other
 ne:∀g,g < w9.heap.size->T9 g≠t->g≠g5
 bJ:aU g5 w5 (dA g5 (l.length*7) sO w5)
 mid:Stp (λg=>T9 g≠t) B T9 w9 T9 w5
variable{n:ND}
theorem afd{bJ:Nat->Tg}{cK av:L}{cl:Option Addr}{ch:Nat}{sO:List O}{css:List (List O)}(cG:Acc B 150 7 (NdT bJ) cK v l css)(f:∀g,v.ownBlock=J g->bJ g=t)(p:t≠ .nd)(dO:Acc B 150 7 (NdT bJ) av (G cl (l.length+1) ch) (l++[zND]) (css++[zN.toList]))(d5:jk B v cK av)(bW:B<=cK.heap.size)(c8:∀g,(Value.slice cl (l.length+1) ch).ownBlock=J g->v.ownBlock=J g\/cK.heap.size<=g)(r:∀g,cK.heap.size<=g->bJ g=.other)(V:dW (λb=>B<=b/\b < cK.heap.size/\bJ b=.nd) cK sO n):∃aT,cl=J ⟨aT,0,I⟩/\aa3 bJ t B cK av l n sO aT ch:=by
 obtain⟨aT,bG,bj,af,o,a8,ac,b6,bz,c4,de,dy⟩:=EW dO (i:=l.length) (x:=zND) ZH;injection af with af _ aw;subst af aw;have cU:css.length=l.length:=cG.2.1;have cM:bj=zN.toList:=by
  rw[Lh N,cU,Me] at bz;have h:zN.toList=bj:=by simpa using bz
  exact h.symm
 subst cM;have q:(Value.slice (J ⟨aT,0,I⟩) (l.length+1) ch).ownBlock=J aT:=D;have k:=c8 aT q;have cW:∀b,bJ b=.nd->J b≠v.ownBlock:=λb d a7=>p ((f b a7.symm).symm.trans d);have s:NdT bJ (QA B (G (J ⟨aT,0,I⟩) (l.length+1) ch) av) av sO n:=by
  refine dW.keep V (aF.aS d5.grown λb d=>cW b d.2.2) λb d=>⟨⟨d.1,Kv d.2.1 d5.grown.size,λa7=>?_⟩,d.2.2⟩;rw[q] at a7;injection a7 with a7;subst a7;rcases k with h|h
  ·exact cW b d.2.2 h.symm
  have:=d.2.1;omega
 obtain⟨a',ag⟩:=Acc.last dO V.len s;have e:Stp (λg=>bJ g≠t) B bJ cK bJ av:=(Stp.afQ bJ d5 bW).weak λg ab a7=>ab (f g a7.symm);have m:∀g,B<=g->g < cK.heap.size->eU bJ (J aT) t g=bJ g:=λg _ h=>by
  by_cases ab:g=aT
  ·subst ab;rcases k with a8|a8
   ·rw[gZ,f g a8]
   omega
  exact gG (λa7=>ab Zj)
 have bm:∀g,g < cK.heap.size->bJ g≠t->g≠aT:=λg o a8 a7=>by
  subst a7;rcases k with ac|ac
  ·exact a8 (f g ac)
  omega
 refine⟨aT,D,⟨ac,dy,de,bY.JF a' (λg ab=>?_) (λg _ _ h j=>?_),⟨e.bel.trans (ag.below _ _ ac JY),λg o a8 _=>m g o a8,λg o a8 ac=>?_⟩,λg ab=>?_,bm,ag,e⟩⟩
 ·have a7:aT=g:=WX;subst a7;exact gZ
 ·rw[gG]
  ·exact j
  rw[q] at h;exact h
 ·exact(ag.grown.block g (Kv a8 d5.grown.size) (λa7=>bm g a8 ac Zj)).trans (e.block g o a8 ac)
 rw[gG]
 ·exact r g (Ko d5.grown.size (by rw[<-ag.size];exact ab))
 intro a7;injection a7 with a7;rw[ag.size] at ab;omega
theorem nX{bJ:Nat->Tg}{cK:L}{sO:List O}{bb a9:Nat}{aN:Array Oper}{bl:Oper}{a:Act}{K:Act->L->Prop}{Q:Exit->Act->L->Prop}{k:Prop}(cz:bl.guard=I)(s a2:Operand)(br:bl.op=.call {callee:=.builtin .append,args:=#[s,a2],argTypes:=#[74,74]})(aS:bY bJ t B cK v l)(p:t≠ .nd)(bW:B<=cK.heap.size)(r:∀g,cK.heap.size<=g->bJ g=.other)(V:dW (λb=>B<=b/\b < cK.heap.size/\bJ b=.nd) cK sO n)(cv:aj cK bb 150 zN)(a':l.length<=200000)(ag:a.eval s=v)(ak:a.eval a2=G (J ⟨bb,0,I⟩) 1 a9)(h:∀aT bG av,aa3 bJ t B cK av l n sO aT bG->K (a.put bl.dst (G (J ⟨aT,0,I⟩) (l.length+1) bG)) av): if Region.wanted bl (yielded aN a.tmps)=true then Oper.wp Tryz.prog bl a cK K Q else k:=by
 obtain⟨cA,aJ,c7⟩:=aS;obtain⟨a3,aA,b3,bh,ca,dc,cY,S,dw⟩:=lW;have aS:Reads cK (bb+1) 7 (J ⟨bb,0,I⟩) 1 zN.toList:=by refine⟨D,λ_=>⟨_,D,KP _,λa4 u ap=>?_⟩⟩;rw[Nk,Ls,cv.cell a4];simpa using ap
 refine iV _ cz s a2 _ br B _ a3 aA 7 72 b3 bh ca dc cY S dw v l.length cA.flatten ag aJ.1 (bb+1) _ 1 a9 zN.toList ak aS ?_ Ya N bW λz b1 i ab c8=>?_
 ·intro u ap;simp only[zN,List.mem_cons,List.not_mem_nil,or_false] at ap;rcases ap with rfl|rfl|rfl|rfl|rfl|rfl|rfl <;> rfl
 obtain⟨cl,ch,rfl⟩:=aB i;have ah:aF (QA B v cK) cK b1:=aF.aS ab λb d=>d.2.2;have a1:∀b,QA B v cK b->QA B (G cl (l.length+1) ch) b1 b:=λb d=>⟨d.1,Kv d.2.1 ab.size,by
  rcases c8 with ac|ac
  ·rw[ac];exact d.2.2
  rw[ac];intro a7;injection a7 with a7;have:=d.2.1;omega⟩
 have cN:Acc B 150 7 (NdT bJ) b1 (G cl (l.length+1) ch) (l++[zND]) (cA++[zN.toList]):=by refine⟨?_,eF.snoc (aJ.2.keep λbj aa ad=>nT bJ _ _ _ _ _ _ ad ah a1) D (agN _ _)⟩;rw[KC,MN];simpa using i
 obtain⟨aT,rfl,cQ⟩:=afd aJ c7 p cN ⟨ab,λa0 ah=>(aQ aJ.1 ah).2⟩ bW (λg m=>by
  rcases c8 with a8|a8
  ·exact .inl (a8▸m)
  rw[m] at a8;injection a8 with a8;exact .inr N) r V
 exact h aT ch b1 cQ
theorem adT{v':O}{b1:L}{e:List (List O)}(cN:Acc B 150 7 (NdT T) b1 v' (l++[n]) e)(d5:jk B v w b1)(c8:∀g,v'.ownBlock=J g->v.ownBlock=J g\/w.heap.size < g)(c7:∀g,v.ownBlock=J g->T g=t)(bW:B<=w.heap.size)(p:t≠ .nd)(r:∀g,w.heap.size<=g->T g=.other):bY (eU T v'.ownBlock t) t B b1 v' (l++[n])/\Stp (λg=>T g≠t) B T w (eU T v'.ownBlock t) b1/\∀g,b1.heap.size<=g->eU T v'.ownBlock t g=.other:=by
 have m:∀g,g < w.heap.size->eU T v'.ownBlock t g=T g:=λg h=>by
  by_cases ab:J g=v'.ownBlock
  ·rcases c8 g ab.symm with a8|a8
   ·rw[<-ab,gZ,c7 g a8]
   omega
  exact gG ab
 refine⟨bY.JF cN (λg ab=>YP) (λg _ _ h j=>by rw[gG h];exact j),⟨(Ky B w).grown d5.grown bW d5.ge,λg _ a8 _=>m g a8,λg _ a8 ac=>d5.grown.block g a8 λa7=>ac (c7 g a7.symm)⟩,λg ab=>?_⟩;rw[gG]
 ·exact r g (Ko d5.grown.size ab)
 intro a7;have:=(aQ cN.1 (g:=g) a7.symm).1;omega
theorem FT{sO:List O}{a9:Nat}{aN:Array Oper}{rest:List Oper}{bl:Oper}{a:Act}{Q:Exit->Act->L->Prop}(aS:bY T t B w v l)(p:t≠ .nd)(bW:B<=w.heap.size)(r:∀g,w.heap.size<=g->T g=.other)(V:dW (λb=>B<=b/\b < w.heap.size/\T b=.nd) w sO n)(a':l.length<=200000)(cz:bl.guard=I)(s a2:Operand)(br:bl.op=.call {callee:=.builtin .append,args:=#[s,a2],argTypes:=#[74,74]})(ag:a.eval s=v)(ak:a.eval a2=G (J ⟨w.heap.size,0,I⟩) 1 a9)(h:∀cl ch b1,bY (eU T (Value.slice cl (l.length+1) ch).ownBlock t) t B b1 (G cl (l.length+1) ch) (l++[n])->Stp (λg=>T g≠t) B T w (eU T (Value.slice cl (l.length+1) ch).ownBlock t) b1->(∀g,b1.heap.size<=g->eU T (Value.slice cl (l.length+1) ch).ownBlock t g=.other)->wpList Tryz.prog aN Q rest (a.put bl.dst (G cl (l.length+1) ch)) b1):wpList Tryz.prog aN Q (bl :: rest) a (w.alloc (JO sO.toArray 150)):=by obtain⟨cA,cN,c7⟩:=aS;refine fE lW (nT T) cz s a2 br cN bW V.len (dW.keep V (λ_ _ _ h=>h) λb d=>⟨⟨d.1,d.2.1,λa7=>p ((c7 b a7.symm).symm.trans d.2.2)⟩,d.2.2⟩) (vO V) N Ya ag ak λcl ch b1 aJ ab c8=>?_;obtain⟨o,a8,ac⟩:=adT aJ ab c8 c7 bW p r;exact h cl ch b1 o a8 ac
theorem oW.aeZ{U:Tg->Prop}{T':Nat->Tg}{w':L}{vk cn:O}(h:oW T B w vk cn p)(d:JK B w w')(k:lN U B T w T' w')(j:BsU p.branches.length U)(aH:∀g,w'.heap.size<=g->T' g=.other):oW T' B w' vk cn p:=
 ⟨aX.keep h.keys (λp u ai aw=>(KJ (k.block p.block ai.1 ai.2.1 (ai.2.2▸j.nd))).trans aw) (λy d=>⟨d.1,Kv d.2.1 k.size,(k.tag y d.1 d.2.1 (d.2.2▸j.nd)).trans d.2.2⟩) λ_ _ h=>h,h.kU.fO k j,aH,Ko h.low k.size⟩
def oQ:Tg:=.gd 1000 0
theorem Jd{m:Nat}(h:m<=100):BsU m λt=>t≠oQ:=⟨YO,YO,λa3 aR M=>⟨YO,YO,λa0 _=>WO,λa0 _=>YO⟩⟩
theorem lZ{ps:List aO}{i:Nat}{q f:aO}(a1:ps[i]? =J q)(aH:f.form=q.form):dh (ps.set i f)=dh ps:=by
 have aR:=(KA.1 a1).1;unfold dh dH;rw[Lj];congr 1;funext j;unfold dZ;rw[KO];by_cases m:i=j
 ·subst m;rw[Kq D,Kq aR,a1];simp only;rw[aH]
 rw[JZ m]

import Derived.Test.YtcabmcfnjkeemaaGreatBM00
import Derived.Test.YtcabmcfnjkeemaaGreatB15
set_option maxRecDepth 100000
set_option maxHeartbeats 40000000
set_option linter.unusedVariables false
set_option linter.unusedSimpArgs false
namespace Go.Proofs.YtcabmcfnjkeemaaGreat
open Go.Deep Go.RowKit
open Go renaming World->L,Value->O
open Go.IntKind renaming i64->E
open Go.Obj renaming cells->JO
open Go.RowKit renaming Hid->F,Below->JK
open Go.Value renaming int->C,slice->G,string->H,bool->JM
open Option renaming none->I,some->J
structure qZ where
 branches:List (List nZ)
 conds:List ED
 strategy:Int
 win:Int
 key:ByteArray
 keyAt:Int
def afA (w:L) (cs:List O) (l:List nZ):Prop:=∃v,cs=[v]/\bU 4 aa2 w v l
structure xW (w:L) (vb vw:O) (q:qZ):Prop where
 br:bU 1 afA w vb q.branches
 wh:bU 7 yX w vw q.conds
 ok:wfi q.strategy/\wfi q.win/\q.key.size<=4000/\wfi q.keyAt
 sum:(q.conds.map aP).sum<=8003/\q.conds.length<=8003
def vS (vb vw:O) (q:qZ):Array O:=#[vb,vw,C E q.strategy,C E q.win,H q.key,C E q.keyAt]
variable{w w':L}
theorem xW.keep{cn e2:O}{q:qZ}(h:xW w cn e2 q)(d:JK w.heap.size w w'):xW w' cn e2 q:=
 ⟨h.br.keep (bW.of_below d) λ_ _ ⟨bc,o,a8⟩=>⟨bc,o,a8.keep (bW.of_below d) λ_ _ h=>h⟩,jr h.wh d,h.ok,h.sum⟩
variable{i:Nat}
theorem nP{l:List ED}{x:ED}(h:l[i]? =J x):aP x<=(l.map aP).sum:=by have o:=mG aP h;have a8:=pO aP l (i+1);omega
def agB (w:L) (e:Ending) (w':L):Prop:=∃n:Int,e=.returned (C E n)/\JK w.heap.size w w'
variable{g:Nat}{t:TypeId}
theorem lV{bJ bD bs e i n:O}(h:aj w g t #[bJ,bD,bs,e,i,n]): w.cell? ⟨g,0,I⟩=J bJ/\w.cell? ⟨g,1,I⟩=J bD/\w.cell? ⟨g,2,I⟩=J bs/\w.cell? ⟨g,3,I⟩=J e/\w.cell? ⟨g,4,I⟩=J i/\w.cell? ⟨g,5,I⟩=J n/\w.frozen? ⟨g,0,I⟩=false/\w.frozen? ⟨g,1,I⟩=false/\w.frozen? ⟨g,2,I⟩=false/\w.frozen? ⟨g,3,I⟩=false/\w.frozen? ⟨g,4,I⟩=false/\w.frozen? ⟨g,5,I⟩=false:=
 ⟨h.cell 0,h.cell 1,h.cell 2,h.cell 3,h.cell 4,h.cell 5,h.frozen 0,h.frozen 1,h.frozen 2,h.frozen 3,h.frozen 4,h.frozen 5⟩
theorem Bq{cn e2:O}{q:qZ}(h:xW w cn e2 q):Calls Tryz.prog 38 #[.agg (vS cn e2 q)] w (agB w):=by
 obtain⟨cg,ck,rfl,-,-⟩:=h.br.slice;obtain⟨cQ,aH,rfl,d0,cR⟩:=h.wh.slice;have ae:=A h;obtain⟨an,bk⟩:∃an,an=w.alloc (JO #[G cg q.branches.length ck,G cQ q.conds.length aH,C E q.strategy,C E q.win,H q.key,C E q.keyAt] 62):=⟨_,D⟩;have aC:=QY;have cZ:=SE;have eJ:q.conds.length<=8003:=h.sum.2;unfold maxLen at cR;clear h;unfold vS;go_in;go_upto_region 1 with fail;rw[<-bk];clear bk;obtain⟨al,am,ax,aW,T,bi,a5,a6,aq,aZ,aO,be⟩:=lV cZ;go_wp2_with fail;clear al am ax aW T bi a5 a6 aq aZ aO be;go_loopw [3,8] (λba a3 wr=>∃(z:Nat) (b:Int),z<=q.conds.length/\ba=C E b/\a3=C E z/\F (JK an.heap.size an wr)) (λ_ a3 _=>q.conds.length-(intOf a3).toNat);case atStart=>exact⟨0,0,Kw _,D,D,A JY⟩
 obtain⟨z,b,aS,rfl,rfl,cx⟩:=hrel;have ct:(0:Int)<=(z:Int):=N;have cu:(z:Int)<=8003:=N;obtain⟨al,am,ax,aW,T,bi,a5,a6,aq,aZ,aO,be⟩:=lV (cZ.below cx cZ.lt);by_cases bA:z < q.conds.length
 ·have c0:(z:Int) < (q.conds.length:Int):=N;obtain⟨a2,ak⟩:∃a2,q.conds[z]? =J a2:=⟨_,Kr bA⟩;have dl:=A (nP ak);obtain⟨e,b8,M,bQ,cH,ar,a⟩:=a2;obtain⟨y,b5,a9,Y,a0,af,-,-,b',bv,bo,bZ,c5,bG,co,bS⟩:=iW (jr ae.out.wh (aC.trans (cx.mono aC.size))) ak;injection af with af _ cS;subst af cS;have aX:=A (abP _ wr _ bS VH);clear bS ak;go_wp2_with fail;refine aX.mono ?_;rintro a7 b1 ⟨rfl,c9⟩;have cj:=A (cx.trans (c9.mono cx.size));clear c9 al am ax aW T bi a5 a6 aq aZ aO be b' bv bo bZ c5 bG co aX;generalize ((aP (.mk e b8 M bQ cH ar a):Nat):Int)=dn at*;go_wp2_with fail;all_goals
   (go_roundw
    case rel=>
     first
     |exact⟨z+1,_,N,D,ZF,cj⟩
     |((repeat apply KL);exact⟨⟨z+1,_,N,D,ZF,cj⟩,D⟩)
    simp[intOf];omega)
 have cr:(q.conds.length:Int)<=(z:Int):=N;go_wp2_with fail;go_ret;exact⟨_,D,aC.trans (cx.mono aC.size)⟩
def zQ:Array O:=#[G I 0 0,G I 0 0,C E 0,C E 0,H ⟨#[]⟩,C E 0]
def af4:qZ:=⟨[],[],0,0,⟨#[]⟩,0⟩
def agv (w:L) (e:Ending) (w':L):Prop:=∃(vb vw:O) (q:qZ) (a ec:Int),e=.returned (.tuple #[.agg (vS vb vw q),C E a,C E ec])/\JK w.heap.size w w'/\(ec=0->xW w' vb vw q)/\∃A n c A' n' c',vb=G A n c/\vw=G A' n' c'
structure PaS (w:L) (g:Nat) (W:L):Prop where
 bel:JK w.heap.size w W
 res:aj W w.heap.size 62 zQ
 ord:w.heap.size < g
variable{W:L}
theorem PaS.more{i:L}(h:PaS w g W)(k:JK g W i):PaS w g i:=⟨h.bel.trans (k.mono (KI h.ord)),h.res.below k h.ord,h.ord⟩
theorem nC(h:w.grownBy w' (J g))(ab:g<=w.heap.size):JK g w w':=(Ky g w).grown h ab λa4 bK=>by injection bK with bK;omega
theorem parse_any(s:ByteArray)(w:L):Calls Tryz.prog 12 #[H s] w (agv w):=by
 have bm:=A (λB=>adX s B);obtain⟨an,bk⟩:∃an,an=w.alloc (JO zQ 62):=⟨_,D⟩;have aC:=QY;have cZ:=A (show aj an w.heap.size 62 zQ by rw[bk];exact aj.new _ _ _);unfold zQ at bk;go_in;go_upto_region 1 with fail;rw[<-bk];clear bk;go_wp2_with fail;refine(bm _).mono ?_;rintro a7 ce ⟨bc,a,ap,rfl,g,d,aT⟩;have c6:=A (cZ.below d cZ.lt);have k:=A (aC.trans (d.mono aC.size));have dr:=A aT;clear g d aT;rcases aA:(ap !=0) with _|_
 ·obtain⟨b,ay,dI⟩:=dr.out (by simpa using aA);obtain⟨Y,a9,rfl,d0,cR⟩:=dI.slice;obtain⟨dZ,W⟩:∃dZ,dZ=ce.alloc (JO #[G Y b.length a9,C E 0,C E 0,C E 0,C E 0,G I 0 0,G I 0 0,C E 0,C E 0,H ⟨#[]⟩,C E 0] 119):=⟨_,D⟩;have cj:=A (show JK ce.heap.size ce dZ by rw[W];exact JY.alloc c _);have e2:=A (show eP dZ ce.heap.size 119 (G Y b.length a9) b ⟨0,0,0,0⟩ (fG (G I 0 0) (G I 0 0) 0 0 ⟨#[]⟩ 0) by
   refine⟨?_,(BO dI Z).keep (aF.of_below cj λy d=>d) (λy d=>d) λ_ _ h=>h,ay,?_⟩
   ·rw[W];exact aj.new _ _ _
   obtain⟨a3,au,rfl,-⟩:=ay;show 0 < (a3++[au]).length;simp)
  have fu:=A (show PaS w ce.heap.size dZ from⟨k.trans (cj.mono k.size),c6.below cj c6.lt,c6.lt⟩);go_upto_region 5 with fail;rw[<-W];clear W cj dr ay dI k c6 aC cZ;generalize ce.heap.size=ae at*;have dj:=A (λB t rest (h:eP B ae 119 (G Y b.length a9) b t rest) s=>oD h s);have aQ:=A (λB t rest (h:eP B ae 119 (G Y b.length a9) b t rest) s=>qJ h s);have db:=A (λB t rest (h:eP B ae 119 (G Y b.length a9) b t rest)=>kK h 13 Z);go_wp2_with fail;refine(aQ _ _ _ e2 _).mono ?_;rintro a7 r ⟨rfl,b6,ai⟩;have fD:=A (show QS r r ae (G Y b.length a9) b b6 (G I 0 0) [] [] (G I 0 0) 0 0 ⟨#[]⟩ 0 from⟨ai.st,Acc.nil _,Ky _ _⟩);have eh:=A (fu.more (nC ai.grown (KI e2.blk.lt)));clear ai e2 fu;go_wp2_with fail;refine(zM fD (Kw _)).mono ?_;rintro a7 av ⟨rfl,T,d5,aq,ec,a6,b3,aR⟩;have aD:=A (show QS av av ae (G Y b.length a9) b T d5 aq ec (G I 0 0) 0 0 ⟨#[]⟩ 0 from⟨a6.st,a6.acc,Ky _ _⟩);have ar:=A (eh.more a6.bel);have ag:=A (show aq.length<=T.i+1 by rw[aR];simp);clear a6 b3 aR fD eh;go_wp2_with fail;go_loopw [] (λwr=>∃(l:fV) (cn:O) (P:List (List nZ)) (cA:List (List O)),F (QS wr wr ae (G Y b.length a9) b l cn P cA (G I 0 0) 0 0 ⟨#[]⟩ 0/\PaS w ae wr/\P.length<=l.i+1)) (λwr=>b.length-iOf ae wr);case atStart=>exact⟨T,d5,aq,ec,A ⟨aD,ar,ag.out⟩⟩
  obtain⟨l,cn,P,cA,ci⟩:=hrel;go_upto_region 7 with fail;go_cut [41] from 30 to 41 (λp bn=>∃d2:Bool,p=JM d2/\F (d2=true->l.i+1 < b.length)/\F (QS bn bn ae (G Y b.length a9) b l cn P cA (G I 0 0) 0 0 ⟨#[]⟩ 0/\PaS w ae bn));case first=>
   obtain⟨b0,aL,ao,b2,bu,R,bd,bO,bY,cd⟩:=ci.1.st.cells;rcases bS:(l.er== 0) with _|_
   ·go_wp2_with fail;go_meet;exact⟨_,D,A (λh=>ZC),A ⟨ci.1,ci.2.1⟩⟩
   go_wp2_with fail;refine(dj _ _ _ ci.1.st _).mono ?_;rintro a7 cU ⟨c2,rfl,m,dO⟩;have cJ:=A (show QS cU cU ae (G Y b.length a9) b l cn P cA (G I 0 0) 0 0 ⟨#[]⟩ 0/\PaS w ae cU from⟨⟨(ci.1.below dO).st,(ci.1.below dO).acc,Ky _ _⟩,ci.2.1.more (dO.mono (KI ci.1.st.blk.lt))⟩);have aP:=A m;clear m dO;go_wp2_with fail;go_meet;exact⟨_,D,aP,cJ⟩
  obtain⟨d2,rfl,aP,cJ⟩:=hcut;rcases d2 with _|_
  ·go_wp2_with fail;refine(acu cJ.1).mono ?_;rintro a7 da ⟨rfl,ak,v,ax,aS⟩;have bL:=A (Kt ax (Kt aS (cJ.2.more ax.bel)));have ds:=A cJ.1.st.blk.lt;clear ax aS;go_wp2_with fail;refine(aea bL.1.st).mono ?_;rintro a7 cK ⟨rfl,x,aw,a1,e,cc,f,bx,eb,dh,aN⟩;have bp:=A (show xP da ae (G Y b.length a9) b x cn v aw a1 e cc cK/\Acc (ae+1) 133 1 xQ cK cn P cA/\EU (ae+1) cK v/\PaS w ae cK from⟨f,bL.1.acc.up eY (mZ.aS f.grown (KP _)),by obtain⟨bP,ef,dC⟩:=bL.2.1.grown f.grown ds;exact⟨bP,ef.keep (λ_ _ _ h=>h) (λy d=>⟨Kv ds d.1,d.2⟩) λ_ _ h=>h.keep (λ_ _ _ h=>h) λy d=>⟨Kv ds d.1,d.2⟩,dC⟩,bL.2.2.more (nC f.grown (KI bL.1.st.blk.lt))⟩);have cY:=A (Kt bx (Kt eb (Kt dh aN)));clear f bx eb dh aN bL ci cJ aP;go_upto_region 12 with fail;obtain⟨aa,y,b5,ch,ad,bN,af,o,a8,b',bv,bo,bZ,c5⟩:=bp.1.st.cur;injection af with af _ el;subst af el;unfold maxLen at a8;have dz:=bp.1.st.idxs;have e1:(0:Int)<=(x.i:Int):=N;have bE:(x.i:Int) < (b.length:Int):=by have:=bp.1.st.idx;omega
   obtain⟨b0,aL,ao,b2,bu,R,bd,bO,bY,cd⟩:=bp.1.st.cells;clear ad bN;have aV:=A (λ(M:Nat)=>show bT cK ae 119 (G (J ⟨y,b5,I⟩) b.length a9) b x x (fG cn v aw a1 e cc) (cK.drewN M) from bT.of_below bp.1.st (below_drewN JY _));go_cut [78] (λp bn=>∃(d2:Bool) (nq:Nat),p=JM d2/\bn=cK.drewN nq);case first=>exact Pm
   obtain⟨d2,nq,rfl,aG⟩:=hcut;have al:=A (show bT cK ae 119 (G (J ⟨y,b5,I⟩) b.length a9) b x x (fG cn v aw a1 e cc) wc by rw[aG];exact aV nq);clear aG b0 aL ao b2 bu R bd bO bY cd b' bv bo bZ c5 aV;go_upto_if 78 with fail;go_cut [] (λbn=>∃a5:fV,F (bT cK ae 119 (G (J ⟨y,b5,I⟩) b.length a9) b x a5 (fG cn v aw a1 e cc) bn));case first=>
    rcases d2 with _|_
    ·go_wp2_with fail;go_meet;exact⟨x,al⟩
    go_wp2_with fail;refine(db _ _ _ al.out.st).mono ?_;rintro a7 bJ ⟨rfl,cw,d3,-,ai⟩;have z:=A (al.out.trans ai);clear ai;go_wp2_with fail;go_meet;exact⟨_,z⟩
   obtain⟨a5,z⟩:=hcut;clear al;obtain⟨aY,df⟩:∃aY,aY=wc:=⟨wc,D⟩;subst df;have cv:=A (show Acc (ae+1) 133 1 xQ aY cn P cA/\EU (ae+1) aY v/\PaS w ae aY from⟨bp.2.1.up eY (mZ.aS z.out.grown (KP _)),bp.2.2.1.grown z.out.grown (KP _),bp.2.2.2.more (nC z.out.grown (KI bp.1.st.blk.lt))⟩);have cm:=A z.out.st;clear z bp;obtain⟨b0,aL,ao,b2,bu,R,bd,bO,bY,cd⟩:=cm.cells;obtain⟨cp,cf,cb,c7,b9,cM,cF,cz,cP,d1,dd,d9⟩:=lV cv.2.2.res;rcases bS:(a5.er !=0) with _|_
   ·obtain⟨cg,ck,b1⟩:=aB cv.1.1;subst b1;obtain⟨dD,b7,a2⟩:=cv.2.1;obtain⟨cQ,aH,b8,aW⟩:=b7;subst b8;have fv:=A (show aX (λy=>ae+1<=y/\y < aY.heap.size) 7 (iD (λy=>ae+1<=y/\y < aY.heap.size)) aY (G cQ dD.length aH) dD from⟨cQ,aH,D,aW⟩);have a0:=A a2;have cx:=A (cv.1.done eY);have bB:F (∀X,aU w.heap.size aY X->xW X (G cg P.length ck) (G cQ dD.length aH) ⟨P,dD,aw,a1,e,cc⟩):=A (λX az=>by
     have ah:aF (λy=>ae+1<=y/\y < aY.heap.size) aY X:=az.keep _ λy d=>by have:=cv.2.2.ord;omega
     exact⟨(cx.keep ah (λ_ h=>h) λbj aa h=>eY _ _ _ _ _ _ h ah λ_ h=>h).out λbj aa ⟨bc,o,a8⟩=>⟨bc,o,a8.out λ_ _ h=>h⟩,(fv.keep ah (λ_ h=>h) λ_ _ h=>h.keep ah λ_ h=>h).out λ_ _ h=>h.weak,cY,a0.out⟩)
    clear aW a2;have aJ:aY.cell? ⟨ae,5,I⟩=J (G cg P.length ck):=cm.blk.cell 5;have bV:aY.cell? ⟨ae,6,I⟩=J (G cQ dD.length aH):=cm.blk.cell 6;have aK:aY.cell? ⟨ae,7,I⟩=J (C E aw):=cm.blk.cell 7;have aZ:aY.cell? ⟨ae,8,I⟩=J (C E a1):=cm.blk.cell 8;have dt:aY.cell? ⟨ae,9,I⟩=J (H e):=cm.blk.cell 9;have ac:aY.cell? ⟨ae,10,I⟩=J (C E cc):=cm.blk.cell 10;go_wp2_with fail;refine(Bq (q:=⟨P,dD,aw,a1,e,cc⟩) (bB aY (aU.refl _ _))).mono ?_;rintro a7 bG ⟨dn,rfl,eV⟩;have S:=A (cm.below eV);have a4:=A (cv.2.2.more (eV.mono (KI cm.blk.lt)));have aM:F (∀X,aU w.heap.size bG X->xW X (G cg P.length ck) (G cQ dD.length aH) ⟨P,dD,aw,a1,e,cc⟩):=A (λX az=>by have ah:aF (λy=>ae+1<=y/\y < aY.heap.size) aY X:=(aF.of_below eV λy d=>d.2).trans (az.keep _ λy d=>by have:=cv.2.2.ord;omega);exact⟨(cx.keep ah (λ_ h=>h) λbj aa h=>eY _ _ _ _ _ _ h ah λ_ h=>h).out λbj aa ⟨bc,o,a8⟩=>⟨bc,o,a8.out λ_ _ h=>h⟩,(fv.keep ah (λ_ h=>h) λ_ _ h=>h.keep ah λ_ h=>h).out λ_ _ h=>h.weak,cY,a0.out⟩);clear eV b0 aL ao b2 bu R bd bO bY cd aJ bV aK aZ dt ac cp cf cb c7 b9 cM cF cz cP d1 dd d9;have aJ:bG.cell? ⟨ae,5,I⟩=J (G cg P.length ck):=S.blk.cell 5;have bV:bG.cell? ⟨ae,6,I⟩=J (G cQ dD.length aH):=S.blk.cell 6;have aK:bG.cell? ⟨ae,7,I⟩=J (C E aw):=S.blk.cell 7;have aZ:bG.cell? ⟨ae,8,I⟩=J (C E a1):=S.blk.cell 8;have dt:bG.cell? ⟨ae,9,I⟩=J (H e):=S.blk.cell 9;have ac:bG.cell? ⟨ae,10,I⟩=J (C E cc):=S.blk.cell 10;obtain⟨cp,cf,cb,c7,b9,cM,cF,cz,cP,d1,dd,d9⟩:=lV a4.res;by_cases V:200 < dn
    ·go_wp2_with fail;refine Ib a4.res D λX az aE=>?_;refine UR ?_;exact⟨_,_,af4,_,_,D,aE.below _ _ c a4.bel,λh=>absurd h Z,_,_,_,_,_,_,D,D⟩
    have bf:dn<=200:=N;go_wp2_with fail;refine Ib a4.res D λX az aE=>?_;refine UR ?_;exact⟨_,_,⟨P,dD,aw,a1,e,cc⟩,_,_,D,aE.below _ _ c a4.bel,λ_=>aM X aE,_,_,_,_,_,_,D,D⟩
   have bC:=A (show a5.er≠0 by simpa using bS);have f7:w.heap.size≠ae:=by have:=cv.2.2.ord;omega
   have eQ:ae≠w.heap.size:=N;go_upto_region 15 with fail;go_region;go_wp2_with fail;refine afT cv.2.2.res D λX az aE=>?_;refine UR ?_;exact⟨_,_,af4,_,_,D,aE.below _ _ c cv.2.2.bel,λh=>absurd h bC,_,_,_,_,_,_,D,D⟩
  obtain⟨b0,aL,ao,b2,bu,R,bd,bO,bY,cd⟩:=cJ.1.st.cells;have bl:=cJ.1.st.idxs;have dN:(0:Int)<=(l.i:Int):=N;have bH:=A (aP Yu);go_upto_region 9 with fail;refine aI (Φ:=λB=>QS B B ae (G Y b.length a9) b {l with i:=l.i+1} cn P cA (G I 0 0) 0 0 ⟨#[]⟩ 0/\PaS w ae B) ?_ ?_
  ·have ai:bT wc ae 119 (G Y b.length a9) b l {l with i:=l.i+1} (fG cn (G I 0 0) 0 0 ⟨#[]⟩ 0) (wc.setCell ⟨ae,1,I⟩ (C E ((l.i:Int)+1))):=⟨cJ.1.st.rH (n:=l.i+1) bH,grownBy_set _ _ _ _,Ld _⟩;exact⟨⟨ai.st,(cJ.1.more ai).acc,Ky _ _⟩,cJ.2.more (nC ai.grown (KI cJ.1.st.blk.lt))⟩
  intro cW dy;have bL:=A dy;clear dy b0 aL ao b2 bu R bd bO bY cd bl dN;go_wp2_with fail;refine(zM bL.1 (by have o:=ci.2.2;have a8:=ci.1.st.idxs;omega)).mono ?_;rintro a7 cK ⟨rfl,x,ba,a',bb,am,aO,be⟩;have bp:=A (show QS cK cK ae (G Y b.length a9) b x ba a' bb (G I 0 0) 0 0 ⟨#[]⟩ 0/\PaS w ae cK/\a'.length<=x.i+1 from⟨⟨am.st,am.acc,Ky _ _⟩,bL.2.more am.bel,by have o:=ci.2.2;simp only at aO;omega⟩);have e8:=A (show l.i+1<=x.i from aO);clear am aO be;go_wp2_with fail;go_roundw;case rel=>
   first
   |exact⟨_,_,_,_,bp⟩
   |((repeat apply KL);exact⟨⟨_,_,_,_,bp⟩,D⟩)
  rw[bp.1.st.iOf,ci.1.st.iOf];have o:=e8.out;have a8:=bH.out;omega
 have bC:=A (show ap≠0 by simpa using aA);obtain⟨cp,cf,cb,c7,b9,cM,cF,cz,cP,d1,dd,d9⟩:=lV c6;go_wp2_with fail;refine Ib c6 D λX az aE=>?_;refine UR ?_;exact⟨_,_,af4,_,_,D,aE.below _ _ c k,λh=>absurd h bC,_,_,_,_,_,_,D,D⟩
attribute [local go_sem ↓] Go.wp_at_zero Go.wp_at_succ
def yY (_:L) (cs:List O) (x:ByteArray×Int):Prop:=cs=[H x.1,C E x.2]/\wfi x.2
def zf (w:L) (cs:List O) (x:ByteArray×List (ByteArray×Int)):Prop:=∃v,cs=[H x.1,v]/\bU 2 yY w v x.2
def zG (_:L) (cs:List O) (s:ByteArray):Prop:=cs=[H s]
structure qB (w:L) (vt vs:O) (S:SchD):Prop where
 types:bU 2 zf w vt S.types
 syms:bU 1 zG w vs S.syms
variable{x:ByteArray×List (ByteArray×Int)}
theorem zf.below{cs:List O}(h:zf w cs x)(d:JK w.heap.size w w'):zf w' cs x:=by obtain⟨bc,o,a8⟩:=h;exact⟨bc,o,a8.keep (bW.of_below d) λ_ _ h=>h⟩
variable{vs vt:O}{S:SchD}
theorem qB.below(h:qB w vt vs S)(d:JK w.heap.size w w'):qB w' vt vs S:=
 ⟨h.types.keep (bW.of_below d) λ_ _ h=>h.below d,h.syms.keep (bW.of_below d) λ_ _ h=>h⟩
structure iM (S:SchD):Prop where
 types:S.types.length<=16
 syms:S.syms.length<=64
 attrs:∀t∈S.types,t.2.length<=8
 kinds:∀t∈S.types,∀f∈t.2,1<=f.2/\f.2<=4
variable{l:List ByteArray}{r:Nat}
theorem lG{p:ByteArray->Bool}{x:ByteArray}(h:l[r]? =J x):jA p (l.drop r) r=if p x then(r:Int) else jA p (l.drop (r+1)) (r+1):=by have aR:=(KA.1 h).1;rw[NI aR,jA];have a7:l[r]=x:=Xj;rw[a7]
theorem yB{p:ByteArray->Bool}(h:l.length<=r):jA p (l.drop r) r=-1:=by rw[List.drop_eq_nil_of_le h,jA]
theorem mD(a b:ByteArray):(a.toList== b.toList)=decide (a=b):=by rw[ByteArray.toList_eq,ByteArray.toList_eq];obtain⟨⟨aa⟩⟩:=a;obtain⟨⟨a2⟩⟩:=b;rw[LG];simp
def ael (v:Int) (w:L) (e:Ending) (w':L):Prop:=e=.returned (C E v)/\JK w.heap.size w w'
theorem bH{bJ bD:O}(h:aj w g t #[bJ,bD]): w.cell? ⟨g,0,I⟩=J bJ/\w.cell? ⟨g,1,I⟩=J bD/\w.frozen? ⟨g,0,I⟩=false/\w.frozen? ⟨g,1,I⟩=false:=
 ⟨h.cell 0,h.cell 1,h.frozen 0,h.frozen 1⟩
variable{v:O}
theorem aaX(h:bU 1 zG w v l)(a':l.length<=1000)(s:ByteArray):Calls Tryz.prog 98 #[v,H s] w (ael (placeOf l s) w):=by
 obtain⟨Y,a9,rfl,d0,cR⟩:=h.slice;have f:=A h;unfold maxLen at cR;clear h;go_in;go_wp2_with fail;go_loop [9] (λa3=>∃z:Nat,z<=l.length/\a3=C E z/\F (placeOf l s=jA (λaa=>decide (aa=s)) (l.drop z) z)) (λa3=>l.length-(intOf a3).toNat);case atStart=>exact⟨0,Kw _,D,A D⟩
 obtain⟨z,aS,rfl,aw⟩:=hrel;have ct:(0:Int)<=(z:Int):=N;have cu:(z:Int)<=1000:=N;by_cases bA:z < l.length
 ·have c0:(z:Int) < (l.length:Int):=N;obtain⟨a2,ak⟩:∃a2,l[z]? =J a2:=⟨_,Kr bA⟩;have bV:=A ak;obtain⟨dz,bl,b',af,-,-,aR,bj,dC,rfl,cM⟩:=bU.get f ak;injection af with af _ cS;subst af cS;have b0:=cM 0 _ D;simp only[Nat.add_zero,Nat.mul_one] at b0;clear ak aR dC cM;have em:=mD a2 s;rcases a1:decide (a2=s) with _|_;all_goals rw[a1] at em
  ·have bB:=A a1;clear a1;go_wp2_with fail;have cw:F (placeOf l s=jA (λaa=>decide (aa=s)) (l.drop (z+1)) (z+1)):=A WW;exact⟨⟨z+1,N,ZF,cw⟩,YF⟩
  have ci:F (placeOf l s=(z:Int)):=A Xg;clear a1;go_wp2_with fail;go_ret;exact⟨YV,Ky _ _⟩
 have c0:(l.length:Int)<=(z:Int):=N;have ci:F (placeOf l s=-1):=A (by rw[aw.out];exact yB N);go_wp2_with fail;go_ret;exact⟨YV,Ky _ _⟩
theorem tJ{l:List (ByteArray×List (ByteArray×Int))}(h:bU 2 zf w v l)(ad:l[i]? =J x): ∃b off a9 Y k,v=G (J ⟨b,off,I⟩) l.length a9/\l.length<=a9/\a9<=maxLen/\w.cell? ⟨b,off+i*2,I⟩=J (H x.1)/\w.cell? ⟨b,off+i*2+1,I⟩=J (G Y x.2.length k)/\bU 2 yY w (G Y x.2.length k) x.2/\x.2.length<=k/\k<=maxLen:=by obtain⟨b,off,a9,af,o,a8,aR,bj,a',⟨es,rfl,aS⟩,aw⟩:=h.get ad;obtain⟨Y,k,rfl,en,d'⟩:=aS.slice;exact⟨b,off,a9,Y,k,af,o,a8,aw 0 _ D,aw 1 _ D,aS,en,d'⟩
theorem zY{l:List (ByteArray×Int)}(h:bU 2 yY w v l){x:ByteArray×Int}(ad:l[i]? =J x): ∃b off a9,v=G (J ⟨b,off,I⟩) l.length a9/\l.length<=a9/\a9<=maxLen/\w.cell? ⟨b,off+i*2,I⟩=J (H x.1)/\w.cell? ⟨b,off+i*2+1,I⟩=J (C E x.2)/\wfi x.2:=by exact PS
theorem Iq(h:qB w vt vs S)(a':S.types.length<=16)(s:ByteArray):Calls Tryz.prog 73 #[.agg #[vt,vs],H s] w (ael (placeOf (S.types.map λt=>t.1) s) w):=by
 obtain⟨Y,a9,rfl,d0,cR⟩:=h.types.slice;obtain⟨c3,bj,rfl,l,k⟩:=h.syms.slice;have f:=A h;obtain⟨an,bk⟩:∃an,an=w.alloc (JO #[G Y S.types.length a9,G c3 S.syms.length bj] 25):=⟨_,D⟩;have aC:=QY;have cZ:=RU;unfold maxLen at cR;clear h;go_in;go_upto_region 1 with fail;rw[<-bk];clear bk;obtain⟨al,am,a5,a6⟩:=bH cZ;go_wp2_with fail;clear al am a5 a6;go_loopw [10] (λa3 wr=>∃z:Nat,z<=S.types.length/\a3=C E z/\F (placeOf (S.types.map λt=>t.1) s=jA (λaa=>decide (aa=s)) ((S.types.map λt=>t.1).drop z) z)/\F (JK w.heap.size w wr)) (λa3 wr=>S.types.length-(intOf a3).toNat);case atStart=>exact⟨0,Kw _,D,A D,aC⟩
 obtain⟨z,aS,rfl,aw,b7⟩:=hrel;have ct:(0:Int)<=(z:Int):=N;have cu:(z:Int)<=1000:=N;by_cases bA:z < S.types.length
 ·have c0:(z:Int) < (S.types.length:Int):=N;obtain⟨a2,ak⟩:∃a2,S.types[z]? =J a2:=⟨_,Kr bA⟩;have bV:F ((S.types.map λt=>t.1)[z]? =J a2.1):=A (by rw[Le,ak];rfl);obtain⟨dz,bl,b',bq,ao,af,-,-,b0,aL,dI,-,-⟩:=tJ (f.below b7).types ak;injection af with af _ cS;subst af cS;clear ak dI;obtain⟨bd,bO⟩:=a2;dsimp only at b0 aL bV;go_upto_region 4 with fail;have cy:=Sv;refine Ut ?_;intro cX aD;have bp:=A aD;have c4:=A (b7.trans (bp.1.mono b7.size));clear aD cy b0 aL;obtain⟨R,b,dG,cC⟩:=bH bp.2;have em:=mD bd s;rcases a1:decide (bd=s) with _|_;all_goals rw[a1] at em
  ·have bB:=A a1;clear a1;go_wp2_with fail;have cw:F (placeOf (S.types.map λt=>t.1) s=jA (λaa=>decide (aa=s)) ((S.types.map λt=>t.1).drop (z+1)) (z+1)):=A WW;exact QW
  have ci:F (placeOf (S.types.map λt=>t.1) s=(z:Int)):=A Xg;clear a1;go_wp2_with fail;go_ret;exact⟨YV,c4.out⟩
 have c0:(S.types.length:Int)<=(z:Int):=N;have ci:F (placeOf (S.types.map λt=>t.1) s=-1):=A VU;go_wp2_with fail;go_ret;exact⟨YV,b7.out⟩
theorem kD(h:qB w vt vs S)(br:iM S)(t:Int)(s:ByteArray):Calls Tryz.prog 77 #[.agg #[vt,vs],C E t,H s] w (ael (dK S t s) w):=by
 obtain⟨Y,a9,rfl,d0,cR⟩:=h.types.slice;obtain⟨c3,bj,rfl,l,k⟩:=h.syms.slice;have f:=A h;have ck:=A br;obtain⟨an,bk⟩:∃an,an=w.alloc (JO #[G Y S.types.length a9,G c3 S.syms.length bj] 25):=⟨_,D⟩;have aC:=QY;have cZ:=RU;unfold maxLen at cR;clear h br;go_in;go_upto_region 1 with fail;rw[<-bk];clear bk;obtain⟨al,am,a5,a6⟩:=bH cZ;by_cases bw:0<=t;rotate_left
 ·have ci:F (dK S t s=-1):=A (by unfold dK;rw[JZ bw]);exact OJ
 by_cases bA:t < (S.types.length:Int);rotate_left
 ·have ci:F (dK S t s=-1):=A (by unfold dK;rw[Kq bw,LY N]);exact OJ
 obtain⟨m,rfl⟩:=NM bw;have d:m < S.types.length:=N;obtain⟨a2,ak⟩:∃a2,S.types[m]? =J a2:=⟨_,Kr d⟩;have eL:F (dK S (m:Int) s=placeOf (a2.2.map λaG=>aG.1) s):=A (by unfold dK;rw[Kq bw,LX,ak]);have y:a2.2.length<=8:=ck.attrs a2 (Kz ak);obtain⟨dz,bl,b',bq,ao,af,-,-,b0,aL,dI,en,d'⟩:=tJ (f.below aC).types ak;injection af with af _ cS;subst af cS;have dX:=A dI;unfold maxLen at d';clear ak dI;obtain⟨bd,bO⟩:=a2;dsimp only at b0 aL eL dX y en;go_wp2_with fail;clear al am a5 a6 b0 aL;go_loopw [25] (λa3 wr=>∃z:Nat,z<=bO.length/\a3=C E z/\F (placeOf (bO.map λt=>t.1) s=jA (λaa=>decide (aa=s)) ((bO.map λt=>t.1).drop z) z)/\F (JK w.heap.size w wr/\JK an.heap.size an wr)) (λa3 wr=>bO.length-(intOf a3).toNat);case atStart=>exact⟨0,Kw _,D,A D,A ⟨aC,Ky _ _⟩⟩
 obtain⟨z,aS,rfl,aw,b7⟩:=hrel;have ct:(0:Int)<=(z:Int):=N;have cu:(z:Int)<=1000:=N;by_cases bA:z < bO.length
 ·have c0:(z:Int) < (bO.length:Int):=N;obtain⟨a2,ak⟩:∃a2,bO[z]? =J a2:=⟨_,Kr bA⟩;have bV:F ((bO.map λt=>t.1)[z]? =J a2.1):=A (by rw[Le,ak];rfl);obtain⟨P,T,V,af,-,-,b0,aL,e7⟩:=zY (dX.keep (bW.of_below b7.2) λ_ _ h=>h) ak;injection af with af _ cS;subst af cS;clear ak e7;obtain⟨aU,p⟩:=a2;dsimp only at b0 aL bV;go_upto_region 5 with fail;have cy:=A (show JK wr.heap.size wr (wr.alloc (JO #[H aU,C E p] 103)) from JY.alloc c _);refine aI (Φ:=λB=>JK wr.heap.size wr B/\aj B wr.heap.size 103 #[H aU,C E p]) ⟨cy,aj.new _ _ _⟩ ?_;intro cX aD;have bp:=A aD;have c4:=A (Kt (b7.1.trans (bp.1.mono b7.1.size)) (b7.2.trans (bp.1.mono b7.2.size)));clear aD cy b0 aL;obtain⟨R,b,dG,cC⟩:=bH bp.2;have em:=mD aU s;rcases a1:decide (aU=s) with _|_;all_goals rw[a1] at em
  ·have bB:=A a1;clear a1;go_wp2_with fail;have cw:F (placeOf (bO.map λt=>t.1) s=jA (λaa=>decide (aa=s)) ((bO.map λt=>t.1).drop (z+1)) (z+1)):=A WW;exact QW
  have ci:F (placeOf (bO.map λt=>t.1) s=(z:Int)):=A Xg;clear a1;go_wp2_with fail;go_ret;exact⟨by rw[eL.out,ci.out];rfl,c4.1⟩
 have c0:(bO.length:Int)<=(z:Int):=N;have ci:F (placeOf (bO.map λt=>t.1) s=-1):=A VU;go_wp2_with fail;go_ret;exact⟨by rw[eL.out,ci.out];rfl,b7.1⟩
theorem uI(h:qB w vt vs S)(br:iM S)(t a:Int):Calls Tryz.prog 76 #[.agg #[vt,vs],C E t,C E a] w (ael (fH S t a) w):=by
 obtain⟨Y,a9,rfl,d0,cR⟩:=h.types.slice;obtain⟨c3,bj,rfl,l,k⟩:=h.syms.slice;have f:=A h;have ck:=A br;obtain⟨an,bk⟩:∃an,an=w.alloc (JO #[G Y S.types.length a9,G c3 S.syms.length bj] 25):=⟨_,D⟩;have aC:=QY;have cZ:=RU;have e2:(aZ S).length=S.types.length:=by unfold aZ;rw[KZ]
 unfold maxLen at cR;clear h br;go_in;go_upto_region 1 with fail;rw[<-bk];clear bk;obtain⟨al,am,a5,a6⟩:=bH cZ;by_cases bw:0<=t;rotate_left
 ·have ci:F (fH S t a=0):=A (by unfold fH jS;rw[JZ bw]);exact OJ
 have b:decide (t < 0)=false:=by simpa using bw
 by_cases bA:t < (S.types.length:Int);rotate_left
 ·have ci:F (fH S t a=0):=A (by unfold fH jS;rw[Kq bw,LY (by rw[e2];omega)]);exact OJ
 obtain⟨m,rfl⟩:=NM bw;have d:m < S.types.length:=N;obtain⟨a2,ak⟩:∃a2,S.types[m]? =J a2:=⟨_,Kr d⟩;have eq:F (fH S (m:Int) a=if a < -1\/(a2.2.length:Int)<=a then 0 else if a=-1 then 1 else(a2.2.map λaG=>aG.2).getD a.toNat 0):=A (by unfold fH jS aZ;rw[Kq bw,LX,Le,ak];simp);have y:a2.2.length<=8:=ck.attrs a2 (Kz ak);obtain⟨dz,bl,b',bq,ao,af,-,-,b0,aL,dI,en,d'⟩:=tJ (f.below aC).types ak;injection af with af _ cS;subst af cS;have dX:=A dI;unfold maxLen at d';clear ak dI e2;obtain⟨bd,bO⟩:=a2;dsimp only at b0 aL eq dX y en;by_cases aH:a=-1
 ·have ci:F (fH S (m:Int) a=1):=A (by rw[eq.out,JZ N,Kq aH]);have b3:(a== -1)=true:=by simp[aH]
  clear aH;exact OJ
 have b3:(a== -1)=false:=by simp[aH]
 by_cases ds:0<=a;rotate_left
 ·have ci:F (fH S (m:Int) a=0):=A (by rw[eq.out,Kq N]);clear aH;exact OJ
 by_cases cv:a < (bO.length:Int);rotate_left
 ·have ci:F (fH S (m:Int) a=0):=A (by rw[eq.out,Kq N]);clear aH;exact OJ
 clear aH;obtain⟨aT,rfl⟩:=NM ds;obtain⟨u,ap⟩:∃u,bO[aT]? =J u:=⟨_,Kr N⟩;obtain⟨P,T,V,af,-,-,ao,b2,e7⟩:=zY dX ap;injection af with af _ cS;subst af cS;have ci:F (fH S (m:Int) (aT:Int)=u.2):=A (by rw[eq.out,JZ N,JZ N,Ll,LX,Le,ap];rfl);clear ap e7;exact OJ
def itA (y:dJ):Array O:=#[H y.name,C E y.branch,C E y.part,C E y.pos,C E y.form,C E y.kind]
def ItW (y:dJ):Prop:=wfi y.branch/\wfi y.part/\wfi y.pos/\wfi y.form/\wfi y.kind
def ItC (_:L) (cs:List O) (y:dJ):Prop:=cs=(itA y).toList/\ItW y
theorem Jq(a2:dJ):∀u∈(itA a2).toList,u.oneCell'=true:=by intro u ap;simp only[itA,List.mem_cons,List.not_mem_nil,or_false] at ap;rcases ap with rfl|rfl|rfl|rfl|rfl|rfl <;> rfl
theorem agM:ItW zIt:=⟨bP,bP,bP,bP,bP⟩
def aep (Q:Nat->Prop) (w:L) (cs:List O) (x:ByteArray×List (ByteArray×Int)):Prop:=∃v,cs=[H x.1,v]/\aX Q 2 yY w v x.2
structure Dl (Q:Nat->Prop) (w:L) (vt vs:O) (S:SchD):Prop where
 types:aX Q 2 (aep Q) w vt S.types
 syms:aX Q 1 zG w vs S.syms
variable{Q:Nat->Prop}
section
variable {Q':Nat->Prop}
theorem aep.keep{cs:List O}(h:aep Q w cs x)(ah:aF Q w w')(n:∀b,Q b->Q' b):aep Q' w' cs x:=by obtain⟨bc,o,a8⟩:=h;exact⟨bc,o,aX.keep a8 ah n λ_ _ h=>h⟩
theorem Dl.keep(h:Dl Q w vt vs S)(ah:aF Q w w')(n:∀b,Q b->Q' b):Dl Q' w' vt vs S:=
 ⟨aX.keep h.types ah n λ_ _ h=>h.keep ah n,aX.keep h.syms ah n λ_ _ h=>h⟩
theorem Dl.out(h:Dl Q w vt vs S):qB w vt vs S:=
 ⟨aX.out h.types λ_ _ ⟨bc,o,a8⟩=>⟨bc,o,aX.out a8 λ_ _ h=>h⟩,aX.out h.syms λ_ _ h=>h⟩
end
structure kV (Q:Nat->Prop) (g:Nat) (vt vs vi:O) (S:SchD) (its:List dJ) (er at_:Int) (W:L):Prop where
 blk:aj W g 132 #[vt,vs,vi,C E er,C E at_]
 Dt:Dl Q W vt vs S
 Aq:aX Q 6 ItC W vi its
 ok:iM S
 len:its.length<=32
 off:∀b,Q b->b≠g/\b < W.heap.size
variable{at_ er:Int}{its:List dJ}{vi:O}
section
variable {W':L}
theorem kV.below(h:kV Q g vt vs vi S its er at_ W)(d:JK W.heap.size W W'):kV Q g vt vs vi S its er at_ W':=by have ah:aF Q W W':=λaT u _ ai=>(d.cell (ay ai)).trans ai;exact⟨h.blk.below d h.blk.lt,h.Dt.keep ah λ_ h=>h,aX.keep h.Aq ah (λ_ h=>h) λ_ _ h=>h,h.ok,h.len,λy e=>⟨(h.off y e).1,Kv (h.off y e).2 d.size⟩⟩
theorem kV.grown(h:kV Q g vt vs vi S its er at_ W)(ab:W.grownBy W' (J g)){br at':Int}(d:aj W' g 132 #[vt,vs,vi,C E br,C E at']):kV Q g vt vs vi S its br at' W':=by have ah:aF Q W W':=aF.aS ab λy d a7=>(h.off y d).1 Zj;exact⟨d,h.Dt.keep ah λ_ h=>h,aX.keep h.Aq ah (λ_ h=>h) λ_ _ h=>h,h.ok,h.len,λy e=>⟨(h.off y e).1,Kv (h.off y e).2 ab.size⟩⟩
theorem kV.cells(h:kV Q g vt vs vi S its er at_ W):W.cell? ⟨g,0,I⟩=J vt/\W.cell? ⟨g,1,I⟩=J vs/\W.cell? ⟨g,2,I⟩=J vi/\W.cell? ⟨g,3,I⟩=J (C E er)/\W.cell? ⟨g,4,I⟩=J (C E at_)/\W.frozen? ⟨g,0,I⟩=false/\W.frozen? ⟨g,1,I⟩=false/\W.frozen? ⟨g,2,I⟩=false/\W.frozen? ⟨g,3,I⟩=false/\W.frozen? ⟨g,4,I⟩=false:=
 ⟨h.blk.cell 0,h.blk.cell 1,h.blk.cell 2,h.blk.cell 3,h.blk.cell 4,h.blk.frozen 0,h.blk.frozen 1,h.blk.frozen 2,h.blk.frozen 3,h.blk.frozen 4⟩
theorem kV.set(h:kV Q g vt vs vi S its er at_ W)(e a:Int):kV Q g vt vs vi S its e a ((W.setCell ⟨g,3,I⟩ (C E e)).setCell ⟨g,4,I⟩ (C E a))/\W.grownBy ((W.setCell ⟨g,3,I⟩ (C E e)).setCell ⟨g,4,I⟩ (C E a)) (J g):=by have ab:W.grownBy ((W.setCell ⟨g,3,I⟩ (C E e)).setCell ⟨g,4,I⟩ (C E a)) (J g):=((aU.one W g 3 _).trans (aU.one _ g 4 _)).grown;exact⟨h.grown ab ((h.blk.bJ 3 _).bJ 4 _),ab⟩
end
def afB (Q:Nat->Prop) (g:Nat) (vt vs vi:O) (S:SchD) (its:List dJ) (er:Int) (W:L) (e:Ending) (W':L):Prop:=∃er' at',e=.returned (.tuple #[])/\er'≠0/\W.grownBy W' (J g)/\kV Q g vt vs vi S its er' at' W'
theorem iZ(h:kV Q g vt vs vi S its er at_ W)(n a:Int)(V:n≠0): Calls Tryz.prog 75 #[.pointer (J ⟨g,0,I⟩),C E n,C E a] W (afB Q g vt vs vi S its er W):=by
 have ae:=A h;have cw:=A V;obtain⟨b0,aL,ao,b2,bu,a5,a6,aq,aZ,aO⟩:=h.cells;clear h V;go_in;by_cases bS:er=0
 ·have b3:(er== 0)=true:=ZA;clear bS;go_wp2_with fail;go_end0;exact⟨n,a,D,cw,(ae.out.set n a).2,(ae.out.set n a).1⟩
 have b3:(er== 0)=false:=ZA;have bC:=A bS;clear bS;go_wp2_with fail;go_end0;exact⟨er,at_,D,bC,Nj _ _,ae.out⟩
def ag4 (its:List dJ) (s:ByteArray) (W:L) (e:Ending) (W':L):Prop:=e=.returned (.tuple #[.agg (itA (cO its s)),JM (iO its s).isSome])/\JK W.heap.size W W'
theorem fK{bJ bD bs e i n:O}(h:aj w g t #[bJ,bD,bs,e,i,n]): w.cell? ⟨g,0,I⟩=J bJ/\w.cell? ⟨g,1,I⟩=J bD/\w.cell? ⟨g,2,I⟩=J bs/\w.cell? ⟨g,3,I⟩=J e/\w.cell? ⟨g,4,I⟩=J i/\w.cell? ⟨g,5,I⟩=J n/\w.frozen? ⟨g,0,I⟩=false/\w.frozen? ⟨g,1,I⟩=false/\w.frozen? ⟨g,2,I⟩=false/\w.frozen? ⟨g,3,I⟩=false/\w.frozen? ⟨g,4,I⟩=false/\w.frozen? ⟨g,5,I⟩=false:=
 ⟨h.cell 0,h.cell 1,h.cell 2,h.cell 3,h.cell 4,h.cell 5,h.frozen 0,h.frozen 1,h.frozen 2,h.frozen 3,h.frozen 4,h.frozen 5⟩
theorem DK{s:ByteArray}{a2:dJ}(h:its[r]? =J a2):iO (its.drop r) s=if decide (a2.name=s) then J a2 else iO (its.drop (r+1)) s:=by have aR:=(KA.1 h).1;have a7:its[r]=a2:=Xj;unfold iO;rw[NI aR,List.find?_cons,a7];cases decide (a2.name=s) <;> rfl
theorem uw(h:kV Q g vt vs vi S its er at_ W)(s:ByteArray): Calls Tryz.prog 74 #[.pointer (J ⟨g,0,I⟩),H s] W (ag4 its s W):=by
 obtain⟨Y,a9,rfl,d0,cR⟩:=(aX.out h.Aq (R':=ItC) λ_ _ h=>h).slice;have ae:=A h;have a':=h.len;unfold maxLen at cR;obtain⟨an,bk⟩:∃an,an=W.alloc (JO #[H ⟨#[]⟩,C E 0,C E 0,C E 0,C E 0,C E 0] 193):=⟨_,D⟩;have aC:=A (show JK W.heap.size W an by rw[bk];exact JY.alloc c _);have cZ:=A (show aj an W.heap.size 193 #[H ⟨#[]⟩,C E 0,C E 0,C E 0,C E 0,C E 0] by rw[bk];exact aj.new _ _ _);clear h;go_in;go_upto_region 1 with fail;rw[<-bk];clear bk;obtain⟨b0,aL,ao,b2,bu,a5,a6,aq,aZ,aO⟩:=(ae.out.below aC).cells;go_wp2_with fail;clear b0 aL ao b2 bu a5 a6 aq aZ aO;go_loopw [13] (λa3 wr=>∃z:Nat,z<=its.length/\a3=C E z/\F (iO its s=iO (its.drop z) s)/\F (JK W.heap.size W wr/\aj wr W.heap.size 193 #[H ⟨#[]⟩,C E 0,C E 0,C E 0,C E 0,C E 0])) (λa3 wr=>its.length-(intOf a3).toNat);case atStart=>exact⟨0,Kw _,D,A D,A ⟨aC,cZ.out⟩⟩
 obtain⟨z,aS,rfl,aw,b7⟩:=hrel;have ct:(0:Int)<=(z:Int):=N;have cu:(z:Int)<=32:=N;by_cases bA:z < its.length
 ·have c0:(z:Int) < (its.length:Int):=N;obtain⟨a2,ak⟩:∃a2,its[z]? =J a2:=⟨_,Kr bA⟩;have bV:=A ak;obtain⟨dz,bl,b',af,-,-,aR,bj,dC,⟨rfl,cr⟩,cM⟩:=bU.get (aX.out (ae.out.below b7.1).Aq (R':=ItC) λ_ _ h=>h) ak;injection af with af _ cS;subst af cS;have cF:=cM 0 _ D;have cz:=cM 1 _ D;have cP:=cM 2 _ D;have d1:=cM 3 _ D;have dd:=cM 4 _ D;have d9:=cM 5 _ D;simp only[Nat.add_zero] at cF;clear ak aR dC cM cr;obtain⟨cH,dx,dk,bx,i,ah⟩:=a2;dsimp only at cF cz cP d1 dd d9;go_upto_region 4 with fail;have cy:=A (show JK wr.heap.size wr (wr.alloc (JO #[H cH,C E dx,C E dk,C E bx,C E i,C E ah] 193)) from JY.alloc c _);refine aI (Φ:=λX=>JK wr.heap.size wr X/\aj X wr.heap.size 193 #[H cH,C E dx,C E dk,C E bx,C E i,C E ah]) ⟨cy,aj.new _ _ _⟩ ?_;intro cX aD;have bp:=A aD;have c4:=A (Kt (b7.1.trans (bp.1.mono b7.1.size)) (b7.2.below bp.1 b7.2.lt));clear aD cy cF cz cP d1 dd d9;obtain⟨R,bd,bO,bY,cd,cj,dG,cC,d4,du,dH,aT⟩:=fK bp.2;have em:=mD cH s;rcases a1:decide (cH=s) with _|_;all_goals rw[a1] at em
  ·have bB:=A a1;clear a1;go_wp2_with fail;have cw:F (iO its s=iO (its.drop (z+1)) s):=A (by rw[aw.out,DK bV.out,bB.out];rfl);exact QW
  have ci:F (iO its s=J ⟨cH,dx,dk,bx,i,ah⟩):=A (by rw[aw.out,DK bV.out];simp only[a1];rfl);clear a1;obtain⟨dT,v,c2,bz,dN,d3,cF,cz,cP,d1,dd,d9⟩:=fK c4.2;go_wp2_with fail;refine Ib c4.2 D λX az aE=>?_;refine Ku (results_cell_tmp D D az Tryz.underlying193 D D) D ?_;refine⟨by unfold cO;rw[ci.out];rfl,aE.below _ _ c c4.1⟩
 have c0:(its.length:Int)<=(z:Int):=N;have ci:F (iO its s=I):=A (by rw[aw.out,List.drop_eq_nil_of_le N];rfl);obtain⟨R,bd,bO,bY,cd,cj,dG,cC,d4,du,dH,aT⟩:=fK b7.2;go_wp2_with fail;refine Ib b7.2 D λX az aE=>?_;refine Ku (results_cell_tmp D D az Tryz.underlying193 D D) D ?_;refine⟨by unfold cO;rw[ci.out];rfl,aE.below _ _ c b7.1⟩

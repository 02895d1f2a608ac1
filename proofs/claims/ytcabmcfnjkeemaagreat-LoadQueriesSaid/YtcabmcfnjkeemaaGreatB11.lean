import Derived.Test.YtcabmcfnjkeemaaGreatBM00
import Derived.Test.YtcabmcfnjkeemaaGreatB10
set_option maxRecDepth 100000
set_option maxHeartbeats 40000000
set_option linter.unusedVariables false
set_option linter.unusedSimpArgs false
namespace Go.Proofs.YtcabmcfnjkeemaaGreat
open Go.Deep Go.RowKit
open Go renaming World->L,Value->O
open Go.IntKind renaming i64->E
open Go.Obj renaming cells->JO
open Go.RowKit renaming Hid->F,Below->JK
open Go.Value renaming int->C,slice->G,string->H
open Option renaming none->I,some->J
variable{cells cells':Array O}{attr name:ByteArray}{e:ED}{at_ n op sc:Int}{W X i w:L}{cs:List O}{b:Nat}{Q:Nat->Prop}{x:dI}{P a2:fV}
section
variable {g:Nat} {t:TypeId} {v:O} {toks:List dI} {S:fV} {rest:List O}
theorem aI{P:Program}{a9:Code}{Q:Exit->Act->L->Prop}{a:Act}{Φ:L->Prop}(h:Φ W)(k:∀i,Φ i->Code.wp P a9 Q a i):Code.wp P a9 Q a W:=k W h
def yZ (w:L) (g:Nat) (t:TypeId) (v:O) (toks:List dI) (S:fV) (rest:List O) (e:Ending) (w':L):Prop:=
 ∃(x:ED) (cs:List O) (S':fV),e=.returned (.agg cs.toArray)/\iD (λb=>w.heap.size<=b/\b < w'.heap.size) w' cs x/\pR x/\aP x<=2*(S'.i-S.i)+1/\bT w g t v toks S S' rest w'
theorem qw.adG{g:Nat}{w':L}(h:w.grownBy w' (J b)):qw g b w w':=⟨h.os,h.tape,h.output,h.size,λa0 o _ ac=>h.block a0 o λa7=>ac Zj⟩
theorem bT.qO{q:fV}(h:bT w g t v toks S q rest W)(ag:aU b W X)(d:w.heap.size<=b)(c6:g < b):bT w g t v toks S q rest X:=
 ⟨h.st.mv (qw.adG ag.grown) c6 (ag.blk g _ _ N h.st.blk),qw.grown h.grown (qw.adG ag.grown) d,h.le⟩
theorem iE{q:fV}{R:Nat}{x:ED}(ag:aU R W X)(ai:bT w g t v toks S q rest W)(f:w.heap.size<=R)(e:g < R)(a1:iD (λb=>R < b/\b < W.heap.size) W cs x)(p:pR x)(V:aP x<=2*(q.i-S.i)+1): yZ w g t v toks S rest (.returned (.agg cs.toArray)) X:=
 ⟨x,cs,q,D,a1.keep (ag.keep _ λb d=>N) λb d=>⟨N,by rw[ag.size];exact d.2⟩,p,V,ai.qO ag f e⟩
theorem iD.nil(bN:ExW op n sc at_ name attr):iD Q w [C E op,G I 0 0,C E n,C E sc,H name,H attr,C E at_] (.mk op [] n sc name attr at_):=
 .mk op n sc at_ name attr [] I 0 [] bN c Z D (λh=>absurd h Z) λa3 bj aa h=>by simp at h
theorem pR.nil(h:op≠13):pR (.mk op [] n sc name attr at_):=.mk _ _ _ _ _ _ _ (λa7=>absurd a7 h) λa aJ=>by cases aJ
theorem jc(m:Nat):aP (.mk op [] n sc name attr at_)<=2*m+1:=by rw[aY];simp
def zE:Array O:=#[C E 0,G I 0 0,C E 0,C E 0,H ⟨#[]⟩,H ⟨#[]⟩,C E 0]
structure oP (w:L) (g:Nat) (t:TypeId) (v:O) (toks:List dI) (S S':fV) (rest:List O) (tb xb:Nat) (x:dI) (cells:Array O) (W:L):Prop where
 out:bT w g t v toks S S' rest W
 res:aj W w.heap.size 139 zE
 tok:aj W tb 123 (tokA x)
 box:aj W xb 139 cells
 ord:w.heap.size < tb/\tb < xb/\g < w.heap.size
theorem oP.more{au:Nat}(h:oP w g t v toks S P rest au b x cells W)(k:bT W g t v toks P a2 rest i):oP w g t v toks S a2 rest au b x cells i:=
 ⟨h.out.trans k,h.res.grown k.grown XC,h.tok.grown k.grown XC,h.box.grown k.grown XC,h.ord⟩
theorem oP.jd{au k:Nat}(h:oP w g t v toks S P rest au b x cells W)(u:O)(aw:cells.setIfInBounds k u=cells'):oP w g t v toks S P rest au b x cells' (W.setCell ⟨b,k,I⟩ u):=
 ⟨h.out.box Yy Yy u,h.res.far (p:=⟨b,k,I⟩) Xf u,h.tok.far (p:=⟨b,k,I⟩) Xf u,Xm,h.ord⟩
theorem oP.acT{au:Nat}(h:oP w g t v toks S P rest au b x cells W)(ag:aU b W X)(az:aj X b 139 cells'):oP w g t v toks S P rest au b x cells' X:=
 ⟨h.out.qO ag Yy Yy,ag.blk _ _ _ Yy h.res,ag.blk _ _ _ Yy h.tok,az,h.ord⟩
theorem oP.drew{au:Nat}(h:oP w g t v toks S P rest au b x cells W):oP w g t v toks S P rest au b x cells W.drew:=
 h.more (bT.of_below h.out.st (JY.drew))
theorem oP.rH{au n:Nat}(h:oP w g t v toks S P rest au b x cells W)(V:n < toks.length)(ao:P.i<=n):oP w g t v toks S {P with i:=n} rest au b x cells (W.setCell ⟨g,1,I⟩ (C E n)):=
 h.more ⟨h.out.st.rH V,grownBy_set _ _ _ _,ao⟩
theorem oP.inc{au:Nat}(h:oP w g t v toks S P rest au b x cells W)(V:P.i+1 < toks.length):oP w g t v toks S {P with i:=P.i+1} rest au b x cells (W.setCell ⟨g,1,I⟩ (C E ((P.i:Int)+1))):=
 h.rH (n:=P.i+1) V (Ld _)
theorem oP.qO{au:Nat}(h:oP w g t v toks S P rest au b x cells W)(n:Int):oP w g t v toks S {P with op:=n} rest au b x cells (W.setCell ⟨g,2,I⟩ (C E n)):=
 h.more ⟨h.out.st.qO n,grownBy_set _ _ _ _,KD _⟩
theorem oP.agg{au:Nat}{nm at_:ByteArray}{a:Int}(h:oP w g t v toks S P rest au b x (Jb 0 ⟨#[]⟩ ⟨#[]⟩ a) W)(k:rJ W g t v toks P a2 rest b op nm at_ a i):oP w g t v toks S a2 rest au b x (Jb op nm at_ a) i where
 out:=⟨k.st,qw.grown h.out.grown k.mv Yy,Ko h.out.le k.le⟩
 res:=(k.mv.block _ h.res.lt Yy Yy).trans h.res
 tok:=(k.mv.block _ h.tok.lt Yy Yy).trans h.tok
 box:=k.box
 ord:=h.ord
theorem iD.bound{x:ED}(h:iD Q w cs x):iD (λb=>Q b/\b < w.heap.size) w cs x:=by
 induction h with
 |mk e M bQ ar bq bF b8 Y a9 cA bN aw bL a' ag aS bf=>refine .mk e M bQ ar bq bF b8 Y a9 cA bN aw bL a' (λbw=>?_) bf;obtain⟨b,b5,o,a8,ac⟩:=ag bw;have e5:cA[0]? =J (cA[0]' N):=Kr _;have d8:=(aS 0 _ _ e5 (Kr bw)).len;have b':=ac 0 _ e5 0 _ (Kr N);exact⟨b,b5,o,⟨a8,ay b'⟩,ac⟩
structure zy (w:L) (g:Nat) (t:TypeId) (v:O) (toks:List dI) (S S':fV) (rest:List O) (tb xb:Nat) (x:dI) (cells:Array O) (cs:List O) (e:ED) (W:L):Prop where
 st:oP w g t v toks S S' rest tb xb x cells W
 ex:iD (λb=>xb < b) W cs e
theorem zy.more{au:Nat}(h:zy w g t v toks S P rest au b x cells cs e W)(k:bT W g t v toks P a2 rest i):zy w g t v toks S a2 rest au b x cells cs e i:=
 ⟨h.st.more k,h.ex.keep (aF.aS k.grown λy d=>by have:=h.st.ord;simp;omega) λ_ h=>h⟩
theorem zy.qO{au:Nat}(h:zy w g t v toks S P rest au b x cells cs e W)(n:Int):zy w g t v toks S {P with op:=n} rest au b x cells cs e (W.setCell ⟨g,2,I⟩ (C E n)):=
 h.more ⟨h.st.out.st.qO n,grownBy_set _ _ _ _,KD _⟩
theorem zy.acT{au:Nat}(h:zy w g t v toks S P rest au b x cells cs e W)(ag:aU b W X)(az:aj X b 139 cells'):zy w g t v toks S P rest au b x cells' cs e X:=
 ⟨h.st.acT ag az,h.ex.keep (ag.keep _ λy d=>N) λ_ h=>h⟩
theorem zy.jd{au k:Nat}(h:zy w g t v toks S P rest au b x cells cs e W)(u:O)(aw:cells.setIfInBounds k u=cells'):zy w g t v toks S P rest au b x cells' cs e (W.setCell ⟨b,k,I⟩ u):=
 ⟨h.st.jd u aw,h.ex.keep ((aU.one W b k u).keep _ λy d=>N) λ_ h=>h⟩
theorem sD(h:iD Q w cs e)(a1:Q w.heap.size):aX Q 7 (iD Q) (w.alloc (JO cs.toArray 139)) (G (J ⟨w.heap.size,0,I⟩) 1 1) [e]:=by refine⟨J ⟨w.heap.size,0,I⟩,1,D,KD _,Z,λ_=>⟨w.heap.size,0,D,a1,λa3 aa ad=>?_⟩⟩;have aR:=(KA.1 ad).1;have:a3=0:=YZ;subst this;simp at ad;subst ad;refine⟨cs,h.len,h.keep (λaT u _ ai=>(Nz w _ aT (ay ai)).trans ai) λ_ h=>h,λa4 u ap=>?_⟩;have:=(aj.new w 139 cs.toArray).cell a4;simpa using this.trans (by simpa using ap)
theorem adw(h:eP w g t v toks S rest)(dF:∀(W:L) (P:fV),S.i < P.i->eP W g t v toks P rest->Calls Tryz.prog 93 #[.pointer (J ⟨g,0,I⟩),C E 1] W (yZ W g t v toks P rest)): Calls Tryz.prog 107 #[.pointer (J ⟨g,0,I⟩)] w (yZ w g t v toks S rest):=by
 have cB:=A (λW S (h:eP W g t v toks S rest)=>uM h);have dj:=TB;have aQ:=A (λW S (h:eP W g t v toks S rest) ba=>qJ h ba);have dq:=A (λW S (h:eP W g t v toks S rest)=>Bh h);have M:=A (λW S (h:eP W g t v toks S rest) bL=>Ey h bL);have bG:=A (λW S y a (h:eP W g t v toks S rest) d ab=>Dn (b:=y) (a:=a) h d ab);have dX:=A dF;have ds:=A h.blk.lt;obtain⟨an,bk⟩:∃an,an=w.alloc (JO zE 139):=⟨_,D⟩;have aC:=QY;have cZ:=A (show aj an w.heap.size 139 zE by rw[bk];exact aj.new _ _ _);have b1:=A (bT.of_below h aC);clear h dF;unfold zE at bk;go_in;go_upto_region 1 with fail;rw[<-bk];clear bk;go_wp2_with fail;refine(cB _ _ b1.st).mono ?_;rintro a7 ce ⟨aa,rfl,ad,bN,d⟩;unfold tokA;have q:=A (Kt ad bN);obtain⟨bf,a4⟩:∃bf,bf=(ce.alloc (JO #[C E aa.kind,H aa.text,C E aa.n,C E aa.scale,C E aa.at_] 123)).alloc (JO #[C E 0,G I 0 0,C E 0,C E 0,H ⟨#[]⟩,H ⟨#[]⟩,C E aa.at_] 139):=⟨_,D⟩;have dh:=A (show oP w g t v toks S S rest ce.heap.size (ce.heap.size+1) aa (Jb 0 ⟨#[]⟩ ⟨#[]⟩ aa.at_) bf by
  have cG:JK an.heap.size an bf:=by rw[a4];exact(d.alloc d.size _).alloc Xo _
  have dE:=cZ.lt;have d6:=d.size;refine⟨b1.below cG,cZ.below cG dE,by rw[a4];exact(aj.new ce _ _).alloc _,?_,N,N,ds.out⟩;rw[a4];have:=aj.new (ce.alloc (JO #[C E aa.kind,H aa.text,C E aa.n,C E aa.scale,C E aa.at_] 123)) 139 #[C E 0,G I 0 0,C E 0,C E 0,H ⟨#[]⟩,H ⟨#[]⟩,C E aa.at_];rw[KE] at this;exact this)
 clear ad bN d;go_upto_region 4 with fail;rw[<-a4];clear a4;obtain⟨cl,t1,d5,b8,aB⟩:=jO dh.tok;obtain⟨al,am,ax,aW,T,bi,bM,a5,a6,aq,aZ,aO,be,bI⟩:=aK dh.box;have cu:=b1.st.idxs;have e1:(0:Int)<=(S.i:Int):=N;rcases a':(aa.kind== 3) with _|_
 ·rcases aX:(aa.kind== 4) with _|_
  ·rcases b7:(aa.kind== 5) with _|_
   ·rcases d':(aa.kind== 2) with _|_
    ·go_upto_region 16 with fail;clear cl t1 d5 b8 aB al am ax aW T bi bM a5 a6 aq aZ aO be bI;go_wp2_with fail;refine(dj _ _ dh.out.out.st _).mono ?_;rintro a7 av ⟨bE,rfl,m,d⟩;have ag:=A (dh.more (bT.of_below dh.out.out.st d));have dv:=A m;clear m d;rcases bE with _|_
     ·go_wp2_with fail;refine(dj _ _ ag.out.out.st _).mono ?_;rintro a7 bt ⟨aN,rfl,m,d⟩;have bF:=A (ag.more (bT.of_below ag.out.out.st d));have d3:=A m;clear m d;rcases aN with _|_
      ·go_wp2_with fail;refine(dj _ _ bF.out.out.st _).mono ?_;rintro a7 cU ⟨c2,rfl,m,d⟩;have bp:=A (bF.more (bT.of_below bF.out.out.st d));have dR:=A m;clear m d;rcases c2 with _|_
       ·go_wp2_with fail;refine(dj _ _ bp.out.out.st _).mono ?_;rintro a7 da ⟨bl,rfl,m,d⟩;have bm:=A (bp.more (bT.of_below bp.out.out.st d));have d2:=A m;clear m d;rcases bl with _|_
        ·go_wp2_with fail;refine(dj _ _ bm.out.out.st _).mono ?_;rintro a7 cK ⟨dN,rfl,m,d⟩;have ex:=A (bm.more (bT.of_below bm.out.out.st d));have c4:=A m;clear m d;rcases dN with _|_
         ·go_wp2_with fail;refine(bG _ _ _ _ ex.out.out.st ex.box (by have:=ex.ord;omega)).mono ?_;rintro a7 bZ ⟨rfl,b',e,cH,ar,br⟩;have bb:=A (ex.agg br);have b3:=A (Kt br.op br.nm);clear br;obtain⟨al,am,ax,aW,T,bi,bM,a5,a6,aq,aZ,aO,be,bI⟩:=aK bb.box;obtain⟨cp,cf,cb,c7,b9,cM,cm,cF,cz,cP,d1,dd,d9,dp⟩:=aK bb.res;go_wp2_with fail;refine post7 bb.res D λX az aE=>?_;refine Uf ?_;exact iE aE bb.out.out c bb.ord.2.2 (iD.nil ⟨aA (by have:=b3.1;omega) (by have:=b3.1;omega),bP,bP,q.2.2.2.2.2,b3.2.1,b3.2.2⟩) (pR.nil b3.1.2.2) (jc _)
         have bH:=A (c4 Yu);obtain⟨al,am,ax,aW,T,bi,bM,a5,a6,aq,aZ,aO,be,bI⟩:=aK ex.box;go_upto_region 28 with fail;refine aI (Φ:=oP w g t v toks S _ rest _ _ aa #[C E 16,G I 0 0,C E 0,C E 0,H ⟨#[]⟩,H ⟨#[]⟩,C E aa.at_]) (ex.jd (k:=0) (cells':=#[C E 16,G I 0 0,C E 0,C E 0,H ⟨#[]⟩,H ⟨#[]⟩,C E aa.at_]) (C E 16) D) ?_;exact NU
        have bH:=A (d2 Yu);obtain⟨al,am,ax,aW,T,bi,bM,a5,a6,aq,aZ,aO,be,bI⟩:=aK bm.box;go_upto_region 28 with fail;refine aI (Φ:=oP w g t v toks S _ rest _ _ aa #[C E 16,G I 0 0,C E 0,C E 0,H ⟨#[]⟩,H ⟨#[]⟩,C E aa.at_]) (bm.jd (k:=0) (cells':=#[C E 16,G I 0 0,C E 0,C E 0,H ⟨#[]⟩,H ⟨#[]⟩,C E aa.at_]) (C E 16) D) ?_;exact NU
       have bH:=A (dR Yu);obtain⟨al,am,ax,aW,T,bi,bM,a5,a6,aq,aZ,aO,be,bI⟩:=aK bp.box;go_upto_region 23 with fail;refine aI (Φ:=oP w g t v toks S _ rest _ _ aa #[C E 22,G I 0 0,C E 0,C E 0,H ⟨#[]⟩,H ⟨#[]⟩,C E aa.at_]) (bp.jd (k:=0) (cells':=#[C E 22,G I 0 0,C E 0,C E 0,H ⟨#[]⟩,H ⟨#[]⟩,C E aa.at_]) (C E 22) D) ?_;exact Oe
      have bH:=A (d3 Yu);obtain⟨al,am,ax,aW,T,bi,bM,a5,a6,aq,aZ,aO,be,bI⟩:=aK bF.box;go_upto_region 23 with fail;refine aI (Φ:=oP w g t v toks S _ rest _ _ aa #[C E 22,G I 0 0,C E 0,C E 0,H ⟨#[]⟩,H ⟨#[]⟩,C E aa.at_]) (bF.jd (k:=0) (cells':=#[C E 22,G I 0 0,C E 0,C E 0,H ⟨#[]⟩,H ⟨#[]⟩,C E aa.at_]) (C E 22) D) ?_;exact Oe
     have bH:=A (dv Yu);go_wp2_with fail;refine(M _ _ ag.out.out.st bH).mono ?_;rintro a7 bh ⟨a3,aS,rfl,-,ai,aR⟩;have B:=A (ag.more ai);have s:F (S.i < aS.i):=A (by rw[aR];exact KP _);have bo:=A aR;clear ai aR;go_wp2_with fail;refine(dX _ _ (by first|exact s|exact Kv s HI2) B.out.out.st).mono ?_;rintro a7 j ⟨ak,bj,bv,rfl,a1,p,V,ai⟩;have n:=A (B.more ai);have bB:=A (Kt a1 (Kt p (Kt V ai.le)));clear a1 p V ai;obtain⟨ca,c8,bD,dc,cV,bW,aw⟩:=ak;obtain⟨dg,rfl,⟨Y,a9,rfl,-⟩,-⟩:=bB.1.opened;have bn:=A (bB.1.keep (λ_ _ _ h=>h) (Q':=λy=>ce.heap.size+1 < y) λy d=>by have:=B.box.lt;omega);obtain⟨al,am,ax,aW,T,bi,bM,a5,a6,aq,aZ,aO,be,bI⟩:=aK n.box;go_upto_region 19 with fail;refine aI (Φ:=zy w g t v toks S _ rest _ _ aa #[C E ca,G Y c8.length a9,C E bD,C E dc,H cV,H bW,C E aw] [C E ca,G Y c8.length a9,C E bD,C E dc,H cV,H bW,C E aw] (.mk ca c8 bD dc cV bW aw)) (zy.acT ⟨n,bn.out⟩ (jQ n.box D _ _ _ _ _ _ _).2 (jQ n.box D _ _ _ _ _ _ _).1) ?_;intro c0 bR;have bS:=A bR;clear bR al am ax aW T bi bM a5 a6 aq aZ aO be bI;go_wp2_with fail;refine(aQ _ _ bS.st.out.st _).mono ?_;rintro a7 bq ⟨rfl,bs,ai⟩;have x:=A (bS.more ai);have a2:=A ai.le;clear ai;obtain⟨b0,aL,ao,b2,bu,R,bd,bO,bY,cd⟩:=x.st.out.st.cells;go_upto_region 35 with fail;refine aI (Φ:=zy w g t v toks S _ rest _ _ aa _ _ _) (x.qO _) ?_;intro c1 bU;have b5:=A bU;clear bU b0 aL ao b2 bu R bd bO bY cd;obtain⟨al,am,ax,aW,T,bi,bM,a5,a6,aq,aZ,aO,be,bI⟩:=aK b5.st.box;obtain⟨cp,cf,cb,c7,b9,cM,cm,cF,cz,cP,d1,dd,d9,dp⟩:=aK b5.st.res;go_wp2_with fail;refine post7 b5.st.res D λX az aE=>?_;refine Uf ?_;exact iE aE b5.st.out c b5.st.ord.2.2 (b5.ex.bound.keep (λ_ _ _ h=>h) λy d=>⟨by have:=b5.st.ord;omega,d.2⟩) (bB.2.1) (by have o:=bB.2.2.1;have a8:=s.out;have ac:=a2.out;have bz:=bB.2.2.2;simp only;omega)
    have bH:=A (b1.st.ok.more q.1 (by rw[show aa.kind=2 by simpa using d'];decide));go_upto_region 15 with fail;refine aI (Φ:=oP w g t v toks S _ rest _ _ aa #[C E 24,G I 0 0,C E 0,C E 0,H ⟨#[]⟩,H ⟨#[]⟩,C E aa.at_]) (dh.jd (k:=0) (cells':=#[C E 24,G I 0 0,C E 0,C E 0,H ⟨#[]⟩,H ⟨#[]⟩,C E aa.at_]) (C E 24) D) ?_;intro e8 aP;have ag:=A aP;clear aP cl t1 d5 b8 aB al am ax aW T bi bM a5 a6 aq aZ aO be bI;go_wp2_with fail;refine(dq _ _ ag.out.out.st).mono ?_;rintro a7 bt ⟨i,aw,rfl,dE,d6,l,a0⟩;have bF:=A (ag.more a0);have dA:=A (Kt dE d6);clear a0 dE d6;obtain⟨al,am,ax,aW,T,bi,bM,a5,a6,aq,aZ,aO,be,bI⟩:=aK bF.box;go_upto_region 35 with fail;refine aI (Φ:=oP w g t v toks S _ rest _ _ aa #[C E 24,G I 0 0,C E 0,C E 0,H i,H aw,C E aa.at_]) ((bF.jd (k:=4) (cells':=#[C E 24,G I 0 0,C E 0,C E 0,H i,H ⟨#[]⟩,C E aa.at_]) (H i) D).jd (k:=5) (cells':=#[C E 24,G I 0 0,C E 0,C E 0,H i,H aw,C E aa.at_]) (H aw) D) ?_;intro eC bw;have bp:=A bw;clear bw al am ax aW T bi bM a5 a6 aq aZ aO be bI;obtain⟨al,am,ax,aW,T,bi,bM,a5,a6,aq,aZ,aO,be,bI⟩:=aK bp.box;obtain⟨cp,cf,cb,c7,b9,cM,cm,cF,cz,cP,d1,dd,d9,dp⟩:=aK bp.res;go_wp2_with fail;refine post7 bp.res D λX az aE=>?_;refine Uf ?_;exact iE aE bp.out.out c bp.ord.2.2 (iD.nil ⟨aA Z Z,bP,bP,q.2.2.2.2.2,dA.1,dA.2⟩) (pR.nil Z) (jc _)
   have bH:=A (b1.st.ok.more q.1 (by rw[show aa.kind=5 by simpa using b7];decide));go_upto_region 11 with fail;go_region;go_upto_region 12 with fail;refine aI (Φ:=oP w g t v toks S _ rest _ _ aa #[C E 23,G I 0 0,C E 0,C E 0,H aa.text,H ⟨#[]⟩,C E aa.at_]) (((dh.jd (k:=0) (cells':=#[C E 23,G I 0 0,C E 0,C E 0,H ⟨#[]⟩,H ⟨#[]⟩,C E aa.at_]) (C E 23) D).jd (k:=4) (cells':=#[C E 23,G I 0 0,C E 0,C E 0,H aa.text,H ⟨#[]⟩,C E aa.at_]) (H aa.text) D).drew) ?_;intro e8 aP;have ag:=A aP;clear aP cl t1 d5 b8 aB al am ax aW T bi bM a5 a6 aq aZ aO be bI;obtain⟨b0,aL,ao,b2,bu,R,bd,bO,bY,cd⟩:=ag.out.out.st.cells;go_upto_region 35 with fail;refine UU ?_;intro eK aT;have bF:=A aT;clear aT b0 aL ao b2 bu R bd bO bY cd;obtain⟨al,am,ax,aW,T,bi,bM,a5,a6,aq,aZ,aO,be,bI⟩:=aK bF.box;obtain⟨cp,cf,cb,c7,b9,cM,cm,cF,cz,cP,d1,dd,d9,dp⟩:=aK bF.res;go_wp2_with fail;refine post7 bF.res D λX az aE=>?_;refine Uf ?_;exact iE aE bF.out.out c bF.ord.2.2 (iD.nil ⟨aA Z Z,bP,bP,q.2.2.2.2.2,q.2.2.1,Z⟩) (pR.nil Z) (jc _)
  have bH:=A (b1.st.ok.more q.1 (by rw[show aa.kind=4 by simpa using aX];decide));go_upto_region 8 with fail;go_region;go_upto_region 9 with fail;refine aI (Φ:=oP w g t v toks S _ rest _ _ aa #[C E 21,G I 0 0,C E aa.n,C E aa.scale,H ⟨#[]⟩,H ⟨#[]⟩,C E aa.at_]) ((((dh.jd (k:=0) (cells':=#[C E 21,G I 0 0,C E 0,C E 0,H ⟨#[]⟩,H ⟨#[]⟩,C E aa.at_]) (C E 21) D).jd (k:=2) (cells':=#[C E 21,G I 0 0,C E aa.n,C E 0,H ⟨#[]⟩,H ⟨#[]⟩,C E aa.at_]) (C E aa.n) D).jd (k:=3) (cells':=#[C E 21,G I 0 0,C E aa.n,C E aa.scale,H ⟨#[]⟩,H ⟨#[]⟩,C E aa.at_]) (C E aa.scale) D).drew) ?_;intro e8 aP;have ag:=A aP;clear aP cl t1 d5 b8 aB al am ax aW T bi bM a5 a6 aq aZ aO be bI;obtain⟨b0,aL,ao,b2,bu,R,bd,bO,bY,cd⟩:=ag.out.out.st.cells;go_upto_region 35 with fail;refine UU ?_;intro eK aT;have bF:=A aT;clear aT b0 aL ao b2 bu R bd bO bY cd;obtain⟨al,am,ax,aW,T,bi,bM,a5,a6,aq,aZ,aO,be,bI⟩:=aK bF.box;obtain⟨cp,cf,cb,c7,b9,cM,cm,cF,cz,cP,d1,dd,d9,dp⟩:=aK bF.res;go_wp2_with fail;refine post7 bF.res D λX az aE=>?_;refine Uf ?_;exact iE aE bF.out.out c bF.ord.2.2 (iD.nil ⟨aA Z Z,q.2.2.2.1,q.2.2.2.2.1,q.2.2.2.2.2,Z,Z⟩) (pR.nil Z) (jc _)
 have bH:=A (b1.st.ok.more q.1 (by rw[show aa.kind=3 by simpa using a'];decide));go_upto_region 5 with fail;go_region;go_upto_region 6 with fail;refine aI (Φ:=oP w g t v toks S _ rest _ _ aa #[C E 20,G I 0 0,C E aa.n,C E 0,H ⟨#[]⟩,H ⟨#[]⟩,C E aa.at_]) (((dh.jd (k:=0) (cells':=#[C E 20,G I 0 0,C E 0,C E 0,H ⟨#[]⟩,H ⟨#[]⟩,C E aa.at_]) (C E 20) D).jd (k:=2) (cells':=#[C E 20,G I 0 0,C E aa.n,C E 0,H ⟨#[]⟩,H ⟨#[]⟩,C E aa.at_]) (C E aa.n) D).drew) ?_;intro e8 aP;have ag:=A aP;clear aP cl t1 d5 b8 aB al am ax aW T bi bM a5 a6 aq aZ aO be bI;obtain⟨b0,aL,ao,b2,bu,R,bd,bO,bY,cd⟩:=ag.out.out.st.cells;go_upto_region 35 with fail;refine UU ?_;intro eK aT;have bF:=A aT;clear aT b0 aL ao b2 bu R bd bO bY cd;obtain⟨al,am,ax,aW,T,bi,bM,a5,a6,aq,aZ,aO,be,bI⟩:=aK bF.box;obtain⟨cp,cf,cb,c7,b9,cM,cm,cF,cz,cP,d1,dd,d9,dp⟩:=aK bF.res;go_wp2_with fail;refine post7 bF.res D λX az aE=>?_;refine Uf ?_;exact iE aE bF.out.out c bF.ord.2.2 (iD.nil ⟨aA Z Z,q.2.2.2.1,bP,q.2.2.2.2.2,Z,Z⟩) (pR.nil Z) (jc _)
end

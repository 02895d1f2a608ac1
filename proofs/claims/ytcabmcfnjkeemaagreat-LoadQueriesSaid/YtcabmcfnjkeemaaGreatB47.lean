import Derived.Test.YtcabmcfnjkeemaaGreatBM00
import Derived.Test.YtcabmcfnjkeemaaGreatB46
set_option maxRecDepth 100000
set_option maxHeartbeats 40000000
set_option linter.unusedVariables false
set_option linter.unusedSimpArgs false
namespace Go.Proofs.YtcabmcfnjkeemaaGreat
open Go.Deep Go.RowKit
open Go renaming World->L,Value->O
open Go.IntKind renaming i64->E,u64->JL
open Go.Obj renaming cells->JO
open Go.RowKit renaming Hid->F,Below->JK
open Go.Value renaming int->C,slice->G,bool->JM
open Option renaming none->I,some->J
attribute [local go_sem ↓] Go.wp_at_zero Go.wp_at_succ
def TiS (kinds:List (List Int)) (p:bD) (r:Nat) (bs obs:List dB):Prop:=bs.length=p.branches.length/\(∀i,r<=i->bs[i]? =p.branches[i]?)/\(∀b∈obs,lu kinds b)/\lS obs<=lS (p.branches.take r)/\obs.length<=r
def TiO (kinds:List (List Int)) (W:L) (p:bD) (B b7:Nat) (Avk:Option Addr) (nvk:Nat) (Avb:Option Addr) (nvb:Nat) (i:O) (wr:L):Prop:=
 ∃(r:Nat) (T:Nat->Tg) (bs obs:List dB) (Ao:Option Addr) (no:Nat),r<=p.branches.length/\i=C E r/\F (oW T B wr (G Avk p.keys.length nvk) (G Avb p.branches.length nvb) {p with branches:=bs})/\F (TiS kinds p r bs obs)/\F ((bV B T wr (W.heap.size+1) 29 #[C E 0,G I 0 0,G I 0 0]/\bV B T wr b7 29 #[C E p.strategy,(G Avk p.keys.length nvk),(G Ao obs.length no)]/\JK W.heap.size W wr)/\Dj B T wr (G Avb p.branches.length nvb) r bs (G Ao obs.length no) obs)
def TiN (W:L) (p:bD) (B b7 b5:Nat) (Avk:Option Addr) (nvk gb nvb r m:Nat) (bid:Int) (P np:Nat) (Ao:Option Addr) (no:Nat) (obs bs:List dB) (q:aO) (end_:Nat) (Ag:Option Addr) (ng:Nat) (kp v i:O) (wr:L):Prop:=
 ∃(j:Nat) (T:Nat->Tg) (keep:Bool) (win:Int) (st:List ND),j<=q.guards.length/\kp=JM keep/\(∃As ns,v=G As st.length ns)/\i=C E j/\F (yN W p B b7 b5 (G Avk p.keys.length nvk) (G (J ⟨gb,0,I⟩) p.branches.length nvb) gb r m bid win (G (J ⟨P,0,I⟩) m np) (G I 0 0) [] T wr bs (G Ao obs.length no) obs)/\
  F (wfi win/\win<=1152921504606846976/\(keep=true->0<=win))/\F (bY T oQ B wr v st/\(∀x∈st,x∈q.guards)/\fU st<=fU (q.guards.take j)/\wr.cell? ⟨P,end_*4+2,I⟩=J (G Ag q.guards.length ng))
theorem wpl_rowE(T:Nat->Tg)(t:Tg)(B:Nat)(v:O)(w:L)(l:List ND)(n:ND)(sO:List O)(a9:Nat)(aN:Array Oper)(rest:List Oper)(bl:Oper)(a:Act)(Q:Exit->Act->L->Prop)(aS:bY T t B w v l)(p:t≠ .nd)(bW:B<=w.heap.size)(r:∀g,w.heap.size<=g->T g=.other)(V:dW (λb=>B<=b/\b < w.heap.size/\T b=.nd) w sO n)(a':l.length<=200000)(cz:bl.guard=I)(s a2:Operand)(br:bl.op=.call {callee:=.builtin .append,args:=#[s,a2],argTypes:=#[74,74]})(ag:a.eval s=v)(ak:a.eval a2=G (J ⟨w.heap.size,0,I⟩) 1 a9)(h:∀cl ch b1,bY (eU T (Value.slice cl (l.length+1) ch).ownBlock t) t B b1 (G cl (l.length+1) ch) (l++[n])->Stp (λg=>T g≠t) B T w (eU T (Value.slice cl (l.length+1) ch).ownBlock t) b1->(∀g,b1.heap.size<=g->eU T (Value.slice cl (l.length+1) ch).ownBlock t g=.other)->wpList Tryz.prog aN Q rest (a.put bl.dst (G cl (l.length+1) ch)) b1):wpList Tryz.prog aN Q (bl :: rest) a (w.alloc (JO sO.toArray 150)):=
 FT aS p bW r V a' cz s a2 br ag ak h
theorem aeM{win x:Int}{P:Prop}(bN:win<=1152921504606846976)(o: -9223372036854775808<=x)(a8:x < win)(ac:P->0<=x):wfi x/\x<=1152921504606846976/\(P->0<=x):=⟨ji.2 ⟨o,by omega⟩,by omega,ac⟩
variable{r:Nat}
theorem afi{B bE P i:Nat}{T:Nat->Tg}{X:L}{v u:O}{aw:List ND}(aS:bY T oQ B X v aw)(b6:T bE=.other)(ag:T P=.pt r)(a':X.cell? ⟨P,i,I⟩=J u)(bW:B<=bE)(x:O):bY T oQ B (X.setCell ⟨bE,1,I⟩ x) v aw/\(X.setCell ⟨bE,1,I⟩ x).cell? ⟨P,i,I⟩=J u:=by
 have bm:P≠bE:=λa7=>by rw[a7,b6] at ag;cases ag
 exact⟨aS.fO ((Stp.dV T (aU.one X bE 1 x) bW).fO (V:=λb9=>b9≠ .other) λae ab a7=>ab (a7▸b6)) (by intro h;cases h) (by intro h;cases h),(KJ (a:=⟨P,i,I⟩) (La _ _ _ _ bm)).trans a'⟩
theorem afr{m:Nat}(h:m<=100):BsU m λt=>t≠oT:=⟨(by intro h;cases h),(by intro h;cases h),λa3 aR M=>⟨(by intro h;cases h),(by intro h;cases h),λa0 _=>(by intro h;injection h with h;omega),λa0 _=>(by intro h;cases h)⟩⟩
variable{kinds:List (List Int)}{p:bD}
theorem aeb{P f j:List dB}(h:TiS kinds p r P j)(a':f.length=P.length)(ag:∀i,i≠r->f[i]? =P[i]?):TiS kinds p (r+1) f j:=
 ⟨a'.trans h.1,λi aR=>(ag i N).trans (h.2.1 i N),h.2.2.1,Ko h.2.2.2.1 (by
  rw[MJ]
  unfold lS
  rw[KX,LD]
  omega),Nat.le_succ_of_le h.2.2.2.2⟩
theorem Iz{P f j:List dB}{b dN:dB}(h:TiS kinds p r P j)(a':f.length=P.length)(ag:∀i,i≠r->f[i]? =P[i]?)(d:p.branches[r]? =J b)(ab:lu kinds dN)(bN:kG dN<=kG b):TiS kinds p (r+1) f (j++[dN]):=by
 refine⟨a'.trans h.1,λi aR=>(ag i N).trans (h.2.1 i N),λa2 ak=>?_,?_,?_⟩
 ·rcases KQ.1 ak with ak|ak
  ·exact h.2.2.1 a2 ak
  rw[KG] at ak;rw[ak];exact ab
 ·rw[IK,pY d];have:=h.2.2.2.1;omega
 rw[KC];have:=h.2.2.2.2;simp;omega
theorem lu.ahD{b:dB}{win:Int}(h:lu kinds b)(bN:0<=win/\win<=1152921504606846976):lu kinds ⟨b.id,win,b.parts⟩:=⟨{h.ok with win:=bN},h.not⟩
theorem FD{Q:Nat->Prop}{W:L}{cs':List O}(h:qU Q W cs' p)(ab:kW kinds p):Calls Tryz.prog 19 #[.agg cs'.toArray] W (IV kinds p W):=by
 have bw:=h;obtain⟨e1,cn,rfl,ah,d,eu⟩:=h;have ah:=aX.out ah (R':=fF) λ_ _ h=>h;obtain⟨dk,dl,rfl,-,-⟩:=ah.slice;obtain⟨cg,cV,rfl,ej,cq,-⟩:=d;have dj:=A ab;have f7:=A eu;have et:p.branches.length<=4:=ab.count;have gm:(0:Int)<=(p.branches.length:Int):=by omega
 obtain⟨an,bk⟩:∃an,an=(W.alloc (JO #[C E p.strategy,G dk p.keys.length dl,G cg p.branches.length cV] 29)).alloc (JO #[C E 0,G I 0 0,G I 0 0] 29):=⟨_,D⟩;have aV:=A (show JK W.heap.size W an/\aj an W.heap.size 29 #[C E p.strategy,G dk p.keys.length dl,G cg p.branches.length cV]/\aj an (W.heap.size+1) 29 #[C E 0,G I 0 0,G I 0 0]/\an.heap.size=W.heap.size+2 by rw[bk];refine⟨(JY.alloc c _).alloc (by simp) _,(aj.new _ _ _).alloc _,?_,by simp⟩;have a8:=aj.new (W.alloc (JO #[C E p.strategy,G dk p.keys.length dl,G cg p.branches.length cV] 29)) 29 #[C E 0,G I 0 0,G I 0 0];rw[KE] at a8;exact a8);have cB:=A (uH (Q:=Q) (W:=an) (p:=p) (qU.DW bw aV.out.1) (Ko ab.keys Z) (Ko ab.count Z) (λy d=>Ko (ab.br y d).ok.len Z) (Ko ab.wt Z));clear ah ab bw eu;go_in;go_upto_region 1 with fail;rw[<-bk];clear bk;obtain⟨al,am,ax,a5,a6,aq⟩:=bf aV.out.2.1;go_upto_region 2 with(go_at_call 44;refine cB.out.mono ?_;rintro a7 r ⟨k,e1,cn,rfl,eW,cG⟩;obtain⟨dV,cy,rfl⟩:=eW.kU.slice;obtain⟨ai,aA,rfl,-⟩:=id eW.keys;have eo:=A eW;have cc:=A cG;clear eW cG);obtain⟨b,bW⟩:∃y,y=an.heap.size:=⟨_,D⟩;rw[<-bW] at eo;have b7:=A (show b=W.heap.size+2 by rw[bW];exact aV.out.2.2.2);have d8:F (W.heap.size<=b):=A (by have:=b7.out;omega);obtain⟨c2,dO⟩:∃y,y=r.heap.size:=⟨_,D⟩;rw[<-dO];refine aI (Φ:=λX=>oW k b X (G ai p.keys.length aA) (G dV p.branches.length cy) {p with branches:=p.branches}/\(bV b k X (W.heap.size+1) 29 #[C E 0,G I 0 0,G I 0 0]/\bV b k X c2 29 #[C E p.strategy,(G ai p.keys.length aA),(G dV p.branches.length cy)]/\JK W.heap.size W X)) (by have cv:JK r.heap.size r (r.alloc (JO #[C E p.strategy,(G ai p.keys.length aA),(G dV p.branches.length cy)] 29)):=JY.alloc c _;refine⟨eo.out.more cv,⟨⟨((aV.out.2.2.1.below cc.out aV.out.2.2.1.lt).alloc _),λh=>by have:=b7.out;omega⟩,⟨dO▸aj.new _ _ _,λ_=>eo.out.fresh _ N⟩,(aV.out.1.trans (cc.out.mono aV.out.1.size)).trans (cv.mono ?_)⟩⟩;have o:=aV.out.1.size;have a8:=cc.out.size;omega) ?_;intro df a8;have bx:=A a8;have dE:F (b<=c2):=A (by rw[dO,bW];exact cc.out.size);clear a8 al am ax a5 a6 aq dO bW eo cc cB aV;obtain⟨R,bd,bO,cI,c1,bT⟩:=bf bx.out.2.2.1.blk;go_upto_region 4 with fail;have g:=A (aU.one df c2 2 (G I 0 0));have dG:F (k c2=.other):=A (bx.out.2.2.1.tag dE.out);have d6:F (∀ae,k ae≠ .other->ae≠c2):=A (λae ab a7=>ab (a7▸dG.out));have dA:=A (Stp.dV k g.out dE.out);refine aI (Φ:=λX=>oW k b X (G ai p.keys.length aA) (G dV p.branches.length cy) {p with branches:=p.branches}/\(bV b k X (W.heap.size+1) 29 #[C E 0,G I 0 0,G I 0 0]/\bV b k X c2 29 #[C E p.strategy,(G ai p.keys.length aA),(G I 0 0)]/\JK W.heap.size W X)) ⟨bx.out.1.bG dA.out d6.out (λae ab=>bx.out.1.fresh ae (by rw[<-g.out.size];exact ab)),bx.out.2.1.far g.out (by have:=dE.out;have:=b7.out;omega),bx.out.2.2.1.set 2 _ D,g.out.below _ _ (by have:=dE.out;have:=d8.out;omega) bx.out.2.2.2⟩ ?_;intro dZ ac;have bb:=A ac;clear ac R bd bO cI c1 bT g dG d6 dA bx;go_wp2_with fail;go_loopw [22] (λa3 wr=>TiO kinds W p b c2 ai aA dV cy a3 wr) (λa3 wr=>p.branches.length-(intOf a3).toNat);case atStart=>exact⟨0,k,p.branches,[],I,0,Kw _,D,A bb.out.1,A ⟨D,λ_ _=>rfl,(λy d=>by cases d),KD _,KD _⟩,A ⟨bb.out.2,Dj.nil _ _ _ _ _ _⟩⟩
 clear bb k;obtain⟨z,k,P,j,cW,cX,aS,rfl,dP,b1,q⟩:=hrel;have ct:(0:Int)<=(z:Int):=by omega
 have cu:(z:Int)<=4:=by omega
 by_cases bA:z < p.branches.length
 ·have c0:(z:Int) < (p.branches.length:Int):=by omega
  obtain⟨y,d⟩:∃y,P[z]? =J y:=⟨_,Kr (by rw[b1.out.1];exact bA)⟩;obtain⟨aQ,a9,dn,af,-,-,-,-,eO,b0,aL,ao,e5,f3,f4⟩:=dP.out.kU.at d;obtain⟨dd,cd,rfl⟩:=e5.slice;injection af with af aD cL;subst af cL;clear aD;have dv:=A d;have eX:=A ao;have ee:=A e5;have Y:=A (show p.branches[z]? =J y by rw[<-b1.out.2.1 z c];exact d);have bX:=A (dj.out.br y (Kz Y.out));have bj:y.parts.length<=8:=bX.out.ok.len;have ew:=A (show wfi y.id/\wfi y.win/\0<=y.win/\y.win<=1152921504606846976 from⟨f3,f4,bX.out.ok.win⟩);obtain⟨b5,f8⟩:∃aa,aa=y.id:=⟨_,D⟩;obtain⟨b8,f9⟩:∃aa,aa=y.win:=⟨_,D⟩;obtain⟨bm,bL⟩:∃aa,aa=y.parts.length:=⟨_,D⟩;rw[<-f8] at b0 ew;rw[<-f9] at aL ew;rw[<-bL] at ao eX ee bj;have bH:=A (Kt bL (Kt f8 f9));obtain⟨bE,cO⟩:∃y,y=wr.heap.size:=⟨_,D⟩;have f5:F (c2 < bE):=A (by rw[cO];exact q.out.1.2.1.blk.lt);clear d e5 f3 f4 f8 f9 bL eO;go_upto_region 7 with fail;rw[<-cO];refine aI (Φ:=λX=>oW k b X (G ai p.keys.length aA) (G (J ⟨aQ,0,I⟩) p.branches.length cy) {p with branches:=P}/\(bV b k X (W.heap.size+1) 29 #[C E 0,G I 0 0,G I 0 0]/\bV b k X c2 29 #[C E p.strategy,(G ai p.keys.length aA),(G cW j.length cX)]/\JK W.heap.size W X)/\bV b k X bE 72 #[C E b5,C E b8,(G dd bm cd)]/\X.cell? ⟨aQ,z*3+2,I⟩=J (G dd bm cd)/\wE k b X z (G dd bm cd) y.parts/\Dj b k X (G (J ⟨aQ,0,I⟩) p.branches.length cy) z P (G cW j.length cX) j) (by have cv:JK wr.heap.size wr (wr.alloc (JO #[C E b5,C E b8,G dd bm cd] 72)):=JY.alloc c _;have ag:=Stp.of_below k cv dP.out.low;exact⟨dP.out.more cv,⟨q.out.1.1.bG ag λ_=>trivial,q.out.1.2.1.bG ag λ_=>trivial,q.out.1.2.2.alloc q.out.1.2.2.size _⟩,⟨cO▸aj.new _ _ _,λ_=>dP.out.fresh _ N⟩,(cv.cell (ay eX.out)).trans eX.out,ee.out.fO (ag.fO (V:=λ_=>True) λ_ _=>trivial) (Ic _ _),q.out.2.bG dP.out.kU ag (λ_ _=>trivial) λ_ _=>trivial⟩) ?_;intro e8 bz;have s:=A bz;clear bz b0 aL ao cO ee;obtain⟨al,am,ax,a5,a6,aq⟩:=bf s.out.2.2.1.blk;have ef:=A (vV b5 b8 s.out.2.2.2.2.1.out (bH.out.1▸bj));go_upto_region 8 with(go_at_call 21;refine ef.out.mono ?_;rintro a7 bt ⟨em,rfl,eq,dx⟩;have fs:=A eq;have d3:=A dx;clear eq dx);obtain⟨bq,eq⟩:∃bq,bq=dh y.parts:=⟨_,D⟩;obtain⟨dY,ch,fe,f0,eM,-⟩:=id fs.out;have eQ:(ints (dh y.parts)).length=bq.length:=by rw[eq];unfold ints;rw[KZ]
  rw[eQ] at fe f0;subst fe;have fV:=A (show IxO b k bt (G dY bq.length ch) bq by have o:=aX.keep fs.out (Q':=λy=>b<=y/\y < bt.heap.size/\k y=.other) (R':=fF) (λ_ _ _ h=>h) (λy d=>⟨Ko s.out.1.low d.1,d.2,s.out.1.fresh y d.1⟩) λ_ _ h=>h;rw[<-eq] at o;exact o);have n:=A (Stp.of_below k d3.out s.out.1.low);have cH:=A (show yN W p b c2 bE (G ai p.keys.length aA) (G (J ⟨aQ,0,I⟩) p.branches.length cy) aQ z bm b5 b8 (G dd bm cd) (G dY bq.length ch) bq k bt P (G cW j.length cX) j from⟨s.out.1.more d3.out,s.out.2.1.1.bG n.out λ_=>trivial,s.out.2.1.2.1.bG n.out λ_=>trivial,s.out.2.1.2.2.trans (d3.out.mono s.out.2.1.2.2.size),s.out.2.2.1.bG n.out λ_=>trivial,fV.out,(d3.out.cell (ay s.out.2.2.2.1)).trans s.out.2.2.2.1,d8.out,D,s.out.2.2.2.2.2.bG s.out.1.kU n.out (λ_ _=>trivial) λ_ _=>trivial⟩);have gi:bq.length<=bm:=by(have o:=mg y.parts y.parts.length;have a8:bq.length=(dH y.parts y.parts.length).length:=by rw[eq];rfl);have ac:=bH.out.1;omega
  have gj:(0:Int)<=(bq.length:Int):=by omega
  have cl:(0:Int)<=(bm:Int):=by omega
  have fY:=A eq;unfold maxLen at eM;clear al am ax a5 a6 aq eq eQ f0 ef fs d3 s fV n dP q eX;obtain⟨al,am,ax,a5,a6,aq⟩:=bf cH.out.br.blk;go_upto_region 10 with fail;go_cut [43] (λbc bn=>∃cx:Bool,bc=JM cx/\F (cx=true->2<=bq.length/\∀m,y.parts[bm-1]? =J m->m.form≠3)/\bt=bn);case first=>
   as_aux_lemma=>
    by_cases a8:2<=bq.length
    ·have ac:(2:Int)<=(bq.length:Int):=by omega
     obtain⟨a7,bS⟩:∃a7,bm=a7+1:=⟨bm-1,by omega⟩;obtain⟨m,a1⟩:∃m,y.parts[a7]? =J m:=⟨_,Kr (by have:=bH.out.1;omega)⟩;obtain⟨aJ,a9,cR,aY,af,-,-,-,-,-,b0,aL,ao,b2,-,-,-,-⟩:=cH.out.part D dv.out a1;injection af with af aD cL;subst af cL;clear aD;have b3:((bm:Int)-1)=(a7:Int):=by omega
     have bh:(0:Int)<=(a7:Int):=by omega
     have ca:(a7:Int) < (bm:Int):=by omega
     have bB:=A (Kt bS a1);clear bS a1;rcases cY:(m.form !=3) with _|_;all_goals go_wp2_with fail
     all_goals go_meet
     ·exact⟨false,D,A (λh=>by cases h),D⟩
     exact⟨true,D,A (λ_=>⟨a8,λf fA=>by rw[show bm-1=a7 by have:=bB.out.1;omega,bB.out.2] at fA;injection fA with fA;subst fA;simpa using cY⟩),D⟩
    have ac:(bq.length:Int) < (2:Int):=by omega
    go_wp2_with fail;go_meet;exact⟨false,D,A (λh=>by cases h),D⟩
  case rest=>
  obtain⟨cx,rfl,dQ,rfl⟩:=hcut;clear al am ax a5 a6 aq;rcases cx with _|_
  ·have n:=dv;have av:=A (show P.length=P.length/\∀a3,a3≠z->P[a3]? =P[a3]? from⟨D,λ_ _=>rfl⟩);have eD:=A ew.out.2.1;have fj:=A (show lu kinds (⟨b5,b8,y.parts⟩:dB) by rw[bH.out.2.1,bH.out.2.2];exact bX.out);have eL:=A (KD (kG y));have bU:F (j.length<=4):=A (by have:=b1.out.2.2.2.2;omega);obtain⟨⟨ck,fm,fp⟩,ey⟩:=cH.out.ou;have dJ:=A (Kt fm (Kt fp ey));clear fm fp ey;have e4:=A (show OuE bt (G (J ⟨aQ,0,I⟩) p.branches.length cy) (z+1) P [C E b5,C E b8,(G dd bm cd)] (⟨b5,b8,y.parts⟩:dB) from⟨aQ,z,y,(G dd bm cd),D,by omega,n.out,cH.out.Dp,D,D,ew.out.1,eD.out⟩);obtain⟨al,am,ax,a5,a6,aq⟩:=bf cH.out.br.blk;obtain⟨cp,cf,cb,cI,c1,bT⟩:=bf cH.out.out.blk;go_upto_region 31 with(at_builtin;go_loud (refine fE zT oG D _ _ D dJ.out.1 cH.out.pl.low (cs:=[C E b5,C E b8,(G dd bm cd)]) (x:=(⟨b5,b8,y.parts⟩:dB)) D ⟨_,_,_,D⟩ (by intro u ap;simp only[List.mem_cons,List.not_mem_nil,or_false] at ap;rcases ap with rfl|rfl|rfl <;> rfl) (by have:=bU.out;omega) (by have:=bU.out;unfold maxLen;omega) D D ?_;intro cD d0 cK cN d5 c8;have aT:=A (Dj.snoc dJ.out.1 dJ.out.2.1 dJ.out.2.2 cH.out.pl.kU cH.out.pl.fresh cH.out.pl.low cN d5 (λae ab=>(c8 ae ab).imp id KI) e4.out);clear cN d5 c8;have c':=(cH.out.out.bG aT.out.2.1 (λh a7=>by rw[cH.out.out.tag h] at a7;cases a7)).blk.frozen 2;have d7:=(cH.out.out.bG aT.out.2.1 (λh a7=>by rw[cH.out.out.tag h] at a7;cases a7)).blk.cell 2));obtain⟨bJ,ea⟩:∃b9,b9=eU k (Value.slice cD (j.length+1) d0).ownBlock oT:=⟨_,D⟩;rw[<-ea] at aT;have eF:=A (cH.out.pl.aeZ aT.out.2.1.bel (aT.out.2.1.fO (V:=λb9=>b9≠oT) λ_ h=>h) (afr (by show(P).length<=100;rw[av.out.1];rw[b1.out.1];omega)) aT.out.2.2);have di:=A (show(bV b bJ cK (W.heap.size+1) 29 #[C E 0,G I 0 0,G I 0 0]/\bV b bJ cK c2 29 #[C E p.strategy,(G ai p.keys.length aA),(G cW j.length cX)]/\JK W.heap.size W cK) from⟨cH.out.res.bG aT.out.2.1 (λh a7=>by rw[cH.out.res.tag h] at a7;cases a7),cH.out.out.bG aT.out.2.1 (λh a7=>by rw[cH.out.out.tag h] at a7;cases a7),cH.out.bel.trans (aT.out.2.1.bel.mono d8.out)⟩);have g:=A (aU.one cK c2 2 (G cD (j.length+1) d0));have dA:=A (Stp.dV bJ g.out dE.out);have dG:F (bJ c2=.other):=A (di.out.2.1.tag dE.out);have d6:F (∀ae,bJ ae≠ .other->ae≠c2):=A (λae ab a7=>ab (a7▸dG.out));clear ea c' d7 al am ax a5 a6 aq cp cf cb cI c1 bT;as_aux_lemma=>go_wp2_with fail;exact⟨⟨z+1,bJ,P,j++[(⟨b5,b8,y.parts⟩:dB)],cD,d0,by omega,by go_num,A (eF.out.bG dA.out d6.out (λae ab=>eF.out.fresh ae (by rw[<-g.out.size];exact ab))),A (Iz b1.out av.out.1 av.out.2 Y.out fj.out eL.out),A (by rw[KC];exact⟨⟨di.out.1.far g.out (by have:=dE.out;have:=b7.out;omega),di.out.2.1.set 2 _ D,g.out.below _ _ (by have:=dE.out;have:=d8.out;omega) di.out.2.2⟩,aT.out.1.bG eF.out.kU dA.out (λae ab=>d6.out ae (by rw[ab];exact En.1)) λae ab=>d6.out ae (by rw[ab];intro h;cases h)⟩)⟩,by simp[intOf];omega⟩
  obtain⟨a8,ac⟩:=dQ.out D;obtain⟨a7,bS⟩:∃a7,bm=a7+1:=⟨bm-1,by omega⟩;obtain⟨m,a1⟩:∃m,y.parts[a7]? =J m:=⟨_,Kr (by have:=bH.out.1;omega)⟩;have fk:=A (ac m (by rw[show bm-1=a7 by omega];exact a1));obtain⟨aJ,a9,cR,aY,af,-,-,eR,eS,eT,-,-,ao,-,cz,-,ed,eO⟩:=cH.out.part D dv.out a1;injection af with af aD cL;subst af cL;clear aD;obtain⟨bu,bP,rfl⟩:=cz.slice;obtain⟨c7,c8⟩:∃a,bq[0]? =J a:=⟨_,Kr N⟩;have eN:=jI y.parts y.parts.length 0 c7 (by have:=fY.out;unfold dh at this;rw[<-this];exact c8);obtain⟨cF,t⟩:∃m,y.parts[c7]? =J m:=⟨_,Kr eN.1⟩;obtain⟨fH,a9,cR,aY,af,-,-,-,-,-,gn,-,-,-,-,-,-,-⟩:=cH.out.part D dv.out t;injection af with af aD cL;injection af with af;injection af with af;subst af;clear aD cL;obtain⟨bN,e',dL,af,-,-,-,g4,-,fo,el⟩:=(aX.out cH.out.ix λ_ _ h=>h).get (i:=0) (x:=(c7:Int)) (by unfold ints;rw[Le,c8];rfl);injection af with af aD cL;subst af cL;clear aD;obtain⟨rfl,-⟩:=fo;have es:=el 0 _ D;simp only[Nat.add_zero,Nat.zero_mul] at es;have gb:c7 < bm:=by have:=bH.out.1;have:=eN.1;omega
  have b3:(0:Int)<=(c7:Int):=by omega
  have bh:(c7:Int) < (bm:Int):=by omega
  have ca:(c7:Int)<=8:=by omega
  have dc:(0:Int) < (bq.length:Int):=by omega
  have cY:0 < bq.length:=by omega
  have bC:=A (Kt bS a1);have bQ:=A (show k aJ=.pt z/\b<=aJ/\aJ < bt.heap.size/\(∀a4,bt.frozen? ⟨aJ,a4,I⟩=false)/\bt.cell? ⟨aJ,a7*4+2,I⟩=J (G bu m.guards.length bP) from⟨eT,eR,eS,ed,ao⟩);have e6:(2:Int)<=(bq.length:Int):=by omega
  clear bS a1 eR eS eT ed eO ao cz c8 eN t el ac;obtain⟨al,am,ax,a5,a6,aq⟩:=bf cH.out.br.blk;go_upto_region 12 with fail;go_cut [52] (λbc bn=>∃fR:Bool,bc=JM fR/\F (JK bt.heap.size bt bn));case first=>as_aux_lemma=>go_quiet (fail);go_wp2_with fail;go_meet;exact⟨_,D,A (below_drewN JY _)⟩
  case rest=>
  obtain⟨fR,rfl,eg⟩:=hcut;obtain⟨dF,eY⟩:∃w,w=wc:=⟨_,D⟩;rw[<-eY] at eg⊢;clear eY al am ax a5 a6 aq es gn;have fJ:=A (cH.out.more eg.out);go_upto_if 52 with fail;go_cut [10] (λbc bn=>∃cT:Int,bc=C E cT/\dF=bn);case first=>
   as_aux_lemma=>
    rcases fR with _|_;all_goals go_wp2_with fail
    all_goals(go_meet;exact⟨_,D,D⟩)
  case rest=>
  obtain⟨cT,rfl,rfl⟩:=hcut;have fl:=A (show dF.cell? ⟨aJ,a7*4+2,I⟩=J (G bu m.guards.length bP) from(eg.out.cell (ay bQ.out.2.2.2.2)).trans bQ.out.2.2.2.2);obtain⟨al,am,ax,a5,a6,aq⟩:=bf fJ.out.br.blk;have go:=fl.out;have fn:F (fU m.guards<=40000):=A (by
   have o:=fB gJ bC.out.2;have a8:=fB kG Y.out;have b6:=dj.out.wt;have bz:kG y=(y.parts.map gJ).sum:=D;have c4:lS p.branches=(p.branches.map kG).sum:=D;have de:fU m.guards<=gJ m:=by unfold gJ;omega
   omega)
  have eJ:m.guards.length<=40000:=Ko (kS _) fn.out;have fT:(0:Int)<=(m.guards.length:Int):=by omega
  have cC:((bm:Int)-1)=(a7:Int):=by have:=bC.out.1;omega
  have d4:(0:Int)<=(a7:Int):=by omega
  have du:(a7:Int) < (bm:Int):=by omega
  go_wp2_with fail;clear go al am ax a5 a6 aq;go_loopw [9,11,60] (λaB bc a3 wr=>TiN W p b c2 bE ai aA aQ cy z bm b5 aJ cd cW cX j P m a7 bu bP aB bc a3 wr) (λaB bc a3 wr=>m.guards.length-(intOf a3).toNat);case atStart=>exact⟨0,k,true,b8,[],Kw _,D,⟨_,_,D⟩,D,A fJ.out.ahv,A ⟨ew.out.2.1,ew.out.2.2.2,λ_=>ew.out.2.2.1⟩,A ⟨bY.nil _ _ _ _,(λaa ad=>by cases ad),KD _,fl.out⟩⟩
  case round=>
  clear fJ cH eg bQ fl k;obtain⟨a4,k,eE,br,aw,bK,rfl,⟨c3,cS,rfl⟩,rfl,dy,f6,cm⟩:=hrel;have cJ:(0:Int)<=(a4:Int):=by omega
  have dr:(a4:Int)<=40000:=by omega
  obtain⟨fH,a9,cR,aY,af,-,-,eR,eS,eT,-,-,ao,-,cz,-,ed,eO⟩:=dy.out.part D dv.out bC.out.2;injection af with af aD cL;injection af with af;injection af with af;subst af;clear aD cL;have bQ:=A (show k aJ=.pt z/\b<=aJ/\aJ < wr.heap.size/\(∀a4,wr.frozen? ⟨aJ,a4,I⟩=false) from⟨eT,eR,eS,ed⟩);rw[cm.out.2.2.2] at ao;injection ao with ao;subst ao;have cj:=A cz;have ec:F (P.length<=100):=A (by rw[b1.out.1];omega);clear eR eS eT ed eO cz;by_cases fv:a4 < m.guards.length
  ·have db:(a4:Int) < (m.guards.length:Int):=by omega
   obtain⟨dT,ek⟩:∃M,m.guards[a4]? =J M:=⟨_,Kr fv⟩;have fa:=A ek;obtain⟨e,aP,aM,ba,ar,S⟩:=dT;obtain⟨ff,fr,g3,cE,cP,af,-,-,b',bv,bo,bZ,c5,bG,co,fh⟩:=fC cj.out.elts ek;injection af with af aD cL;subst af cL;clear aD;have f2:=A fh;obtain⟨B,eV⟩:∃y,y=wr.heap.size:=⟨_,D⟩;have g0:F (b<=B):=A (by rw[eV];exact dy.out.pl.low);clear ek fh;go_upto_region 18 with fail;rw[<-eV];refine aI (Φ:=λX=>JK wr.heap.size wr X/\bV b k X B 150 #[C E e,C E aP,G cE S.length cP,C E aM.kind,C JL aM.bits,C E ba,C E ar]) (by have cv:JK wr.heap.size wr (wr.alloc (JO #[C E e,C E aP,G cE S.length cP,C E aM.kind,C JL aM.bits,C E ba,C E ar] 150)):=JY.alloc c _;exact⟨cv,⟨eV▸aj.new _ _ _,λ_=>dy.out.pl.fresh _ N⟩⟩) ?_;intro eK c4;have bs:=A c4;have eP:=A ((f2.out.keep (aF.of_below c4.1 λy d=>d.2.1) (Q':=λy=>b<=y/\y < eK.heap.size/\k y=.nd) λy d=>⟨d.1,Kv d.2.1 c4.1.size,d.2.2⟩));clear c4 b' bv bo bZ c5 bG co eV;obtain⟨al,am,ax,aW,T,bi,bM,a5,a6,aq,aZ,aO,be,bI⟩:=aK bs.out.2.blk;go_cut [145] (λbc bn=>∃cx:Bool,bc=JM cx/\F (cx=false->S.length=2)/\F (JK eK.heap.size eK bn));case first=>
    by_cases a':S.length=2
    ·obtain⟨dg,cM,dI,-⟩:=dW.opened eP.out;obtain rfl:dg=G cE S.length cP:=by injection cM with _ o;injection o with _ a8;injection a8 with ac _;exact ac.symm
     clear cM;obtain⟨ev,g5⟩:∃a,S[0]? =J a:=⟨_,Kr N⟩;obtain⟨gp,h4,e9,h5,gl,dS⟩:=ev;obtain⟨h6,h7,h8,g1,fw,af,-,-,gq,gr,gs,gt,gu,gv,gw,g6⟩:=fC (dM.slr dI) g5;clear g5;injection af with af aD cL;subst af cL;clear aD;obtain⟨fS,fq⟩:∃a,S[1]? =J a:=⟨_,Kr N⟩;obtain⟨g7,gx,fW,gy,bF,gz⟩:=fS;obtain⟨gA,gB,gC,gD,gE,af,-,-,ez,fD,fG,eA,fI,fK,fL,f1⟩:=fC (dM.slr dI) fq;clear fq;injection af with af aD cL;injection af with af;injection af with dw dU;subst dw dU;clear aD cL;simp only[Nat.zero_mul,Nat.one_mul,Nat.add_zero] at gq gr gs gt gu gv gw;simp only[Nat.zero_mul,Nat.one_mul,Nat.add_zero] at ez fD fG eA fI fK fL;clear dI f1;have gF:=A g6;clear g6;have b3:((S.length:Int) !=2)=false:=by simp;omega
     have bh:(0:Int) < (S.length:Int):=by omega
     have ca:(1:Int) < (S.length:Int):=by omega
     have dc:0 < S.length:=by omega
     have cY:1 < S.length:=by omega
     clear b1 dy cm cj f6 f2 bQ fa g0 ec fn bC bH bX Y ew;by_cases bw:(e !=10)=true/\(e !=9)=true
     ·obtain⟨b4,cA⟩:=bw;as_aux_lemma=>go_wp2_with fail;go_meet;exact⟨_,D,A (λ_=>a'),A JY⟩
     have o:(e !=10)=false\/((e !=10)=true/\(e !=9)=false):=by revert bw;cases(e !=10) <;> cases(e !=9) <;> simp
     clear bw;rcases o with b4|⟨b4,cA⟩;all_goals
      rcases ak:(gp !=2) with _|_
      rotate_left
      ·
       as_aux_lemma=>
        go_wp2_with fail
        go_meet
        exact⟨_,D,A (λ_=>a'),A JY⟩
      by_cases dC:dS.length=2
      rotate_left
      ·
       have ci:((dS.length:Int) !=2)=true:=by simp;omega
       as_aux_lemma=>
        go_wp2_with fail
        go_meet
        exact⟨_,D,A (λ_=>a'),A JY⟩
      obtain⟨cn,ey,eB,-⟩:=dW.opened gF.out
      obtain rfl:cn=G g1 dS.length fw:=by
       injection ey with _ o
       injection o with _ a8
       injection a8 with ac _
       exact ac.symm
      clear ey
      obtain⟨fP,g8⟩:∃a,dS[0]? =J a:=⟨_,Kr N⟩
      obtain⟨gG,h9,ha,hb,gH,hc⟩:=fP
      obtain⟨hd,f',he,eH,fb,af,-,-,gI,gK,gL,gM,gN,gO,gP,eC⟩:=fC (dM.slr eB) g8
      clear g8
      injection af with af aD cL
      subst af cL
      clear aD
      obtain⟨gQ,g9⟩:∃a,dS[1]? =J a:=⟨_,Kr N⟩
      obtain⟨gR,gS,e2,fQ,gT,dD⟩:=gQ
      obtain⟨hf,hg,hh,cQ,c9,af,-,-,gU,gV,gW,gX,gY,gZ,g',ga⟩:=fC (dM.slr eB) g9
      clear g9
      injection af with af aD cL
      injection af with af
      injection af with dw dU
      subst dw dU
      clear aD cL
      simp only[Nat.zero_mul,Nat.one_mul,Nat.add_zero] at gI gK gL gM gN gO gP
      simp only[Nat.zero_mul,Nat.one_mul,Nat.add_zero] at gU gV gW gX gY gZ g'
      clear eB eC
      have ci:((dS.length:Int) !=2)=false:=by simp;omega
      have cw:(0:Int) < (dS.length:Int):=by omega
      have dm:(1:Int) < (dS.length:Int):=by omega
      have dz:0 < dS.length:=by omega
      have dK:1 < dS.length:=by omega
      rcases hi:(gG !=41) with _|_
      rotate_left
      ·
       as_aux_lemma=>
        go_wp2_with fail
        go_meet
        exact⟨_,D,A (λ_=>a'),A JY⟩
      rcases hj:(gH !=-1) with _|_
      rotate_left
      ·
       as_aux_lemma=>
        go_wp2_with fail
        go_meet
        exact⟨_,D,A (λ_=>a'),A JY⟩
      have gc:=A (acn (.mk gR gS e2 fQ gT dD) cT eK _ ga.weak)
      clear ga
      rcases fu:(g7 !=40) with _|_
      rotate_left
      ·
       as_aux_lemma=>
        go_wp2_with (go_at_call 49;refine gc.out.mono ?_;rintro a7 r ⟨d2,rfl,d⟩;have h0:=(d.cell (ay ax)).trans ax;have h1:=(d.cell (ay ez)).trans ez;have h2:=(d.cell (ay eA)).trans eA)
        all_goals(go_meet;exact⟨_,D,A (λ_=>a'),A (by first|exact Ky _ _|assumption)⟩)
      rcases fc:(fW.kind !=1) with _|_
      all_goals as_aux_lemma=>
       go_wp2_with (go_at_call 49;refine gc.out.mono ?_;rintro a7 r ⟨d2,rfl,d⟩;have h0:=(d.cell (ay ax)).trans ax;have h1:=(d.cell (ay ez)).trans ez;have h2:=(d.cell (ay eA)).trans eA)
       all_goals(go_meet;exact⟨_,D,A (λ_=>a'),A (by first|exact Ky _ _|assumption)⟩)
    have b3:((S.length:Int) !=2)=true:=by simp;omega
    rcases b4:(e !=10) with _|_
    ·as_aux_lemma=>go_wp2_with fail;go_meet;exact⟨true,D,A (λh=>by cases h),A JY⟩
    rcases cA:(e !=9) with _|_
    ·as_aux_lemma=>go_wp2_with fail;go_meet;exact⟨true,D,A (λh=>by cases h),A JY⟩
    as_aux_lemma=>go_wp2_with fail;go_meet;exact⟨true,D,A (λh=>by cases h),A JY⟩
   case rest=>
   obtain⟨cx,rfl,fy,dR⟩:=hcut;obtain⟨da,fi⟩:∃w,w=wc:=⟨_,D⟩;rw[<-fi] at dR⊢;clear al am ax aW T bi bM a5 a6 aq aZ aO be bI fi;have fM:=A (bs.out.1.trans (dR.out.mono bs.out.1.size));have d':=A (dy.out.more fM.out);have bg:=A (cm.out.1.fO ((Stp.of_below k fM.out dy.out.pl.low).fO (V:=λ_=>True) λ_ _=>trivial) trivial trivial);have bp:=A ((fM.out.cell (ay cm.out.2.2.2)).trans cm.out.2.2.2);have ge:=A ((eP.out.keep (aF.of_below dR.out λy d=>d.2.1) (Q':=λy=>b<=y/\y < da.heap.size/\k y=.nd) λy d=>⟨d.1,Kv d.2.1 dR.out.size,d.2.2⟩));have h3:=A (bs.out.2.bG (Stp.of_below k dR.out (Ko dy.out.pl.low bs.out.1.size)) λ_=>trivial);obtain⟨al,am,ax,aW,T,bi,bM,a5,a6,aq,aZ,aO,be,bI⟩:=aK h3.out.blk;rcases cx with _|_
   ·as_aux_lemma=>
    have a8:=fy.out D;obtain⟨dg,cM,dI,-⟩:=dW.opened ge.out;obtain rfl:dg=G cE S.length cP:=by injection cM with _ o;injection o with _ a8;injection a8 with ac _;exact ac.symm
    clear cM;obtain⟨fS,fq⟩:∃a,S[1]? =J a:=⟨_,Kr N⟩;obtain⟨g7,gx,fW,gy,bF,gz⟩:=fS;obtain⟨gA,gB,gC,gD,gE,af,-,-,ez,fD,fG,eA,fI,fK,fL,f1⟩:=fC (dM.slr dI) fq;clear fq;injection af with af aD cL;subst af cL;clear aD;simp only[Nat.zero_mul,Nat.one_mul,Nat.add_zero] at ez fD fG eA fI fK fL;clear dI f1;have bh:(1:Int) < (S.length:Int):=by omega
    have ca:1 < S.length:=by omega
    obtain⟨dq,aC,ce,cI,c1,bT⟩:=bf d'.out.br.blk;have fN:=A (show(∀aa∈aw,aa∈m.guards)/\fU aw<=fU (m.guards.take (a4+1)) from⟨cm.out.2.1,Ko cm.out.2.2.1 (pX _ _)⟩);have eG:=A (show b<=c2/\c2 < bE/\W.heap.size+1 < b from⟨dE.out,f5.out,by have:=b7.out;omega⟩);go_upto_region 21 with fail;obtain⟨a0,ah⟩:∃a0,a0=wrap64 fW.bits:=⟨_,D⟩;rw[<-ah];have e3:=A (show-9223372036854775808<=a0/\a0<=9223372036854775807 by rw[ah];unfold wrap64;omega);clear ah ez fD fG eA fI fK fL bh ca;have e7:=A (d'.out.setW eG.out.1 eG.out.2.1 eG.out.2.2);have eZ:=A (d'.out.br.tag (Ko eG.out.1 (KI eG.out.2.1)));have q:=A (λaa:Int=>afi bg.out eZ.out bQ.out.1 bp.out (Ko eG.out.1 (KI eG.out.2.1)) (C E aa));have ep:=A (show ∀(fZ:Bool) (aa:Int),-9223372036854775808<=aa->aa < br->(fZ=true->0<=aa)->wfi aa/\aa<=1152921504606846976/\(fZ=true->0<=aa) from λfZ aa o a8 ac=>aeM f6.out.2.1 o a8 ac);clear am ax aW T bi bM a5 a6 aq aZ aO be bI;go_cut [167] (λbc bn=>∃ct:Bool,bc=JM ct/\F (ct=false->0<=a0/\(e=9->1<=a0))/\da=bn);case first=>
     as_aux_lemma=>
      rcases b3:decide (a0 < 0) with _|_
      ·rcases cA:(e== 9) with _|_
       ·go_wp2_with fail;go_meet;exact⟨_,D,A (λ_=>⟨by have:=Lr b3;omega,λh=>by simp[h] at cA⟩),D⟩
       rcases bh:decide (a0 < 1) with _|_;all_goals go_wp2_with fail
       all_goals go_meet
       ·exact⟨_,D,A (λ_=>⟨by have:=Lr b3;omega,λ_=>by have:=Lr bh;omega⟩),D⟩
       exact⟨_,D,A (λh=>by cases h),D⟩
      go_wp2_with fail;go_meet;exact⟨_,D,A (λh=>by cases h),D⟩
    case rest=>
    obtain⟨ct,rfl,cZ,rfl⟩:=hcut;go_upto_if 167 with fail;go_cut [9] (λbc bn=>∃aB:Bool,bc=JM aB/\F (aB=true->eE=true/\ct=false)/\da=bn);case first=>
     as_aux_lemma=>
      rcases ct with _|_;all_goals go_wp2_with fail
      all_goals go_meet
      ·exact⟨_,D,A (λh=>⟨h,by first|rfl|trivial⟩),D⟩
      exact⟨_,D,A (λh=>by cases h),D⟩
    case rest=>
    obtain⟨aB,rfl,gf,rfl⟩:=hcut;have eh:=A (show aB=true->0<=a0/\(e=9->1<=a0) from λh=>cZ.out (gf.out h).2);go_upto_region 23 with fail;go_cut [174] (λbc bn=>∃c0:Bool,bc=JM c0/\F (c0=true->e=9/\-9223372036854775808 < a0)/\da=bn);case first=>
     as_aux_lemma=>
      rcases cA:(e== 9) with _|_
      ·go_wp2_with fail;go_meet;exact⟨_,D,A (λh=>by cases h),D⟩
      rcases ca:decide (-9223372036854775808 < a0) with _|_;all_goals go_wp2_with fail
      all_goals go_meet
      ·exact⟨_,D,A (λh=>by cases h),D⟩
      exact⟨_,D,A (λ_=>⟨LZ cA,Lu ca⟩),D⟩
    case rest=>
    obtain⟨c0,rfl,c6,rfl⟩:=hcut;go_upto_if 174 with fail;go_cut [14] (λbc bn=>∃aa:Int,bc=C E aa/\F (-9223372036854775808<=aa/\(aB=true->0<=aa))/\da=bn);case first=>
     as_aux_lemma=>
      rcases c0 with _|_
      ·go_wp2_with fail;go_meet;exact⟨_,D,A ⟨e3.out.1,λh=>(eh.out h).1⟩,D⟩
      have cY:IntKind.i64.wrap (a0-1)=a0-1:=by rw[LP];have:=e3.out;have:=(c6.out (by first|rfl|trivial)).2;omega
      go_wp2_with fail;go_meet;exact⟨_,D,A ⟨by have:=(c6.out (by first|rfl|trivial)).2;omega,λh=>by have:=(eh.out h).2 (c6.out (by first|rfl|trivial)).1;omega⟩,D⟩
    case rest=>
    obtain⟨aa,rfl,gg,rfl⟩:=hcut;clear eh cZ c6 e3;rcases dc:decide (aa < br) with _|_
    ·as_aux_lemma=>go_wp2_with fail;exact⟨⟨a4+1,k,aB,br,aw,by omega,D,⟨_,_,D⟩,by go_num,d',A ⟨f6.out.1,f6.out.2.1,λh=>f6.out.2.2 (gf.out h).1⟩,A ⟨bg.out,fN.out.1,fN.out.2,bp.out⟩⟩,by simp[intOf];omega⟩
    as_aux_lemma=>go_wp2_with fail;exact⟨⟨a4+1,k,aB,aa,aw,by omega,D,⟨_,_,D⟩,by go_num,A (e7.out _),A (ep.out aB aa gg.out.1 (Lu dc) gg.out.2),A ⟨(q.out _).1,fN.out.1,fN.out.2,(q.out _).2⟩⟩,by simp[intOf];omega⟩
   have dX:F (aw.length<=200000):=A (by have o:=cm.out.2.2.1;have a8:=fn.out;have b6:=kS aw;have bz:fU (m.guards.take a4)<=fU m.guards:=lK aH _ _;omega);go_upto_region 27 with(at_builtin;have d9:oQ≠Tg.nd:=(by intro h;cases h);have aG:=wpl_rowE k oQ b (G c3 aw.length cS) da aw (.mk e aP aM ba ar S) [C E e,C E aP,G cE S.length cP,C E aM.kind,C JL aM.bits,C E ba,C E ar] 1;have dz:=λaN rest bl a Q=>aG aN rest bl a Q bg.out d9 d'.out.pl.low d'.out.pl.fresh ge.out dX.out;refine dz _ _ _ _ _ D (.tmp 146) (.tmp 148) D D D ?_;clear aG dz d9;intro ds dp cK fx fg fd;have eb:=A (Kt fx (Kt fg fd));clear fx fg fd);as_aux_lemma=>
    have ex:=A ((KJ (a:=⟨aJ,a7*4+2,I⟩) (eb.out.2.1.block aJ bQ.out.2.1 (Kv bQ.out.2.2.1 fM.out.size) (by rw[bQ.out.1];intro h;cases h))).trans bp.out);clear al am ax aW T bi bM a5 a6 aq aZ aO be bI;obtain⟨fz,gh⟩:∃b9,b9=eU k (Value.slice ds (aw.length+1) dp).ownBlock oQ:=⟨_,D⟩;rw[<-gh] at eb;clear gh;have e0:=A (d'.out.st eb.out.2.1 eb.out.2.2 ec.out);have dt:=A (show bY fz oQ b cK (G ds (aw.length+1) dp) (aw++[(.mk e aP aM ba ar S)])/\(∀aa∈aw++[(.mk e aP aM ba ar S)],aa∈m.guards)/\fU (aw++[(.mk e aP aM ba ar S)])<=fU (m.guards.take (a4+1))/\cK.cell? ⟨aJ,a7*4+2,I⟩=J (G (J ⟨ff,fr,I⟩) m.guards.length bP) from⟨eb.out.1,(λaa ad=>by
     rcases KQ.1 ad with ad|ad
     ·exact cm.out.2.1 aa ad
     rw[KG] at ad;rw[ad];exact Kz fa.out),xK cm.out.2.2.1 fa.out,ex.out⟩)
    as_aux_lemma=>go_wp2_with fail;exact⟨⟨a4+1,fz,eE,br,aw++[(.mk e aP aM ba ar S)],fv,D,⟨ds,dp,by rw[KC];rfl⟩,by go_num,e0,f6,dt⟩,by simp[intOf];omega⟩
  have db:(m.guards.length:Int)<=(a4:Int):=by omega
  obtain⟨al,am,ax,a5,a6,aq⟩:=bf dy.out.br.blk;have ei:=A (yG (t':=.gd z a7) cm.out.1 dy.out.pl.fresh);have er:=A (cm.out.1.retag (t':=.gd z a7));obtain⟨d1,ft⟩:∃b9,b9=eU k (Value.slice c3 aw.length cS).ownBlock (.gd z a7):=⟨_,D⟩;rw[<-ft] at ei er;have g2:=A (dy.out.st ei.out.1 ei.out.2 ec.out);have fX:=A (g2.out.put (v:=G c3 aw.length cS) (l:=aw) dv.out bH.out.1.symm bC.out.2 N (Stp.refl b d1 wr) (λ_ _ _ _=>trivial) (λ_ _ _=>trivial) ei.out.2 er.out);have c':=bQ.out.2.2.2 (a7*4+2);have d7:=cm.out.2.2.2;clear ft;go_upto_region 29 with fail;refine aI (Φ:=λX=>yN W p b c2 bE (G ai p.keys.length aA) (G (J ⟨aQ,0,I⟩) p.branches.length cy) aQ z bm b5 br (G (J ⟨aJ,0,I⟩) bm cd) (G I 0 0) [] d1 X (P.set z {y with parts:=y.parts.set a7 {m with guards:=aw}}) (G cW j.length cX) j) fX.out.1 ?_;intro cU de;have bR:=A de;obtain⟨dN,en⟩:∃a2:dB,a2={y with parts:=y.parts.set a7 {m with guards:=aw}}:=⟨_,D⟩;have n:=A (show(P.set z {y with parts:=y.parts.set a7 {m with guards:=aw}})[z]? =J dN by rw[en,KO,Kq D,Kq (KA.1 dv.out).1]);have av:=A (show(P.set z {y with parts:=y.parts.set a7 {m with guards:=aw}}).length=P.length/\∀a3,a3≠z->(P.set z {y with parts:=y.parts.set a7 {m with guards:=aw}})[a3]? =P[a3]? from⟨Lj,λa3 aR=>by rw[KO,JZ (λh=>aR h.symm)]⟩);have eD:=A f6.out.1;have eL:=A (show kG (⟨b5,br,dN.parts⟩:dB)<=kG y by
   have o:=tX gJ (x:={m with guards:=aw}) bC.out.2;have a8:=cm.out.2.2.1;rw[KN N] at a8;have ac:gJ {m with guards:=aw}<=gJ m:=by unfold gJ;simp only;omega
   have b6:kG (⟨b5,br,dN.parts⟩:dB)=((y.parts.set a7 {m with guards:=aw}).map gJ).sum:=by rw[en];rfl
   have bz:kG y=(y.parts.map gJ).sum:=D;omega)
  have eI:=A (show lu kinds {y with parts:=y.parts.set a7 {m with guards:=aw}} from bX.out.ad1 bC.out.2 (Ci cm.out.2.1));clear de c' d7 al am ax a5 a6 aq ei er g2 fX;rcases eE with _|_
  ·as_aux_lemma=>go_wp2_with fail;exact⟨⟨z+1,d1,(P.set z {y with parts:=y.parts.set a7 {m with guards:=aw}}),j,cW,cX,by omega,by go_num,A bR.out.pl,A (aeb b1.out av.out.1 av.out.2),A ⟨⟨bR.out.res,bR.out.out,bR.out.bel⟩,bR.out.ou.next⟩⟩,by simp[intOf];omega⟩
  have fj:=A (show lu kinds (⟨b5,br,dN.parts⟩:dB) by rw[bH.out.2.1,en];exact eI.out.ahD ⟨f6.out.2.2 D,f6.out.2.1⟩);clear en;have bU:F (j.length<=4):=A (by have:=b1.out.2.2.2.2;omega);obtain⟨⟨ck,fm,fp⟩,ey⟩:=bR.out.ou;have dJ:=A (Kt fm (Kt fp ey));clear fm fp ey;have e4:=A (show OuE cU (G (J ⟨aQ,0,I⟩) p.branches.length cy) (z+1) (P.set z {y with parts:=y.parts.set a7 {m with guards:=aw}}) [C E b5,C E br,(G (J ⟨aJ,0,I⟩) bm cd)] (⟨b5,br,dN.parts⟩:dB) from⟨aQ,z,dN,(G (J ⟨aJ,0,I⟩) bm cd),D,by omega,n.out,bR.out.Dp,D,D,ew.out.1,eD.out⟩);obtain⟨al,am,ax,a5,a6,aq⟩:=bf bR.out.br.blk;obtain⟨cp,cf,cb,cI,c1,bT⟩:=bf bR.out.out.blk;go_upto_region 31 with(at_builtin;go_loud (refine fE zT oG D _ _ D dJ.out.1 bR.out.pl.low (cs:=[C E b5,C E br,(G (J ⟨aJ,0,I⟩) bm cd)]) (x:=(⟨b5,br,dN.parts⟩:dB)) D ⟨_,_,_,D⟩ (by intro u ap;simp only[List.mem_cons,List.not_mem_nil,or_false] at ap;rcases ap with rfl|rfl|rfl <;> rfl) (by have:=bU.out;omega) (by have:=bU.out;unfold maxLen;omega) D D ?_;intro cD d0 cK cN d5 c8;have aT:=A (Dj.snoc dJ.out.1 dJ.out.2.1 dJ.out.2.2 bR.out.pl.kU bR.out.pl.fresh bR.out.pl.low cN d5 (λae ab=>(c8 ae ab).imp id KI) e4.out);clear cN d5 c8;have c':=(bR.out.out.bG aT.out.2.1 (λh a7=>by rw[bR.out.out.tag h] at a7;cases a7)).blk.frozen 2;have d7:=(bR.out.out.bG aT.out.2.1 (λh a7=>by rw[bR.out.out.tag h] at a7;cases a7)).blk.cell 2));obtain⟨bJ,ea⟩:∃b9,b9=eU d1 (Value.slice cD (j.length+1) d0).ownBlock oT:=⟨_,D⟩;rw[<-ea] at aT;have eF:=A (bR.out.pl.aeZ aT.out.2.1.bel (aT.out.2.1.fO (V:=λb9=>b9≠oT) λ_ h=>h) (afr (by show((P.set z {y with parts:=y.parts.set a7 {m with guards:=aw}})).length<=100;rw[av.out.1];rw[b1.out.1];omega)) aT.out.2.2);have di:=A (show(bV b bJ cK (W.heap.size+1) 29 #[C E 0,G I 0 0,G I 0 0]/\bV b bJ cK c2 29 #[C E p.strategy,(G ai p.keys.length aA),(G cW j.length cX)]/\JK W.heap.size W cK) from⟨bR.out.res.bG aT.out.2.1 (λh a7=>by rw[bR.out.res.tag h] at a7;cases a7),bR.out.out.bG aT.out.2.1 (λh a7=>by rw[bR.out.out.tag h] at a7;cases a7),bR.out.bel.trans (aT.out.2.1.bel.mono d8.out)⟩);have g:=A (aU.one cK c2 2 (G cD (j.length+1) d0));have dA:=A (Stp.dV bJ g.out dE.out);have dG:F (bJ c2=.other):=A (di.out.2.1.tag dE.out);have d6:F (∀ae,bJ ae≠ .other->ae≠c2):=A (λae ab a7=>ab (a7▸dG.out));clear ea c' d7 al am ax a5 a6 aq cp cf cb cI c1 bT;as_aux_lemma=>go_wp2_with fail;exact⟨⟨z+1,bJ,(P.set z {y with parts:=y.parts.set a7 {m with guards:=aw}}),j++[(⟨b5,br,dN.parts⟩:dB)],cD,d0,by omega,by go_num,A (eF.out.bG dA.out d6.out (λae ab=>eF.out.fresh ae (by rw[<-g.out.size];exact ab))),A (Iz b1.out av.out.1 av.out.2 Y.out fj.out eL.out),A (by rw[KC];exact⟨⟨di.out.1.far g.out (by have:=dE.out;have:=b7.out;omega),di.out.2.1.set 2 _ D,g.out.below _ _ (by have:=dE.out;have:=d8.out;omega) di.out.2.2⟩,aT.out.1.bG eF.out.kU dA.out (λae ab=>d6.out ae (by rw[ab];exact En.1)) λae ab=>d6.out ae (by rw[ab];intro h;cases h)⟩)⟩,by simp[intOf];omega⟩
 as_aux_lemma=>
  have c0:(p.branches.length:Int)<=(z:Int):=by omega
  obtain⟨cp,cf,cb,cI,c1,bT⟩:=bf q.out.1.2.1.blk;obtain⟨al,am,ax,a5,a6,aq⟩:=bf q.out.1.1.blk;go_wp2_with fail;refine oK q.out.1.1.blk D λcr az aE=>?_;refine Ku (au D D az Tryz.underlying29 D D) D ?_;have bz:=(show qU (λy=>b<=y/\y < wr.heap.size) wr [C E p.strategy,(G ai p.keys.length aA),(G cW j.length cX)] {p with branches:=j} from⟨_,_,D,aX.keep dP.out.keys (λ_ _ _ h=>h) (λy d=>⟨d.1,d.2.1⟩) λ_ _ h=>h,q.out.2.out dP.out.kU,f7.out⟩);have c4:=qU.keep bz (Q':=λy=>W.heap.size<=y/\y < cr.heap.size) (aE.keep _ λy d=>by have:=b7.out;omega) λy d=>⟨by have:=b7.out;omega,by rw[aE.size];exact d.2⟩;exact⟨{p with branches:=j},_,D,c4,⟨dj.out.strategy,dj.out.keys,by show j.length<=4;have:=b1.out.2.2.2.2;omega,b1.out.2.2.1,Ko (Ko b1.out.2.2.2.1 (lK kG _ _)) dj.out.wt⟩,D,D,aE.below _ _ N q.out.1.2.2⟩
theorem rpass_any{Q:Nat->Prop}{W:L}{cs':List O}(h:qU Q W cs' p)(ab:kW kinds p):Calls Tryz.prog 6 #[C E 5,.agg cs'.toArray] W (IV kinds p W):=by
 have bw:=h;obtain⟨e1,cn,rfl,ah,d,eu⟩:=h;have ah:=aX.out ah (R':=fF) λ_ _ h=>h;obtain⟨dk,dl,rfl,-,-⟩:=ah.slice;obtain⟨cg,cV,rfl,-,-,-⟩:=d;obtain⟨an,bk⟩:∃an,an=(W.alloc (JO #[C E p.strategy,G dk p.keys.length dl,G cg p.branches.length cV] 29)).alloc (JO #[C E 0,G I 0 0,G I 0 0] 29):=⟨_,D⟩;have aV:=A (show JK W.heap.size W an/\aj an W.heap.size 29 #[C E p.strategy,G dk p.keys.length dl,G cg p.branches.length cV]/\aj an (W.heap.size+1) 29 #[C E 0,G I 0 0,G I 0 0]/\an.heap.size=W.heap.size+2 by rw[bk];refine⟨(JY.alloc c _).alloc (by simp) _,(aj.new _ _ _).alloc _,?_,by simp⟩;have a8:=aj.new (W.alloc (JO #[C E p.strategy,G dk p.keys.length dl,G cg p.branches.length cV] 29)) 29 #[C E 0,G I 0 0,G I 0 0];rw[KE] at a8;exact a8);have cB:=A (Fv (qU.DW bw aV.1) ab);clear ah bw eu ab;go_in;go_upto_region 1 with fail;rw[<-bk];clear bk;obtain⟨al,am,ax,a5,a6,aq⟩:=bf aV.2.1;go_wp2_with (first
  |(go_at_call 17;refine cB.mono ?_;rintro a7 ce ⟨c2,bo,rfl,e,b8,d',d6,cq⟩;have a':=A (Kt e (Kt b8 (Kt d' (Kt d6 cq))));clear e b8 d' d6 cq)
  |(go_at_call 18;refine(ab4 a'.out.1 a'.out.2.1).mono ?_;rintro a7 b1 ⟨bz,bZ,rfl,e,b8,d',d6,cq⟩;have x:=A (Kt e (Kt b8 (Kt (d'.trans a'.out.2.2.1) (Kt (d6.trans a'.out.2.2.2.1) (a'.out.2.2.2.2.trans (cq.mono a'.out.2.2.2.2.size))))));clear e b8 d' d6 cq a')
  |(go_at_call 19;refine(FD x.out.1 x.out.2.1).mono ?_;rintro a7 r ⟨dN,c5,rfl,e,b8,d',d6,cq⟩;have b:=A (Kt e (Kt b8 (Kt (d'.trans x.out.2.2.1) (Kt (d6.trans x.out.2.2.2.1) (x.out.2.2.2.2.trans (cq.mono x.out.2.2.2.2.size))))));clear e b8 d' d6 cq x)
  |(go_at_call 20;refine(ab5 b.out.1 b.out.2.1).mono ?_;rintro a7 av ⟨d3,bG,rfl,e,b8,d',d6,cq⟩;have f:=A (show qU (λy=>an.heap.size<=y/\y < av.heap.size) av bG d3/\kW kinds d3/\d3.keys=p.keys/\d3.strategy=p.strategy/\JK an.heap.size an av from⟨qU.keep e (λ_ _ _ h=>h) λy d=>⟨Ko b.out.2.2.2.2.size d.1,d.2⟩,b8,d'.trans b.out.2.2.1,d6.trans b.out.2.2.2.1,b.out.2.2.2.2.trans (cq.mono b.out.2.2.2.2.size)⟩);obtain⟨g,d5,rfl,b7,cO,-⟩:=e;obtain⟨dr,dB,rfl,-⟩:=id b7;obtain⟨dJ,dM,rfl,-⟩:=id cO;clear b8 d' d6 cq b7 cO b;have bh:=A (aV.2.2.1.below f.out.2.2.2.2 aV.2.2.1.lt);obtain⟨cp,cf,cb,cI,c1,bT⟩:=bf bh))
 refine oK bh D λcr az aE=>?_;refine Ku (au D D az Tryz.underlying29 D D) D ?_;have o:=aV.2.2.2;exact⟨d3,_,D,qU.keep f.out.1 (aE.keep _ λy d=>by omega) λy d=>⟨by omega,by rw[aE.size];exact d.2⟩,f.out.2.1,f.out.2.2.1,f.out.2.2.2.1,aE.below _ _ N (aV.1.trans (f.out.2.2.2.2.mono aV.1.size))⟩

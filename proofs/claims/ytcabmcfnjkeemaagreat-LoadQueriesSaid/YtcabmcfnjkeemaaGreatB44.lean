import Derived.Test.YtcabmcfnjkeemaaGreatBM00
import Derived.Test.YtcabmcfnjkeemaaGreatB41
import Derived.Test.YtcabmcfnjkeemaaGreatB43
set_option maxRecDepth 100000
set_option maxHeartbeats 40000000
set_option linter.unusedVariables false
set_option linter.unusedSimpArgs false
namespace Go.Proofs.YtcabmcfnjkeemaaGreat
open Go.ChangeAt Go.ChangeShapes Go.Deep Go.RowKit Go.WideShapes
open Go renaming World->L,Value->O
open Go.IntKind renaming i64->E
open Go.Obj renaming cells->JO
open Go.RowKit renaming Hid->F,Below->JK
open Go.Value renaming int->C,slice->G,string->H,bool->JM
open Option renaming none->I,some->J
attribute [local go_sem ↓] Go.wp_at_zero Go.wp_at_succ
variable{w:L}
theorem Hz{Q:Nat->Prop}{cs:List O}{p:bD}(h:qU Q w cs p):∃dk dl cg cV,cs=[C E p.strategy,G dk p.keys.length dl,G cg p.branches.length cV]:=by obtain⟨e1,cn,rfl,⟨dk,dl,rfl,-⟩,⟨cg,cV,rfl,-⟩,-⟩:=h;exact⟨_,_,_,_,D⟩
def LqL (X0:L) (i:O) (wr:L):Prop:=∃r:Nat,r<=2/\i=C E r/\F (JK X0.heap.size X0 wr)
def LqC (cs:List aW) (X0:L) (b i:O) (wr:L):Prop:=∃(k:Nat) (wb:Bool),k<=cs.length/\b=JM wb/\i=C E k/\F (wb=CU (cs.take k))/\F (JK X0.heap.size X0 wr)
theorem acw{cs:List aW}{k:Nat}{a9:aW}(h:cs[k]? =J a9):CU (cs.take (k+1))=(CU (cs.take k) || (decide (16 < a9.regs) || decide ((1024:Int) < (a9.list.length:Int)))):=by unfold CU;rw[take_one h,List.any_append];simp
variable{X:L}
theorem ad9{cr:L}{T:bF}{vk ar vs aY:O}{b:Nat}(h:jF w T vk ar vs aY)(d:JK w.heap.size w X)(aE:aU b X cr)(a':w.heap.size<=b):jF cr T vk ar vs aY:=
 h.keep λaT u ai=>aE.keep (λae=>ae < w.heap.size) (λae ab=>N) aT u (ay ai) ((d.cell (ay ai)).trans ai)
def ET (S:SchD) (X:L) (bs r:Nat):Prop:=∃(q:bD) (Ak:Option Addr) (nk:Nat) (Ab:Option Addr) (nb:Nat),X.cell? ⟨bs,r*3,I⟩=J (C E q.strategy)/\X.cell? ⟨bs,r*3+1,I⟩=J (G Ak q.keys.length nk)/\X.cell? ⟨bs,r*3+2,I⟩=J (G Ab q.branches.length nb)/\
 qU (λb=>b < X.heap.size) X [C E q.strategy,G Ak q.keys.length nk,G Ab q.branches.length nb] q/\kW (aZ S) q/\ES S q.keys
variable{S:SchD}
theorem ET.below{V:L}{P r:Nat}(h:ET S X P r)(d:JK X.heap.size X V):ET S V P r:=by obtain⟨m,dk,dl,cg,cV,o,a8,ac,b6,bz⟩:=h;exact⟨m,dk,dl,cg,cV,(d.cell (ay o)).trans o,(d.cell (ay a8)).trans a8,(d.cell (ay ac)).trans ac,b6.keep (aF.of_below d λy d=>d) λy bA=>Kv bA d.size,bz⟩
theorem af2{P r:Nat}(bw:ET S X P 0)(o:ET S X P 1)(h:r < 2):ET S X P r:=by
 rcases r with _|_|r
 ·exact bw
 ·exact o
 omega
theorem lq_walk(e5:∀(kinds:List (List Int)) (Q:Nat->Prop) (W:L) (cs':List O) (p:bD),qU Q W cs' p->kW kinds p->Calls Tryz.prog 6 #[C E 5,.agg cs'.toArray] W (IV kinds p W))(w:L)(S:SchD)(vt vs:O)(ad:qB w vt vs S)(cv:acI S)(br:ByteArray):Calls Tryz.prog 3 #[.agg #[vt,vs],H br] w λe w'=>e=.returned (JM true)/\JK w.heap.size w w':=by
 obtain⟨bR,cl,rfl,-,-⟩:=ad.types.slice;obtain⟨c3,cS,rfl,-,-⟩:=ad.syms.slice;have q:=A ad;have ee:=A e5;clear e5;have bU:=A (λW=>aa9 W);obtain⟨an,bk⟩:∃an,an=w.alloc (JO #[G bR S.types.length cl,G c3 S.syms.length cS] 25):=⟨_,D⟩;have aV:=A (show JK w.heap.size w an/\aj an w.heap.size 25 #[G bR S.types.length cl,G c3 S.syms.length cS] by rw[bk];exact⟨JY.alloc c _,aj.new _ _ _⟩);have ef:=A (adI (q.below aV.1) cv br);clear ad cv;go_in;go_upto_region 1 with fail;rw[<-bk];clear bk;obtain⟨al,am,a5,a6⟩:=bH aV.2;go_upto_region 2 with(go_at_call 4;refine ef.mono ?_;rintro e ce ⟨cs',p,c8,rfl,⟨n,di,dt,bG,ds,dw,co,rfl⟩,cq,ai⟩;have c6:=A cq;have ej:=A ai;clear cq ai);clear al am a5 a6 ef;refine aI (Φ:=λX=>JK ce.heap.size ce X/\aj X ce.heap.size 29 #[C E n,G di dt bG,G ds dw co]) ⟨JY.alloc c _,aj.new _ _ _⟩ ?_;intro b1 ac;have bb:=A ac;have cj:=A (show JK w.heap.size w b1/\aj b1 w.heap.size 25 #[G bR S.types.length cl,G c3 S.syms.length cS] from⟨(aV.1.trans (c6.mono aV.1.size)).trans (ac.1.mono (Ko aV.1.size c6.size)),(aV.2.below c6 aV.2.lt).below ac.1 (aV.2.below c6 aV.2.lt).lt⟩);have e2:=A (show c8=true->qU (λy=>y < b1.heap.size) b1 [C E n,G di dt bG,G ds dw co] p/\kW (aZ S) p/\iM S/\ES S p.keys from λh=>⟨(ej h).1.keep (aF.of_below ac.1 λy d=>d.2) λy d=>Kv d.2 ac.1.size,(ej h).2⟩);obtain⟨bE,cO⟩:∃y,y=ce.heap.size:=⟨_,D⟩;rw[<-cO] at bb⊢;have ag:=A (show w.heap.size < bE by rw[cO];exact Kv aV.2.lt c6.size);clear ac cO ej;cases c8 with
 |false=>clear e2;go_upto_region 3 with(go_at_call 5;refine(bU _).mono ?_;rintro e r ⟨rfl,cG⟩;have cc:=A cG;clear cG);go_wp2_with (go_at_call 5;refine(bU _).mono ?_;rintro e av ⟨rfl,cO⟩;have dv:=A cO;clear cO);go_ret;exact⟨D,(cj.1.trans (cc.mono cj.1.size)).trans (dv.mono (Ko cj.1.size cc.size))⟩
 |true=>
  have ck:=A (e2 D).2.2.1;have e3:=A (e2 D).2.2.2;have dj:=A (e2 D).2.1;have bB:=A (e2 D).1;clear e2;go_upto_region 4 with(go_at_call 5;refine(bU _).mono ?_;rintro e r ⟨rfl,cG⟩;have cc:=A cG;clear cG);have bX:=A (bb.2.below cc bb.2.lt);have eh:=A (show JK w.heap.size w r/\aj r w.heap.size 25 #[G bR S.types.length cl,G c3 S.syms.length cS] from⟨cj.1.trans (cc.mono cj.1.size),cj.2.below cc cj.2.lt⟩);have bF:=A (bB.keep (aF.of_below cc λy d=>d) λy d=>Kv d cc.size);clear bB bb cj cc;go_cut [31,32,33] from 28 to 33 (λbc M a3 bn=>∃P,bc=G (J ⟨P,0,I⟩) 2 2/\M=C E 2/\a3=C E 0/\F (JK r.heap.size r bn/\ET S bn P 0/\ET S bn P 1));case first=>
   have bw:=A (show ∀X,aj X bE 29 #[C E n,G di dt bG,G ds dw co]->X.cell? ⟨bE,0,I⟩=J (C E n)/\X.cell? ⟨bE,1,I⟩=J (G di dt bG)/\X.cell? ⟨bE,2,I⟩=J (G ds dw co) from λX h=>⟨h.cell 0,h.cell 1,h.cell 2⟩);obtain⟨R,bg⟩:∃b4,b4=World.drew r:=⟨_,D⟩;have b8:=A (show JK r.heap.size r R/\aj R bE 29 #[C E n,G di dt bG,G ds dw co] by rw[bg];exact⟨JY.drew,bX.below JY.drew bX.lt⟩);have cz:=A (bF.keep (aF.of_below b8.1 λy d=>d) (Q':=λy=>y < R.heap.size) λy d=>Kv d b8.1.size);have f:=A (bw R b8.2);refine aG (λX=>X.cell? ⟨bE,0,I⟩=J (C E n)/\X.cell? ⟨bE,1,I⟩=J (G di dt bG)/\X.cell? ⟨bE,2,I⟩=J (G ds dw co)) (λa4=>!([0,1,2,3,4,5]:List Nat).contains a4) U ?_;rw[<-bg];clear bg;refine tl 0 f ?_;refine tl 1 f ?_;refine tl 5 f ?_;refine t1 2 λK j=>?_;go_simp;go_wp2_with (go_at_call 6;refine(ee _ _ _ _ _ cz dj).mono ?_;rintro e bt ⟨dh,cy,rfl,c5,aB,aX,bO,dx⟩;obtain⟨cF,cN,cP,cY,rfl⟩:=Hz c5;have bQ:=A (Kt aB aX);clear aB aX bO);have dn:=A c5;have d3:=A dx;have f:=A (bw _ (b8.2.below dx b8.2.lt));clear c5 dx;(refine j.out _ _ (λ_=>f) ?_;clear j K);refine t1 3 λK j=>?_;go_simp;have ak:=A (show JK bt.heap.size bt (bt.alloc (JO #[C E n,G di dt bG,G ds dw co,C E dh.strategy,G cF dh.keys.length cN,G cP dh.branches.length cY] 29)) from JY.alloc c _);refine j.out _ _ (λ_=>bw _ ((b8.2.below d3 b8.2.lt).below ak (b8.2.below d3 b8.2.lt).lt)) ?_;clear j K;obtain⟨P,au⟩:∃y,y=bt.heap.size:=⟨_,D⟩;rw[<-au];refine aC (Φ:=λX=>JK bt.heap.size bt X/\aj X P 29 #[C E n,G di dt bG,G ds dw co,C E dh.strategy,G cF dh.keys.length cN,G cP dh.branches.length cY]) ⟨ak,au▸aj.new _ _ _⟩ ?_;intro cU h;have ap:=A h;have f:=A (bw _ ((b8.2.below d3 b8.2.lt).below h.1 (b8.2.below d3 b8.2.lt).lt));clear h ak au;refine tl 4 f ?_;refine td ?_;try simp only[Exit.then]
   go_wp2_with fail;go_meet;obtain⟨dr,dB,dJ,dM,bS⟩:=Hz bF;simp only[List.cons.injEq,Value.int.injEq,Value.slice.injEq,true_and,and_true] at bS;obtain⟨rfl,⟨rfl,rfl,rfl⟩,rfl,rfl,rfl⟩:=bS;have a0:=ap.2;refine⟨P,D,D,D,A ⟨b8.1.trans ((d3.mono b8.1.size).trans (ap.1.mono (Ko b8.1.size d3.size))),⟨p,_,_,_,_,a0.cell 0,a0.cell 1,a0.cell 2,cz.keep ((aF.of_below d3 λy d=>d).trans (aF.of_below ap.1 λy d=>Kv d d3.size)) (λy d=>Kv d (Ko d3.size ap.1.size)),dj,e3.out⟩,⟨dh,_,_,_,_,a0.cell 3,a0.cell 4,a0.cell 5,dn.keep (aF.of_below ap.1 λy d=>d.2) (λy d=>Kv d.2 ap.1.size),bQ.1,by rw[bQ.2];exact e3.out⟩⟩⟩
  case rest=>
  obtain⟨P,rfl,rfl,rfl,d8⟩:=hcut;obtain⟨bs,cZ⟩:∃w,w=wc:=⟨_,D⟩;rw[<-cZ] at d8⊢;have dE:=A (show JK w.heap.size w bs/\aj bs w.heap.size 25 #[G bR S.types.length cl,G c3 S.syms.length cS] from⟨eh.1.trans (d8.1.mono eh.1.size),eh.2.below d8.1 eh.2.lt⟩);clear cZ bX eh bF dj e3;go_wp2_with fail;go_loopw [33] (λa3 wr=>LqL bs a3 wr) (λa3 wr=>2-(intOf a3).toNat);case atStart=>exact⟨0,N,D,A JY⟩
  obtain⟨z,aS,rfl,b7⟩:=hrel;have ct:(0:Int)<=(z:Int):=N;have cu:(z:Int)<=2:=N;by_cases bA:z < 2
  ·obtain⟨g,dc⟩:∃w,w=wr:=⟨_,D⟩;subst dc;have c0:(z:Int) < 2:=N;obtain⟨m,dk,dl,cg,cV,b',bv,bo,a1,ab,ah⟩:=ET.below (af2 d8.2.1 d8.2.2 bA) b7;have dj:=A (Kt ab ah);have bB:=A a1;clear ab ah a1;go_upto_region 7 with fail;refine aI (Φ:=λX=>JK g.heap.size g X/\aj X g.heap.size 29 #[C E m.strategy,G dk m.keys.length dl,G cg m.branches.length cV]) ⟨JY.alloc c _,aj.new _ _ _⟩ ?_;intro av bz;have s:=A bz;have cB:=A (bB.keep (aF.of_below bz.1 λy d=>d) λy d=>d);clear bz b' bv bo bB;have aE:=A (aak cB dj.1);obtain⟨al,am,ax,a5,a6,aq⟩:=bf s.2;go_upto_region 8 with(go_at_call 7;refine aE.mono ?_;rintro e bt ⟨eo,rfl,ca,dx⟩;obtain⟨e0,e1,rfl,bl,dV,dA⟩:=id ca;obtain⟨cf,ev,rfl,-⟩:=id bl;obtain⟨ch,cm,rfl,-⟩:=id dV;have cs:=A ca;have d3:=A dx;clear ca dx bl dV dA);clear al am ax a5 a6 aq aE;obtain⟨x,bN⟩:∃aa,aa=jq m:=⟨_,D⟩;rw[<-bN] at cs⊢;have V:=A bN;clear bN;refine aI (Φ:=λX=>JK bt.heap.size bt X/\aj X bt.heap.size 37 #[C E x.strategy,G cf x.keys.length ev,G ch x.states.length cm]) ⟨JY.alloc c _,aj.new _ _ _⟩ ?_;intro cU de;have cJ:=A de;have bI:=A (show JK g.heap.size g cU from(s.1.trans (d3.mono s.1.size)).trans (de.1.mono (Ko s.1.size d3.size)));have bZ:=A (cs.keep (aF.of_below de.1 λy d=>d.2) (Q':=λy=>y < cU.heap.size) λy d=>Kv d.2 de.1.size);have cQ:=A (show JK w.heap.size w cU/\aj cU w.heap.size 25 #[G bR S.types.length cl,G c3 S.syms.length cS] from⟨dE.1.trans ((b7.trans (bI.mono b7.size)).mono dE.1.size),dE.2.below (b7.trans (bI.mono b7.size)) dE.2.lt⟩);have bw:=A (q.below cQ.1);have aO:=A (aey dj.1);have dQ:=A (show x.keys.length<=16 by rw[V.out];exact dj.1.keys);rw[<-V.out] at aO;obtain⟨k,b6⟩:∃k,k=dF x (aZ S) S.syms.length 100 100:=⟨_,D⟩;have aJ:=A b6;clear de b6 cs s cB;go_cut [11] from 42 to 49 (λbc bn=>∃T cI c1 cR cW d0 bL d5 cd,bc=.pointer (J ⟨T,0,I⟩)/\F (JK cU.heap.size cU bn/\aj bn T 44 #[C E k.strategy,G cI k.keys.length c1,G cR k.kinds.length cW,C E k.syms,C E k.runs,C E k.cells,G d0 k.states.length bL,G d5 k.codes.length cd]/\jF bn k (G cI k.keys.length c1) (G cR k.kinds.length cW) (G d0 k.states.length bL) (G d5 k.codes.length cd)));case first=>
    have cA:=A bw;have bw:=A (show ∀X,JK cU.heap.size cU X->X.cell? ⟨bt.heap.size,0,I⟩=J (C E x.strategy)/\X.cell? ⟨bt.heap.size,1,I⟩=J (G cf x.keys.length ev)/\X.cell? ⟨bt.heap.size,2,I⟩=J (G ch x.states.length cm)/\X.cell? ⟨w.heap.size,0,I⟩=J (G bR S.types.length cl)/\X.cell? ⟨w.heap.size,1,I⟩=J (G c3 S.syms.length cS) from λX az=>have aL:=cJ.2.below az cJ.2.lt;have ao:=cQ.2.below az cQ.2.lt;⟨aL.cell 0,aL.cell 1,aL.cell 2,ao.cell 0,ao.cell 1⟩);have c':=A (show ∀X,JK cU.heap.size cU X->qB X (G bR S.types.length cl) (G c3 S.syms.length cS) S from λX az=>cA.below az);obtain⟨bj,bg⟩:∃b4,b4=World.drew cU:=⟨_,D⟩;have b:=A (show JK cU.heap.size cU bj by rw[bg];exact JY.drew);have f:=A (bw bj b);refine aG (λX=>X.cell? ⟨bt.heap.size,0,I⟩=J (C E x.strategy)/\X.cell? ⟨bt.heap.size,1,I⟩=J (G cf x.keys.length ev)/\X.cell? ⟨bt.heap.size,2,I⟩=J (G ch x.states.length cm)/\X.cell? ⟨w.heap.size,0,I⟩=J (G bR S.types.length cl)/\X.cell? ⟨w.heap.size,1,I⟩=J (G c3 S.syms.length cS)) (λa4=>!([0,1,2,3,4,5,6,7,8]:List Nat).contains a4) U ?_;rw[<-bg];clear bg;refine tl 0 f ?_;refine tl 1 f ?_;refine tl 4 f ?_;refine tl 5 f ?_;refine tl 6 f ?_;refine bC (rs:=[2,8]) U ZH ?_;refine aN.cons D (λK j=>?_) ?_
    ·skip;go_simp;go_wp2_with (go_at_call 10;refine(aaR (c' _ b) ck).mono ?_;rintro e bj ⟨dO,cD,t,cX,rfl,bh,d⟩;obtain⟨cT,dR,rfl,-,-⟩:=bh.slice);have bq:=A bh;have cE:=A (b.trans (d.mono b.size));clear b;have b:=cE;clear cE;have f:=A (bw _ b);clear bh d;(refine j.out _ _ (λ_=>f) ?_;clear j K);refine bC (rs:=[3,8]) U ZH ?_;refine aN.cons D (λK j=>?_) ?_
     ·skip;go_simp;go_wp2_with (go_at_call 9;refine(vH bq ⟨_,_,_,D⟩ ck).mono ?_;rintro e bj ⟨ar,rfl,cp,d⟩;obtain⟨dq,v,rfl,-,-⟩:=cp.slice);have cn:=A cp;have cE:=A (b.trans (d.mono b.size));clear b;have b:=cE;clear cE;have f:=A (bw _ b);clear cp d bq;(refine j.out _ _ (λ_=>f) ?_;clear j K);refine bC (rs:=[7,8]) U ZH ?_;refine aN.cons D (λK j=>?_) ?_
      ·skip;go_simp;have db:=A (xA (a:=x) (kinds:=aZ S) (syms:=S.syms.length) (runs:=100) (cells:=100) dQ (by rw[nU];exact ck.types) (λbP a'=>by obtain⟨a3,aR⟩:=Nw a';obtain⟨b9,c7,rfl⟩:=sJ aR;rw[KZ];exact ck.attrs b9 (Kz c7)) aO.2 aO.1);obtain⟨ba,i⟩:∃bm,bm=bj.heap.size:=⟨_,D⟩;go_wp2_with (go_at_call 8;refine(rG (bZ.keep (aF.of_below b λy d=>d) λy d=>Kv d b.size) cn ⟨aA (by have:=ck.syms;omega) (by have:=ck.syms;omega),aA Z Z,aA Z Z⟩ aO.2 aO.1 db).mono ?_;rintro e bj a1;rw[<-aJ.out] at a1;obtain⟨ek,ep,ay,eq,rfl,B,d⟩:=a1;rw[<-i] at B;obtain⟨cI,c1,rfl,-,-⟩:=B.tab.keys.slice;obtain⟨cR,cW,rfl,-,-⟩:=B.tab.kinds.slice;obtain⟨d0,bL,rfl,-,-⟩:=B.tab.states.slice;obtain⟨d5,cd,rfl,-,-⟩:=B.tab.codes.slice);have dC:=A B;have cE:=A (b.trans (d.mono b.size));clear b;have b:=cE;clear cE;have f:=A (bw _ b);clear B d i cn db;(refine j.out _ _ (λ_=>f) ?_;clear j K);refine t1 8 λK j=>?_;go_simp;have ak:=Ro;refine UK ?_;clear j K;obtain⟨T,bY⟩:∃y,y=bj.heap.size:=⟨_,D⟩;rw[<-bY];refine Uh ?_;intro cb h;have l:=A h.2;have bd:=SH;have a7:=A (show ∀cr,aU T cb cr->jF cr k (G cI k.keys.length c1) (G cR k.kinds.length cW) (G d0 k.states.length bL) (G d5 k.codes.length cd) from λcr ae=>ad9 dC.tab h.1 ae (by rw[bY];exact KD _));have cE:=A (b.trans (h.1.mono b.size));clear b;have b:=cE;clear cE;have f:=A (bw _ b);clear h ak bY;obtain⟨bj,Y⟩:∃a2,a2=cb:=⟨_,D⟩;subst Y;refine t1 9 λK j=>?_;go_simp;obtain⟨cM,ci,cw,dm,dz,dK,bi,aP,dG,cC,d4,du,dH,aT,bV,c9⟩:=kY l;go_simp;have bK:=A (BM l D (C E k.strategy) (G cI k.keys.length c1) (G cR k.kinds.length cW) (C E k.syms) (C E k.runs) (C E k.cells) (G d0 k.states.length bL) (G d5 k.codes.length cd));(refine TS ?_;clear j K);refine td ?_;try simp only[Exit.then]
       clear cM ci cw dm dz dK bi aP dG cC d4 du dH aT bV c9;go_wp2_with fail;go_meet;exact⟨T,_,_,_,_,_,_,_,_,D,A ⟨bK.2.below _ _ bd b,bK.1,a7 _ bK.2⟩⟩
      refine aN.cons D (λK j=>?_) aN.nil;go_simp;have ak:=Ro;refine UK ?_;clear j K;obtain⟨T,bY⟩:∃y,y=bj.heap.size:=⟨_,D⟩;rw[<-bY];refine Uh ?_;intro cb h;have l:=A h.2;have bd:=SH;have eb:=A (cn.keep (bW.of_below h.1) λ_ _ ⟨bc,o,a8⟩=>⟨bc,o,yh (bW.of_below h.1) a8⟩);clear cn;have cn:=eb;clear eb;have cE:=A (b.trans (h.1.mono b.size));clear b;have b:=cE;clear cE;have f:=A (bw _ b);clear h ak bY;obtain⟨bj,Y⟩:∃a2,a2=cb:=⟨_,D⟩;subst Y;exact NW
     refine aN.cons D (λK j=>?_) aN.nil;go_simp;have ak:=Ro;refine UK ?_;clear j K;obtain⟨T,bY⟩:∃y,y=bj.heap.size:=⟨_,D⟩;rw[<-bY];refine Uh ?_;intro cb h;have l:=A h.2;have bd:=SH;have d1:=A (wB bq h.1);clear bq;have bq:=d1;clear d1;have cE:=A (b.trans (h.1.mono b.size));clear b;have b:=cE;clear cE;have f:=A (bw _ b);clear h ak bY;obtain⟨bj,Y⟩:∃a2,a2=cb:=⟨_,D⟩;subst Y;refine t1 3 λK j=>?_;go_simp;go_wp2_with (go_at_call 9;refine(vH bq ⟨_,_,_,D⟩ ck).mono ?_;rintro e bj ⟨ar,rfl,cp,d⟩;obtain⟨dq,v,rfl,-,-⟩:=cp.slice);have cn:=A cp;have aH:=RY;clear l;have l:=aH;clear aH;have cE:=A (b.trans (d.mono b.size));clear b;have b:=cE;clear cE;have f:=A (bw _ b);clear cp d bq;(refine j.out _ _ (λ_=>f) ?_;clear j K);exact NW
    refine aN.cons D (λK j=>?_) aN.nil;go_simp;have ak:=Ro;refine UK ?_;clear j K;obtain⟨T,bY⟩:∃y,y=bj.heap.size:=⟨_,D⟩;rw[<-bY];refine Uh ?_;intro cb h;have l:=A h.2;have bd:=SH;have cE:=A (b.trans (h.1.mono b.size));clear b;have b:=cE;clear cE;have f:=A (bw _ b);clear h ak bY;obtain⟨bj,Y⟩:∃a2,a2=cb:=⟨_,D⟩;subst Y;refine t1 2 λK j=>?_;go_simp;go_wp2_with (go_at_call 10;refine(aaR (c' _ b) ck).mono ?_;rintro e bj ⟨dO,cD,t,cX,rfl,bh,d⟩;obtain⟨cT,dR,rfl,-,-⟩:=bh.slice);have bq:=A bh;have aH:=RY;clear l;have l:=aH;clear aH;have cE:=A (b.trans (d.mono b.size));clear b;have b:=cE;clear cE;have f:=A (bw _ b);clear bh d;(refine j.out _ _ (λ_=>f) ?_;clear j K);refine t1 3 λK j=>?_;go_simp;go_wp2_with (go_at_call 9;refine(vH bq ⟨_,_,_,D⟩ ck).mono ?_;rintro e bj ⟨ar,rfl,cp,d⟩;obtain⟨dq,v,rfl,-,-⟩:=cp.slice);have cn:=A cp;have aH:=RY;clear l;have l:=aH;clear aH;have cE:=A (b.trans (d.mono b.size));clear b;have b:=cE;clear cE;have f:=A (bw _ b);clear cp d bq;(refine j.out _ _ (λ_=>f) ?_;clear j K);exact NW
   case rest=>
   obtain⟨T,cI,c1,cR,cW,d0,bL,d5,cd,rfl,be⟩:=hcut;obtain⟨da,fi⟩:∃w,w=wc:=⟨_,D⟩;rw[<-fi] at be⊢;clear fi;have d6:=A be.2.2.codes;have aK:=be.2.1.cell 7;have dW:(0:Int)<=(k.codes.length:Int):=N;obtain⟨bM⟩:∃_:Unit,True:=⟨(),trivial⟩;have dT:=A (show k.codes.length<=9223372036854775807 by obtain⟨cD,cX,o,a8,ac⟩:=d6.slice;unfold maxLen at ac;omega);go_wp2_with fail;clear aK;go_loopw [12,53] (λy a3 wr=>LqC k.codes da y a3 wr) (λy a3 wr=>k.codes.length-(intOf a3).toNat);case atStart=>exact⟨0,false,Kw _,D,D,A D,A JY⟩
   obtain⟨a0,aQ,ah,rfl,rfl,dP,d2⟩:=hrel;have dS:(0:Int)<=(a0:Int):=N;have aW:=dT.out;by_cases dL:a0 < k.codes.length
   ·have dD:(a0:Int) < (k.codes.length:Int):=N;have d7:IntKind.i64.wrap ((a0:Int)+1)=(a0:Int)+1:=Zl;clear aW;obtain⟨a9,aw⟩:∃a9,k.codes[a0]? =J a9:=⟨_,Kr dL⟩;have cH:=A aw;obtain⟨dN,b5,cX,em,aY,aM,af,-,-,b0,aL,ao,b2,bu,aR,d9,a',-,-⟩:=zS (Ar (bW.of_below d2) d6) aw;injection af with af aD cL;subst af cL;clear aD;obtain⟨bT,e9,rfl,-,-⟩:=aR.slice;obtain⟨dU,ea,rfl,-,-⟩:=d9.slice;obtain⟨dX,fa,rfl,-,-⟩:=a'.slice;obtain⟨dd,dY,dZ,d',df⟩:=a9;dsimp only at b0 aL ao b2 bu;clear aw aR d9 a';have dy:0 < k.codes.length:=N;go_upto_region 13 with fail;refine aI (Φ:=λX=>JK wr.heap.size wr X/\aj X wr.heap.size 55 #[C E dd,C E dY,G bT dZ.length e9,G dU d'.length ea,G dX df.length fa]) ⟨JY.alloc c _,aj.new _ _ _⟩ ?_;intro cK aD;have bp:=A aD;have c4:=A (d2.trans (aD.1.mono d2.size));clear aD b0 aL ao b2 bu;have b0:=bp.2.cell 0;have bu:=bp.2.cell 4;have f7:=A (acw cH);dsimp only at f7;rcases aQ with _|_
    ·rcases b3:decide (16 < dd) with _|_
     ·have bx:=A b3;go_wp2_with fail;exact⟨⟨a0+1,decide ((1024:Int) < (df.length:Int)),N,D,ZF,A (by rw[f7.out,<-dP.out,bx.out];rfl),c4⟩,YF⟩
     have bx:=A b3;go_wp2_with fail;exact⟨⟨a0+1,true,N,D,ZF,A (by rw[f7.out,<-dP.out,bx.out];rfl),c4⟩,YF⟩
    go_wp2_with fail;exact⟨⟨a0+1,true,N,D,ZF,A (by rw[f7.out,<-dP.out];rfl),c4⟩,YF⟩
   have dD:(k.codes.length:Int)<=(a0:Int):=N;have dI:=A (show aQ=CU k.codes by rw[dP.out,KN N]);have et:=A (be.2.2.below d2);have c2:=A (be.2.1.below d2 be.2.1.lt);have cx:=A (show JK bs.heap.size bs wr from(b7.trans (bI.mono b7.size)).trans ((be.1.mono (Ko b7.size bI.size)).trans (d2.mono (Ko (Ko b7.size bI.size) be.1.size))));obtain⟨cM,ci,cw,dm,dz,dK,bi,aP,dG,cC,d4,du,dH,aT,bV,c9⟩:=kY c2;clear aW;cases aQ with
   |true=>go_wp2_with fail;exact⟨⟨z+1,N,ZF,cx⟩,YF⟩
   |false=>
    have dg:=A (wC k _ _ _ _ wr et);have dp:yK k=true:=by rw[aJ.out,V.out];exact adJ dj.1 ck dj.2 (by rw[<-V.out,<-aJ.out,<-dI.out])
    rw[dp] at dg;clear dp;go_wp2_with (go_at_call 11;refine dg.mono ?_;rintro e cK ⟨rfl,en⟩;have c4:=A en;clear en);exact⟨⟨z+1,N,ZF,A (cx.trans (c4.mono cx.size))⟩,YF⟩
  have c0:(2:Int)<=(z:Int):=N;go_wp2_with fail;go_ret;exact⟨D,dE.1.trans (b7.mono dE.1.size)⟩
def SchC (w:L) (cs:List O) (S:SchD):Prop:=∃vt vs,cs=[vt,vs]/\qB w vt vs S
theorem SchC.of{Y:Array O}(h:SchC w Y.toList S):∃vt vs,Y=#[vt,vs]/\qB w vt vs S:=by obtain⟨vt,vs,o,a8⟩:=h;exact⟨vt,vs,by cases Y;simpa using o,a8⟩
namespace Wide
def xw (s:ByteArray):Prop:=s.size<=140737488351232
def aaV (x:ByteArray×Int):Prop:=xw x.1
def adO (x:ByteArray×List (ByteArray×Int)):Prop:=xw x.1/\EC 24 aaV x.2
def rcSch (S:SchD):Prop:=EC 40 adO S.types/\EC 16 xw S.syms
section
variable {H:Type} {enc:TypeId×O->H} {base:Nat} {held:Bool}
theorem yw:qY enc Tryz.prog w base held 9 1 zG xw:=λj bj a2 h ai bB=>by
 obtain⟨ba,rfl,rfl,_⟩:=DataW.trod_string Tryz.underlying9 h
 refine⟨D,ba,D,?_⟩
 have o:=bB ba.data.toList.length (by simp[DataW.weights])
 have a8:ba.data.toList.length=ba.size:=by rw[Array.length_toList];rfl
 unfold xw
 simp only[reachBytes] at o
 omega
theorem abS:qY enc Tryz.prog w base held 103 2 yY aaV:=λj bj a2 h ai bB=>by
 obtain⟨ce,M,rfl,a',y,aH⟩:=tH Tryz.underlying103 U U h
 obtain⟨df,a5,b',al,cl⟩:=aH 0 _ D
 obtain⟨dY,a6,bv,am,t1⟩:=aH 1 _ D
 obtain⟨_,cI,l,dz⟩:=yw M _ _ cl (wW al ai) (CJ Tryz.underlying103 bB D al)
 obtain rfl:=Ed a' b' bv
 obtain rfl:=Ed y al am
 obtain⟨bD,b3,rfl,aC⟩:=DataW.trod_int Tryz.underlying3 t1
 have l:[df]=[Value.string cI]:=l
 simp at b3 l
 subst b3 l
 exact⟨D,(cI,bD),⟨D,aC⟩,dz⟩
theorem JH:qY enc Tryz.prog w base held 100 1 (λw cs l=>∃v,cs=[v]/\bU 2 yY w v l) (EC 24 aaV):=sS Tryz.underlying100 U U Z abS
theorem abT:qY enc Tryz.prog w base held 102 2 zf adO:=λj bj a2 h ai bB=>by
 obtain⟨ce,M,rfl,a',y,aH⟩:=tH Tryz.underlying102 U U h
 obtain⟨df,a5,b',al,cl⟩:=aH 0 _ D
 obtain⟨dY,a6,bv,am,t1⟩:=aH 1 _ D
 obtain⟨_,cI,l,dz⟩:=yw M _ _ cl (wW al ai) (CJ Tryz.underlying102 bB D al)
 obtain⟨_,cX,⟨aU,az,c1⟩,ct⟩:=JH M _ _ t1 (wW am ai) (CJ Tryz.underlying102 bB D am)
 obtain rfl:=Ed a' b' bv
 obtain rfl:=Ed y al am
 have l:[df]=[Value.string cI]:=l
 simp at l az
 subst l az
 exact⟨D,(cI,cX),⟨dY,D,c1⟩,⟨dz,ct⟩⟩
theorem JJ:qY enc Tryz.prog w base held 22 1 (λw cs l=>∃v,cs=[v]/\bU 2 zf w v l) (EC 40 adO):=sS Tryz.underlying22 U U Z abT
theorem JI:qY enc Tryz.prog w base held 23 1 (λw cs l=>∃v,cs=[v]/\bU 1 zG w v l) (EC 16 xw):=sS Tryz.underlying23 U U Z yw
theorem openw_sch:qY enc Tryz.prog w base held 25 2 SchC rcSch:=λj bj a2 h ai bB=>by
 obtain⟨ce,M,rfl,a',y,aH⟩:=tH Tryz.underlying25 U U h
 obtain⟨df,a5,b',al,cl⟩:=aH 0 _ D
 obtain⟨dY,a6,bv,am,t1⟩:=aH 1 _ D
 obtain⟨_,d8,⟨e,b,cI⟩,dz⟩:=JJ M _ _ cl (wW al ai) (CJ Tryz.underlying25 bB D al)
 obtain⟨_,cX,⟨aU,az,c1⟩,ct⟩:=JI M _ _ t1 (wW am ai) (CJ Tryz.underlying25 bB D am)
 obtain rfl:=Ed a' b' bv
 obtain rfl:=Ed y al am
 simp at b az
 subst b az
 exact⟨D,⟨d8,cX⟩,⟨df,dY,D,⟨cI,c1⟩⟩,⟨dz,ct⟩⟩
end
theorem schB_of(h:rcSch S):acI S:=by
 obtain⟨⟨o,a8⟩,ac,b6⟩:=h;refine⟨N,λb9 c7=>?_,λb9 c7 aG aH=>?_,λba ag=>?_⟩
 ·have:=(a8 b9 c7).1;unfold xw at this;omega
 ·have:=(a8 b9 c7).2.2 aG aH;unfold aaV xw at this;omega
 have:=b6 ba ag;unfold xw at this;omega
end Wide

import Derived.Test.YtcabmcfnjkeemaaGreatBM00
import Derived.Test.YtcabmcfnjkeemaaGreatB21
set_option maxRecDepth 100000
set_option maxHeartbeats 40000000
set_option linter.unusedVariables false
set_option linter.unusedSimpArgs false
namespace Go.Proofs.YtcabmcfnjkeemaaGreat
open Go.Deep Go.RowKit
open Go renaming World->L,Value->O
open Go.IntKind renaming i64->E,u64->JL
open Go.Obj renaming cells->JO
open Go.RowKit renaming Hid->F,Below->JK
open Go.Value renaming int->C,slice->G,bool->JM
open Option renaming none->I,some->J
attribute [local go_sem ↓] Go.wp_at_zero Go.wp_at_succ
def TwP (l:List ND) (W:L) (e:Ending) (W':L):Prop:=∃v,e=.returned v/\dM (λb=>W.heap.size<=b/\b < W'.heap.size) W' v l/\JK W.heap.size W W'
def TwA (l:List ND) (W:L) (e:Ending) (W':L):Prop:=∃v css,e=.returned v/\Acc W.heap.size 150 7 dW W' v l css/\JK W.heap.size W W'
def TwL (W:L) (l:List ND) (v i:O) (wr:L):Prop:=∃(r:Nat) (xs:List ND) (css:List (List O)),r<=l.length/\i=C E r/\F (Acc W.heap.size 150 7 dW wr v xs css)/\F (xs=l.take r)/\F (JK W.heap.size W wr)
theorem pW:∀(m:Nat) (l:List ND),(l.map aH).sum<=m->m<=200000000000->∀(W:L) (v:O),bU 7 qg W v l->Calls Tryz.prog 22 #[v] W (TwA l W):=by
 intro m;induction m using Nat.strongRecOn with
 |ind m bf=>
 intro l bL f6 W v h;obtain⟨Y,a9,rfl,d0,cR⟩:=h.slice;have f:=A h;have dF:=A bf;have bH:=A bL;have dy:=A f6;have dH:l.length<=200000000000:=YJ;unfold maxLen at cR;clear h bf bL f6;go_in;go_wp2_with fail;go_loopw [3,8] (λv a3 wr=>TwL W l v a3 wr) (λv a3 wr=>l.length-(intOf a3).toNat);case atStart=>exact⟨0,[],[],Kw _,D,A (Acc.nil _),A D,A JY⟩
 obtain⟨z,ce,cA,aS,rfl,t,B,b7⟩:=hrel;obtain⟨di,bG,rfl⟩:=aB t.1;have f1:F (ce.length=z):=A (by rw[B.out,Lc];omega);have ct:(0:Int)<=(z:Int):=N;have cu:(z:Int)<=200000000000:=N;by_cases bA:z < l.length
 ·have c0:(z:Int) < (l.length:Int):=N;obtain⟨a2,ak⟩:∃a2,l[z]? =J a2:=⟨_,Kr bA⟩;have bV:=A ak;obtain⟨e,aP,aM,ba,ar,S⟩:=a2;obtain⟨y,b5,ch,cl,cW,af,-,-,b',bv,bo,bZ,c5,e4,co,bS⟩:=fC (iH f b7) ak;injection af with af _ cS;subst af cS;obtain⟨dg,cM,dI,bN⟩:=qg.opened bS;have b:dg=G cl S.length cW:=by have aD:J (Value.slice cl S.length cW)=J dg:=congrArg (λl:List O=>l[2]?) cM;injection aD with aD;exact aD.symm
  subst b;have cY:=A bN;have dl:F ((S.map aH).sum < m):=A (by have o:=qQ aH ak;rw[dn] at o;have:=bH.out;omega);have dj:=A (λX (az:bU 7 qg X (G cl S.length cW) S)=>dF.out _ dl S c (by have:=dl.out;have:=dy.out;omega) X _ az);have dX:=A dI;clear ak bS cM dI bN;go_upto_region 6 with fail;have cy:=A (show JK wr.heap.size wr (wr.alloc (JO #[C E e,C E aP,G cl S.length cW,C E aM.kind,C JL aM.bits,C E ba,C E ar] 150)) from JY.alloc c _);refine aI (Φ:=λX=>JK wr.heap.size wr X/\aj X wr.heap.size 150 #[C E e,C E aP,G cl S.length cW,C E aM.kind,C JL aM.bits,C E ba,C E ar]) ⟨cy,aj.new _ _ _⟩ ?_;intro cX aD;have bp:=A aD;clear aD cy b' bv bo bZ c5 e4 co;obtain⟨aa,cq,cT,cg,q,dt,dw,cQ,cJ,db,dr,da,P,de⟩:=aK bp.2;go_wp2_with fail;refine(dj _ (iH dX bp.1)).mono ?_;rintro a7 r ⟨eV,eh,rfl,cH,cG⟩;have ci:=cH.done iR;clear cH;obtain⟨aW,bu,rfl,en,d',a'⟩:=ci;have bF:=A (show dM (λy=>cX.heap.size<=y/\y < r.heap.size) r (G aW S.length bu) S from⟨aW,bu,D,en,d',a'⟩);have cc:=A cG;have bX:=A (Kt (bp.1.trans (cG.mono bp.1.size)) (bp.2.below cG bp.2.lt));clear en d' a' cG aa cq cT cg q dt dw cQ cJ db dr da P de;obtain⟨aa,cq,cT,cg,q,dt,dw,cQ,cJ,db,dr,da,P,de⟩:=aK bX.2;go_upto_region 7 with fail;have g:=A (aU.one r wr.heap.size 2 (G aW S.length bu));have av:=A (show wr.heap.size < cX.heap.size from bp.2.lt);refine aI (Φ:=λX=>JK wr.heap.size wr X/\aj X wr.heap.size 150 #[C E e,C E aP,G aW S.length bu,C E aM.kind,C JL aM.bits,C E ba,C E ar]/\dM (λy=>cX.heap.size<=y/\y < X.heap.size) X (G aW S.length bu) S) ⟨g.below _ _ c bX.1,bX.2.bJ 2 _,bF.keep (g.keep _ λy d=>by have:=av.out;omega) λy d=>⟨d.1,by rw[g.size];exact d.2⟩⟩ ?_;intro e8 bz;have s:=A bz;clear bz aa cq cT cg q dt dw cQ cJ db dr da P de g;obtain⟨aa,cq,cT,cg,q,dt,dw,cQ,cJ,db,dr,da,P,de⟩:=aK s.2.1;have ao:=A (show dW (λy=>wr.heap.size<=y/\y < e8.heap.size) e8 [C E e,C E aP,G aW S.length bu,C E aM.kind,C JL aM.bits,C E ba,C E ar] (.mk e aP aM ba ar S) from dW.shut (s.2.2.keep (λ_ _ _ h=>h) λy d=>⟨by have:=av.out;omega,d.2⟩) cY);go_upto_region 8 with(at_builtin;refine jU lW iR D _ _ D t.out b7.out.size s.out.1 (cs:=[C E e,C E aP,G aW S.length bu,C E aM.kind,C JL aM.bits,C E ba,C E ar]) (x:=.mk e aP aM ba ar S) D ao.out (vO ao.out) (by rw[f1.out];omega) (by rw[f1.out];unfold maxLen;omega) D D ?_;intro ds co bt aR d5;have e1:=A aR;have dU:=A d5;clear aR d5);clear aa cq cT cg q dt dw cQ cJ db dr da P de;have cK:F (ce++[.mk e aP aM ba ar S]=l.take (z+1)):=A (by rw[take_snoc' bV.out,B.out]);have bM:=(dU.below _ _ c (Ko b7.size s.1.size) (b7.trans (s.1.mono b7.size)));go_wp2_with fail;exact⟨⟨z+1,_,_,N,ZF,e1,cK,A bM⟩,YF⟩
 have c0:(l.length:Int)<=(z:Int):=N;go_wp2_with fail;go_ret;refine⟨_,cA,D,?_,b7.out⟩;have o:=t.out;rw[B.out,KN (show l.length<=z by omega)] at o;rw[B.out,KN (show l.length<=z by omega)];exact o
theorem jT(m:Nat)(l:List ND)(o:(l.map aH).sum<=m)(a8:m<=200000000000)(W:L)(v:O)(h:bU 7 qg W v l):Calls Tryz.prog 22 #[v] W (TwP l W):=
 (pW m l o a8 W v h).mono λa7 i ⟨v,cA,bS,aJ,d⟩=>⟨v,bS,aJ.done iR,d⟩
def oN (b:Bool):dP:=if b then⟨2,1⟩ else⟨2,0⟩
def ahr (x:dP) (w:L) (e:Ending) (w':L):Prop:=e=.returned (.agg #[C E x.kind,C JL x.bits])/\JK w.heap.size w w'
theorem lI(b:Bool)(w:L):Calls Tryz.prog 82 #[JM b] w (ahr (oN b) w):=by
 obtain⟨an,bk⟩:∃an,an=w.alloc (JO #[C E 0,C JL 0] 202):=⟨_,D⟩;have aV:=A (show JK w.heap.size w an/\aj an w.heap.size 202 #[C E 0,C JL 0] by rw[bk];exact⟨JY.alloc c _,aj.new _ _ _⟩);go_in;go_upto_region 1 with fail;rw[<-bk];clear bk;obtain⟨al,am,a5,a6⟩:=bH aV.2;rcases b with _|_;all_goals
  go_wp2_with fail
  refine iJ aV.2 D λX az aE=>?_
  refine Ui ?_
  exact⟨D,aE.below _ _ c aV.1⟩
variable{w:L}
theorem uz{cs:List O}{x:ND}(h:qg w cs x)(b:Bool):Calls Tryz.prog 46 #[.agg cs.toArray,JM b] w (acC w):=by
 obtain⟨e,aP,aM,ba,ar,S⟩:=x;obtain⟨dg,rfl,ag,bN⟩:=h.opened;obtain⟨Y,a9,rfl,d0,cR⟩:=ag.slice;obtain⟨an,bk⟩:∃an,an=w.alloc (JO #[C E e,C E aP,G Y S.length a9,C E aM.kind,C JL aM.bits,C E ba,C E ar] 150):=⟨_,D⟩;have aV:=Rx;have cB:=A (λB=>lI b B);clear h ag bN;go_in;go_upto_region 1 with fail;rw[<-bk];clear bk;obtain⟨aa,cq,cT,cg,q,dt,dw,cQ,cJ,db,dr,da,P,de⟩:=aK aV.2;by_cases g:e=40
 ·subst g;obtain⟨b4,bg⟩:∃b4,b4=World.drew an:=⟨_,D⟩;have bV:=A (show JK w.heap.size w b4/\aj b4 w.heap.size 150 #[C E 40,C E aP,G Y S.length a9,C E aM.kind,C JL aM.bits,C E ba,C E ar] by rw[bg];exact⟨aV.1.drew,aV.2.drew⟩);have f:F (b4.cell? ⟨w.heap.size,0,I⟩=J (C E 40)/\b4.cell? ⟨w.heap.size,3,I⟩=J (C E aM.kind)/\b4.cell? ⟨w.heap.size,4,I⟩=J (C JL aM.bits)):=A ⟨bV.2.cell 0,bV.2.cell 3,bV.2.cell 4⟩;clear aa cq cT cg q dt dw cQ cJ db dr da P de;refine aG (λX=>X.cell? ⟨w.heap.size,0,I⟩=J (C E 40)/\X.cell? ⟨w.heap.size,3,I⟩=J (C E aM.kind)/\X.cell? ⟨w.heap.size,4,I⟩=J (C JL aM.bits)) (λa4=>!([0,1,2,3,4,5,6,7,8,9,10]:List Nat).contains a4) U ?_;rw[<-bg];clear bg;refine tl 0 f ?_;refine tl 1 f ?_;refine tl 2 f ?_;refine tl 3 f ?_;refine tl 4 f ?_;refine tl 5 f ?_;refine tl 6 f ?_;refine t1 7 λK j=>?_;go_simp;go_wp2_with (go_at_call 82;refine(cB _).mono ?_;rintro a7 r ⟨rfl,d⟩);have bX:=A (show JK w.heap.size w r/\aj r w.heap.size 150 #[C E 40,C E aP,G Y S.length a9,C E aM.kind,C JL aM.bits,C E ba,C E ar] from⟨bV.1.trans (d.mono bV.1.size),bV.2.below d bV.2.lt⟩);have f:F (r.cell? ⟨w.heap.size,0,I⟩=J (C E 40)/\r.cell? ⟨w.heap.size,3,I⟩=J (C E aM.kind)/\r.cell? ⟨w.heap.size,4,I⟩=J (C JL aM.bits)):=A ⟨bX.2.cell 0,bX.2.cell 3,bX.2.cell 4⟩;clear d;(refine j.out _ _ (λ_=>f) ?_;clear j K);refine aJ (i:=8) (v:=JM (decide (aM.kind=(oN b).kind) && decide (aM.bits=(oN b).bits))) D U U U U (λ_ _ _ h=>h) (KH ⟨U,?_⟩) f.out ?_
  ·(intro aF k;obtain⟨W,d0,cR⟩:=k;go_simp;by_cases bD:aM.kind=(oN b).kind <;> by_cases bs:aM.bits=(oN b).bits <;> simp[bD,bs])
  refine tl 9 f ?_;refine tl 10 f ?_;refine td ?_;try simp only[Exit.then]
  go_simp;go_wp2_with fail;all_goals(go_ret;exact⟨_,D,bX.1⟩)
 have e3:(e== 40)=false:=by simpa using g
 clear g;go_quiet (fail);go_wp2_with fail;go_ret;exact⟨_,D,below_drewN aV.1 _⟩
def aaC (w:L) (e:Ending) (w':L):Prop:=∃b,e=.returned (JM b)/\w=w'
def ag8 (w:L) (e:Ending) (w':L):Prop:=∃k:Int,e=.returned (C E k)/\w=w'
theorem Ik(a:Int)(w:L):Calls Tryz.prog 132 #[C JL a] w (aaC w):=by go_in;exact Ov
theorem wX(a:Int)(w:L)(h:oU a):Calls Tryz.prog 127 #[C JL a] w (aaC w):=by obtain⟨bw,o⟩:=tN h;exact(yg a w bw o).mono λ_ _ ⟨bS,bN⟩=>⟨_,bS,bN⟩
theorem Bv(a b:Int)(w:L)(aJ:oU a)(d:oU b):Calls Tryz.prog 125 #[C JL a,C JL b] w (aaC w):=by
 have bU:=A (wX a w aJ);have aE:=A (wX b w d);have aX:=A (λa0=>Ik a0 w);clear aJ d;go_in;go_wp2_with fail;refine bU.mono ?_;rintro a7 aC ⟨cq,rfl,rfl⟩;rcases cq with _|_;rotate_left
 ·exact Ov
 go_wp2_with fail;refine aE.mono ?_;rintro a7 ce ⟨cT,rfl,rfl⟩;rcases cT with _|_;rotate_left
 ·exact Ov
 rcases e:(a== b) with _|_;rotate_left
 ·exact Ov
 go_wp2_with fail;refine(aX a).mono ?_;rintro a7 b1 ⟨cg,rfl,rfl⟩;rcases cg with _|_
 ·exact Ov
 go_wp2_with fail;refine(aX b).mono ?_;rintro a7 b1 ⟨q,rfl,rfl⟩;exact Ov
theorem BH(a b:Int)(w:L)(aJ:oU a)(d:oU b):Calls Tryz.prog 131 #[C JL a,C JL b] w (ag8 w):=by
 obtain⟨bJ,bD⟩:=tN aJ;obtain⟨dz,ct⟩:=tN d;have bU:=A (jB a w bJ bD);have aE:=A (jB b w dz ct);clear aJ d bJ bD dz ct;go_in;go_wp2_with fail;refine bU.mono ?_;rintro a7 aC ⟨rfl,rfl⟩;go_wp2_with fail;refine aE.mono ?_;rintro a7 aC ⟨rfl,rfl⟩;generalize canon a=h;generalize canon b=ck;rcases e:(h== ck) with _|_
 ·by_cases v:9223372036854775808<=h;all_goals by_cases c2:9223372036854775808<=ck
  all_goals go_wp2_with fail
  all_goals(go_ret;exact⟨_,D,D⟩)
 exact Ov
theorem EG(a b:Int)(w:L)(aJ:oU a)(d:oU b):Calls Tryz.prog 124 #[C JL a,C JL b] w (aaC w):=by
 have bU:=A (wX a w aJ);have aE:=A (wX b w d);have S:=A (Bv a b w aJ d);have M:=A (BH a b w aJ d);clear aJ d;go_in;go_wp2_with fail;refine bU.mono ?_;rintro a7 aC ⟨cq,rfl,rfl⟩;rcases cq with _|_;rotate_left
 ·exact Ov
 go_wp2_with fail;refine aE.mono ?_;rintro a7 ce ⟨cT,rfl,rfl⟩;rcases cT with _|_;rotate_left
 ·exact Ov
 go_wp2_with fail;refine S.mono ?_;rintro a7 b1 ⟨cg,rfl,rfl⟩;rcases cg with _|_;rotate_left
 ·exact Ov
 go_wp2_with fail;refine M.mono ?_;rintro a7 b1 ⟨q,rfl,rfl⟩;exact Ov
def ag0 (w:L) (e:Ending) (w':L):Prop:=∃u:Int,e=.returned (C JL u)/\rD u/\w=w'
theorem adQ(a:Int)(w:L)(aJ:oU a):Calls Tryz.prog 126 #[C JL a] w (ag0 w):=by
 obtain⟨bJ,bD⟩:=tN aJ;clear aJ;cases V:mY a with
 |true=>have bU:=A (DV a w bJ bD V);have cH:F (rD 9221120237041090560):=A ⟨eH.2 ⟨Z,Z⟩,Z⟩;clear V;go_in;go_wp2_with fail;refine bU.mono ?_;rintro a7 aC ⟨rfl,rfl⟩;go_wp2_with fail;go_ret;exact⟨_,D,cH,D⟩
 |false=>
  have bU:=A (GV a w bJ bD V);have cw:=A (xX V);have dh:F (∀u,u % 9223372036854775808=a % 9223372036854775808->0<=u->u<=18446744073709551615->rD u):=A (λu h bw o=>⟨eH.2 ⟨bw,o⟩,by unfold mY at V;unfold canon;rw[JZ (by rw[h];simpa using V)]⟩);clear V;by_cases aT:9223372036854775808<=a
  ·exact QD
  exact QD
def ahi (w:L) (e:Ending) (w':L):Prop:=∃(s:Int) (b:Bool),e=.returned (.tuple #[C E s,JM b])/\w=w'
theorem FC(a b:Int)(w:L)(aJ:wfi a)(d:wfi b):Calls Tryz.prog 128 #[C E a,C E b] w (ahi w):=by
 obtain⟨bJ,bD⟩:=ji.1 aJ;obtain⟨dz,ct⟩:=ji.1 d;clear aJ d;go_in;rcases d3:(a== 0) with _|_;rotate_left
 ·exact Qa
 rcases b2:(b== 0) with _|_;rotate_left
 ·exact Qa
 rcases f5:(a== -1) with _|_;rotate_left
 ·exact Qa
 rcases e:(b== -1) with _|_;rotate_left
 ·exact Qa
 have c4:b≠0:=by simpa using b2
 exact Qa
def yO (w:L) (e:Ending) (w':L):Prop:=∃x:dP,e=.returned (.agg #[C E x.kind,C JL x.bits])/\kQ x=true/\wfi x.kind/\oU x.bits/\JK w.heap.size w w'
def zV:Array O:=#[C E 0,C JL 0]
theorem jM(b:Bool):kQ (oN b)=true/\wfi (oN b).kind/\oU (oN b).bits:=by
 cases b
 ·exact⟨Z,aA Z Z,eH.2 ⟨Z,Z⟩⟩
 exact⟨Z,aA Z Z,eH.2 ⟨Z,Z⟩⟩
variable{X:L}{x:dP}
theorem yO.of{W:L}{g:Nat}(h:JK w.heap.size w W)(aE:aU g W X)(ab:w.heap.size<=g)(o:kQ x=true)(a8:wfi x.kind)(ac:oU x.bits):yO w (.returned (.agg #[C E x.kind,C JL x.bits])) X:=⟨x,D,o,a8,ac,aE.below _ _ ab h⟩
theorem afb(op a b:Int)(w:L)(aJ:oU a)(d:oU b):Calls Tryz.prog 115 #[C E op,C JL a,C JL b] w (yO w):=by
 obtain⟨an,bk⟩:∃an,an=w.alloc (JO zV 202):=⟨_,D⟩;have aV:=RX;have aX:=A (λB=>adQ a B aJ);have dj:=A (λB=>wX a B aJ);have cB:=A (λb B=>lI b B);have aQ:=A (λB=>aaW op a b B aJ d);clear aJ d;unfold zV at bk;go_in;go_upto_region 1 with fail;rw[<-bk];clear bk;obtain⟨al,am,a5,a6⟩:=bH (show aj an w.heap.size 202 #[C E 0,C JL 0] from aV.2);rcases S:(op== 6) with _|_;rotate_left
 ·go_wp2_with fail;refine(aX _).mono ?_;exact PI
 rcases ea:(op== 17) with _|_;rotate_left
 ·go_wp2_with fail;refine(dj _).mono ?_;rintro a7 ce ⟨u,rfl,rfl⟩;go_wp2_with fail;refine(cB _ _).mono ?_;rintro a7 b1 ⟨rfl,c9⟩;have bb:=Sj;clear c9 al am a5 a6;obtain⟨al,am,a5,a6⟩:=Td;go_wp2_with fail;refine iJ bb.2 D λX az aE=>?_;refine Ui ?_;exact yO.of (x:=oN u) bb.out.1 aE c (jM u).1 (jM u).2.1 (jM u).2.2
 go_wp2_with fail;refine(aQ _).mono ?_;rintro a7 b1 ⟨u,rfl,ap,c9⟩;have dv:=A ap;have bb:=Sj;clear c9 ap al am a5 a6;obtain⟨al,am,a5,a6⟩:=Td;go_wp2_with fail;refine iJ bb.2 D λX az aE=>?_;refine Ui ?_;exact yO.of (x:=⟨4,u⟩) bb.out.1 aE c (vb4 dv.out.2) (aA (a:=4) Z Z) dv.out.1
theorem acv(op a b:Int)(w:L)(aJ:wfi a)(d:wfi b):Calls Tryz.prog 116 #[C E op,C E a,C E b] w (yO w):=by
 obtain⟨an,bk⟩:∃an,an=w.alloc (JO zV 202):=⟨_,D⟩;have aV:=RX;obtain⟨bJ,bD⟩:=ji.1 aJ;obtain⟨dz,ct⟩:=ji.1 d;have M:=A (λB=>BF a B aJ);have cB:=A (λb B=>lI b B);have ef:=A (λB=>FC a b B aJ d);clear aJ d;unfold zV at bk;go_in;go_upto_region 1 with fail;rw[<-bk];clear bk;obtain⟨al,am,a5,a6⟩:=bH (show aj an w.heap.size 202 #[C E 0,C JL 0] from aV.2);rcases cL:(op== 15) with _|_;rotate_left
 ·go_wp2_with fail;refine(cB _ _).mono ?_;rintro a7 b1 ⟨rfl,c9⟩;have bb:=Sj;clear c9 al am a5 a6;obtain⟨al,am,a5,a6⟩:=Td;go_wp2_with fail;refine iJ bb.2 D λX az aE=>?_;refine Ui ?_;exact yO.of (x:=oN _) bb.out.1 aE c (jM _).1 (jM _).2.1 (jM _).2.2
 rcases eu:(op== 16) with _|_;rotate_left
 ·go_wp2_with fail;refine(M _).mono ?_;exact PI
 have co:F (∀X,aU w.heap.size an X->yO w (.returned (.agg #[C E 0,C JL 0])) X):=A (λX aE=>yO.of (x:=⟨0,0⟩) aV.out.1 aE c Z bP (eH.2 ⟨Z,Z⟩));have ck:F (∀ba X,aU w.heap.size an X->yO w (.returned (.agg #[C E 1,C JL (IntKind.u64.wrap ba)])) X):=A (λba X aE=>yO.of (x:=⟨1,IntKind.u64.wrap ba⟩) aV.out.1 aE c (vb1 _) (aA (a:=1) Z Z) (kR _));rcases S:(op== 6) with _|_
 ·go_upto_region 9 with fail;go_upto_block 1 with fail;go_cut [7,8] (λba bl bn=>∃(i:Int) (c8:Bool),ba=C E i/\bl=JM c8/\an=bn);case first=>
   rcases b3:(op== 1) with _|_;rotate_left
   ·exact Qp
   rcases bh:(op== 2) with _|_;rotate_left
   ·exact Qp
   rcases ca:(op== 3) with _|_;rotate_left
   ·go_wp2_with fail;refine(ef _).mono ?_;rintro a7 ce ⟨u,d2,rfl,rfl⟩;exact Qp
   have cF:(b !=0)=!(b== 0):=D;have cz:(b !=-1)=!(b== -1):=D;have cP:(a !=-9223372036854775808)=!(a== -9223372036854775808):=D;rcases cp:(b== 0) with _|_;all_goals rw[cp] at cF
   all_goals rcases cf:(b== -1) with _|_
   all_goals rw[cf] at cz
   all_goals rcases cb:(a== -9223372036854775808) with _|_
   all_goals rw[cb] at cP
   all_goals simp only[Bool.not_true,Bool.not_false] at cF cz cP
   all_goals rcases dc:(op== 4) with _|_
   all_goals rcases cY:(op== 5) with _|_
   all_goals try(have c4:b≠0:=by simpa using cp)
   all_goals(go_wp2_with fail)
   all_goals(go_meet;exact⟨_,_,D,D,D⟩)
  exact OH
 go_upto_region 9 with fail;go_upto_block 1 with fail;go_cut [7,8] (λba bl bn=>∃(i:Int) (c8:Bool),ba=C E i/\bl=JM c8/\an=bn);case first=>exact Qp
 exact OH
theorem Cm{V:L}{x a2:Array O}(h:JK w.heap.size w X/\aj X w.heap.size 202 x/\aj X (w.heap.size+1) 202 a2)(d:JK X.heap.size X V):JK w.heap.size w V/\aj V w.heap.size 202 x/\aj V (w.heap.size+1) 202 a2:=
 ⟨h.1.trans (d.mono h.1.size),h.2.1.below d h.2.1.lt,h.2.2.below d h.2.2.lt⟩
def ag5 (w:L) (e:Ending) (w':L):Prop:=∃k:Int,e=.returned (C E k)/\JK w.heap.size w w'
theorem Fe(h:oU x.bits)(ah:wfi x.kind):oU (dG x).bits/\wfi (dG x).kind:=by
 unfold dG;split
 ·exact⟨h,ah⟩
 split
 ·exact⟨h,ah⟩
 split
 ·obtain⟨bw,o⟩:=tN h;exact⟨(DF bw o).1,aA (a:=4) Z Z⟩
 exact⟨eH.2 ⟨Z,Z⟩,bP⟩
theorem aaB(x a2:dP)(w:L)(ad:oU x.bits)(b:wfi x.kind)(ak:oU a2.bits)(p:wfi a2.kind):Calls Tryz.prog 123 #[.agg #[C E x.kind,C JL x.bits],.agg #[C E a2.kind,C JL a2.bits]] w (ag5 w):=by
 obtain⟨an,bk⟩:∃an,an=(w.alloc (JO #[C E x.kind,C JL x.bits] 202)).alloc (JO #[C E a2.kind,C JL a2.bits] 202):=⟨_,D⟩;have aV:=A (show JK w.heap.size w an/\aj an w.heap.size 202 #[C E x.kind,C JL x.bits]/\aj an (w.heap.size+1) 202 #[C E a2.kind,C JL a2.bits] by rw[bk];refine⟨(JY.alloc c _).alloc ZH _,(aj.new _ _ _).alloc _,?_⟩;have a8:=TN;rw[KE] at a8;exact a8);have q:=A (λB=>vU x B ad);have T:=A (λB=>vU a2 B ak);have da:=A (Fe ad b);have m:=A (Fe ak p);have M:=A (λa y B aJ d=>BH a y B aJ d);clear ad b ak p;go_in;go_upto_region 1 with fail;rw[<-bk];clear bk;go_cut [7] from 8 to 10 (λbc bn=>∃k W:dP,F ((oU k.bits/\wfi k.kind)/\oU W.bits/\wfi W.kind)/\F (JK w.heap.size w bn/\aj bn w.heap.size 202 #[C E k.kind,C JL k.bits]/\aj bn (w.heap.size+1) 202 #[C E W.kind,C JL W.bits]));case first=>
  obtain⟨b4,bg⟩:∃b4,b4=World.drew an:=⟨_,D⟩;have bV:=A (show JK w.heap.size w b4/\aj b4 w.heap.size 202 #[C E x.kind,C JL x.bits]/\aj b4 (w.heap.size+1) 202 #[C E a2.kind,C JL a2.bits] by rw[bg];exact Cm aV (JY.drew));have f:F (b4.cell? ⟨w.heap.size+1,0,I⟩=J (C E a2.kind)/\b4.cell? ⟨w.heap.size+1,1,I⟩=J (C JL a2.bits)):=A ⟨bV.2.2.cell 0,bV.2.2.cell 1⟩;refine aG (λX=>X.cell? ⟨w.heap.size+1,0,I⟩=J (C E a2.kind)/\X.cell? ⟨w.heap.size+1,1,I⟩=J (C JL a2.bits)) (λa4=>!([0,1,2,3,4]:List Nat).contains a4) U ?_;rw[<-bg];clear bg;refine tl 2 f ?_;refine t1 0 λK j=>?_;go_simp;obtain⟨df,dY,e,aU⟩:=bH bV.2.1;go_simp;(refine j.out _ _ (λ_=>f) ?_;clear j K df dY e aU);refine t1 1 λK j=>?_;go_simp;go_wp2_with (go_at_call 112;refine(q _).mono ?_;rintro a7 b1 ⟨rfl,d⟩);have bb:=A (Cm bV d);have f:F (b1.cell? ⟨w.heap.size+1,0,I⟩=J (C E a2.kind)/\b1.cell? ⟨w.heap.size+1,1,I⟩=J (C JL a2.bits)):=A ⟨bb.2.2.cell 0,bb.2.2.cell 1⟩;clear d;(refine j.out _ _ (λ_=>f) ?_;clear j K);refine t1 3 λK j=>?_;go_simp;go_wp2_with (go_at_call 112;refine(T _).mono ?_;rintro a7 r ⟨rfl,d⟩);have bX:=A (Cm bb d);have f:F (r.cell? ⟨w.heap.size+1,0,I⟩=J (C E a2.kind)/\r.cell? ⟨w.heap.size+1,1,I⟩=J (C JL a2.bits)):=A ⟨bX.2.2.cell 0,bX.2.2.cell 1⟩;clear d;(refine j.out _ _ (λ_=>f) ?_;clear j K);refine t1 4 λK j=>?_;go_simp;obtain⟨df,dY,e,aU⟩:=bH bX.2.1;go_simp;(refine j.out _ _ (λ_=>(show _/\_ from by have aD:=(set2 bX.2.1 D (C E (dG x).kind) (C JL (dG x).bits)).2.blk _ _ _ N bX.2.2;exact⟨aD.cell 0,aD.cell 1⟩)) ?_;clear j K);clear df dY e aU;have s:=A (show JK w.heap.size w _/\aj _ w.heap.size 202 #[C E (dG x).kind,C JL (dG x).bits]/\aj _ (w.heap.size+1) 202 #[C E a2.kind,C JL a2.bits] from by have aD:=set2 bX.2.1 D (C E (dG x).kind) (C JL (dG x).bits);exact⟨aD.2.below _ _ N bX.1,aD.1,aD.2.blk _ _ _ N bX.2.2⟩);refine t1 5 λK j=>?_;go_simp;obtain⟨df,dY,e,aU⟩:=bH bX.2.2;go_simp;(refine TS ?_;clear j K);clear df dY e aU;have bs:=A (show JK w.heap.size w _/\aj _ w.heap.size 202 #[C E (dG x).kind,C JL (dG x).bits]/\aj _ (w.heap.size+1) 202 #[C E (dG a2).kind,C JL (dG a2).bits] from by have aD:=set2 s.2.2 D (C E (dG a2).kind) (C JL (dG a2).bits);exact⟨aD.2.below _ _ N s.1,aD.2.blk _ _ _ N s.2.1,aD.1⟩);refine td ?_;try simp only[Exit.then]
  go_wp2_with fail;go_meet;exact⟨dG x,dG a2,A ⟨da,m.out⟩,bs⟩
 case rest=>
 obtain⟨k,W,g,bx⟩:=hcut;obtain⟨al,am,a5,a6⟩:=bH bx.2.1;obtain⟨R,bd,cF,cz⟩:=bH bx.2.2;rcases dc:(k.kind== 4) with _|_;rotate_left
 ·rcases dz:(W.kind== 4) with _|_;rotate_left
  ·go_wp2_with fail;refine(M _ _ _ g.1.1 g.2.1).mono ?_;rintro a7 b1 ⟨a0,rfl,rfl⟩;go_wp2_with fail;go_ret;exact⟨_,D,bx.1⟩
  exact PV
 exact PV
structure Bx3 (w:L) (x y:dP) (X:L):Prop where
 bel:JK w.heap.size w X
 x:aj X w.heap.size 202 #[C E x.kind,C JL x.bits]
 y:aj X (w.heap.size+1) 202 #[C E y.kind,C JL y.bits]
 res:aj X (w.heap.size+2) 202 zV
theorem aaI(w:L)(x a2:dP):Bx3 w x a2 (((w.alloc (JO #[C E x.kind,C JL x.bits] 202)).alloc (JO #[C E a2.kind,C JL a2.bits] 202)).alloc (JO zV 202)):=by have a8:=TN;rw[KE] at a8;have ac:=aj.new ((w.alloc (JO #[C E x.kind,C JL x.bits] 202)).alloc (JO #[C E a2.kind,C JL a2.bits] 202)) 202 zV;rw[KE,KE] at ac;exact⟨((JY.alloc c _).alloc ZH _).alloc Zv _,((aj.new _ _ _).alloc _).alloc _,a8.alloc _,ac⟩
theorem Bx3.more{V:L}{a2:dP}(h:Bx3 w x a2 X)(d:JK X.heap.size X V):Bx3 w x a2 V:=
 ⟨h.bel.trans (d.mono h.bel.size),h.x.below d h.x.lt,h.y.below d h.y.lt,h.res.below d h.res.lt⟩
def eqV (x y:dP):Bool:=decide (x.kind=y.kind) && decide (x.bits=y.bits)
theorem FP(op:Int)(x a2:dP)(w:L)(ad:oU x.bits)(b:wfi x.kind)(ak:oU a2.bits)(p:wfi a2.kind):Calls Tryz.prog 114 #[C E op,.agg #[C E x.kind,C JL x.bits],.agg #[C E a2.kind,C JL a2.bits]] w (yO w):=by
 obtain⟨an,bk⟩:∃an,an=((w.alloc (JO #[C E x.kind,C JL x.bits] 202)).alloc (JO #[C E a2.kind,C JL a2.bits] 202)).alloc (JO zV 202):=⟨_,D⟩;have aV:=A (show Bx3 w x a2 an from bk▸aaI w x a2);have M:=A (λB=>aaB x a2 B ad b ak p);have dq:=A (λB=>EG x.bits a2.bits B ad ak);have bS:=A (λB=>EG a2.bits x.bits B ak ad);have S:=A (λB=>Bv x.bits a2.bits B ad ak);have cB:=A (λy B=>lI y B);clear ad b ak p;unfold zV at bk;go_in;go_upto_region 1 with fail;rw[<-bk];clear bk;go_cut [7,8] from 10 to 16 (λa y bn=>∃bP m:Bool,a=JM bP/\y=JM m/\F (Bx3 w x a2 bn));case first=>
  obtain⟨b4,bg⟩:∃b4,b4=World.drew an:=⟨_,D⟩;have bV:=A (show Bx3 w x a2 b4 by rw[bg];exact aV.more (JY.drew));have f:F (b4.cell? ⟨w.heap.size,0,I⟩=J (C E x.kind)/\b4.cell? ⟨w.heap.size,1,I⟩=J (C JL x.bits)/\b4.cell? ⟨w.heap.size+1,0,I⟩=J (C E a2.kind)/\b4.cell? ⟨w.heap.size+1,1,I⟩=J (C JL a2.bits)):=A ⟨bV.x.cell 0,bV.x.cell 1,bV.y.cell 0,bV.y.cell 1⟩;refine aG (λX=>X.cell? ⟨w.heap.size,0,I⟩=J (C E x.kind)/\X.cell? ⟨w.heap.size,1,I⟩=J (C JL x.bits)/\X.cell? ⟨w.heap.size+1,0,I⟩=J (C E a2.kind)/\X.cell? ⟨w.heap.size+1,1,I⟩=J (C JL a2.bits)) (λa4=>!([0,1,2,3,4,5,6,7,8]:List Nat).contains a4) U ?_;rw[<-bg];clear bg;refine tl 0 f ?_;refine tl 1 f ?_;refine tl 4 f ?_;refine tl 5 f ?_;refine aJ (i:=6) (v:=JM (eqV x a2)) D U U U U (λ_ _ _ h=>h) (KH ⟨U,?_⟩) f.out ?_
  ·(intro aF k;obtain⟨W,d0,cR,c4⟩:=k;go_simp;unfold eqV;by_cases bD:x.kind=a2.kind <;> by_cases bs:x.bits=a2.bits <;> simp[bD,bs])
  refine t1 2 λK j=>?_;go_simp;go_wp2_with (go_at_call 123;refine(M _).mono ?_;rintro a7 b1 ⟨a0,rfl,d⟩);have bb:=A (bV.more d);have f:F (b1.cell? ⟨w.heap.size,0,I⟩=J (C E x.kind)/\b1.cell? ⟨w.heap.size,1,I⟩=J (C JL x.bits)/\b1.cell? ⟨w.heap.size+1,0,I⟩=J (C E a2.kind)/\b1.cell? ⟨w.heap.size+1,1,I⟩=J (C JL a2.bits)):=A ⟨bb.x.cell 0,bb.x.cell 1,bb.y.cell 0,bb.y.cell 1⟩;clear d;(refine j.out _ _ (λ_=>f) ?_;clear j K);refine tl 3 f ?_;refine tl 7 f ?_;refine tl 8 f ?_;refine td ?_;try simp only[Exit.then]
  go_wp2_with fail;go_meet;exact⟨_,_,D,D,bb⟩
 case rest=>
 obtain⟨e,g,rfl,rfl,bx⟩:=hcut;go_upto_region 2 with fail;go_cut [9] from 17 to 22 (λa bn=>∃bm:Bool,a=JM bm/\wc=bn);case first=>
  rcases e with _|_;all_goals rcases g with _|_
  all_goals(go_wp2_with fail;go_meet;exact⟨_,D,D⟩)
 case rest=>
 obtain⟨dt,rfl,rfl⟩:=hcut;obtain⟨al,am,a5,a6⟩:=bH bx.x;go_upto_region 3 with fail;go_cut [25] from 23 to 25 (λbc bn=>∃cx:Bool,bc=JM cx/\F ((x.kind== 4)=cx)/\wc=bn);case first=>rcases dc:(x.kind== 4) with _|_;all_goals(go_wp2_with fail;go_meet;exact⟨_,D,A dc,D⟩)
 case rest=>
 obtain⟨cx,rfl,b7,rfl⟩:=hcut;go_upto_if 25 with fail;go_cut [7,8,9] from 26 to 40 (λa y a9 bn=>∃bP m bm:Bool,a=JM bP/\y=JM m/\a9=JM bm/\F (Bx3 w x a2 bn));case first=>
  rcases cx with _|_
  ·go_wp2_with fail;go_meet;exact⟨_,_,_,D,D,D,bx⟩
  go_upto_region 4 with fail;obtain⟨b4,bg⟩:∃b4,b4=World.drew wc:=⟨_,D⟩;have bV:=A (show Bx3 w x a2 b4 by rw[bg];exact bx.more (JY.drew));have f:F (b4.cell? ⟨w.heap.size,0,I⟩=J (C E x.kind)/\b4.cell? ⟨w.heap.size,1,I⟩=J (C JL x.bits)/\b4.cell? ⟨w.heap.size+1,0,I⟩=J (C E a2.kind)/\b4.cell? ⟨w.heap.size+1,1,I⟩=J (C JL a2.bits)):=A ⟨bV.x.cell 0,bV.x.cell 1,bV.y.cell 0,bV.y.cell 1⟩;clear al am a5 a6;refine aG (λX=>X.cell? ⟨w.heap.size,0,I⟩=J (C E x.kind)/\X.cell? ⟨w.heap.size,1,I⟩=J (C JL x.bits)/\X.cell? ⟨w.heap.size+1,0,I⟩=J (C E a2.kind)/\X.cell? ⟨w.heap.size+1,1,I⟩=J (C JL a2.bits)) (λa4=>!([0,1,2,3,4,5,6,7,8,9,10,11,12,13,14,15,16,17]:List Nat).contains a4) U ?_;rw[<-bg];clear bg;refine tl 0 f ?_;refine tl 1 f ?_;refine tl 2 f ?_;refine tl 3 f ?_;refine tl 5 f ?_;refine tl 6 f ?_;refine tl 7 f ?_;refine tl 8 f ?_;refine tl 10 f ?_;refine tl 11 f ?_;refine tl 12 f ?_;refine tl 13 f ?_;refine t1 4 λK j=>?_;go_simp;go_wp2_with (go_at_call 124;refine(dq _).mono ?_;rintro a7 av ⟨bE,rfl,rfl⟩);(refine j.out _ _ (λ_=>f) ?_;clear j K);refine t1 9 λK j=>?_;go_simp;go_wp2_with (go_at_call 125;refine(S _).mono ?_;rintro a7 bt ⟨aN,rfl,rfl⟩);(refine j.out _ _ (λ_=>f) ?_;clear j K);refine t1 14 λK j=>?_;go_simp;go_wp2_with (go_at_call 124;refine(bS _).mono ?_;rintro a7 cU ⟨c2,rfl,rfl⟩);(refine j.out _ _ (λ_=>f) ?_;clear j K);refine tl 15 f ?_;refine tl 16 f ?_;refine tl 17 f ?_;refine td ?_;try simp only[Exit.then]
  go_wp2_with fail;go_meet;exact⟨_,_,_,D,D,D,bV⟩
 case rest=>
 obtain⟨bP,m,bm,rfl,rfl,rfl,bb⟩:=hcut;clear al am a5 a6;have n:F (∀(y:Bool) (X cr:L),JK w.heap.size w X->aU (w.heap.size+2) X cr->yO w (.returned (.agg #[C E (oN y).kind,C JL (oN y).bits])) cr):=A (λy X cr az aE=>yO.of az aE N (jM y).1 (jM y).2.1 (jM y).2.2);go_upto_region 5 with fail;rcases aP:(op== 7) with _|_;rotate_left
 ·obtain rfl:op=7:=by simpa using aP
  exact OU
 rcases l:(op== 8) with _|_;rotate_left
 ·obtain rfl:op=8:=by simpa using l
  exact OU
 rcases o:(op== 9) with _|_;rotate_left
 ·obtain rfl:op=9:=Zi;rcases bP with _|_;all_goals(go_wp2_with fail;refine(cB _ _).mono ?_;rintro a7 da ⟨rfl,bj⟩;have bL:=A (bb.more bj);obtain⟨cp,cf,cI,c1⟩:=RI;clear bj;go_wp2_with fail;refine iJ bL.res D λX az aE=>?_;refine Ui ?_;exact n _ _ _ bL.bel aE)
 rcases q:(op== 10) with _|_;rotate_left
 ·obtain rfl:op=10:=by simpa using q
  rcases bP with _|_;all_goals rcases m with _|_
  all_goals(go_wp2_with fail;refine(cB _ _).mono ?_;rintro a7 da ⟨rfl,bj⟩;have bL:=A (bb.more bj);obtain⟨cp,cf,cI,c1⟩:=RI;clear bj;go_wp2_with fail;refine iJ bL.res D λX az aE=>?_;refine Ui ?_;exact n _ _ _ bL.bel aE)
 rcases r:(op== 11) with _|_;rotate_left
 ·obtain rfl:op=11:=by simpa using r
  rcases bm with _|_;all_goals(go_wp2_with fail;refine(cB _ _).mono ?_;rintro a7 da ⟨rfl,bj⟩;have bL:=A (bb.more bj);obtain⟨cp,cf,cI,c1⟩:=RI;clear bj;go_wp2_with fail;refine iJ bL.res D λX az aE=>?_;refine Ui ?_;exact n _ _ _ bL.bel aE)
 rcases s:(op== 12) with _|_;rotate_left
 ·obtain rfl:op=12:=by simpa using s
  rcases bm with _|_;all_goals rcases m with _|_
  all_goals(go_wp2_with fail;refine(cB _ _).mono ?_;rintro a7 da ⟨rfl,bj⟩;have bL:=A (bb.more bj);obtain⟨cp,cf,cI,c1⟩:=RI;clear bj;go_wp2_with fail;refine iJ bL.res D λX az aE=>?_;refine Ui ?_;exact n _ _ _ bL.bel aE)
 (go_wp2_with fail;refine(cB _ _).mono ?_;rintro a7 da ⟨rfl,bj⟩;have bL:=A (bb.more bj);obtain⟨cp,cf,cI,c1⟩:=RI;clear bj;go_wp2_with fail;refine iJ bL.res D λX az aE=>?_;refine Ui ?_;exact n _ _ _ bL.bel aE)
theorem aaA(x a2:dP)(bl:Bool)(w:L)(ad:oU x.bits)(b:wfi x.kind)(ak:oU a2.bits)(p:wfi a2.kind):Calls Tryz.prog 113 #[.agg #[C E x.kind,C JL x.bits],.agg #[C E a2.kind,C JL a2.bits],JM bl] w (yO w):=by
 obtain⟨an,bk⟩:∃an,an=((w.alloc (JO #[C E x.kind,C JL x.bits] 202)).alloc (JO #[C E a2.kind,C JL a2.bits] 202)).alloc (JO zV 202):=⟨_,D⟩;have aV:=A (show Bx3 w x a2 an from bk▸aaI w x a2);have cB:=A (λy B=>lI y B);have n:F (∀(y:Bool) (X cr:L),JK w.heap.size w X->aU (w.heap.size+2) X cr->yO w (.returned (.agg #[C E (oN y).kind,C JL (oN y).bits])) cr):=A (λy X cr az aE=>yO.of az aE N (jM y).1 (jM y).2.1 (jM y).2.2);have cA:F (∀(X cr:L),JK w.heap.size w X->aU (w.heap.size+2) X cr->yO w (.returned (.agg #[C E 0,C JL 0])) cr):=A (λX cr az aE=>yO.of (x:=⟨0,0⟩) az aE N Z bP (eH.2 ⟨Z,Z⟩));clear ad b ak p;unfold zV at bk;go_in;go_upto_region 1 with fail;rw[<-bk];clear bk;go_cut [16] from 7 to 16 (λbc bn=>∃y:Bool,bc=JM y/\F (Bx3 w x a2 bn));case first=>
  obtain⟨b4,bg⟩:∃b4,b4=World.drew an:=⟨_,D⟩;have bV:=A (show Bx3 w x a2 b4 by rw[bg];exact aV.more (JY.drew));have f:F (b4.cell? ⟨w.heap.size,0,I⟩=J (C E x.kind)/\b4.cell? ⟨w.heap.size,1,I⟩=J (C JL x.bits)/\b4.cell? ⟨w.heap.size+1,0,I⟩=J (C E a2.kind)/\b4.cell? ⟨w.heap.size+1,1,I⟩=J (C JL a2.bits)):=A ⟨bV.x.cell 0,bV.x.cell 1,bV.y.cell 0,bV.y.cell 1⟩;refine aG (λX=>X.cell? ⟨w.heap.size,0,I⟩=J (C E x.kind)/\X.cell? ⟨w.heap.size,1,I⟩=J (C JL x.bits)/\X.cell? ⟨w.heap.size+1,0,I⟩=J (C E a2.kind)/\X.cell? ⟨w.heap.size+1,1,I⟩=J (C JL a2.bits)) (λa4=>!([0,1,2,3,4,5,6,7,8,9]:List Nat).contains a4) U ?_;rw[<-bg];clear bg;refine tl 0 f ?_;refine tl 1 f ?_;refine t1 2 λK j=>?_;go_simp;go_wp2_with (go_at_call 82;refine(cB _ _).mono ?_;rintro a7 b1 ⟨rfl,d⟩);have bV:=A (bV.more d);have f:F (b1.cell? ⟨w.heap.size,0,I⟩=J (C E x.kind)/\b1.cell? ⟨w.heap.size,1,I⟩=J (C JL x.bits)/\b1.cell? ⟨w.heap.size+1,0,I⟩=J (C E a2.kind)/\b1.cell? ⟨w.heap.size+1,1,I⟩=J (C JL a2.bits)):=A ⟨bV.x.cell 0,bV.x.cell 1,bV.y.cell 0,bV.y.cell 1⟩;clear d;(refine j.out _ _ (λ_=>f) ?_;clear j K);rcases b3:eqV x (oN bl) with _|_;rotate_left
  ·skip;refine aJ (i:=3) (v:=JM true) D U U U U (λ_ _ _ h=>h) (KH ⟨U,?_⟩) f.out ?_
   ·exact Ql
   refine tl 4 f ?_;refine aJ (i:=5) (v:=undef) D U U U U (λ_ _ _ h=>h) (Lm ⟨U,D⟩) f.out ?_;refine aJ (i:=6) (v:=undef) D U U U U (λ_ _ _ h=>h) (Lm ⟨U,D⟩) f.out ?_;refine aJ (i:=7) (v:=undef) D U U U U (λ_ _ _ h=>h) (Lm ⟨U,D⟩) f.out ?_;refine aJ (i:=8) (v:=undef) D U U U U (λ_ _ _ h=>h) (Lm ⟨U,D⟩) f.out ?_;refine tl 9 f ?_;refine td ?_;try simp only[Exit.then]
   go_wp2_with fail;go_meet;exact⟨_,D,bV⟩
  refine aJ (i:=3) (v:=JM false) D U U U U (λ_ _ _ h=>h) (KH ⟨U,?_⟩) f.out ?_
  ·exact Ql
  refine tl 4 f ?_;refine tl 5 f ?_;refine tl 6 f ?_;refine t1 7 λK j=>?_;go_simp;go_wp2_with (go_at_call 82;refine(cB _ _).mono ?_;rintro a7 r ⟨rfl,d⟩);have bV:=A (bV.more d);have f:F (r.cell? ⟨w.heap.size,0,I⟩=J (C E x.kind)/\r.cell? ⟨w.heap.size,1,I⟩=J (C JL x.bits)/\r.cell? ⟨w.heap.size+1,0,I⟩=J (C E a2.kind)/\r.cell? ⟨w.heap.size+1,1,I⟩=J (C JL a2.bits)):=A ⟨bV.x.cell 0,bV.x.cell 1,bV.y.cell 0,bV.y.cell 1⟩;clear d;(refine j.out _ _ (λ_=>f) ?_;clear j K);refine aJ (i:=8) (v:=JM (eqV a2 (oN bl))) D U U U U (λ_ _ _ h=>h) (KH ⟨U,?_⟩) f.out ?_
  ·(intro aF k;obtain⟨W,d0,cR,c4⟩:=k;go_simp;unfold eqV;by_cases bD:a2.kind=(oN bl).kind <;> by_cases bs:a2.bits=(oN bl).bits <;> simp[bD,bs] <;> simp[bD,bs])
  refine tl 9 f ?_;refine td ?_;try simp only[Exit.then]
  go_wp2_with fail;go_meet;exact⟨_,D,bV⟩
 case rest=>
 obtain⟨y,rfl,bb⟩:=hcut;obtain⟨al,am,a5,a6⟩:=bH bb.x;obtain⟨R,bd,cF,cz⟩:=bH bb.y;obtain⟨cp,cf,cI,c1⟩:=bH (show aj wc (w.heap.size+2) 202 #[C E 0,C JL 0] from bb.res);rcases y with _|_;rotate_left
 ·go_wp2_with fail;clear cp cf cI c1 al am a5 a6 R bd cF cz;exact Pj
 rcases bh:(x.kind !=2) with _|_;rotate_left
 ·exact QE
 rcases ca:(a2.kind !=2) with _|_;rotate_left
 ·exact QE
 go_upto_region 5 with fail;clear cp cf cI c1 al am a5 a6 R bd cF cz;go_wp2_with fail;exact Pj

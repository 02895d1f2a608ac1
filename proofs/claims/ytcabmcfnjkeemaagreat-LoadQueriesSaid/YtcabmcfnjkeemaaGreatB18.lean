import Derived.Test.YtcabmcfnjkeemaaGreatBM00
import Derived.Test.YtcabmcfnjkeemaaGreatB17
set_option maxRecDepth 100000
set_option maxHeartbeats 40000000
set_option linter.unusedVariables false
set_option linter.unusedSimpArgs false
namespace Go.Proofs.YtcabmcfnjkeemaaGreat
open Go.Deep Go.RowKit
open Go renaming World->L,Value->O
open Go.IntKind renaming i64->E
open Go.Obj renaming cells->JO
open Go.RowKit renaming Hid->F,Below->JK
open Go.Value renaming int->C,slice->G,string->H,bool->JM
open Option renaming none->I,some->J
attribute [local go_sem ↓] Go.wp_at_zero Go.wp_at_succ
def ad5 (op:Int) (k:Int) (name:ByteArray):Prop:=((op=6\/(15<=op/\op<=17))/\k=1)\/((1<=op/\op<=14/\op≠6)/\k=2)\/((20<=op/\op<=31)/\k=0/\(op < 24\/0 < name.size))
variable{attr name:ByteArray}{at_ n op sc:Int}{args:List ED}
theorem ab1(h:ad5 op args.length name)(aJ:∀x∈args,dO x=true):dO (.mk op args n sc name attr at_)=true:=by
 rw[dO.eq_def];simp only[Bool.and_eq_true,List.all_map,List.all_eq_true];refine⟨?_,λx ad=>aJ x ad⟩;rcases h with⟨o,a8⟩|⟨o,a8⟩|⟨o,a8,ac⟩
 ·rw[Kq o];simp only[decide_eq_true_eq];omega
 ·rw[JZ N,Kq N];simp only[decide_eq_true_eq];omega
 rw[JZ N,JZ N];simp only[Bool.and_eq_true,Bool.or_eq_true,decide_eq_true_eq];exact⟨⟨⟨o.1,o.2⟩,N⟩,ac⟩
def rV:ED->Bool
 | .mk op args n scale name attr at_=>((decide (op≠21) || (decide (1<=scale) && decide (scale<=14))) && (decide (op≠22) || (decide (0<=n) && decide (n<=1)))) && (args.map λa=>rV a).all λb=>b
theorem ae5(h:op=21->1<=sc/\sc<=14)(j:op=22->0<=n/\n<=1)(aJ:∀x∈args,rV x=true):rV (.mk op args n sc name attr at_)=true:=by
 rw[rV.eq_def];simp only[Bool.and_eq_true,Bool.or_eq_true,decide_eq_true_eq,List.all_map,List.all_eq_true];refine⟨⟨?_,?_⟩,λx ad=>aJ x ad⟩
 ·by_cases o:op=21
  ·exact .inr (h o)
  exact .inl o
 by_cases o:op=22
 ·exact .inr (j o)
 exact .inl o
def afC (x:ED) (w:L) (e:Ending) (w':L):Prop:=∃b,e=.returned (JM b)/\(b=true->dO x=true/\rV x=true)/\JK w.heap.size w w'
theorem Jk(x:ED):∀(w:L) (cs:List O),yX w cs x->aP x<=100000->Calls Tryz.prog 94 #[.agg cs.toArray] w (afC x w):=by
 refine vG (p:=λx=>∀(w:L) (cs:List O),yX w cs x->aP x<=100000->Calls Tryz.prog 94 #[.agg cs.toArray] w (afC x w)) ?_ x;intro e M bQ ar bq bF b8 bf w cs h V;obtain⟨dg,rfl,ag,bN⟩:=h.opened;obtain⟨Y,a9,rfl,d0,cR⟩:=ag.slice;have dF:=A bf;have f:=A ag;have cw:=A V;have cY:=A bN;have aX:=A (λb9 B h=>name_any b9 B h);have ef:=A (λM bQ B h ag=>Ew M bQ B h ag);have dB:=A (show b8.length<=100000 by
  have o:b8.length<=(b8.map aP).sum:=by
   clear ag d0 bf dF f V cw h;induction b8 with
   |nil=>simp
   |cons a bP bf=>simp only[List.length_cons,List.map_cons,List.sum_cons];have:=jw a;omega
  rw[aY] at V;omega)
 obtain⟨an,bk⟩:∃an,an=w.alloc (JO #[C E e,G Y b8.length a9,C E M,C E bQ,H bq,H bF,C E ar] 139):=⟨_,D⟩;have aC:=QY;have cZ:=Ru;clear bf ag V h bN;go_in;go_upto_region 1 with fail;rw[<-bk];clear bk;obtain⟨al,am,ax,aW,T,bi,bM,a5,a6,aq,aZ,aO,be,bI⟩:=aK cZ;go_upto_region 2 with fail;go_region;go_upto_region 3 with fail;refine aI (Φ:=λB=>JK w.heap.size w B/\aj B w.heap.size 139 #[C E e,G Y b8.length a9,C E M,C E bQ,H bq,H bF,C E ar]) ⟨aC.drew,cZ.drew⟩ ?_;intro df a8;have bx:=A a8;clear a8 al am ax aW T bi bM a5 a6 aq aZ aO be bI;generalize bq.toList.isEmpty=ff;generalize bF.toList.isEmpty=g;obtain⟨al,am,ax,aW,T,bi,bM,a5,a6,aq,aZ,aO,be,bI⟩:=aK bx.2;go_cut [6] from 14 to 21 (λbc bn=>∃X:Bool,bc=JM X/\df=bn);case first=>
  rcases hn0:(M== 0) with _|_;all_goals rcases hn1:(M== 1) with _|_
  all_goals rcases W:(bQ== 0) with _|_
  all_goals(go_wp2_with fail;go_meet;exact⟨_,D,D⟩)
 obtain⟨X,rfl,rfl⟩:=hcut;go_upto_block 0 with fail;have l:∀B y,JK w.heap.size w B/\aj B w.heap.size 139 #[C E e,G Y b8.length a9,C E M,C E bQ,H bq,H bF,C E ar]->y=false->afC (.mk e b8 M bQ bq bF ar) w (.returned (JM y)) B:=λB y h d=>by subst d;exact⟨false,D,λa8=>absurd a8 KY,h.1⟩
 have cN:=A l;clear l;go_cut [3,4,5,6] (λa0 cH bW ac bn=>∃(cT:Int) (ct c0 cu:Bool),a0=C E cT/\cH=JM ct/\bW=JM c0/\ac=JM cu/\F (ct=true->ad5 e cT bq)/\F (cu=true->(e=21->1<=bQ/\bQ<=14)/\(e=22->0<=M/\M<=1))/\F (JK w.heap.size w bn/\aj bn w.heap.size 139 #[C E e,G Y b8.length a9,C E M,C E bQ,H bq,H bF,C E ar]));case first=>
  have b:∀a0:Int,e≠a0->(e== a0)=false:=λa0 h=>by simpa using h
  by_cases cE:e<=19
  ·have P:=b 20 N;have ew:=b 21 N;have R:=b 22 N;have eA:=b 23 N;have q:=b 24 N;have t:=b 25 N;have ap:e<=25:=N;by_cases c4:e=6
   ·have S:(e== 6)=true:=by simpa using c4
    have HC:=A c4;clear c4 b cE;go_wp2_with fail;go_meet;exact⟨_,_,_,_,D,D,D,D,A (λh=>.inl ⟨.inl HC,D⟩),A UY,bx⟩
   have S:=b 6 c4;have bs:=A c4;clear c4;by_cases aN:15<=e/\e<=17
   ·have HC:=A aN;obtain⟨e9,ea⟩:=aN;clear b cE;go_wp2_with fail;go_meet;exact⟨_,_,_,_,D,D,D,D,A (λh=>.inl ⟨.inr HC,D⟩),A UY,bx⟩
   have d1:=A aN;by_cases o:1<=e/\e<=14
   ·have HC:=A (show 1<=e/\e<=14/\e≠6 from⟨o.1,o.2,bs.out⟩);obtain⟨e9,ea⟩:=o;clear b cE aN;go_wp2_with fail;go_meet;exact⟨_,_,_,_,D,D,D,D,A (λh=>.inr (.inl ⟨HC,D⟩)),A UY,bx⟩
   clear b;go_wp2_with fail;all_goals(go_ret;exact cN _ _ bx D)
  by_cases dj:e=20
  ·subst dj;exact Om
  by_cases ba:e=21
  ·subst ba;clear b;by_cases cU:0<=M/\(1<=bQ/\bQ<=14)
   ·obtain⟨hn0,hs1,hs2⟩:=cU;go_wp2_with fail;refine(ef M bQ _ cY.2.1 ⟨hs1,hs2⟩).mono ?_;rintro a7 b1 ⟨b9,rfl,c7,c9⟩;have bb:=A (show JK w.heap.size w b1/\aj b1 w.heap.size 139 #[C E 21,G Y b8.length a9,C E M,C E bQ,H bq,H bF,C E ar] from⟨bx.1.trans (c9.mono bx.1.size),bx.2.below c9 bx.2.lt⟩);clear c9;go_wp2_with fail;all_goals(go_meet;exact⟨_,_,_,_,D,D,D,D,A (λh=>.inr (.inr ⟨Z,D,.inl Z⟩)),A UY,bb⟩)
   go_wp2_with fail;all_goals first|(go_meet;exact⟨_,_,_,_,D,D,D,D,A (λh=>.inr (.inr ⟨Z,D,.inl Z⟩)),A UY,bx⟩)|(exfalso;omega)
  by_cases cG:e=22
  ·subst cG;exact Om
  by_cases dz:e=23
  ·subst dz;clear b;go_wp2_with fail;refine UM ?_;rintro a7 b1 ⟨cu,rfl,ay,c9⟩;have bb:=A (show JK w.heap.size w b1/\aj b1 w.heap.size 139 #[C E 23,G Y b8.length a9,C E M,C E bQ,H bq,H bF,C E ar] from⟨bx.1.trans (c9.mono bx.1.size),bx.2.below c9 bx.2.lt⟩);exact Ot
  by_cases a':e=24
  ·subst a';clear b;go_upto_region 18 with fail;obtain⟨b4,bg⟩:∃b4,b4=World.drew df:=⟨_,D⟩;have bV:=A (show JK w.heap.size w b4/\aj b4 w.heap.size 139 #[C E 24,G Y b8.length a9,C E M,C E bQ,H bq,H bF,C E ar] by rw[bg];exact⟨bx.1.drew,bx.2.drew⟩);have f:F (b4.cell? ⟨w.heap.size,4,I⟩=J (H bq)/\b4.cell? ⟨w.heap.size,5,I⟩=J (H bF)):=A ⟨bV.2.cell 4,bV.2.cell 5⟩;clear al am ax aW T bi bM a5 a6 aq aZ aO be bI;refine Uu ?_;rw[<-bg];clear bg;refine tl 0 f ?_;refine tl 3 f ?_;refine tl 1 f ?_;refine tl 4 f ?_;refine t1 2 λK j=>?_;go_simp;go_wp2_with (go_at_call 90;refine UM ?_;rintro a7 b1 ⟨c0,rfl,ay,d⟩);have bb:=A (show JK w.heap.size w b1/\aj b1 w.heap.size 139 #[C E 24,G Y b8.length a9,C E M,C E bQ,H bq,H bF,C E ar] from⟨bV.1.trans (d.mono bV.1.size),bV.2.below d bV.2.lt⟩);have n:=A ay;clear d ay;have f:F (b1.cell? ⟨w.heap.size,4,I⟩=J (H bq)/\b1.cell? ⟨w.heap.size,5,I⟩=J (H bF)):=A ⟨bb.2.cell 4,bb.2.cell 5⟩;(refine j.out _ _ (λ_=>f) ?_;clear j K);refine t1 5 λK j=>?_;go_simp;go_wp2_with (go_at_call 90;refine(aX bF _ (by have:=cY.2.2.2.2.2;omega)).mono ?_;rintro a7 r ⟨bE,rfl,ay,d⟩);have bX:=A (show JK w.heap.size w r/\aj r w.heap.size 139 #[C E 24,G Y b8.length a9,C E M,C E bQ,H bq,H bF,C E ar] from⟨bb.1.trans (d.mono bb.1.size),bb.2.below d bb.2.lt⟩);exact Oa
  by_cases aa:e=25
  ·subst aa;clear b;go_wp2_with fail;refine UM ?_;rintro a7 b1 ⟨cu,rfl,ay,c9⟩;have bb:=A (show JK w.heap.size w b1/\aj b1 w.heap.size 139 #[C E 25,G Y b8.length a9,C E M,C E bQ,H bq,H bF,C E ar] from⟨bx.1.trans (c9.mono bx.1.size),bx.2.below c9 bx.2.lt⟩);exact Ot
  by_cases e6:e<=31
  ·have S:=b 6 N;have P:=b 20 N;have ew:=b 21 N;have R:=b 22 N;have eA:=b 23 N;have q:=b 24 N;have t:=b 25 N;have e9:26<=e:=N;have ea:¬e<=17:=N;have fa:¬e<=14:=N;clear b cE dj ba cG dz a' aa;go_upto_region 18 with fail;obtain⟨b4,bg⟩:∃b4,b4=World.drew df:=⟨_,D⟩;have bV:=A (show JK w.heap.size w b4/\aj b4 w.heap.size 139 #[C E e,G Y b8.length a9,C E M,C E bQ,H bq,H bF,C E ar] by rw[bg];exact⟨bx.1.drew,bx.2.drew⟩);have f:F (b4.cell? ⟨w.heap.size,4,I⟩=J (H bq)/\b4.cell? ⟨w.heap.size,5,I⟩=J (H bF)):=A ⟨bV.2.cell 4,bV.2.cell 5⟩;clear al am ax aW T bi bM a5 a6 aq aZ aO be bI;refine Uu ?_;rw[<-bg];clear bg;refine tl 0 f ?_;refine tl 3 f ?_;refine tl 1 f ?_;refine tl 4 f ?_;refine t1 2 λK j=>?_;go_simp;go_wp2_with (go_at_call 90;refine UM ?_;rintro a7 b1 ⟨c0,rfl,ay,d⟩);have bb:=A (show JK w.heap.size w b1/\aj b1 w.heap.size 139 #[C E e,G Y b8.length a9,C E M,C E bQ,H bq,H bF,C E ar] from⟨bV.1.trans (d.mono bV.1.size),bV.2.below d bV.2.lt⟩);have n:=A ay;clear d ay;have f:F (b1.cell? ⟨w.heap.size,4,I⟩=J (H bq)/\b1.cell? ⟨w.heap.size,5,I⟩=J (H bF)):=A ⟨bb.2.cell 4,bb.2.cell 5⟩;(refine j.out _ _ (λ_=>f) ?_;clear j K);refine t1 5 λK j=>?_;go_simp;go_wp2_with (go_at_call 90;refine(aX bF _ (by have:=cY.2.2.2.2.2;omega)).mono ?_;rintro a7 r ⟨bE,rfl,ay,d⟩);have bX:=A (show JK w.heap.size w r/\aj r w.heap.size 139 #[C E e,G Y b8.length a9,C E M,C E bQ,H bq,H bF,C E ar] from⟨bb.1.trans (d.mono bb.1.size),bb.2.below d bb.2.lt⟩);exact Oa
  have S:=b 6 N;have P:=b 20 N;have ew:=b 21 N;have R:=b 22 N;have eA:=b 23 N;have q:=b 24 N;have t:=b 25 N;have e9:32<=e:=N;have ea:¬e<=17:=N;have fa:¬e<=14:=N;have fm:¬e<=31:=N;clear b cE dj ba cG dz a' aa e6;go_wp2_with fail;all_goals(go_ret;exact cN _ _ bx D)
 obtain⟨cT,ct,c0,cu,rfl,rfl,rfl,rfl,ao,a1,s⟩:=hcut;clear al am ax aW T bi bM a5 a6 aq aZ aO be bI;obtain⟨al,am,ax,aW,T,bi,bM,a5,a6,aq,aZ,aO,be,bI⟩:=aK s.2;have au:b8.length<=100000:=dB.out;have b0:(b8.length:Int)<=100000:=N;have bw:(0:Int)<=(b8.length:Int):=N;rcases ct with _|_
 ·exact QC
 rcases c0 with _|_
 ·exact QC
 rcases cu with _|_
 ·exact QC
 by_cases j:(b8.length:Int)=cT;rotate_left
 ·have ah:((b8.length:Int)== cT)=false:=by simpa using j
  exact QC
 subst j;have bp:=A (ao D);go_wp2_with fail;clear al am ax aW T bi bM a5 a6 aq aZ aO be bI;go_loopw [157] (λa3 wr=>∃z:Nat,z<=b8.length/\a3=C E z/\F (∀a2∈b8.take z,dO a2=true/\rV a2=true)/\F (JK w.heap.size w wr/\aj wr w.heap.size 139 #[C E e,G Y b8.length a9,C E M,C E bQ,H bq,H bF,C E ar])) (λa3 wr=>b8.length-(intOf a3).toNat);case atStart=>exact⟨0,Kw _,D,A ZH,s⟩
 obtain⟨z,aS,rfl,ai,bs⟩:=hrel;have ct:(0:Int)<=(z:Int):=N;have cu:(z:Int)<=100000:=N;obtain⟨al,am,ax,aW,T,bi,bM,a5,a6,aq,aZ,aO,be,bI⟩:=aK bs.2;by_cases bA:z < b8.length
 ·have c0:(z:Int) < (b8.length:Int):=N;obtain⟨a2,ak⟩:∃a2,b8[z]? =J a2:=⟨_,Kr bA⟩;have bV:=A ak;have dl:=A (show aP a2<=100000 by have o:=nP ak;have a8:=cw.out;rw[aY] at a8;omega);have dX:=A (dF.out z a2 ak);obtain⟨ca,c8,bD,dc,cV,bW,aw⟩:=a2;obtain⟨y,b5,ch,cl,cW,af,-,-,b',bv,bo,bZ,c5,bG,co,bS⟩:=iW (jr f bs.1) ak;injection af with af _ cS;subst af cS;have e5:=A (dX wr _ bS dl);clear bS ak dX;go_wp2_with fail;refine e5.mono ?_;rintro a7 b1 ⟨d2,rfl,ab,c9⟩;have cJ:=A (show JK w.heap.size w b1/\aj b1 w.heap.size 139 _ from⟨bs.1.trans (c9.mono bs.1.size),bs.2.below c9 bs.2.lt⟩);have ei:=A ab;clear c9 ab e5 al am ax aW T bi bM a5 a6 aq aZ aO be bI b' bv bo bZ c5 bG co;rcases d2 with _|_
  ·go_wp2_with fail;all_goals(go_ret;exact cN _ _ cJ D)
  have av:b8.length-(z+1) < b8.length-z:=N;go_wp2_with fail;all_goals
   (go_roundw
    case rel=>
     exact⟨z+1,N,ZF,A (by
      intro a2 m
      have bg:=bV.out
      rw[MJ,bg] at m
      simp only[List.mem_append,Option.toList_some,List.mem_singleton] at m
      rcases m with h|rfl
      ·
       exact ai a2 h
      exact ei ZE),cJ⟩
    simp[intOf];omega)
 have cr:(b8.length:Int)<=(z:Int):=N;go_wp2_with fail;all_goals
  (go_ret
   exact⟨true,D,λ_=>⟨ab1 bp (λx ad=>(ai x YA).1),ae5 (a1 ZE).1 (a1 ZE).2 (λx ad=>(ai x YA).2)⟩,bs.1⟩)
def ahb (w:L) (e:Ending) (w':L):Prop:=∃t:ByteArray,e=.returned (H t)/\t.size<=8200/\JK w.heap.size w w'
theorem abl{w:L}{cs:List O}(h:yX w cs (.mk op args n sc name attr at_))(ah:20<=op/\op<=31)(s:op=21->1<=sc/\sc<=14):Calls Tryz.prog 97 #[.agg cs.toArray] w (ahb w):=by
 obtain⟨dg,rfl,ag,bN⟩:=h.opened;obtain⟨Y,a9,rfl,d0,cR⟩:=ag.slice;have cY:=A bN;have bU:=A (λB=>Gi B);have aQ:=A (λn B h=>zn n B h);have ef:=A (λn sc B h ag=>Ew n sc B h ag);have b:∀a0:Int,op≠a0->(op== a0)=false:=λa0 h=>by simpa using h
 have ab:name.size<=4000:=bN.2.2.2.2.1;have ae:attr.size<=4000:=bN.2.2.2.2.2;obtain⟨an,bk⟩:∃an,an=w.alloc (JO #[C E op,G Y args.length a9,C E n,C E sc,H name,H attr,C E at_] 139):=⟨_,D⟩;have aC:=QY;have cZ:=A (show aj an w.heap.size 139 #[C E op,G Y args.length a9,C E n,C E sc,H name,H attr,C E at_] by rw[bk];exact aj.new _ _ _);clear ag h bN;go_in;go_upto_region 1 with fail;rw[<-bk];clear bk;obtain⟨al,am,ax,aW,T,bi,bM,a5,a6,aq,aZ,aO,be,bI⟩:=aK cZ;by_cases dj:op=20
 ·subst dj;clear b;go_wp2_with fail;refine(aQ n _ cY.2.1).mono ?_;exact Qu
 by_cases ba:op=21
 ·subst ba;clear b;go_wp2_with fail;refine(ef n sc _ cY.2.1 (s ZE)).mono ?_;exact Qu
 by_cases cG:op=22
 ·subst cG;clear b;rcases g:(n== 1) with _|_;all_goals(go_wp2_with fail;go_ret;exact⟨_,D,Z,aC.out⟩)
 by_cases dz:op=23
 ·subst dz;exact Oo
 by_cases a':op=24
 ·subst a';exact Oo
 by_cases aa:op=25
 ·subst aa;exact Oo
 have P:=b 20 dj;have ew:=b 21 ba;have R:=b 22 cG;have eA:=b 23 dz;have q:=b 24 a';have t:=b 25 aa;have e9:26<=op:=N;have ea:op<=31:=N;have fa:IntKind.i64.wrap (op-25)=op-25:=Zl;have fm:0<=op-25:=N;have eW:25<=op:=N;have dT:op-25 < 7:=N;clear b dj ba cG dz a' aa;go_upto_region 16 with fail;obtain⟨b4,bg⟩:∃b4,b4=World.drew an:=⟨_,D⟩;have bV:=A (show JK w.heap.size w b4/\aj b4 w.heap.size 139 #[C E op,G Y args.length a9,C E n,C E sc,H name,H attr,C E at_] by rw[bg];exact⟨aC.drew,cZ.drew⟩);have f:F (b4.cell? ⟨w.heap.size,0,I⟩=J (C E op)/\b4.cell? ⟨w.heap.size,4,I⟩=J (H name)/\b4.cell? ⟨w.heap.size,5,I⟩=J (H attr)):=A ⟨bV.2.cell 0,bV.2.cell 4,bV.2.cell 5⟩;clear al am ax aW T bi bM a5 a6 aq aZ aO be bI;refine aG (λB=>B.cell? ⟨w.heap.size,0,I⟩=J (C E op)/\B.cell? ⟨w.heap.size,4,I⟩=J (H name)/\B.cell? ⟨w.heap.size,5,I⟩=J (H attr)) (λa4=>!([0,1,2,3,4,5,6,7,8,9,10,11,12,13,14,15]:List Nat).contains a4) U ?_;rw[<-bg];clear bg;refine tl 1 f ?_;refine tl 2 f ?_;refine tl 3 f ?_;refine tl 7 f ?_;refine tl 8 f ?_;refine tl 11 f ?_;refine tl 12 f ?_;refine t1 0 λK j=>?_;go_simp;go_wp2_with (go_at_call 109;refine(bU _).mono ?_;rintro a7 b1 ⟨bu,r,rfl,cf,l,b8,d⟩);have bb:=A (show JK w.heap.size w b1/\aj b1 w.heap.size 139 #[C E op,G Y args.length a9,C E n,C E sc,H name,H attr,C E at_] from⟨bV.1.trans (d.mono bV.1.size),bV.2.below d bV.2.lt⟩);have f:F (b1.cell? ⟨w.heap.size,0,I⟩=J (C E op)/\b1.cell? ⟨w.heap.size,4,I⟩=J (H name)/\b1.cell? ⟨w.heap.size,5,I⟩=J (H attr)):=A ⟨bb.2.cell 0,bb.2.cell 4,bb.2.cell 5⟩;obtain⟨o,p,rfl,bW,e⟩:=cf;obtain⟨m,ex,ay⟩:=e (op-25).toNat N;clear d bW e;(refine j.out _ _ (λ_=>f) ?_;clear j K);refine tl 4 f ?_;refine t1 5 λK j=>?_;go_simp;(refine j.out _ _ (λ_=>f) ?_;clear j K);refine aJ (i:=6) (v:=?_) D U U U U (λ_ _ _ h=>h) (KH ⟨U,?_⟩) f.out ?_;rotate_left
 ·exact OM
 refine aJ (i:=9) (v:=?_) D U U U U (λ_ _ _ h=>h) (KH ⟨U,?_⟩) f.out ?_;rotate_left
 ·exact OM
 refine aJ (i:=10) (v:=?_) D U U U U (λ_ _ _ h=>h) (KH ⟨U,?_⟩) f.out ?_;rotate_left
 ·exact OM
 refine aJ (i:=13) (v:=?_) D U U U U (λ_ _ _ h=>h) (KH ⟨U,?_⟩) f.out ?_;rotate_left
 ·exact OM
 refine aJ (i:=14) (v:=?_) D U U U U (λ_ _ _ h=>h) (KH ⟨U,?_⟩) f.out ?_;rotate_left
 ·exact OM
 refine aJ (i:=15) (v:=?_) D U U U U (λ_ _ _ h=>h) (KH ⟨U,?_⟩) f.out ?_;rotate_left
 ·exact OM
 refine td ?_;try simp only[Exit.then]
 go_wp2_with fail;all_goals(go_ret;exact⟨_,D,by have cI:(⟨#[39]⟩:ByteArray).size=1:=D;have c1:(⟨#[46]⟩:ByteArray).size=1:=D;have bT:(⟨#[67,79,85,78,84,40]⟩:ByteArray).size=6:=D;have cB:(⟨#[41]⟩:ByteArray).size=1:=D;have dm:(⟨#[40]⟩:ByteArray).size=1:=D;simp only[ByteArray.size_append];omega,bb.1⟩)
def rF (op:Int):Int:=if op=14 then 1 else if op=13 then 2 else if op=15 then 3 else if 7<=op/\op<=12 then 4 else if op=1\/op=2 then 5 else if 3<=op/\op<=5 then 6 else if op=6 then 7 else 8
theorem afO(op:Int):1<=rF op/\rF op<=8:=by unfold rF;split <;> (try split) <;> (try split) <;> (try split) <;> (try split) <;> (try split) <;> (try split) <;> omega
def ahc (op:Int) (w:L) (e:Ending) (w':L):Prop:=e=.returned (C E (rF op))/\JK w.heap.size w w'
theorem Ji(op:Int)(w:L):Calls Tryz.prog 95 #[C E op] w (ahc op w):=by
 have b:∀a0:Int,op≠a0->(op== a0)=false:=λa0 h=>by simpa using h
 have d:∀a0:Int,op=a0->(op== a0)=true:=λa0 h=>by simpa using h
 go_in;by_cases dE:op=14
 ·have b3:=d 14 dE;clear b d;go_wp2_with fail;go_ret;exact⟨by simp[rF,dE],Ky _ _⟩
 have cq:=b 14 dE;by_cases b2:op=13
 ·have b3:=d 13 b2;clear b d;go_wp2_with fail;go_ret;exact⟨by simp[rF,b2],Ky _ _⟩
 have cV:=b 13 b2;by_cases aN:op=15
 ·have b3:=d 15 aN;clear b d;go_wp2_with fail;go_ret;exact⟨by simp[rF,aN],Ky _ _⟩
 have cL:=b 15 aN;by_cases de:7<=op/\op<=12
 ·obtain⟨e9,ea⟩:=de;clear b d;go_wp2_with fail;go_ret;have af:rF op=4:=by rw[rF,JZ dE,JZ b2,JZ aN,Kq ⟨e9,ea⟩]
  exact⟨Zr,Ky _ _⟩
 have cJ:=A de;have cv:(decide (7<=op) && decide (op<=12))=false:=by
  by_cases e9:7<=op
  ·have ea:¬op<=12:=λh=>de ⟨e9,h⟩;simp[ea]
  simp[e9]
 by_cases o:op=1
 ·have b3:=d 1 o;have e9:¬7<=op:=N;clear b d de;go_wp2_with fail;go_ret;exact⟨by simp[rF,o],Ky _ _⟩
 have b3:=b 1 o;by_cases a8:op=2
 ·have b3:=d 2 a8;have e9:¬7<=op:=N;clear b d de;go_wp2_with fail;go_ret;exact⟨by simp[rF,a8],Ky _ _⟩
 have bh:=b 2 a8;by_cases ac:3<=op/\op<=5
 ·obtain⟨e9,ea⟩:=ac;have fa:¬7<=op:=N;clear b d de;go_wp2_with fail;go_ret;have af:rF op=6:=by rw[rF,JZ dE,JZ b2,JZ aN,JZ cJ.out,JZ N,Kq ⟨e9,ea⟩]
  exact⟨Zr,Ky _ _⟩
 have bb:=A ac;by_cases c4:op=6
 ·have S:=d 6 c4;have fa:¬7<=op:=N;have fm:3<=op:=N;have dT:¬op<=5:=N;clear b d de;go_wp2_with fail;go_ret;exact⟨by simp[rF,c4],Ky _ _⟩
 have S:=b 6 c4;have dh:F (rF op=8):=A (by rw[rF,JZ dE,JZ b2,JZ aN,JZ de,JZ N,JZ ac,JZ c4]);clear b d de ac;by_cases e9:7<=op
 ·have ea:¬op<=12:=λh=>cJ ⟨e9,h⟩;have fa:3<=op:=N;have fm:¬op<=5:=N;go_wp2_with fail;go_ret;exact⟨by rw[dh.out];rfl,Ky _ _⟩
 by_cases fa:3<=op
 ·have fm:¬op<=5:=λh=>bb ⟨fa,h⟩;go_wp2_with fail;go_ret;exact⟨by rw[dh.out];rfl,Ky _ _⟩
 go_wp2_with fail;go_ret;exact⟨by rw[dh.out];rfl,Ky _ _⟩

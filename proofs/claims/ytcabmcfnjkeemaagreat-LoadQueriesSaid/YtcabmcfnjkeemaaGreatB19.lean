import Derived.Test.YtcabmcfnjkeemaaGreatBM00
import Derived.Test.YtcabmcfnjkeemaaGreatB18
set_option maxRecDepth 100000
set_option maxHeartbeats 40000000
set_option linter.unusedVariables false
set_option linter.unusedSimpArgs false
namespace Go.Proofs.YtcabmcfnjkeemaaGreat
open Go.Deep Go.RowKit
open Go renaming World->L,Value->O
open Go.IntKind renaming i64->E
open Go.Obj renaming cells->JO
open Go.RowKit renaming Hid->F,Below->JK
open Go.Value renaming int->C,slice->G,string->H,bool->JM
open Option renaming none->I,some->J
attribute [local go_sem ↓] Go.wp_at_zero Go.wp_at_succ
theorem nK(l:List ED):l.length<=(l.map aP).sum:=by
 induction l with
 |nil=>simp
 |cons a l bf=>simp only[List.length_cons,List.map_cons,List.sum_cons];have:=jw a;omega
def Gh (_:Nat->Prop) (_:L) (cs:List O) (t:ByteArray):Prop:=cs=[H t]
theorem qG:bZ Gh:=λ_ _ _ _ _ _ h _ _=>h
theorem wR:kH Tryz.prog 23 9 1 16:=kH.of (z:=H ⟨#[]⟩) Tryz.underlying23 U D Z
variable{w:L}{B a9:Nat}{Y:Option Addr}
theorem Ce{e:TypeId}{ps:List ByteArray}{css:List (List O)}(h:Acc B e 1 Gh w (G Y ps.length a9) ps css)(V:0 < ps.length):∃g,Y=J ⟨g,0,I⟩/\ps.length<=a9/\a9<=maxLen/\g < w.heap.size/\∀i p,ps[i]? =J p->w.cell? ⟨g,i,I⟩=J (H p):=by obtain⟨g,r,af,_,bA,o,a8,aw,_⟩:=yx h.1 V;injection af with af _ cS;subst af cS;refine⟨g,D,o,a8,bA,λi p ai=>?_⟩;obtain⟨bj,b3,bh,ca⟩:=h.2.2 i p ai;have ca:bj=[H p]:=ca;subst ca;have ac:=flat_get h.2.each b3 0 _ D;rw[Nat.mul_one,Na] at ac;exact aw _ _ ac
def ahk (sn:Nat) (sf:Int) (w:L) (e:Ending) (w':L):Prop:=∃A c,e=.returned (.tuple #[G A sn c,C E sf])/\(0 < sn->Dw w' w.heap.size A sn)/\sn<=c/\c<=1000/\JK w.heap.size w w'
theorem afg{l:Int}{sn:Nat}{sf:Int}(h:Du l=(sn,sf))(w:L):Calls Tryz.prog 96 #[C E l] w (ahk sn sf w):=by have o:=EI l w;unfold agA at o;rw[h] at o;exact o
theorem afZ{op:Int}(o:1<=op)(a8:op<=14)(ac:op≠6):∃sn sf k,Du (rF op)=(sn,sf)/\k < sn/\op-sf=(k:Nat)/\sn<=6:=by
 have h:op=1\/op=2\/op=3\/op=4\/op=5\/op=7\/op=8\/op=9\/op=10\/op=11\/op=12\/op=13\/op=14:=N;rcases h with rfl|rfl|rfl|rfl|rfl|rfl|rfl|rfl|rfl|rfl|rfl|rfl|rfl
 ·exact⟨2,1,0,Z,Z,Z,Z⟩
 ·exact⟨2,1,1,Z,Z,Z,Z⟩
 ·exact⟨3,3,0,Z,Z,Z,Z⟩
 ·exact⟨3,3,1,Z,Z,Z,Z⟩
 ·exact⟨3,3,2,Z,Z,Z,Z⟩
 ·exact⟨6,7,0,Z,Z,Z,Z⟩
 ·exact⟨6,7,1,Z,Z,Z,Z⟩
 ·exact⟨6,7,2,Z,Z,Z,Z⟩
 ·exact⟨6,7,3,Z,Z,Z,Z⟩
 ·exact⟨6,7,4,Z,Z,Z,Z⟩
 ·exact⟨6,7,5,Z,Z,Z,Z⟩
 ·exact⟨1,13,0,Z,Z,Z,Z⟩
 exact⟨1,14,0,Z,Z,Z,Z⟩
def agE (x:ED) (w:L) (e:Ending) (w':L):Prop:=∃(t:ByteArray) (d:Int),e=.returned (.tuple #[H t,C E d])/\t.size<=8300*aP x/\JK w.heap.size w w'
def afH (w:L) (args:List ED) (op n sc at_:Int) (name attr:ByteArray) (A:Option Addr) (c:Nat) (v d i:O) (wr:L):Prop:=∃(r:Nat) (dd:Int) (ps:List ByteArray) (css:List (List O)),r<=args.length/\d=C E dd/\i=C E r/\F (ps.length=r/\Acc (w.heap.size+1) 9 1 Gh wr v ps css/\(ps.map (λt=>t.size)).sum<=8300*((args.take r).map aP).sum+2*r)/\F (JK w.heap.size w wr/\aj wr w.heap.size 139 #[C E op,G A args.length c,C E n,C E sc,H name,H attr,C E at_])
theorem abp(x:ED):∀(w:L) (cs:List O),yX w cs x->aP x<=100000->dO x=true->rV x=true->Calls Tryz.prog 71 #[.agg cs.toArray] w (agE x w):=by
 refine vG (p:=λx=>∀(w:L) (cs:List O),yX w cs x->aP x<=100000->dO x=true->rV x=true->Calls Tryz.prog 71 #[.agg cs.toArray] w (agE x w)) ?_ x;intro e M bQ ar bq bF b8 bf w cs h V eK f4;obtain⟨dg,rfl,ag,bN⟩:=h.opened;obtain⟨Y,a9,rfl,d0,cR⟩:=ag.slice;have dF:=A bf;have q:=A h;have f:=A ag;have cw:=A V;have ci:=A eK;have dv:=A f4;have dq:=A (λbl B=>Ji bl B);obtain⟨an,bk⟩:∃an,an=w.alloc (JO #[C E e,G Y b8.length a9,C E M,C E bQ,H bq,H bF,C E ar] 139):=⟨_,D⟩;have aC:=QY;have cZ:=Ru;clear bf ag V h bN eK f4;go_in;go_upto_region 1 with fail;rw[<-bk];clear bk;obtain⟨al,am,ax,aW,T,bi,bM,a5,a6,aq,aZ,aO,be,bI⟩:=aK cZ;go_wp2_with fail;refine(dq e _).mono ?_;rintro a7 b1 ⟨rfl,c9⟩;have bb:=A (show JK w.heap.size w b1/\aj b1 w.heap.size 139 #[C E e,G Y b8.length a9,C E M,C E bQ,H bq,H bF,C E ar] from⟨aC.trans (c9.mono aC.size),cZ.below c9 cZ.lt⟩);clear c9 al am ax aW T bi bM a5 a6 aq aZ aO be bI;obtain⟨al,am,ax,aW,T,bi,bM,a5,a6,aq,aZ,aO,be,bI⟩:=aK bb.2;have dY:=afO e;obtain⟨aM,W⟩:∃aM,aM=rF e:=⟨_,D⟩;rw[<-W] at dY;rw[<-W];have aA:=A W;clear W;obtain⟨aH,aJ⟩:=dY;go_wp2_with fail;clear al am ax aW T bi bM a5 a6 aq aZ aO be bI;go_loopw [5,6,19] (λbc aI a3 wr=>afH w b8 e M bQ ar bq bF Y a9 bc aI a3 wr) (λbc aI a3 wr=>b8.length-(intOf a3).toNat);case atStart=>exact⟨0,0,[],[],Kw _,D,D,A ⟨D,Acc.nil _,ZH⟩,bb⟩
 obtain⟨z,aE,ba,cA,aS,rfl,rfl,t,bs⟩:=hrel;have ct:(0:Int)<=(z:Int):=N;have cv:b8.length<=100000:=by have o:=cw.out;rw[aY] at o;have a8:=nK b8;omega
 have cu:(z:Int)<=100000:=N;obtain⟨al,am,ax,aW,T,bi,bM,a5,a6,aq,aZ,aO,be,bI⟩:=aK bs.2;by_cases bA:z < b8.length
 ·have c0:(z:Int) < (b8.length:Int):=N;obtain⟨a2,ak⟩:∃a2,b8[z]? =J a2:=⟨_,Kr bA⟩;have bV:=A ak;have dl:=A (show aP a2<=100000 by have o:=nP ak;have a8:=cw.out;rw[aY] at a8;omega);have dX:=A (dF.out z a2 ak);have eR:F (dO a2=true/\rV a2=true):=A (by have o:=ci.out;have a8:=dv.out;rw[dO.eq_def] at o;rw[rV.eq_def] at a8;simp only[Bool.and_eq_true,List.all_map,List.all_eq_true] at o a8;exact⟨o.2 a2 (Kz ak),a8.2 a2 (Kz ak)⟩);obtain⟨ca,c8,bD,dc,cV,bW,aw⟩:=a2;obtain⟨y,b5,ch,cl,cW,af,-,-,b',bv,bo,bZ,c5,bG,co,bS⟩:=iW (jr f bs.1) ak;injection af with af _ cS;subst af cS;have e5:=A (dX wr _ bS dl eR.1 eR.2);clear bS ak dX;go_wp2_with fail;refine e5.mono ?_;rintro a7 r ⟨b9,aI,rfl,c7,cG⟩;have cJ:=A (show JK w.heap.size w r/\aj r w.heap.size 139 _ from⟨bs.1.trans (cG.mono bs.1.size),bs.2.below cG bs.2.lt⟩);have d8:=A c7;have cc:=A cG;clear cG c7 e5 al am ax aW T bi bM a5 a6 aq aZ aO be bI b' bv bo bZ c5 bG co;have au:b9.size<=900000000:=by have o:=d8.out;have a8:=dl.out;omega
  go_upto_if 33 with fail;go_cut [10] from 32 to 33 (λbc bn=>∃bP:Int,bc=C E bP/\r=bn);case first=>rcases dy:(aM== 8) with _|_;all_goals(go_wp2_with fail;go_meet;exact⟨_,D,D⟩)
  case rest=>
  obtain⟨bP,rfl,rfl⟩:=hcut;go_upto_region 11 with fail;go_cut [39] from 34 to 39 (λbc bn=>∃cx:Bool,bc=JM cx/\r=bn);case first=>
   rcases b6:(aM== 4) with _|_;all_goals rcases o:((z:Int)== 1) with _|_
   all_goals(go_wp2_with fail;go_meet;exact⟨_,D,D⟩)
  case rest=>
  obtain⟨cx,rfl,rfl⟩:=hcut;go_upto_if 39 with fail;go_cut [10] from 40 to 41 (λbc bn=>∃bP:Int,bc=C E bP/\r=bn);case first=>rcases cx with _|_;all_goals(go_wp2_with fail;go_meet;exact⟨_,D,D⟩)
  case rest=>
  obtain⟨bP,rfl,rfl⟩:=hcut;obtain⟨al,am,ax,aW,T,bi,bM,a5,a6,aq,aZ,aO,be,bI⟩:=aK cJ.2;obtain⟨dN,e4,cX,cD,dt,dZ,-,-,b',bv,bo,bZ,c5,bG,co,-⟩:=iW (jr f cJ.1) bV;injection dZ with dZ _ aF;injection dZ with dZ;injection dZ with b3 bh;subst b3 bh aF;go_wp2_with fail;refine(dq _ _).mono ?_;rintro a7 bn ⟨rfl,bY⟩;have bL:=A bY;clear bY al am ax aW T bi bM a5 a6 aq aZ aO be bI b' bv bo bZ c5 bG co;have ad:=A (cc.trans (bL.mono cc.size));have bH:=A (show JK w.heap.size w bn/\aj bn w.heap.size 139 #[C E e,G (J ⟨y,b5,I⟩) b8.length a9,C E M,C E bQ,H bq,H bF,C E ar] from⟨cJ.1.trans (bL.mono cJ.1.size),cJ.2.below bL cJ.2.lt⟩);obtain⟨di,bG,rfl⟩:=aB t.2.1.1;rcases ce:decide (rF ca < bP) with _|_
  ·have ei:(b9).size<=8300*aP (.mk ca c8 bD dc cV bW aw)+2:=Yj;have a1:=A ei;clear ei;go_upto_region 15 with fail;clear ce;go_upto_region 16 with(at_builtin;refine jU wR qG D _ _ D t.out.2.1 VD ad.out (cs:=[H (b9)]) (x:=(b9)) D D VY XY WB D D ?_;intro cl ch av aR d5;have e1:=A aR;have dU:=A d5;clear aR d5);have ed:=A (λae ab=>aQ (g:=ae) t.2.1.1 ab);have ec:=RN;have ej:F (((ba++[b9]).map (λb9=>b9.size)).sum<=8300*((b8.take (z+1)).map aP).sum+2*(z+1)):=A (by rw[KX,LD,mG aP bV.out];have o:=t.2.2;have a8:=a1.out;have ac:=jw (.mk ca c8 bD dc cV bW aw);simp only[List.map_cons,List.map_nil,List.sum_cons,List.sum_nil];omega);go_wp2_with fail;have n:∀R,afH w b8 e M bQ ar bq bF (J ⟨y,b5,I⟩) a9 (G cl (ba.length+1) ch) (C E R) (C E ((z:Int)+1)) av:=λR=>⟨z+1,_,ba++[b9],cA++[[H (b9)]],N,D,ZF,A ⟨by rw[KC,t.1];rfl,e1,ej.out⟩,ec⟩;all_goals exact⟨n _,YF⟩
  have ei:((⟨#[40]⟩:ByteArray)++b9++(⟨#[41]⟩:ByteArray)).size<=8300*aP (.mk ca c8 bD dc cV bW aw)+2:=by have:=d8.out;have cI:(⟨#[40]⟩:ByteArray).size=1:=D;have c1:(⟨#[41]⟩:ByteArray).size=1:=D;simp only[ByteArray.size_append];omega
  have a1:=A ei;clear ei;go_upto_region 15 with fail;clear ce;go_upto_region 16 with(at_builtin;refine jU wR qG D _ _ D t.out.2.1 VD ad.out (cs:=[H ((⟨#[40]⟩:ByteArray)++b9++(⟨#[41]⟩:ByteArray))]) (x:=((⟨#[40]⟩:ByteArray)++b9++(⟨#[41]⟩:ByteArray))) D D VY XY WB D D ?_;intro cl ch av aR d5;have e1:=A aR;have dU:=A d5;clear aR d5);have ed:=A (λae ab=>aQ (g:=ae) t.2.1.1 ab);have ec:=RN;have ej:F (((ba++[(⟨#[40]⟩:ByteArray)++b9++(⟨#[41]⟩:ByteArray)]).map (λb9=>b9.size)).sum<=8300*((b8.take (z+1)).map aP).sum+2*(z+1)):=A (by rw[KX,LD,mG aP bV.out];have o:=t.2.2;have a8:=a1.out;have ac:=jw (.mk ca c8 bD dc cV bW aw);simp only[List.map_cons,List.map_nil,List.sum_cons,List.sum_nil];omega);go_wp2_with fail;have n:∀R,afH w b8 e M bQ ar bq bF (J ⟨y,b5,I⟩) a9 (G cl (ba.length+1) ch) (C E R) (C E ((z:Int)+1)) av:=λR=>⟨z+1,_,ba++[(⟨#[40]⟩:ByteArray)++b9++(⟨#[41]⟩:ByteArray)],cA++[[H ((⟨#[40]⟩:ByteArray)++b9++(⟨#[41]⟩:ByteArray))]],N,D,ZF,A ⟨by rw[KC,t.1];rfl,e1,ej.out⟩,ec⟩;all_goals exact⟨n _,YF⟩
 have c0:(b8.length:Int)<=(z:Int):=N;have a0:(b8.length=1/\(e=6\/e=15\/e=16\/e=17))\/(b8.length=2/\1<=e/\e<=14/\e≠6)\/(b8.length=0/\20<=e/\e<=31):=by
  have o:=ci.out;rw[dO.eq_def] at o;simp only[Bool.and_eq_true] at o;have a8:=o.1;split at a8
  ·simp at a8;omega
  split at a8
  ·simp at a8;omega
  simp only[Bool.and_eq_true,decide_eq_true_eq] at a8;omega
 obtain⟨di,bG,rfl⟩:=aB t.2.1.1;have ee:F (ba.length=b8.length/\(ba.map (λb9=>b9.size)).sum<=8300*(b8.map aP).sum+2*b8.length):=A (by have cQ:z=b8.length:=N;refine⟨by rw[t.1,cQ],?_⟩;have o:=t.2.2;rw[cQ,LQ] at o;exact o);have cE:F (8300*(b8.map aP).sum+2*b8.length<=850000000):=A (by have o:=cw.out;rw[aY] at o;omega);rcases a0 with⟨ef,ah⟩|⟨dC,a4,cm,aG⟩|⟨f3,a4,cm⟩
 ·have d9:ba.length=1:=by rw[ee.1,ef]
  obtain⟨dT,rfl⟩:∃dT,ba=[dT]:=by
   match ba,d9 with
   | [dT],_=>exact⟨dT,D⟩
  obtain⟨aT,rfl,aa,j,X,d⟩:=Ce t.2.1 ZH;have b0:=d 0 _ D;have i:F (dT.size<=8300*(b8.map aP).sum+2*b8.length):=A (by have:=ee.2;simpa using this);have fF:dT.size<=850000000:=Wj;have az:=A ef;simp only[List.length_cons,List.length_nil,Nat.zero_add] at aa;unfold maxLen at j;clear d9 d ef;rcases ah with rfl|rfl|rfl|rfl;all_goals go_wp2_with fail
  all_goals go_ret2
  all_goals exact⟨_,_,D,by rw[aY];have o:=i.out;have a8:=az.out;have cI:(⟨#[45]⟩:ByteArray).size=1:=D;have c1:(⟨#[78,79,84,32]⟩:ByteArray).size=4:=D;have bT:(⟨#[82,69,65,76,40]⟩:ByteArray).size=5:=D;have cB:(⟨#[73,83,78,65,78,40]⟩:ByteArray).size=6:=D;have dm:(⟨#[41]⟩:ByteArray).size=1:=D;simp only[ByteArray.size_append];omega,bs.1⟩
 ·have d9:ba.length=2:=by rw[ee.1,dC]
  obtain⟨dT,v,rfl⟩:∃dT v,ba=[dT,v]:=by
   match ba,d9 with
   | [dT,v],_=>exact⟨dT,v,D⟩
  obtain⟨aT,rfl,aa,j,X,d⟩:=Ce t.2.1 ZH;have b0:=d 0 _ D;have aL:=d 1 _ D;have i:F (dT.size+v.size<=8300*(b8.map aP).sum+2*b8.length):=A (by have:=ee.2;simpa using this);have fF:dT.size<=850000000:=Wj;have dL:v.size<=850000000:=Wj;have az:=A dC;simp only[List.length_cons,List.length_nil,Nat.zero_add] at aa;unfold maxLen at j;clear d9 d dC;obtain⟨ai,k,cT,ex,cp,cC,aU⟩:=afZ a4 cm aG;have bm:=A (λB=>afg (l:=aM) (sn:=ai) (sf:=k) (by rw[aA.out];exact ex) B);clear ex;have dI:=A b0;have d7:=A aL;go_wp2_with fail;refine(bm _).mono ?_;rintro a7 av ⟨c3,cs,rfl,cf,dE,d6,cO⟩;obtain⟨P,aV,rfl,-,s⟩:=cf N;obtain⟨m,b,ao⟩:=s cT cp;have cJ:=A (show JK w.heap.size w av from bs.1.trans (cO.mono bs.1.size));have a':av.cell? ⟨w.heap.size,0,I⟩=J (C E e):=(bs.2.below cO bs.2.lt).cell 0;have aD:=(cO.cell (ay dI)).trans dI;have aX:=(cO.cell (ay d7)).trans d7;have bx:IntKind.i64.wrap (e-k)=e-k:=wrap_in N N;have eb:(0:Int)<=e-k:=N;have dh:(e-k).toNat=cT:=N;have aN:e-k < (ai:Int):=N;clear cf s cO al am ax aW T bi bM a5 a6 aq aZ aO be bI b0 aL;go_upto_region 20 with fail;go_quiet (fail);go_wp2_with fail;go_ret2;exact⟨_,_,D,by rw[aY];have o:=i.out;have a8:=az.out;have cB:(⟨#[32]⟩:ByteArray).size=1:=D;simp only[ByteArray.size_append];omega,below_drewN cJ _⟩
 have d9:ba.length=0:=by rw[ee.1,f3]
 obtain rfl:ba=[]:=MG d9;have bC:F (yX wr [C E e,G Y b8.length a9,C E M,C E bQ,H bq,H bF,C E ar] (.mk e b8 M bQ bq bF ar)):=A (q.below bs.1);have S:=A (abl bC ⟨a4,cm⟩ (λh=>by
  have o:=dv.out;rw[rV.eq_def] at o;simp only[Bool.and_eq_true,Bool.or_eq_true,decide_eq_true_eq] at o;rcases o.1.1 with a8|a8
  ·exact absurd h a8
  exact a8))
 have dw:(e== 6)=false:=Zv;have b2:(e== 15)=false:=Zv;have b4:(e== 16)=false:=Zv;have b7:(e== 17)=false:=Zv;clear d9 f3;go_wp2_with fail;refine S.mono ?_;rintro a7 av ⟨b9,rfl,c7,cO⟩;have cJ:=A (show JK w.heap.size w av from bs.1.trans (cO.mono bs.1.size));clear cO al am ax aW T bi bM a5 a6 aq aZ aO be bI;go_wp2_with fail;go_ret2;exact⟨_,_,D,by rw[aY];omega,cJ.out⟩
variable{v:O}
theorem adW{l:List ByteArray}(h:bU 1 zG w v l)(ag:∀s∈l,s.size<=4611686018427387904):Calls Tryz.prog 68 #[v] w (acC w):=by
 obtain⟨Y,a9,rfl,d0,cR⟩:=h.slice;have f:=A h;have co:=A ag;have aX:=A (λb9 B h=>name_any b9 B h);unfold maxLen at cR;clear h ag;go_in;go_wp2_with fail;go_loopw [8] (λa3 wr=>∃z:Nat,z<=l.length/\a3=C E z/\F (JK w.heap.size w wr)) (λa3 wr=>l.length-(intOf a3).toNat);case atStart=>exact⟨0,Kw _,D,A JY⟩
 obtain⟨z,aS,rfl,b7⟩:=hrel;have ct:(0:Int)<=(z:Int):=N;have cu:(z:Int)<=9223372036854775807:=N;by_cases bA:z < l.length
 ·have c0:(z:Int) < (l.length:Int):=N;obtain⟨a2,ak⟩:∃a2,l[z]? =J a2:=⟨_,Kr bA⟩;have eg:=A (co a2 (Kz ak));obtain⟨dz,bl,b',af,-,-,aR,bj,dC,rfl,cM⟩:=bU.get (bU.keep f (bW.of_below b7) λ_ _ h=>h) ak;injection af with af _ cS;subst af cS;have b0:=cM 0 _ D;simp only[Nat.add_zero,Nat.mul_one] at b0;clear ak aR dC cM;go_wp2_with fail;refine(aX a2 _ eg).mono ?_;rintro a7 b1 ⟨cu,rfl,ay,c9⟩;have bb:=A (b7.trans (c9.mono b7.size));clear c9 ay b0;rcases cu with _|_
  ·go_wp2_with fail;go_ret;exact⟨_,D,bb.out⟩
  go_wp2_with fail;go_loop [5] (λa3=>∃a0:Nat,a0<=z/\a3=C E a0) (λa3=>z-(intOf a3).toNat);case atStart=>exact⟨0,Kw _,D⟩
  obtain⟨a0,ah,rfl⟩:=hrel;have dS:(0:Int)<=(a0:Int):=N;by_cases dL:a0 < z
  ·have dD:(a0:Int) < (z:Int):=N;have e0:(a0:Int) < (l.length:Int):=N;obtain⟨aA,cv⟩:∃aA,l[a0]? =J aA:=⟨_,Kr N⟩;obtain⟨b,d,bv,af,-,-,aR,bj,dC,rfl,cM⟩:=bU.get (bU.keep f (bW.of_below bb) λ_ _ h=>h) cv;injection af with af _ cS;injection af with af;injection af with b3 bh;subst b3 bh cS;have b0:=cM 0 _ D;simp only[Nat.add_zero,Nat.mul_one] at b0;clear cv aR dC cM;rcases a1:(aA.toList== a2.toList) with _|_
   ·go_wp2_with fail;exact⟨⟨a0+1,N,ZF⟩,YF⟩
   go_wp2_with fail;go_ret;exact⟨_,D,bb.out⟩
  have dD:(z:Int)<=(a0:Int):=N;go_wp2_with fail;exact⟨⟨z+1,N,ZF,bb⟩,YF⟩
 have c0:(l.length:Int)<=(z:Int):=N;go_wp2_with fail;go_ret;exact⟨_,D,b7.out⟩
structure acI (S:SchD):Prop where
 types:S.types.length<=4000000000000
 names:∀t∈S.types,t.1.size<=4611686018427387904
 attrs:∀t∈S.types,∀f∈t.2,f.1.size<=4611686018427387904
 syms:∀s∈S.syms,s.size<=4611686018427387904
def CkP (S:SchD) (w:L) (e:Ending) (w':L):Prop:=∃ec:Int,e=.returned (C E ec)/\(ec=0->iM S)/\JK w.heap.size w w'
def CkB (w:L) (A:Option Addr) (c:Nat) (As:Option Addr) (cs:Nat) (S:SchD) (W:L):Prop:=JK w.heap.size w W/\aj W w.heap.size 25 #[G A S.types.length c,G As S.syms.length cs]
variable{S:SchD}
theorem CkB.more{W i:L}{c3:Option Addr}{cs:Nat}(h:CkB w Y a9 c3 cs S W)(d:JK W.heap.size W i):CkB w Y a9 c3 cs S i:=
 ⟨h.1.trans (d.mono h.1.size),h.2.below d h.2.lt⟩
theorem CkB.app{W i:L}{c3:Option Addr}{cs:Nat}(h:CkB w Y a9 c3 cs S W)(k:FX B v W i)(bW:w.heap.size < B)(bB:B<=W.heap.size)(af:∀g,v.ownBlock=J g->B<=g):CkB w Y a9 c3 cs S i:=
 ⟨k.below _ _ N bB h.1,k.blk _ _ _ (λa7=>by have:=af _ a7.symm;omega) h.2⟩
def agZ (w:L) (A:Option Addr) (c:Nat) (As:Option Addr) (cs:Nat) (S:SchD) (lg v i:O) (wr:L):Prop:=
 ∃(r:Nat) (b:Bool) (css:List (List O)),r<=S.types.length/\lg=JM b/\i=C E r/\F (b=false->(S.types.length<=16/\S.syms.length<=64)/\∀t∈S.types.take r,t.2.length<=8)/\F (Acc (w.heap.size+1) 9 1 Gh wr v ((S.types.take r).map λt=>t.1) css)/\F (CkB w A c As cs S wr)
def af9 (w wx:L) (A:Option Addr) (c:Nat) (As:Option Addr) (cs:Nat) (S:SchD) (nm kd i:O) (wr:L):Prop:=
 ∃(r:Nat) (bn bk:Bool),r<=S.types.length/\nm=JM bn/\kd=JM bk/\i=C E r/\F (bk=false->∀t∈S.types.take r,∀f∈t.2,1<=f.2/\f.2<=4)/\F (CkB w A c As cs S wr)/\F (JK wx.heap.size wx wr)
def af' (bk0:Bool) (w wx W9:L) (A:Option Addr) (c:Nat) (As:Option Addr) (cs:Nat) (S:SchD) (y2:List (ByteArray×Int)) (kd v i:O) (wr:L):Prop:=
 ∃(k:Nat) (bk:Bool) (css:List (List O)),k<=y2.length/\kd=JM bk/\i=C E k/\F (bk=false->bk0=false/\∀f∈y2.take k,1<=f.2/\f.2<=4)/\F (Acc W9.heap.size 9 1 Gh wr v ((y2.take k).map λf=>f.1) css)/\F (JK W9.heap.size W9 wr)
theorem take_snoc'{q:Type}{l:List q}{r:Nat}{x:q}(h:l[r]? =J x):l.take (r+1)=l.take r++[x]:=by rw[MJ,h];rfl
theorem EM{e:TypeId}{xs:List ByteArray}{css:List (List O)}(h:Acc B e 1 Gh w v xs css):bU 1 zG w v xs:=
 (h.done qG).out λ_ _ h=>h
theorem aao{vt vs:O}(h:qB w vt vs S)(cv:acI S):Calls Tryz.prog 39 #[.agg #[vt,vs]] w (CkP S w):=by
 obtain⟨Y,a9,rfl,d0,cR⟩:=h.types.slice;obtain⟨c3,bj,rfl,l,k⟩:=h.syms.slice;have f:=A h;have co:=A cv;have aE:=A (λB bc bP (h:bU 1 zG B bc bP) ag=>adW h ag);obtain⟨an,bk⟩:∃an,an=w.alloc (JO #[G Y S.types.length a9,G c3 S.syms.length bj] 25):=⟨_,D⟩;have aV:=A (show CkB w Y a9 c3 bj S an by rw[bk];exact⟨JY.alloc c _,aj.new _ _ _⟩);have ar:=cv.types;unfold maxLen at cR k;clear h cv;go_in;go_upto_region 1 with fail;rw[<-bk];clear bk;obtain⟨al,am,a5,a6⟩:=bH aV.2;go_cut [3,4,5] from 14 to 23 (λbc a y bn=>∃i:Bool,bc=JM i/\a=JM false/\y=JM false/\F (i=false->S.types.length<=16/\S.syms.length<=64)/\an=bn);case first=>
  by_cases v:(16:Int) < (S.types.length:Int)
  ·go_wp2_with fail;go_meet;exact⟨_,D,D,D,A (λh=>VN),D⟩
  by_cases c2:(64:Int) < (S.syms.length:Int)
  ·go_wp2_with fail;go_meet;exact⟨_,D,D,D,A (λh=>VN),D⟩
  go_wp2_with fail;go_meet;exact⟨_,D,D,D,A (λh=>N),D⟩
 case rest=>
 obtain⟨i,rfl,rfl,rfl,a4,rfl⟩:=hcut;go_wp2_with fail;clear al am a5 a6;go_loopw [3,6,27] (λi bc a3 wr=>agZ w Y a9 c3 bj S i bc a3 wr) (λi bc a3 wr=>S.types.length-(intOf a3).toNat);case atStart=>exact⟨0,i,[],Kw _,D,D,A (λh=>⟨a4 h,ZH⟩),A (Acc.nil _),aV⟩
 obtain⟨z,i,cA,aS,rfl,rfl,r,t,b7⟩:=hrel;have ct:(0:Int)<=(z:Int):=N;have cu:(z:Int)<=4000000000000:=N;by_cases bA:z < S.types.length
 ·have c0:(z:Int) < (S.types.length:Int):=N;obtain⟨a2,ak⟩:∃a2,S.types[z]? =J a2:=⟨_,Kr bA⟩;have bV:=A ak;obtain⟨dz,bl,b',bq,ao,af,-,-,b0,aL,dI,en,d'⟩:=tJ (f.below b7.1).types ak;injection af with af _ cS;subst af cS;clear ak dI;obtain⟨bd,bO⟩:=a2;dsimp only at b0 aL bV en;unfold maxLen at d';go_upto_region 6 with fail;have cy:=Sv;refine Ut ?_;intro cX aD;have bp:=A aD;have c4:=A (b7.more bp.1);clear aD cy b0 aL;obtain⟨R,b,dG,cC⟩:=bH bp.2;go_cut [3] from 31 to 37 (λbc bn=>∃y:Bool,bc=JM y/\F (y=false->i=false/\bO.length<=8)/\cX=bn);case first=>
   rcases i with _|_
   ·by_cases c2:(8:Int) < (bO.length:Int)
    ·go_wp2_with fail;go_meet;exact⟨_,D,A (λh=>VN),D⟩
    go_wp2_with fail;go_meet;exact⟨_,D,A (λh=>⟨ZE,N⟩),D⟩
   exact PE
  case rest=>
  obtain⟨y,rfl,d2,rfl⟩:=hcut;obtain⟨di,bG,rfl⟩:=aB t.1;have dB:F (((S.types.take z).map λb9=>b9.1).length=z):=A (by rw[KZ,Lc];omega);have ed:=A (λae ab=>aQ (g:=ae) t.1 ab);have dA:=A (show w.heap.size+1<=wr.heap.size by have:=b7.2.lt;omega);go_upto_region 8 with(at_builtin;refine jU wR qG D _ _ D t.out dA.out bp.out.1 (cs:=[H bd]) (x:=bd) D D VY (by rw[dB.out];omega) (by rw[dB.out];unfold maxLen;omega) D D ?_;intro cl ch av aR d5;have e1:=A aR;have dU:=A d5;clear aR d5);have dv:=A (c4.app dU (KP _) (Ko dA bp.1.size) λae ab=>(ed ae ab).2);clear R b dG cC;have ef:F (Acc (w.heap.size+1) 9 1 Gh av (G cl (z+1) ch) ((S.types.take (z+1)).map λb9=>b9.1) (cA++[[H bd]])):=A (by have o:=e1.out;rw[dB.out] at o;rw[take_snoc' bV.out,KX];exact o);go_wp2_with fail;exact⟨⟨z+1,y,_,N,D,ZF,A (λh=>⟨(r (d2 h).1).1,λb9 c7=>by
   rw[take_snoc' bV.out] at c7;rcases KQ.1 c7 with o|o
   ·exact(r (d2 h).1).2 b9 o
   rw[KG] at o;subst o;exact(d2 h).2⟩),ef,dv⟩,YF⟩
 have c0:(S.types.length:Int)<=(z:Int):=N;have eb:F (S.types.take z=S.types):=A (KN N);rcases i with _|_;rotate_left
 ·go_wp2_with fail;go_ret;exact⟨_,D,λh=>absurd h Z,b7.1⟩
 have ej:=A (r D);obtain⟨al,am,a5,a6⟩:=bH b7.2;have eS:=A (EM t);obtain⟨di,bG,rfl⟩:=aB t.1;obtain⟨dn,cU⟩:∃dn,dn=((S.types.take z).map λb9=>b9.1).length:=⟨_,D⟩;rw[<-cU] at eS;rw[<-cU];have ax:S.types.length<=16:=ej.1.1;clear cU;go_wp2_with fail;clear al am a5 a6;obtain⟨bn,ez⟩:∃bn,bn=wr:=⟨_,D⟩;subst ez;go_loopw [4,5,48] (λcH aP a3 dF=>af9 w bn Y a9 c3 bj S cH aP a3 dF) (λcH aP a3 dF=>S.types.length-(intOf a3).toNat);case atStart=>exact⟨0,false,false,Kw _,D,D,D,A ZH,b7,A JY⟩
 obtain⟨m,ff,p,a1,rfl,rfl,rfl,e3,au,b4⟩:=hrel;have dS:(0:Int)<=(m:Int):=N;have e0:(m:Int)<=16:=N;by_cases aW:m < S.types.length
 ·have dD:(m:Int) < (S.types.length:Int):=N;obtain⟨a2,ak⟩:∃a2,S.types[m]? =J a2:=⟨_,Kr aW⟩;have bV:=A ak;have M:=A (Kz ak);have a8:a2.2.length<=8:=ej.2 a2 (by rw[eb.out];exact M);obtain⟨dz,bl,b',bq,ao,af,-,-,b0,aL,dI,en,d'⟩:=tJ (f.below au.1).types ak;injection af with af _ cS;subst af cS;have dX:=A dI;clear ak dI;obtain⟨bd,bO⟩:=a2;dsimp only at b0 aL bV en M a8 dX;unfold maxLen at d';go_upto_region 14 with fail;have cy:=Sv;refine Ut ?_;intro cX aD;have bp:=A aD;have c4:=A (au.more bp.1);clear aD cy b0 aL;obtain⟨R,b,dG,cC⟩:=bH bp.2;go_wp2_with fail;clear R b dG cC;go_loopw [5,11,55] (λaP bc a3 aw=>af' p w bn cX (J ⟨dz,bl,I⟩) a9 c3 bj S bO aP bc a3 aw) (λaP bc a3 aw=>bO.length-(intOf a3).toNat);case atStart=>exact⟨0,p,[],Kw _,D,D,A (λh=>⟨h,ZH⟩),A (Acc.nil _),A JY⟩
  obtain⟨a0,q,aa,ah,rfl,rfl,ad,t,e⟩:=hrel;have b3:(0:Int)<=(a0:Int):=N;have ca:(a0:Int)<=8:=N;by_cases dL:a0 < bO.length
  ·have bh:(a0:Int) < (bO.length:Int):=N;obtain⟨aG,aH⟩:∃aG,bO[a0]? =J aG:=⟨_,Kr dL⟩;have cN:=A aH;obtain⟨P,T,V,af,-,-,b0,aL,e7⟩:=zY (dX.keep (bW.of_below (bp.1.trans (e.mono bp.1.size))) λ_ _ h=>h) aH;injection af with af _ cS;subst af cS;clear aH e7;obtain⟨ci,cw⟩:=aG;dsimp only at b0 aL cN;go_upto_region 18 with fail;have cy:=A (show JK wr.heap.size wr (wr.alloc (JO #[H ci,C E cw] 103)) from JY.alloc c _);refine aI (Φ:=λB=>JK wr.heap.size wr B/\aj B wr.heap.size 103 #[H ci,C E cw]) ⟨cy,aj.new _ _ _⟩ ?_;intro e6 cL;have c9:=A cL;clear cL cy b0 aL;obtain⟨R,b,dG,cC⟩:=bH c9.2;obtain⟨ac,e4,rfl⟩:=aB t.1;have dB:F (((bO.take a0).map λaG=>aG.1).length=a0):=A (by rw[KZ,Lc];omega);have ed:=A (λae ab=>aQ (g:=ae) t.1 ab);go_upto_region 19 with(at_builtin;refine jU wR qG D _ _ D t.out e.out.size c9.out.1 (cs:=[H ci]) (x:=ci) D D VY (by rw[dB.out];omega) (by rw[dB.out];unfold maxLen;omega) D D ?_;intro cl ch av aR d5;have e1:=A aR;have dU:=A d5;clear aR d5);have ef:F (Acc cX.heap.size 9 1 Gh av (G cl (a0+1) ch) ((bO.take (a0+1)).map λb9=>b9.1) (aa++[[H ci]])):=A (by have o:=e1.out;rw[dB.out] at o;rw[take_snoc' cN.out,KX];exact o);have dv:=A (show JK cX.heap.size cX av from dU.below _ _ c (Ko e.size c9.1.size) (e.trans (c9.1.mono e.size)));have cF:=A (show aj av wr.heap.size 103 #[H ci,C E cw] from dU.blk _ _ _ (λa7=>by have:=(ed _ a7.symm).1;omega) c9.2);clear R b dG cC;obtain⟨R,b,dG,cC⟩:=bH cF;have j:F (∀y:Bool,(y=false->q=false/\1<=cw/\cw<=4)->(af' p w bn cX (J ⟨dz,bl,I⟩) a9 c3 bj S bO (JM y) (G cl (a0+1) ch) (C E ((a0:Int)+1)) av/\bO.length-(intOf (Value.int E ((a0:Int)+1))).toNat < bO.length-(intOf (Value.int E (a0:Int))).toNat)):=A (λy d=>⟨⟨a0+1,y,_,N,D,ZF,A (λh=>⟨(ad (d h).1).1,λaG aH=>by
    rw[take_snoc' cN.out] at aH;rcases KQ.1 aH with o|o
    ·exact(ad (d h).1).2 aG o
    rw[KG] at o;subst o;exact(d h).2⟩),ef,dv⟩,YF⟩)
   rcases q with _|_
   ·by_cases v:cw < 1
    ·go_wp2_with fail;exact j _ (λh=>VN)
    by_cases c2:4 < cw
    ·go_wp2_with fail;exact j _ (λh=>VN)
    go_wp2_with fail;exact j _ (λh=>⟨ZE,N,N⟩)
   go_wp2_with fail;exact j _ (λh=>ZC)
  have bh:(bO.length:Int)<=(a0:Int):=N;have aZ:F (bO.take a0=bO):=A (KN N);have W:=A (EM t);have ai:F (∀ba∈(bO.take a0).map (λaG=>aG.1),ba.size<=4611686018427387904):=A (λba ag=>by obtain⟨aG,aH,rfl⟩:=LC.1 ag;exact co.attrs _ M aG (Nl aH));obtain⟨ac,e4,rfl⟩:=aB t.1;obtain⟨X,ay⟩:∃X,X=((bO.take a0).map λaG=>aG.1).length:=⟨_,D⟩;rw[<-ay] at W;rw[<-ay];clear ay;have bM:=A (c4.more e);have n:=A (b4.trans ((bp.1.trans (e.mono bp.1.size)).mono b4.size));have j:F (∀(y:Bool) (B:L),JK wr.heap.size wr B->(af9 w bn (J ⟨dz,bl,I⟩) a9 c3 bj S (JM y) (JM q) (C E ((m:Int)+1)) B/\S.types.length-(intOf (Value.int E ((m:Int)+1))).toNat < S.types.length-(intOf (Value.int E (m:Int))).toNat)):=A (λy B bB=>⟨⟨m+1,y,q,N,D,D,ZF,A (λh b9 c7 aG aH=>by
   rw[take_snoc' bV.out] at c7;obtain⟨bw,aD⟩:=ad.out h;rcases KQ.1 c7 with o|o
   ·exact e3 bw b9 o aG aH
   rw[KG] at o;subst o;exact aD aG (by rw[aZ.out];exact aH)),A (bM.more bB),A (n.trans (bB.mono n.size))⟩,YF⟩)
  rcases ff with _|_
  ·go_wp2_with fail;refine(aE _ _ _ W ai).mono ?_;rintro a7 av ⟨y,rfl,cO⟩;have s:=A cO;clear cO;go_wp2_with fail;all_goals exact j _ _ s
  go_wp2_with fail;exact j _ _ JY
 have dD:(S.types.length:Int)<=(m:Int):=N;have el:F (S.types.take m=S.types):=A (KN N);have aq:F (bU 1 zG wr (G di dn bG) ((S.types.take z).map λb9=>b9.1)):=A (bU.keep eS (bW.of_below b4) λ_ _ h=>h);have e':F (∀ba∈(S.types.take z).map (λaG=>aG.1),ba.size<=4611686018427387904):=A (λba ag=>by obtain⟨aG,aH,rfl⟩:=LC.1 ag;exact co.names _ (Nl aH));rcases ff with _|_;rotate_left
 ·go_wp2_with fail;go_ret;exact⟨_,D,λh=>absurd h Z,au.1⟩
 go_wp2_with fail;refine(aE _ _ _ aq e').mono ?_;rintro a7 av ⟨y,rfl,cO⟩;have s:=A (au.more cO);clear cO;rcases y with _|_;rotate_left
 ·go_wp2_with fail;go_ret;exact⟨_,D,λh=>absurd h Z,s.1⟩
 obtain⟨al,am,a5,a6⟩:=bH s.2;have e8:=A (f.below s.1).syms;go_wp2_with fail;refine(aE _ _ _ e8 co.syms).mono ?_;rintro a7 bt ⟨y,rfl,dx⟩;have bs:=A (s.more dx);clear dx al am a5 a6;rcases y with _|_;rotate_left
 ·go_wp2_with fail;go_ret;exact⟨_,D,λh=>absurd h Z,bs.1⟩
 rcases p with _|_
 ·go_wp2_with fail;go_ret;refine⟨_,D,λ_=>⟨ej.1.1,ej.1.2,λb9 c7=>ej.2 b9 (by rw[eb.out];exact c7),λb9 c7 aG aH=>e3 ZE b9 (by rw[el.out];exact c7) aG aH⟩,bs.1⟩
 go_wp2_with fail;go_ret;exact⟨_,D,λh=>absurd h Z,bs.1⟩

import Derived.Test.YtcabmcfnjkeemaaGreatBM00
import Derived.Test.YtcabmcfnjkeemaaGreatB23
set_option maxRecDepth 100000
set_option maxHeartbeats 40000000
set_option linter.unusedVariables false
set_option linter.unusedSimpArgs false
namespace Go.Proofs.YtcabmcfnjkeemaaGreat
open Go.Deep Go.RowKit
open Go renaming World->L,Value->O
open Go.IntKind renaming i64->E,u64->JL
open Go.RowKit renaming Hid->F,Below->JK
open Go.Value renaming int->C,slice->G,bool->JM
open Option renaming none->I,some->J
attribute [local go_sem ↓] Go.wp_at_zero Go.wp_at_succ
def SmL (W:L) (n:Nat) (i:O) (wr:L):Prop:=∃r:Nat,r<=n/\i=C E r/\F (JK W.heap.size W wr)
theorem Dq:∀(m:Nat) (cX cA:List ND),(cX.map aH).sum<=m->m<=200000000000->∀(W:L) (dY es:O),bU 7 qg W dY cX->bU 7 qg W es cA->Calls Tryz.prog 83 #[dY,es] W (af8 W):=by
 intro m;induction m using Nat.strongRecOn with
 |ind m bf=>
 intro cX cA bL f6 W dY es o a8;obtain⟨Y,a9,rfl,d0,cR⟩:=o.slice;obtain⟨b,a7,rfl,eh,f1⟩:=a8.slice;have dP:=A o;have ei:=A a8;have dF:=A bf;have bH:=A bL;have dy:=A f6;have dH:cX.length<=200000000000:=by have:=pG cX;omega
 unfold maxLen at cR f1;clear o a8 bf bL f6;go_in;rcases g:((cX.length:Int) !=(cA.length:Int)) with _|_;rotate_left
 ·go_wp2_with fail;go_ret;exact⟨_,D,Ky _ _⟩
 have e4:F (cX.length=cA.length):=A (by have h:(cX.length:Int)=(cA.length:Int):=(by simpa using g);omega);go_wp2_with fail;clear g;go_loopw [15] (λa3 wr=>SmL W cX.length a3 wr) (λa3 wr=>cX.length-(intOf a3).toNat);case atStart=>exact⟨0,Kw _,D,A JY⟩
 obtain⟨z,aS,rfl,b7⟩:=hrel;have ct:(0:Int)<=(z:Int):=N;have cu:(z:Int)<=200000000000:=N;by_cases bA:z < cX.length
 ·have c0:(z:Int) < (cX.length:Int):=N;have e1:(z:Int) < (cA.length:Int):=by have:=e4.out;omega
  obtain⟨a2,ak⟩:∃a2,cX[z]? =J a2:=⟨_,Kr bA⟩;obtain⟨aA,cv⟩:∃aA,cA[z]? =J aA:=⟨_,Kr N⟩;have dl:F (∀e aP aM ba ar S,a2=.mk e aP aM ba ar S->(S.map aH).sum < m):=A (λe aP aM ba ar S a7=>by have o:=qQ aH ak;rw[a7,dn] at o;have:=bH.out;omega);obtain⟨r,M,n,T,s,p⟩:=a2;obtain⟨c6,d',i,e2,cn,bu⟩:=aA;obtain⟨y,b5,ch,ai,aL,af,-,-,b',bv,bo,bZ,c5,bG,co,ab⟩:=fC (iH dP b7) ak;obtain⟨aI,d,a6,a1,ao,bm,-,-,c',dS,dD,e0,d7,dk,dI,ae⟩:=fC (iH ei b7) cv;injection af with af _ cS;subst af cS;injection bm with bm _ cS;subst bm cS;obtain⟨t,l,x,-⟩:=qg.opened ab;obtain⟨f9,k,B,-⟩:=qg.opened ae;have V:t=G ai p.length aL:=by have aD:J (Value.slice ai p.length aL)=J t:=congrArg (λbP:List O=>bP[2]?) l;injection aD with aD;exact aD.symm
  have a0:f9=G a1 bu.length ao:=by have aD:J (Value.slice a1 bu.length ao)=J f9:=congrArg (λbP:List O=>bP[2]?) k;injection aD with aD;exact aD.symm
  subst V a0;have dj:=A (λX (az:JK wr.heap.size wr X)=>dF.out _ (dl _ _ _ _ _ _ D) p bu c (by have:=dl.out _ _ _ _ _ _ D;have:=dy.out;omega) X _ _ (iH x az) (iH B az));have bw:F (∀X,JK wr.heap.size wr X->X.cell? ⟨y,b5+z*7,I⟩=J (C E r)/\X.cell? ⟨y,b5+z*7+1,I⟩=J (C E M)/\X.cell? ⟨y,b5+z*7+2,I⟩=J (G ai p.length aL)/\X.cell? ⟨y,b5+z*7+3,I⟩=J (C E n.kind)/\X.cell? ⟨y,b5+z*7+4,I⟩=J (C JL n.bits)/\X.cell? ⟨y,b5+z*7+5,I⟩=J (C E T)/\X.cell? ⟨y,b5+z*7+6,I⟩=J (C E s)/\X.cell? ⟨aI,d+z*7,I⟩=J (C E c6)/\X.cell? ⟨aI,d+z*7+1,I⟩=J (C E d')/\X.cell? ⟨aI,d+z*7+2,I⟩=J (G a1 bu.length ao)/\X.cell? ⟨aI,d+z*7+3,I⟩=J (C E i.kind)/\X.cell? ⟨aI,d+z*7+4,I⟩=J (C JL i.bits)/\X.cell? ⟨aI,d+z*7+5,I⟩=J (C E e2)/\X.cell? ⟨aI,d+z*7+6,I⟩=J (C E cn)):=A (λX az=>⟨(az.cell (ay b')).trans b',(az.cell (ay bv)).trans bv,(az.cell (ay bo)).trans bo,(az.cell (ay bZ)).trans bZ,(az.cell (ay c5)).trans c5,(az.cell (ay bG)).trans bG,(az.cell (ay co)).trans co,(az.cell (ay c')).trans c',(az.cell (ay dS)).trans dS,(az.cell (ay dD)).trans dD,(az.cell (ay e0)).trans e0,(az.cell (ay d7)).trans d7,(az.cell (ay dk)).trans dk,(az.cell (ay dI)).trans dI⟩);clear ak cv ab ae l k x B b' bv bo bZ c5 bG co c' dS dD e0 d7 dk dI dl;go_upto_region 6 with fail;go_cut [6,7] from 18 to 25 (λa y bn=>∃cC d4:Nat,a=.pointer (J ⟨cC,0,I⟩)/\y=.pointer (J ⟨d4,0,I⟩)/\F (JK wr.heap.size wr bn/\aj bn cC 150 #[C E r,C E M,G ai p.length aL,C E n.kind,C JL n.bits,C E T,C E s]/\aj bn d4 150 #[C E c6,C E d',G a1 bu.length ao,C E i.kind,C JL i.bits,C E e2,C E cn]));case first=>
   obtain⟨R,bg⟩:∃b4,b4=World.drew wr:=⟨_,D⟩;have bq:=Tq;have f:=A (bw _ bq);refine aG (λX=>X.cell? ⟨y,b5+z*7,I⟩=J (C E r)/\X.cell? ⟨y,b5+z*7+1,I⟩=J (C E M)/\X.cell? ⟨y,b5+z*7+2,I⟩=J (G ai p.length aL)/\X.cell? ⟨y,b5+z*7+3,I⟩=J (C E n.kind)/\X.cell? ⟨y,b5+z*7+4,I⟩=J (C JL n.bits)/\X.cell? ⟨y,b5+z*7+5,I⟩=J (C E T)/\X.cell? ⟨y,b5+z*7+6,I⟩=J (C E s)/\X.cell? ⟨aI,d+z*7,I⟩=J (C E c6)/\X.cell? ⟨aI,d+z*7+1,I⟩=J (C E d')/\X.cell? ⟨aI,d+z*7+2,I⟩=J (G a1 bu.length ao)/\X.cell? ⟨aI,d+z*7+3,I⟩=J (C E i.kind)/\X.cell? ⟨aI,d+z*7+4,I⟩=J (C JL i.bits)/\X.cell? ⟨aI,d+z*7+5,I⟩=J (C E e2)/\X.cell? ⟨aI,d+z*7+6,I⟩=J (C E cn)) (λa4=>!([0,1,2,3,4,5,6,7,8,9,10,11]:List Nat).contains a4) U ?_;rw[<-bg];clear bg;refine tl 0 f ?_;refine tl 1 f ?_;refine tl 2 f ?_;refine tl 3 f ?_;refine tl 4 f ?_;refine tl 5 f ?_;refine tl 6 f ?_;refine tl 7 f ?_;refine bC (rs:=[8,9]) U ZH ?_;refine aN.cons D (λK j=>?_) ?_
   ·skip;go_simp;refine Uo ?_;clear j K;refine UN ?_;intro bd h;have aV:=A h;have f:=A (bw _ h.1);clear h;refine t1 9 λK j=>?_;go_simp;refine Ur ?_;clear j K;refine aC (Φ:=λX=>JK wr.heap.size wr X/\aj X R.heap.size 150 zN/\aj X bd.heap.size 150 zN) ⟨aV.1.alloc aV.1.size _,aV.2.alloc _,aj.new _ _ _⟩ ?_;intro bO h;have bx:=A h;have f:=A (bw _ h.1);clear h;have d6:F (R.heap.size≠bd.heap.size):=A XG;refine t1 10 λK j=>?_;go_simp;obtain⟨cM,ci,cw,dm,dz,dK,bi,cQ,cJ,db,dr,da,P,de⟩:=aK (show aj bO R.heap.size 150 #[C E 0,C E 0,G I 0 0,C E 0,C JL 0,C E 0,C E 0] from bx.2.1);go_simp;(refine j.out _ _ (λ_=>bw _ ((jQ bx.2.1 D (C E r) (C E M) (G ai p.length aL) (C E n.kind) (C JL n.bits) (C E T) (C E s)).2.below _ _ XW bx.1)) ?_;clear j K);clear cM ci cw dm dz dK bi cQ cJ db dr da P de;refine aC (Φ:=λX=>JK wr.heap.size wr X/\aj X R.heap.size 150 #[C E r,C E M,G ai p.length aL,C E n.kind,C JL n.bits,C E T,C E s]/\aj X bd.heap.size 150 zN) ⟨(jQ bx.2.1 D (C E r) (C E M) (G ai p.length aL) (C E n.kind) (C JL n.bits) (C E T) (C E s)).2.below _ _ XW bx.1,(jQ bx.2.1 D (C E r) (C E M) (G ai p.length aL) (C E n.kind) (C JL n.bits) (C E T) (C E s)).1,(jQ bx.2.1 D (C E r) (C E M) (G ai p.length aL) (C E n.kind) (C JL n.bits) (C E T) (C E s)).2.blk _ _ _ (d6.symm) bx.2.2⟩ ?_;intro bY h;have bb:=A h;have f:=A (bw _ h.1);clear h;refine t1 11 λK j=>?_;go_simp;obtain⟨cM,ci,cw,dm,dz,dK,bi,cQ,cJ,db,dr,da,P,de⟩:=aK (show aj bY bd.heap.size 150 #[C E 0,C E 0,G I 0 0,C E 0,C JL 0,C E 0,C E 0] from bb.2.2);go_simp;(refine j.out _ _ (λ_=>bw _ ((jQ bb.2.2 D (C E c6) (C E d') (G a1 bu.length ao) (C E i.kind) (C JL i.bits) (C E e2) (C E cn)).2.below _ _ Wp bb.1)) ?_;clear j K);clear cM ci cw dm dz dK bi cQ cJ db dr da P de;refine aC (Φ:=λX=>JK wr.heap.size wr X/\aj X R.heap.size 150 #[C E r,C E M,G ai p.length aL,C E n.kind,C JL n.bits,C E T,C E s]/\aj X bd.heap.size 150 #[C E c6,C E d',G a1 bu.length ao,C E i.kind,C JL i.bits,C E e2,C E cn]) ⟨(jQ bb.2.2 D (C E c6) (C E d') (G a1 bu.length ao) (C E i.kind) (C JL i.bits) (C E e2) (C E cn)).2.below _ _ Wp bb.1,(jQ bb.2.2 D (C E c6) (C E d') (G a1 bu.length ao) (C E i.kind) (C JL i.bits) (C E e2) (C E cn)).2.blk _ _ _ (d6) bb.2.1,(jQ bb.2.2 D (C E c6) (C E d') (G a1 bu.length ao) (C E i.kind) (C JL i.bits) (C E e2) (C E cn)).1⟩ ?_;exact Qn
   refine aN.cons D (λK j=>?_) aN.nil;go_simp;refine Uo ?_;clear j K;refine UN ?_;intro bd h;have aV:=A h;have f:=A (bw _ h.1);clear h;refine t1 8 λK j=>?_;go_simp;refine Ur ?_;clear j K;refine aC (Φ:=λX=>JK wr.heap.size wr X/\aj X bd.heap.size 150 zN/\aj X R.heap.size 150 zN) ⟨aV.1.alloc aV.1.size _,aj.new _ _ _,aV.2.alloc _⟩ ?_;intro bO h;have bx:=A h;have f:=A (bw _ h.1);clear h;have d6:F (bd.heap.size≠R.heap.size):=A XG;refine t1 10 λK j=>?_;go_simp;obtain⟨cM,ci,cw,dm,dz,dK,bi,cQ,cJ,db,dr,da,P,de⟩:=aK (show aj bO bd.heap.size 150 #[C E 0,C E 0,G I 0 0,C E 0,C JL 0,C E 0,C E 0] from bx.2.1);go_simp;(refine j.out _ _ (λ_=>bw _ ((jQ bx.2.1 D (C E r) (C E M) (G ai p.length aL) (C E n.kind) (C JL n.bits) (C E T) (C E s)).2.below _ _ Wp bx.1)) ?_;clear j K);clear cM ci cw dm dz dK bi cQ cJ db dr da P de;refine aC (Φ:=λX=>JK wr.heap.size wr X/\aj X bd.heap.size 150 #[C E r,C E M,G ai p.length aL,C E n.kind,C JL n.bits,C E T,C E s]/\aj X R.heap.size 150 zN) ⟨(jQ bx.2.1 D (C E r) (C E M) (G ai p.length aL) (C E n.kind) (C JL n.bits) (C E T) (C E s)).2.below _ _ Wp bx.1,(jQ bx.2.1 D (C E r) (C E M) (G ai p.length aL) (C E n.kind) (C JL n.bits) (C E T) (C E s)).1,(jQ bx.2.1 D (C E r) (C E M) (G ai p.length aL) (C E n.kind) (C JL n.bits) (C E T) (C E s)).2.blk _ _ _ (d6.symm) bx.2.2⟩ ?_;intro bY h;have bb:=A h;have f:=A (bw _ h.1);clear h;refine t1 11 λK j=>?_;go_simp;obtain⟨cM,ci,cw,dm,dz,dK,bi,cQ,cJ,db,dr,da,P,de⟩:=aK (show aj bY R.heap.size 150 #[C E 0,C E 0,G I 0 0,C E 0,C JL 0,C E 0,C E 0] from bb.2.2);go_simp;(refine j.out _ _ (λ_=>bw _ ((jQ bb.2.2 D (C E c6) (C E d') (G a1 bu.length ao) (C E i.kind) (C JL i.bits) (C E e2) (C E cn)).2.below _ _ XW bb.1)) ?_;clear j K);clear cM ci cw dm dz dK bi cQ cJ db dr da P de;refine aC (Φ:=λX=>JK wr.heap.size wr X/\aj X bd.heap.size 150 #[C E r,C E M,G ai p.length aL,C E n.kind,C JL n.bits,C E T,C E s]/\aj X R.heap.size 150 #[C E c6,C E d',G a1 bu.length ao,C E i.kind,C JL i.bits,C E e2,C E cn]) ⟨(jQ bb.2.2 D (C E c6) (C E d') (G a1 bu.length ao) (C E i.kind) (C JL i.bits) (C E e2) (C E cn)).2.below _ _ XW bb.1,(jQ bb.2.2 D (C E c6) (C E d') (G a1 bu.length ao) (C E i.kind) (C JL i.bits) (C E e2) (C E cn)).2.blk _ _ _ (d6) bb.2.1,(jQ bb.2.2 D (C E c6) (C E d') (G a1 bu.length ao) (C E i.kind) (C JL i.bits) (C E e2) (C E cn)).1⟩ ?_;exact Qn
  case rest=>
  obtain⟨cC,d4,rfl,rfl,bp⟩:=hcut;go_upto_region 7 with fail;obtain⟨aa,cq,cT,cg,q,dt,dw,cQ,cJ,db,dr,da,P,de⟩:=aK bp.2.1;obtain⟨dT,v,c2,bz,dN,d3,dh,cF,cz,cP,d1,dd,d9,dp⟩:=aK bp.2.2;go_cut [66] from 26 to 66 (λbc bn=>∃cx:Bool,bc=JM cx/\F (JK wr.heap.size wr bn));case first=>
   rcases b3:(r !=c6) with _|_;rotate_left
   ·go_wp2_with fail;go_meet;exact⟨_,D,A bp.1⟩
   rcases bh:(M !=d') with _|_;rotate_left
   ·go_wp2_with fail;go_meet;exact⟨_,D,A bp.1⟩
   have a5:=A (dj _ bp.1);have ac:F (∀cx:Bool,∀bn,bn=wc->F (JK wr.heap.size wr bn)):=A (λ_ bn a7=>A (a7▸bp.1));by_cases bD:n.kind=i.kind
   ·by_cases bs:n.bits=i.bits
    ·rcases ca:(T !=e2) with _|_;rotate_left
     ·exact Qm
     rcases dc:(s !=cn) with _|_;rotate_left
     ·exact Qm
     go_wp2_with fail;refine a5.mono ?_;rintro a7 cK ⟨d2,rfl,en⟩;have c4:=A (bp.1.trans (en.mono bp.1.size));clear en;go_wp2_with fail;all_goals(go_meet;exact⟨_,D,c4⟩)
    exact Qm
   exact Qm
  case rest=>
  obtain⟨cx,rfl,c9⟩:=hcut;have bM:=A (b7.trans (c9.mono b7.size));rcases cx with _|_;rotate_left
  ·go_wp2_with fail;go_ret;exact⟨_,D,bM.out⟩
  go_wp2_with fail;exact⟨⟨z+1,N,ZF,bM⟩,YF⟩
 have c0:(cX.length:Int)<=(z:Int):=N;go_wp2_with fail;go_ret;exact⟨_,D,b7.out⟩
def SgR (Q0:Nat->Prop) (W:L) (_:Nat->Prop) (_:L) (cs:List O) (x:ND):Prop:=dW Q0 W cs x
theorem GX(e:Nat->Prop)(W:L):bZ (SgR e W):=λ_ _ _ _ _ _ h _ _=>h
def SgP (Q0:Nat->Prop) (l:List ND) (W:L) (e:Ending) (W':L):Prop:=∃v xs css,e=.returned v/\Acc W.heap.size 150 7 (SgR Q0 W) W' v xs css/\(∀x∈xs,x∈l)/\(xs.map aH).sum<=(l.map aH).sum/\JK W.heap.size W W'
def SgL (Q0:Nat->Prop) (W:L) (l:List ND) (v i:O) (wr:L):Prop:=∃(r:Nat) (xs:List ND) (css:List (List O)),r<=l.length/\i=C E r/\F (Acc W.heap.size 150 7 (SgR Q0 W) wr v xs css)/\F (((∀x∈xs,x∈l)/\(xs.map aH).sum<=((l.take r).map aH).sum)/\xs.length<=r)/\F (JK W.heap.size W wr)
variable{W:L}{l:List ND}
theorem adC{Q:Nat->Prop}{v:O}(h:bU 7 (dW Q) W v l):bU 7 qg W v l:=by obtain⟨Y,a9,af,o,a8,ac⟩:=h;refine⟨Y,a9,af,o,a8,λV=>?_⟩;obtain⟨y,b5,cE,aw⟩:=ac V;refine⟨y,b5,cE,λa3 aa ad=>?_⟩;obtain⟨bj,b3,bh,ca⟩:=aw a3 aa ad;exact⟨bj,b3,bh.weak,ca⟩
variable{x:ND}
theorem adB{Q:Nat->Prop}{b off n a9:Nat}(h:bU 7 (dW Q) W (G (J ⟨b,off,I⟩) n a9) l)(_:bU 7 qg W (G (J ⟨b,off,I⟩) n a9) l){r:Nat}(ad:l[r]? =J x){cs:List O}(a':cs.length=7)(aw:∀(i:Nat) (u:O),cs[i]? =J u->W.cell? ⟨b,off+r*7+i,I⟩=J u):dW Q W cs x:=by
 obtain⟨aY,de,ch,af,-,-,-,db,b3,bh,ca⟩:=h.get ad;injection af with af _ _;injection af with af;injection af with o a8;subst o a8;have a7:cs=db:=by
  apply List.ext_getElem?;intro i;by_cases aR:i < 7
  ·obtain⟨u,ap⟩:∃u,cs[i]? =J u:=⟨_,Kr N⟩;obtain⟨f,d⟩:∃u,db[i]? =J u:=⟨_,Kr N⟩;have o:=aw i u ap;have a8:=ca i f d;rw[o] at a8;injection a8 with a8;rw[ap,d,a8]
  rw[LY N,LY N]
 rw[a7];exact bh
def SgI (wr:L) (n:Nat) (o i:O) (wi:L):Prop:=∃(b:Bool) (j:Nat),j<=n/\o=JM b/\i=C E j/\F (JK wr.heap.size wr wi)
theorem aaS{w:L}{b off a9 n:Nat}(h:bU 7 qg w (G (J ⟨b,off,I⟩) n a9) l){j:Nat}(bK:l[j]? =J x):bU 7 qg w (G (J ⟨b,off+j*7,I⟩) 1 (a9-j)) [x]:=by
 have fv:=(KA.1 bK).1;obtain⟨aY,de,ch,af,o,a8,aR,bj,a',aS,aw⟩:=h.get bK;injection af with af _ cS;injection af with af;injection af with b3 bh;subst b3 bh cS;refine⟨_,_,D,Zv,N,λ_=>⟨b,off+j*7,D,λa3 a2 ak=>?_⟩⟩;match a3,ak with
 |0,ak=>
  have a7:x=a2:=by simpa using ak
  subst a7;exact⟨bj,a',aS,λa0 u ap=>by rw[Nat.zero_mul,Na];exact aw a0 u ap⟩
 |a3+1,ak=>simp at ak
theorem aap{e:Nat->Prop}{v:O}(aD:bU 7 (dW e) W v l)(V:(l.map aH).sum<=200000000000):Calls Tryz.prog 50 #[v] W (SgP e l W):=by
 have h:bU 7 qg W v l:=adC aD;have dt:=A aD;clear aD;obtain⟨Y,a9,rfl,d0,cR⟩:=h.slice;have f:=A h;have cw:=A V;have dH:l.length<=200000000000:=YJ;unfold maxLen at cR;clear h V;go_in;go_wp2_with fail;go_loopw [3,9] (λv a3 wr=>SgL e W l v a3 wr) (λv a3 wr=>l.length-(intOf a3).toNat);case atStart=>exact⟨0,[],[],Kw _,D,A (Acc.nil _),A ⟨⟨(λ_ h=>ZC),KD _⟩,KD _⟩,A JY⟩
 obtain⟨z,ce,cA,aS,rfl,t,B,b7⟩:=hrel;obtain⟨di,bG,rfl⟩:=aB t.1;have ct:(0:Int)<=(z:Int):=N;have cu:(z:Int)<=200000000000:=N;by_cases bA:z < l.length
 ·have c0:(z:Int) < (l.length:Int):=N;obtain⟨a2,ak⟩:∃a2,l[z]? =J a2:=⟨_,Kr bA⟩;have bV:=A ak;obtain⟨r,M,n,T,s,p⟩:=a2;obtain⟨y,b5,ch,ai,aL,af,-,-,b',bv,bo,bZ,c5,e4,co,ab⟩:=fC f ak;injection af with af _ cS;subst af cS;have ao:=A (show qg W [C E r,C E M,G ai p.length aL,C E n.kind,C JL n.bits,C E T,C E s] (.mk r M n T s p) from ab);have bp:F (∀Q X,SgR e W Q X [C E r,C E M,G ai p.length aL,C E n.kind,C JL n.bits,C E T,C E s] (.mk r M n T s p)):=A (λ_ _=>adB dt f bV (b:=y) (off:=b5) D (λa3 u ap=>by match a3,ap with
   |0,ap=>exact(by simpa using ap:_=u)▸b'
   |1,ap=>exact(by simpa using ap:_=u)▸bv
   |2,ap=>exact(by simpa using ap:_=u)▸bo
   |3,ap=>exact(by simpa using ap:_=u)▸bZ
   |4,ap=>exact(by simpa using ap:_=u)▸c5
   |5,ap=>exact(by simpa using ap:_=u)▸e4
   |6,ap=>exact(by simpa using ap:_=u)▸co
   |a3+7,ap=>simp at ap))
  have dJ:F (∀X,JK W.heap.size W X->X.cell? ⟨y,b5+z*7,I⟩=J (C E r)/\X.cell? ⟨y,b5+z*7+1,I⟩=J (C E M)/\X.cell? ⟨y,b5+z*7+2,I⟩=J (G ai p.length aL)/\X.cell? ⟨y,b5+z*7+3,I⟩=J (C E n.kind)/\X.cell? ⟨y,b5+z*7+4,I⟩=J (C JL n.bits)/\X.cell? ⟨y,b5+z*7+5,I⟩=J (C E T)/\X.cell? ⟨y,b5+z*7+6,I⟩=J (C E s)):=A (λX az=>⟨(az.cell (ay b')).trans b',(az.cell (ay bv)).trans bv,(az.cell (ay bo)).trans bo,(az.cell (ay bZ)).trans bZ,(az.cell (ay c5)).trans c5,(az.cell (ay e4)).trans e4,(az.cell (ay co)).trans co⟩);clear ak ab b' bv bo bZ c5 e4 co;obtain⟨g,dc⟩:∃aa,aa=wr:=⟨_,D⟩;subst dc;go_wp2_with fail;go_loopw [5,6] (λbl a3 a1=>SgI g z bl a3 a1) (λbl a3 a1=>z-(intOf a3).toNat);case atStart=>exact⟨false,0,Kw _,D,D,A JY⟩
  obtain⟨bl,a4,bK,rfl,rfl,aP⟩:=hrel;have dS:(0:Int)<=(a4:Int):=N;have d8:=A (b7.trans (aP.mono b7.size));by_cases fv:a4 < z
  ·have dD:(a4:Int) < (z:Int):=N;obtain⟨aA,cv⟩:∃aA,l[a4]? =J aA:=⟨_,Kr N⟩;have dA:F (aH aA<=200000000000):=A (by have o:=qQ aH cv;have:=cw.out;omega);have dj:=A (λX (az:JK g.heap.size g X)=>Dq 200000000000 [aA] [.mk r M n T s p] (by simpa using dA.out) c X _ _ (aaS (iH f (b7.trans (az.mono b7.size))) cv) (aaS (iH f (b7.trans (az.mono b7.size))) bV));have m:F (IntKind.i64.wrap ((a4:Int)+1)=(a4:Int)+1):=A Zl;have bP:F (IntKind.i64.wrap ((z:Int)+1)=(z:Int)+1):=A Zl;clear cv;go_upto_region 9 with fail;rcases bl with _|_;rotate_left
   ·skip;obtain⟨R,bg⟩:∃b4,b4=World.drew wr:=⟨_,D⟩;have bq:=A (show JK g.heap.size g R by rw[bg];exact aP.drew);refine UQ ?_;rw[<-bg];clear bg;refine aJ (i:=0) (v:=?_) D U U U U (λ_ _ _ h=>h) (KH ⟨U,?_⟩) trivial ?_;rotate_left
    ·exact OE
    refine aJ (i:=1) (v:=?_) D U U U U (λ_ _ _ h=>h) (KH ⟨U,?_⟩) trivial ?_;rotate_left
    ·exact OE
    refine aJ (i:=2) (v:=undef) D U U U U (λ_ _ _ h=>h) (Lm ⟨U,D⟩) trivial ?_;refine aJ (i:=3) (v:=undef) D U U U U (λ_ _ _ h=>h) (Lm ⟨U,D⟩) trivial ?_;refine aJ (i:=4) (v:=undef) D U U U U (λ_ _ _ h=>h) (Lm ⟨U,D⟩) trivial ?_;refine aJ (i:=5) (v:=undef) D U U U U (λ_ _ _ h=>h) (Lm ⟨U,D⟩) trivial ?_;refine aJ (i:=6) (v:=undef) D U U U U (λ_ _ _ h=>h) (Lm ⟨U,D⟩) trivial ?_;refine aJ (i:=7) (v:=undef) D U U U U (λ_ _ _ h=>h) (Lm ⟨U,D⟩) trivial ?_;refine aJ (i:=8) (v:=undef) D U U U U (λ_ _ _ h=>h) (Lm ⟨U,D⟩) trivial ?_;refine aJ (i:=9) (v:=undef) D U U U U (λ_ _ _ h=>h) (Lm ⟨U,D⟩) trivial ?_;refine aJ (i:=10) (v:=undef) D U U U U (λ_ _ _ h=>h) (Lm ⟨U,D⟩) trivial ?_;refine aJ (i:=11) (v:=undef) D U U U U (λ_ _ _ h=>h) (Lm ⟨U,D⟩) trivial ?_;refine aJ (i:=12) (v:=undef) D U U U U (λ_ _ _ h=>h) (Lm ⟨U,D⟩) trivial ?_;refine aJ (i:=13) (v:=?_) D U U U U (λ_ _ _ h=>h) (KH ⟨U,?_⟩) trivial ?_;rotate_left
    ·exact OE
    refine aJ (i:=14) (v:=?_) D U U U U (λ_ _ _ h=>h) (KH ⟨U,?_⟩) trivial ?_;rotate_left
    ·exact OE
    refine td ?_;try simp only[Exit.then]
    go_wp2_with fail;exact⟨⟨true,a4+1,N,D,ZF,bq⟩,YF⟩
   skip;obtain⟨R,bg⟩:∃b4,b4=World.drew wr:=⟨_,D⟩;have bq:=A (show JK g.heap.size g R by rw[bg];exact aP.drew);refine UQ ?_;rw[<-bg];clear bg;refine aJ (i:=0) (v:=?_) D U U U U (λ_ _ _ h=>h) (KH ⟨U,?_⟩) trivial ?_;rotate_left
   ·exact OE
   refine aJ (i:=1) (v:=?_) D U U U U (λ_ _ _ h=>h) (KH ⟨U,?_⟩) trivial ?_;rotate_left
   ·exact OE
   refine aJ (i:=2) (v:=?_) D U U U U (λ_ _ _ h=>h) (KH ⟨U,?_⟩) trivial ?_;rotate_left
   ·exact OE
   refine aJ (i:=3) (v:=?_) D U U U U (λ_ _ _ h=>h) (KH ⟨U,?_⟩) trivial ?_;rotate_left
   ·exact OE
   refine aJ (i:=4) (v:=?_) D U U U U (λ_ _ _ h=>h) (KH ⟨U,?_⟩) trivial ?_;rotate_left
   ·exact OE
   refine aJ (i:=5) (v:=(C E ((a4:Int)+1))) D U U U U (λ_ _ _ h=>h) (KH ⟨U,?_⟩) trivial ?_
   ·(intro aF k;go_simp;first|done|rw[m.out])
   refine aJ (i:=6) (v:=(G (J ⟨y,b5+a4*7,I⟩) 1 (a9-a4))) D U U U U (λ_ _ _ h=>h) (KH ⟨U,?_⟩) trivial ?_
   ·(intro aF k;go_simp;rw[Kq ⟨N,N⟩,JZ N])
   refine aJ (i:=7) (v:=?_) D U U U U (λ_ _ _ h=>h) (KH ⟨U,?_⟩) trivial ?_;rotate_left
   ·exact OE
   refine aJ (i:=8) (v:=?_) D U U U U (λ_ _ _ h=>h) (KH ⟨U,?_⟩) trivial ?_;rotate_left
   ·exact OE
   refine aJ (i:=9) (v:=?_) D U U U U (λ_ _ _ h=>h) (KH ⟨U,?_⟩) trivial ?_;rotate_left
   ·exact OE
   refine aJ (i:=10) (v:=(C E ((z:Int)+1))) D U U U U (λ_ _ _ h=>h) (KH ⟨U,?_⟩) trivial ?_
   ·(intro aF k;go_simp;first|done|rw[bP.out])
   refine aJ (i:=11) (v:=(G (J ⟨y,b5+z*7,I⟩) 1 (a9-z))) D U U U U (λ_ _ _ h=>h) (KH ⟨U,?_⟩) trivial ?_
   ·(intro aF k;go_simp;rw[Kq ⟨N,N⟩,JZ N])
   refine t1 12 λK j=>?_;go_simp;go_wp2_with (go_at_call 83;refine(dj _ bq).mono ?_;rintro a7 b1 ⟨d2,rfl,d⟩);have bb:=A (bq.trans (d.mono bq.size));clear d;(refine j.out _ _ (λ_=>trivial) ?_;clear j K);refine aJ (i:=13) (v:=?_) D U U U U (λ_ _ _ h=>h) (KH ⟨U,?_⟩) trivial ?_;rotate_left
   ·exact OE
   refine aJ (i:=14) (v:=?_) D U U U U (λ_ _ _ h=>h) (KH ⟨U,?_⟩) trivial ?_;rotate_left
   ·exact OE
   refine td ?_;try simp only[Exit.then]
   go_wp2_with fail;exact⟨⟨d2,a4+1,N,D,ZF,bb⟩,YF⟩
  have dD:(z:Int)<=(a4:Int):=N;have aO:=A (t.below (GX e W) aP);have bd:=A (show ce.length<=z from B.2);rcases bl with _|_;rotate_left
  ·go_wp2_with fail;exact⟨⟨z+1,_,_,N,ZF,aO,A ⟨⟨B.1.1,by have o:=B.1.2;have a8:=qR aH bV.out;omega⟩,by have:=B.2;omega⟩,d8⟩,YF⟩
  obtain⟨b',bv,bo,bZ,c5,e4,co⟩:=dJ.out _ d8;go_upto_region 12 with(at_builtin;go_loud (refine jU lW (GX e W) D _ _ D t.out b7.out.size aP.out (cs:=[C E r,C E M,G ai p.length aL,C E n.kind,C JL n.bits,C E T,C E s]) (x:=.mk r M n T s p) D (bp.out _ _) (vO ao.out) (by have:=bd.out;omega) WI D D ?_;intro ds dp bt aR d5;have e1:=A aR;have dU:=A d5;clear aR d5));clear b' bv bo bZ c5 e4 co;have bM:=A (dU.below _ _ c (Ko b7.size aP.size) d8);have cK:F (((∀aa∈ce++[ND.mk r M n T s p],aa∈l)/\((ce++[ND.mk r M n T s p]).map aH).sum<=((l.take (z+1)).map aH).sum)/\(ce++[ND.mk r M n T s p]).length<=z+1):=A ⟨⟨λaa ad=>by
   rcases KQ.1 ad with h|h
   ·exact B.1.1 aa h
   rw[KG] at h;rw[h];exact Kz bV,by rw[KX,LD,qR aH bV.out];have:=B.1.2;simp only[List.map_cons,List.map_nil,List.sum_cons,List.sum_nil];omega⟩,by rw[KC];simp;exact bd.out⟩
  go_wp2_with fail;exact⟨⟨z+1,_,_,N,ZF,e1,cK,bM⟩,YF⟩
 have c0:(l.length:Int)<=(z:Int):=N;go_wp2_with fail;go_ret;refine⟨_,ce,cA,D,t,B.1.1,?_,b7.out⟩;have o:=B.1.2;have a8:=nO aH l z;omega
variable{kind:Int}
theorem aat{v:dP}(af:kQ v=true):kJ x (.mk 40 kind v 0 0 []):=λaJ _=>by
 rw[jZ.eq_def]
 simp[af]
variable{attr op pos:Int}{args:List ND}{val:dP}
theorem EN{c8:List ND}(a':c8.length=args.length)(h:∀(i:Nat) (a aw:ND),args[i]? =J a->c8[i]? =J aw->kJ a aw): kJ (.mk op kind val pos attr args) (.mk op kind val pos attr c8):=λaJ ah=>by
 rw[jZ.eq_def] at ah⊢
 simp only at ah⊢
 by_cases g:op=40
 ·rw[Kq g] at ah⊢
  rw[LH] at ah⊢
  refine⟨ah.1,?_⟩
  have o:args=[]:=by simpa using ah.2
  subst o
  have a8:c8=[]:=NP.1 YX
  rw[a8]
  rfl
 rw[JZ g] at ah⊢
 match args,c8,a',ah with
 | [],[],_,ah=>exact ah
 | [a],[aw],_,ah=>
  simp only[Bool.and_eq_true] at ah⊢
  exact⟨ah.1,h 0 a aw D D aJ ah.2⟩
 | [a,y],[aw,aY],_,ah=>
  simp only[Bool.and_eq_true] at ah⊢
  exact⟨⟨ah.1.1,h 0 a aw D D aJ ah.1.2⟩,h 1 y aY D D aJ ah.2⟩
 |_ :: _ :: _ :: _,_,_,ah=>exact absurd ah ZH
variable{a:ND}
theorem xE{i:Nat}{aw:ND}(aR:args[i]? =J a)(h:kJ a aw):kJ (.mk op kind val pos attr args) aw:=λaJ ah=>by
 refine h aJ ?_
 rw[jZ.eq_def] at ah
 simp only at ah
 by_cases g:op=40
 ·rw[Kq g,LH] at ah
  have o:args=[]:=by simpa using ah.2
  subst o
  simp at aR
 rw[JZ g] at ah
 match args,aR,ah with
 | [y],aR,ah=>
  rw[LH] at ah
  match i,aR with
  |0,aR=>have a7:y=a:=YZ;exact a7▸ah.2
  |i+1,aR=>simp at aR
 | [y,a9],aR,ah=>
  simp only[Bool.and_eq_true] at ah
  match i,aR with
  |0,aR=>have a7:y=a:=YZ;exact a7▸ah.1.2
  |1,aR=>have a7:a9=a:=YZ;exact a7▸ah.2
  |i+2,aR=>simp at aR
 |_ :: _ :: _ :: _,_,ah=>exact absurd ah ZH
theorem kJ.trans{b a9:ND}(h:kJ a b)(k:kJ b a9):kJ a a9:=λaJ ai=>k aJ (h aJ ai)
theorem aaT{P:gI->Bool}(h:jZ P (.mk op kind val pos attr args)=true):args.length<=2:=by
 rw[jZ.eq_def] at h;simp only at h;by_cases g:op=40
 ·rw[Kq g,LH] at h;have o:args=[]:=by simpa using h.2
  rw[o];simp
 rw[JZ g] at h;match args,h with
 | [],_=>simp
 | [_],_=>simp
 | [_,_],_=>simp
 |_ :: _ :: _ :: _,h=>exact absurd h ZH
theorem Fp{P:gI->Bool}{i:Nat}(h:jZ P (.mk op kind val pos attr args)=true)(aR:args[i]? =J a):jZ P a=true:=xE aR (kJ.refl a) P h
theorem FM:∀(l s:List ND),s.length=l.length->(∀(i:Nat) (a aw:ND),l[i]? =J a->s[i]? =J aw->aH aw<=aH a)->(s.map aH).sum<=(l.map aH).sum
 | [],[],_,_=>by simp
 |a :: l,aw :: s,a',h=>by
  have o:=h 0 a aw D D
  have a8:=FM l s YX λi y aY d e=>h (i+1) y aY (by simpa using d) (by simpa using e)
  simp only[List.map_cons,List.sum_cons]
  omega

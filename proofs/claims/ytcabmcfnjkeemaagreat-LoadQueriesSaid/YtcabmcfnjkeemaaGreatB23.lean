import Derived.Test.YtcabmcfnjkeemaaGreatBM00
import Derived.Test.YtcabmcfnjkeemaaGreatB22
import Derived.Test.YtcabmcfnjkeemaaGreatB14
set_option maxRecDepth 100000
set_option maxHeartbeats 40000000
set_option linter.unusedVariables false
set_option linter.unusedSimpArgs false
namespace Go.Proofs.YtcabmcfnjkeemaaGreat
open Go.Deep Go.RowKit
open Go renaming World->L,Value->O
open Go.IntKind renaming i64->E,u64->JL
open Go.Obj renaming cells->JO
open Go.RowKit renaming Hid->F,Below->JK
open Go.Value renaming int->C,slice->G,bool->JM
open Option renaming none->I,some->J
attribute [local go_sem ↓] Go.wp_at_zero Go.wp_at_succ
def VaR (_:Nat->Prop) (w:L) (cs:List O) (x:dP):Prop:=rU w cs x
theorem sG:bZ VaR:=λ_ _ _ _ _ _ h _ _=>h
def InR (_:Nat->Prop) (w:L) (cs:List O) (x:Int):Prop:=fF w cs x
theorem AB:bZ InR:=λ_ _ _ _ _ _ h _ _=>h
theorem ac5:kH Tryz.prog 223 202 2 16:=kH.of (z:=.agg #[C E 0,C JL 0]) Tryz.underlying223 U D Z
theorem afL:kH Tryz.prog 26 3 1 8:=kH.of (z:=C E 0) Tryz.underlying26 U D Z
variable{w w':L}{B n:Nat}{v:O}{e:TypeId}
section
variable {α β:Type} {B' F F' n':Nat} {e':TypeId} {R:(Nat->Prop)->L->List O->α->Prop} {u:O} {xs:List α} {css:List (List O)} {ys ds:List O}
theorem iI(h:w.ownsRow B e F v n ys)(k:w.ownsRow B' e' F' u n' ds)(bS:e≠e'):∀g,v.ownBlock=J g->J g≠u.ownBlock:=by
 intro g ab ap;rcases h.2 with⟨rfl,_⟩|⟨cC,bv,cf,rfl,_,X,_⟩
 ·simp[Value.ownBlock] at ab
 rcases k.2 with⟨rfl,_⟩|⟨d4,bo,cb,rfl,_,ah,_⟩
 ·simp[Value.ownBlock] at ap
 have b3:cC=g:=WX;have bh:g=d4:=by simpa [Value.ownBlock] using ap
 rw[b3] at X;rw[<-bh,X] at ah;injection ah with ah;injection ah with _ ah;exact bS ah
theorem Acc.EX(h:Acc B e F R w v xs css)(k:FX B' u w w')(bm:∀g,v.ownBlock=J g->J g≠u.ownBlock)(f:∀Q Q' cs x,R Q w cs x->R Q' w' cs x):Acc B e F R w' v xs css:=
 ⟨k.own _ _ _ _ _ _ bm h.1,h.2.keep λcs x ad=>f _ _ _ _ ad⟩
end
def ApL (w:L) (l:List dP) (a b i:O) (wr:L):Prop:=
 ∃(r:Nat) (xs:List dP) (ks:List Int) (c1 c2:List (List O)),r<=l.length/\i=C E r/\F (xs.length=r/\ks.length=r)/\F (Acc (w.heap.size+1) 202 2 VaR wr a xs c1)/\F (Acc (w.heap.size+1) 3 1 InR wr b ks c2)/\F (JK w.heap.size w wr/\aj wr w.heap.size 202 zV)
theorem aaz(op:Int)(ah:wfi op){l:List dP}(h:bU 2 rU w v l)(a':l.length=1\/l.length=2):Calls Tryz.prog 102 #[C E op,v] w (yO w):=by
 obtain⟨Y,a9,rfl,d0,cR⟩:=h.slice;have f:=A h;have dh:=A a';unfold maxLen at cR;have eJ:l.length<=2:=N;obtain⟨an,bk⟩:∃an,an=w.alloc (JO zV 202):=⟨_,D⟩;have aV:=RX;have cG:=A (λaa B h=>vU aa B h);have ag:=A (λaa h a0=>Fe (x:=aa) h a0);clear ah h a';unfold zV at bk;go_in;go_upto_region 1 with fail;rw[<-bk];clear bk;go_wp2_with fail;go_loopw [5,6,15] (λa y a3 wr=>ApL w l a y a3 wr) (λa y a3 wr=>l.length-(intOf a3).toNat);case atStart=>exact⟨0,[],[],[],[],Kw _,D,A ⟨D,D⟩,A (Acc.nil _),A (Acc.nil _),aV⟩
 obtain⟨z,ce,n,bv,bo,aS,rfl,cw,cy,e3,b7⟩:=hrel;obtain⟨di,d9,rfl⟩:=aB cy.1;obtain⟨ds,dp,rfl⟩:=aB e3.1;have ct:(0:Int)<=(z:Int):=N;have cu:(z:Int)<=100000:=N;by_cases bA:z < l.length
 ·have c0:(z:Int) < (l.length:Int):=N;obtain⟨a2,ak⟩:∃a2,l[z]? =J a2:=⟨_,Kr bA⟩;obtain⟨y,b5,ch,af,-,-,b0,aL,bE,p⟩:=oO f ak;injection af with af _ cS;subst af cS;have aD:=(b7.1.cell (ay b0)).trans b0;have aX:=(b7.1.cell (ay aL)).trans aL;obtain⟨aA,T,ei⟩:∃aA:dP,F (∀B,Calls Tryz.prog 112 #[.agg #[C E a2.kind,C JL a2.bits]] B (aer B aA))/\F (oU aA.bits/\wfi aA.kind):=⟨dG a2,A (λB=>cG a2 B p),A (ag a2 p bE)⟩;have f1:F (∀ae,(Value.slice di ce.length d9).ownBlock=J ae->ae < wr.heap.size/\w.heap.size+1<=ae):=A (λae ab=>aQ cy.1 ab);have dy:F (w.heap.size+1<=wr.heap.size):=A b7.2.lt;clear b0 aL ak bE p;go_upto_region 6 with fail;refine aI (Φ:=λX=>JK wr.heap.size wr X/\aj X wr.heap.size 202 #[C E a2.kind,C JL a2.bits]) ⟨JY.alloc c _,aj.new _ _ _⟩ ?_;intro df a8;have bx:=A a8;clear a8 aD aX;obtain⟨al,am,a5,a6⟩:=bH bx.2;go_upto_region 7 with(go_at_call 112;refine(T _).mono ?_;rintro a7 b1 ⟨rfl,c9⟩;have cj:=A (bx.1.trans (c9.mono bx.1.size));clear c9);refine aI (Φ:=λX=>JK wr.heap.size wr X/\aj X b1.heap.size 202 #[C E aA.kind,C JL aA.bits]) ⟨cj.alloc cj.size _,aj.new _ _ _⟩ ?_;intro bf b6;have bX:=A b6;clear b6 al am a5 a6;obtain⟨al,am,a5,a6⟩:=bH bX.2;go_upto_region 8 with(at_builtin;refine jU ac5 sG D _ _ D cy.out dy.out bX.out.1 (cs:=[C E aA.kind,C JL aA.bits]) (x:=aA) D ⟨D,ei.out.2,ei.out.1⟩ Vk (by have:=cw.out.1;omega) (by have:=cw.out.1;unfold maxLen;omega) D D ?_;intro dq cL av cN d5;have t:=A cN;have dU:=A d5;clear cN d5);clear al am a5 a6;have s:=A (dU.blk _ _ _ (λa7=>by have o:=(f1 _ a7.symm).1;have a8:=cj.size;omega) bX.2);have W:=A ((e3.below AB bX.1).EX dU (iI e3.1 cy.1 Z) λ_ _ _ _ h=>h);have dv:=A (dU.below w.heap.size w N (Ko dy bX.1.size) (b7.1.trans (bX.1.mono b7.1.size)));have aR:=A (dU.blk _ _ _ (λa7=>by have o:=(f1 _ a7.symm).2;omega) (b7.2.below bX.1 b7.2.lt));have ar:F (w.heap.size+1<=av.heap.size):=A (aR.lt);have dK:F (∀ae,(Value.slice ds n.length dp).ownBlock=J ae->ae < av.heap.size/\w.heap.size+1<=ae):=A (λae ab=>aQ W.1 ab);obtain⟨al,am,a5,a6⟩:=bH s;go_wp2_with (at_builtin;refine jU afL AB D _ _ D W.out ar.out JY (cs:=[C E aA.kind]) (x:=aA.kind) D ⟨D,ei.out.2⟩ VY (by have:=cw.out.2;omega) (by have:=cw.out.2;unfold maxLen;omega) D D ?_;intro cT bI bt cN d5;have P:=A cN;have a1:=A d5;clear cN d5);have cZ:=A (t.EX a1 (iI t.1 W.1 Z) λ_ _ _ _ h=>h);have d3:=A (a1.below w.heap.size w N ar dv);have aw:=A (a1.blk _ _ _ (λa7=>by have o:=(dK _ a7.symm).2;omega) aR);refine⟨⟨z+1,ce++[aA],n++[aA.kind],_,_,N,ZF,A ⟨by rw[KC,cw.1];rfl,by rw[KC,cw.2];rfl⟩,cZ,P,A ⟨d3,aw.out⟩⟩,YF⟩
 have c0:(l.length:Int)<=(z:Int):=N;have bB:F (bU 2 rU wr (G di ce.length d9) ce):=A ((cy.done sG).out λ_ _ h=>h);have dj:F (bU 1 fF wr (G ds n.length dp) n):=A ((e3.done AB).out λ_ _ h=>h);have e5:=A (λbl=>BA bl dj);have aH:F (ce.length=1\/ce.length=2):=A (by have o:=cw.1;have a8:=dh.out;have ac:z=l.length:=N;omega);have aO:F (wr.heap.size=wr.heap.size):=A D;go_upto_region 10 with fail;go_cut [41] from 31 to 41 (λv bn=>∃cx:Bool,v=JM cx/\F (cx=true->ce.length=2)/\wr=bn);case first=>
  rcases bh:((ce.length:Int)== 2) with _|_
  ·exact Oq
  have ca:F (ce.length=2):=A (by have h:=LZ bh;omega);rcases cV:(op== 13) with _|_
  ·rcases cq:(op== 14) with _|_;all_goals(go_wp2_with fail;go_meet;exact⟨_,D,A (λ_=>ca),D⟩)
  go_wp2_with fail;go_meet;exact⟨_,D,A (λ_=>ca),D⟩
 case rest=>
 obtain⟨cx,rfl,dQ,rfl⟩:=hcut;obtain⟨cp,cf,cI,c1⟩:=bH (show aj wr w.heap.size 202 #[C E 0,C JL 0] from b7.2);rcases cx with _|_;rotate_left
 ·clear cp cf cI c1;obtain⟨dn,cU⟩:∃dn,dn=ce.length:=⟨_,D⟩;go_upto_region 11 with fail;rw[<-cU];have eu:=A cU;have a8:dn=2:=by rw[cU];exact dQ D
  clear cU;subst a8;obtain⟨aT,m,ai⟩:∃aT m,ce=[aT,m]:=(by match ce,eu with| [aT,m],_=>exact⟨aT,m,D⟩);obtain⟨y,b5,ch,af,-,-,b0,aL,bE,p⟩:=oO bB (i:=0) Zt;obtain⟨c0,c5,es,bm,-,-,ao,b2,r,S⟩:=oO bB (i:=1) Zt;injection af with af _ cS;subst af cS;injection bm with bm _ cS;injection bm with bm;injection bm with b3 bh;subst b3 bh cS;simp only[Nat.zero_mul,Nat.one_mul,Nat.add_zero] at b0 aL ao b2;have cE:F (y≠w.heap.size):=A (by have o:=(aQ cy.1 (g:=y) D).2;omega);have bw:F (∀X,JK wr.heap.size wr X->X.cell? ⟨y,b5,I⟩=J (C E aT.kind)/\X.cell? ⟨y,b5+1,I⟩=J (C JL aT.bits)/\X.cell? ⟨y,b5+2,I⟩=J (C E m.kind)/\X.cell? ⟨y,b5+2+1,I⟩=J (C JL m.bits)):=A (λX az=>⟨(az.cell (ay b0)).trans b0,(az.cell (ay aL)).trans aL,(az.cell (ay ao)).trans ao,(az.cell (ay b2)).trans b2⟩);have dA:F (∀X cr,JK wr.heap.size wr X->aU w.heap.size X cr->cr.cell? ⟨y,b5,I⟩=J (C E aT.kind)/\cr.cell? ⟨y,b5+1,I⟩=J (C JL aT.bits)/\cr.cell? ⟨y,b5+2,I⟩=J (C E m.kind)/\cr.cell? ⟨y,b5+2+1,I⟩=J (C JL m.bits)):=A (λX cr az aE=>have a0:=aE.keep (λa4=>a4≠w.heap.size) (λa4 bK=>bK);have ad:=bw.out X az;⟨a0 _ _ cE ad.1,a0 _ _ cE ad.2.1,a0 _ _ cE ad.2.2.1,a0 _ _ cE ad.2.2.2⟩);have bG:=A (λbl B=>aaA aT m bl B p bE S r);clear b0 aL ao b2 bE p r S ai;obtain⟨R,bg⟩:∃b4,b4=World.drew wr:=⟨_,D⟩;have bq:=A (show JK wr.heap.size wr R/\aj R w.heap.size 202 zV by rw[bg];exact⟨JY.drew,b7.2.drew⟩);have f:=A (bw _ bq.1);refine aG (λX=>X.cell? ⟨y,b5,I⟩=J (C E aT.kind)/\X.cell? ⟨y,b5+1,I⟩=J (C JL aT.bits)/\X.cell? ⟨y,b5+2,I⟩=J (C E m.kind)/\X.cell? ⟨y,b5+2+1,I⟩=J (C JL m.bits)) (λa4=>!([0,1,2,3,4,5,6,7,8,9]:List Nat).contains a4) U ?_;rw[<-bg];clear bg;refine tl 0 f ?_;refine tl 1 f ?_;refine tl 2 f ?_;refine tl 3 f ?_;refine tl 4 f ?_;refine tl 5 f ?_;refine tl 6 f ?_;refine tl 7 f ?_;refine t1 8 λK j=>?_;go_simp;go_wp2_with (go_at_call 113;refine(bG _ _).mono ?_;rintro a7 du ⟨M,rfl,cH,bm,cK,dC⟩);have b:=A (Kt cH (Kt bm (Kt cK (bq.1.trans (dC.mono bq.1.size)))));have e:=A (bq.2.below dC bq.2.lt);have f:=A (bw _ b.2.2.2);clear cH bm cK dC;(refine j.out _ _ (λ_=>f) ?_;clear j K);refine t1 9 λK j=>?_;go_simp;obtain⟨cM,ci,cQ,cJ⟩:=bH (show aj du w.heap.size 202 #[C E 0,C JL 0] from e);go_simp;(refine j.out _ _ (λ_=>dA _ _ b.2.2.2 (set2 e D (C E M.kind) (C JL M.bits)).2) ?_;clear j K);clear cM ci cQ cJ;refine td ?_;try simp only[Exit.then]
  go_wp2_with fail;refine iJ e D λX az aE=>?_;refine Ui ?_;exact yO.of (b7.1.trans (b.2.2.2.mono b7.1.size)) aE c b.1 b.2.1 b.2.2.1
 clear cp cf cI c1;go_wp2_with fail;refine(e5 _).mono ?_;rintro a7 da ⟨a0,rfl,bE,bj⟩;have d2:=A bj;have bL:=A (Kt (b7.1.trans (bj.mono b7.1.size)) (b7.2.below bj b7.2.lt));clear bj bE;obtain⟨cp,cf,cI,c1⟩:=bH (show aj da w.heap.size 202 #[C E 0,C JL 0] from bL.2);rcases fc:(a0== 0) with _|_;rotate_left
 ·go_wp2_with fail;refine iJ bL.2 D λX az aE=>?_;refine Ui ?_;exact yO.of (x:=⟨0,0⟩) bL.out.1 aE c Z bP (eH.2 ⟨Z,Z⟩)
 go_upto_region 15 with fail;obtain⟨dn,cU⟩:∃dn,dn=ce.length:=⟨_,D⟩;rw[<-cU];have eu:=A cU;have aq:F (dn=1\/dn=2):=A (by rw[cU];exact aH);clear cU;go_cut [11,12] from 57 to 65 (λa y bn=>∃(aT m:dP) (cC d4:Nat),a=.pointer (J ⟨cC,0,I⟩)/\y=.pointer (J ⟨d4,0,I⟩)/\F ((oU aT.bits/\wfi aT.kind)/\oU m.bits/\wfi m.kind)/\F (JK da.heap.size da bn/\aj bn cC 202 #[C E aT.kind,C JL aT.bits]/\aj bn d4 202 #[C E m.kind,C JL m.bits]));case first=>
  clear cp cf cI c1 fc;rcases aq with rfl|rfl
  ·obtain⟨aT,ai⟩:=List.length_eq_one_iff.1 eu.symm;obtain⟨y,b5,ch,af,-,-,b0,aL,bE,p⟩:=oO bB (i:=0) Zt;injection af with af _ cS;subst af cS;have b0:=(d2.cell (ay b0)).trans b0;have aL:=(d2.cell (ay aL)).trans aL;simp only[Nat.zero_mul,Nat.add_zero] at b0 aL;have bw:F (∀X,JK da.heap.size da X->X.cell? ⟨y,b5,I⟩=J (C E aT.kind)/\X.cell? ⟨y,b5+1,I⟩=J (C JL aT.bits)):=A (λX az=>⟨(az.cell (ay b0)).trans b0,(az.cell (ay aL)).trans aL⟩);have dJ:=A (Kt (Kt p bE) (Kt p bE));clear b0 aL bE p;obtain⟨R,bg⟩:∃b4,b4=World.drew da:=⟨_,D⟩;have bq:=A (show JK da.heap.size da R by rw[bg];exact JY.drew);have f:=A (bw _ bq);refine aG (λX=>X.cell? ⟨y,b5,I⟩=J (C E aT.kind)/\X.cell? ⟨y,b5+1,I⟩=J (C JL aT.bits)) (λa4=>!([0,1,2,3,4,5,6,7,8,9,10,11,12]:List Nat).contains a4) U ?_;rw[<-bg];clear bg;refine tl 0 f ?_;refine tl 1 f ?_;refine tl 2 f ?_;refine tl 3 f ?_;refine tl 4 f ?_;refine tl 5 f ?_;refine aJ (i:=6) (v:=C E 0) D U U U U (λ_ _ _ h=>h) (KH ⟨U,?_⟩) f.out ?_
   ·(intro aF k;go_simp;try rfl)
   refine tl 7 f ?_;refine tl 8 f ?_;refine bC (rs:=[9,10]) U ZH ?_;refine aN.cons D (λK j=>?_) ?_
   ·skip;go_simp;refine Uo ?_;clear j K;refine Un ?_;intro bd h;have aV:=A h;have f:=A (bw _ h.1);clear h;refine t1 10 λK j=>?_;go_simp;refine Ur ?_;clear j K;refine Uw ?_;intro bO h;have bx:=A h;have f:=A (bw _ h.1);clear h;have d6:F (R.heap.size≠bd.heap.size):=A XG;refine t1 11 λK j=>?_;go_simp;obtain⟨cM,ci,cQ,cJ⟩:=bH (show aj bO R.heap.size 202 #[C E 0,C JL 0] from bx.2.1);go_simp;(refine UH ?_;clear j K);clear cM ci cQ cJ;refine Uc ?_;intro bY h;have bb:=A h;have f:=A (bw _ h.1);clear h;refine t1 12 λK j=>?_;go_simp;obtain⟨cM,ci,cQ,cJ⟩:=bH (show aj bY bd.heap.size 202 #[C E 0,C JL 0] from bb.2.2);go_simp;(refine j.out _ _ (λ_=>bw _ ((set2 bb.2.2 D (C E aT.kind) (C JL aT.bits)).2.below _ _ Wp bb.1)) ?_;clear j K);clear cM ci cQ cJ;refine aC (Φ:=λX=>JK da.heap.size da X/\aj X R.heap.size 202 #[C E aT.kind,C JL aT.bits]/\aj X bd.heap.size 202 #[C E aT.kind,C JL aT.bits]) ⟨(set2 bb.2.2 D (C E aT.kind) (C JL aT.bits)).2.below _ _ Wp bb.1,(set2 bb.2.2 D (C E aT.kind) (C JL aT.bits)).2.blk _ _ _ (d6) bb.2.1,(set2 bb.2.2 D (C E aT.kind) (C JL aT.bits)).1⟩ ?_;exact Ox
   refine aN.cons D (λK j=>?_) aN.nil;go_simp;refine Uo ?_;clear j K;refine Un ?_;intro bd h;have aV:=A h;have f:=A (bw _ h.1);clear h;refine t1 9 λK j=>?_;go_simp;refine Ur ?_;clear j K;refine Ux ?_;intro bO h;have bx:=A h;have f:=A (bw _ h.1);clear h;have d6:F (bd.heap.size≠R.heap.size):=A XG;refine t1 11 λK j=>?_;go_simp;obtain⟨cM,ci,cQ,cJ⟩:=bH (show aj bO bd.heap.size 202 #[C E 0,C JL 0] from bx.2.1);go_simp;(refine UE ?_;clear j K);clear cM ci cQ cJ;refine Ua ?_;intro bY h;have bb:=A h;have f:=A (bw _ h.1);clear h;refine t1 12 λK j=>?_;go_simp;obtain⟨cM,ci,cQ,cJ⟩:=bH (show aj bY R.heap.size 202 #[C E 0,C JL 0] from bb.2.2);go_simp;(refine j.out _ _ (λ_=>bw _ ((set2 bb.2.2 D (C E aT.kind) (C JL aT.bits)).2.below _ _ XW bb.1)) ?_;clear j K);clear cM ci cQ cJ;refine aC (Φ:=λX=>JK da.heap.size da X/\aj X bd.heap.size 202 #[C E aT.kind,C JL aT.bits]/\aj X R.heap.size 202 #[C E aT.kind,C JL aT.bits]) ⟨(set2 bb.2.2 D (C E aT.kind) (C JL aT.bits)).2.below _ _ XW bb.1,(set2 bb.2.2 D (C E aT.kind) (C JL aT.bits)).2.blk _ _ _ (d6) bb.2.1,(set2 bb.2.2 D (C E aT.kind) (C JL aT.bits)).1⟩ ?_;exact Ox
  obtain⟨aT,m,ai⟩:∃aT m,ce=[aT,m]:=(by match ce,eu with| [aT,m],_=>exact⟨aT,m,D⟩);obtain⟨y,b5,ch,af,-,-,b0,aL,bE,p⟩:=oO bB (i:=0) Zt;obtain⟨c0,c5,es,bm,-,-,ao,b2,r,S⟩:=oO bB (i:=1) Zt;injection af with af _ cS;subst af cS;injection bm with bm _ cS;injection bm with bm;injection bm with b3 bh;subst b3 bh cS;have b0:=(d2.cell (ay b0)).trans b0;have aL:=(d2.cell (ay aL)).trans aL;have ao:=(d2.cell (ay ao)).trans ao;have b2:=(d2.cell (ay b2)).trans b2;simp only[Nat.zero_mul,Nat.one_mul,Nat.add_zero] at b0 aL ao b2;have bw:F (∀X,JK da.heap.size da X->X.cell? ⟨y,b5,I⟩=J (C E aT.kind)/\X.cell? ⟨y,b5+1,I⟩=J (C JL aT.bits)/\X.cell? ⟨y,b5+2,I⟩=J (C E m.kind)/\X.cell? ⟨y,b5+2+1,I⟩=J (C JL m.bits)):=A (λX az=>⟨(az.cell (ay b0)).trans b0,(az.cell (ay aL)).trans aL,(az.cell (ay ao)).trans ao,(az.cell (ay b2)).trans b2⟩);have dJ:=A (Kt (Kt p bE) (Kt S r));clear b0 aL ao b2 bE p r S;obtain⟨R,bg⟩:∃b4,b4=World.drew da:=⟨_,D⟩;have bq:=A (show JK da.heap.size da R by rw[bg];exact JY.drew);have f:=A (bw _ bq);refine aG (λX=>X.cell? ⟨y,b5,I⟩=J (C E aT.kind)/\X.cell? ⟨y,b5+1,I⟩=J (C JL aT.bits)/\X.cell? ⟨y,b5+2,I⟩=J (C E m.kind)/\X.cell? ⟨y,b5+2+1,I⟩=J (C JL m.bits)) (λa4=>!([0,1,2,3,4,5,6,7,8,9,10,11,12]:List Nat).contains a4) U ?_;rw[<-bg];clear bg;refine tl 0 f ?_;refine tl 1 f ?_;refine tl 2 f ?_;refine tl 3 f ?_;refine tl 4 f ?_;refine tl 5 f ?_;refine aJ (i:=6) (v:=C E 1) D U U U U (λ_ _ _ h=>h) (KH ⟨U,?_⟩) f.out ?_
  ·(intro aF k;go_simp;try rfl)
  refine tl 7 f ?_;refine tl 8 f ?_;refine bC (rs:=[9,10]) U ZH ?_;refine aN.cons D (λK j=>?_) ?_
  ·skip;go_simp;refine Uo ?_;clear j K;refine Un ?_;intro bd h;have aV:=A h;have f:=A (bw _ h.1);clear h;refine t1 10 λK j=>?_;go_simp;refine Ur ?_;clear j K;refine Uw ?_;intro bO h;have bx:=A h;have f:=A (bw _ h.1);clear h;have d6:F (R.heap.size≠bd.heap.size):=A XG;refine t1 11 λK j=>?_;go_simp;obtain⟨cM,ci,cQ,cJ⟩:=bH (show aj bO R.heap.size 202 #[C E 0,C JL 0] from bx.2.1);go_simp;(refine UH ?_;clear j K);clear cM ci cQ cJ;refine Uc ?_;intro bY h;have bb:=A h;have f:=A (bw _ h.1);clear h;refine t1 12 λK j=>?_;go_simp;obtain⟨cM,ci,cQ,cJ⟩:=bH (show aj bY bd.heap.size 202 #[C E 0,C JL 0] from bb.2.2);go_simp;(refine j.out _ _ (λ_=>bw _ ((set2 bb.2.2 D (C E m.kind) (C JL m.bits)).2.below _ _ Wp bb.1)) ?_;clear j K);clear cM ci cQ cJ;refine aC (Φ:=λX=>JK da.heap.size da X/\aj X R.heap.size 202 #[C E aT.kind,C JL aT.bits]/\aj X bd.heap.size 202 #[C E m.kind,C JL m.bits]) ⟨(set2 bb.2.2 D (C E m.kind) (C JL m.bits)).2.below _ _ Wp bb.1,(set2 bb.2.2 D (C E m.kind) (C JL m.bits)).2.blk _ _ _ (d6) bb.2.1,(set2 bb.2.2 D (C E m.kind) (C JL m.bits)).1⟩ ?_;exact Ox
  refine aN.cons D (λK j=>?_) aN.nil;go_simp;refine Uo ?_;clear j K;refine Un ?_;intro bd h;have aV:=A h;have f:=A (bw _ h.1);clear h;refine t1 9 λK j=>?_;go_simp;refine Ur ?_;clear j K;refine Ux ?_;intro bO h;have bx:=A h;have f:=A (bw _ h.1);clear h;have d6:F (bd.heap.size≠R.heap.size):=A XG;refine t1 11 λK j=>?_;go_simp;obtain⟨cM,ci,cQ,cJ⟩:=bH (show aj bO bd.heap.size 202 #[C E 0,C JL 0] from bx.2.1);go_simp;(refine UE ?_;clear j K);clear cM ci cQ cJ;refine Ua ?_;intro bY h;have bb:=A h;have f:=A (bw _ h.1);clear h;refine t1 12 λK j=>?_;go_simp;obtain⟨cM,ci,cQ,cJ⟩:=bH (show aj bY R.heap.size 202 #[C E 0,C JL 0] from bb.2.2);go_simp;(refine j.out _ _ (λ_=>bw _ ((set2 bb.2.2 D (C E m.kind) (C JL m.bits)).2.below _ _ XW bb.1)) ?_;clear j K);clear cM ci cQ cJ;refine aC (Φ:=λX=>JK da.heap.size da X/\aj X bd.heap.size 202 #[C E aT.kind,C JL aT.bits]/\aj X R.heap.size 202 #[C E m.kind,C JL m.bits]) ⟨(set2 bb.2.2 D (C E m.kind) (C JL m.bits)).2.below _ _ XW bb.1,(set2 bb.2.2 D (C E m.kind) (C JL m.bits)).2.blk _ _ _ (d6) bb.2.1,(set2 bb.2.2 D (C E m.kind) (C JL m.bits)).1⟩ ?_;exact Ox
 case rest=>
 obtain⟨aT,m,cC,d4,rfl,rfl,dg,bp⟩:=hcut;have q:=A (Kt (bL.1.trans (bp.1.mono bL.1.size)) (bL.2.below bp.1 bL.2.lt));have bS:=A (λB=>FP op aT m B dg.1.1 dg.1.2 dg.2.1 dg.2.2);have db:=A (λB=>afb op aT.bits m.bits B dg.1.1 dg.2.1);have e7:=A (λa y B=>acv op (wrap64 a) (wrap64 y) B (ji.2 (by unfold wrap64;omega)) (ji.2 (by unfold wrap64;omega)));have ep:F (∀(aa:dP) (X V cr:L),kQ aa=true->wfi aa.kind->oU aa.bits->JK wc.heap.size wc X->aj X w.heap.size 202 zV->aU w.heap.size X cr->yO w (.returned (.agg #[C E aa.kind,C JL aa.bits])) cr):=A (λaa X V cr o a8 ac d _ aE=>yO.of (q.1.trans (d.mono q.1.size)) aE c o a8 ac);clear cp cf cI c1 fc;obtain⟨al,am,a5,a6⟩:=bH bp.2.1;obtain⟨R,bd,cF,cz⟩:=bH bp.2.2;go_upto_region 16 with fail;go_cut [71] from 66 to 71 (λv bn=>∃cx:Bool,v=JM cx/\wc=bn);case first=>
  rcases dw:decide ((7:Int)<=op) with _|_
  ·have de:¬(7:Int)<=op:=Lr dw;exact Qs
  have de:(7:Int)<=op:=Lu dw;exact Qs
 case rest=>
 obtain⟨cx,rfl,rfl⟩:=hcut;rcases cx with _|_;rotate_left
 ·go_wp2_with fail;clear al am a5 a6 R bd cF cz;refine(bS _).mono ?_;exact Ol
 rcases dc:(aT.kind== 4) with _|_;rotate_left
 ·go_wp2_with fail;clear al am a5 a6 R bd cF cz;refine(db _).mono ?_;exact Ol
 go_wp2_with fail;clear al am a5 a6 R bd cF cz;refine(e7 aT.bits m.bits _).mono ?_;exact Ol
def afy (_:Nat->Prop) (w:L) (cs:List O) (x:gI):Prop:=uZ w cs x
def afI (_:Nat->Prop) (w:L) (cs:List O) (x:dP):Prop:=rU w cs x
def afz (_:Nat->Prop) (w:L) (cs:List O) (x:mO):Prop:=vC w cs x
theorem DX:bZ afy:=λ_ _ _ _ _ _ h _ _=>h
theorem Ea:bZ afI:=λ_ _ _ _ _ _ h _ _=>h
theorem lD:bZ afz:=λ_ _ _ _ _ _ h _ _=>h
theorem aeI:kH Tryz.prog 51 141 4 32:=kH.of (z:=.agg #[C E 0,C E 0,C E 0,C E 0]) Tryz.underlying51 U D Z
theorem aeK:kH Tryz.prog 52 148 2 16:=kH.of (z:=.agg #[C E 0,C JL 0]) Tryz.underlying52 U D Z
theorem tZ:kH Tryz.prog 53 143 4 32:=kH.of (z:=.agg #[C E 0,C E 0,C E 0,C E 0]) Tryz.underlying53 U D Z
variable{cs:Array O}{m:Nat}{t:TypeId}
theorem cZ{aC:List O}{b:Nat}(h:w.ownsRow B e m v n aC)(d:aj w b t cs)(bS:t≠e):J b≠v.ownBlock:=by
 intro ap;rcases h.2 with⟨rfl,_⟩|⟨cC,bv,cf,rfl,_,X,_⟩
 ·simp[Value.ownBlock] at ap
 have b3:b=cC:=by simpa [Value.ownBlock] using ap
 unfold aj at d;rw[b3,X] at d;injection d with d;injection d with _ d;exact bS d.symm
def xR (w w':L):Prop:=∀b cs,aj w b 150 cs->aj w' b 150 cs
theorem xR.trans{ce:L}(h:xR w w')(k:xR w' ce):xR w ce:=λy bj d=>k y bj (h y bj d)
theorem xR.below(h:JK w.heap.size w w'):xR w w':=λy bj d=>d.below h d.lt
structure zF (B g:Nat) (k:gK) (vi vc vl:O) (ci cc cl:List (List O)) (w:L):Prop where
 blk:aj w g 207 #[C E 0,C E 0,vi,vc,vl,C E k.most]
 ins:Acc B 141 4 afy w vi k.ins ci
 cons:Acc B 148 2 afI w vc k.cons cc
 list:Acc B 143 4 afz w vl k.list cl
 ge:B<=g
section
variable {g:Nat} {k:gK} {vi vc vl v':O} {ci cc cl:List (List O)} {w3:L}
theorem zF.below(h:zF B g k vi vc vl ci cc cl w)(d:JK w.heap.size w w3):zF B g k vi vc vl ci cc cl w3:=
 ⟨h.blk.below d h.blk.lt,h.ins.below DX d,h.cons.below Ea d,h.list.below lD d,h.ge⟩
theorem yE{g j:Nat}{u:O}(bW:g < B):mZ B w (w.setCell ⟨g,j,I⟩ u):=⟨by rw[MF];exact KD _,λy o _=>La _ _ _ _ (by show y≠g;omega)⟩
theorem Acc.boxed{q:Type}{R:(Nat->Prop)->L->List O->q->Prop}{xs:List q}{css:List (List O)}(h:Acc B e m R w v xs css)(d:aj w g t cs)(bS:t≠e)(f:∀Q Q' w w' cs x,R Q w cs x->R Q' w' cs x)(j:Nat)(u:O):Acc B e m R (w.setCell ⟨g,j,I⟩ u) v xs css:=by
 refine⟨⟨h.1.1,?_⟩,h.2.keep λcs x ad=>f _ _ _ _ _ _ ad⟩;rcases h.1.2 with o|⟨cC,bv,cf,af,bW,X,aS⟩
 ·exact .inl o
 have bm:=cZ h.1 d bS;exact .inr ⟨cC,bv,cf,af,bW,(La _ _ _ _ (by intro e;apply bm;rw[af,<-show cC=g from e];rfl)).trans X,aS⟩
theorem xR.bJ(d:aj w g t cs)(c7:150≠t)(j:Nat)(u:O):xR w (w.setCell ⟨g,j,I⟩ u):=λy au h=>h.far (h.ne_ d c7) _
theorem xR.app{aC:List O}(h:w.ownsRow B e m v n aC)(k:jk B v w w3)(bS:150≠e):xR w w3:=λy bj d=>d.grown k.grown (cZ h d bS)
theorem zF.aht(h:zF B g k vi vc vl ci cc cl w){x:gI}{cs:List O}(aJ:Acc B 141 4 afy w3 v' (k.ins++[x]) (ci++[cs]))(ab:jk B vi w w3): zF B g {k with ins:=k.ins++[x]} v' vc vl (ci++[cs]) cc cl (w3.setCell ⟨g,2,I⟩ v')/\xR w (w3.setCell ⟨g,2,I⟩ v'):=by have d:=ab.app.blk _ _ _ (cZ h.ins.1 h.blk Z) h.blk;exact⟨⟨d.bJ 2 _,aJ.boxed d Z (λ_ _ _ _ _ _ h=>h) _ _,(h.cons.EX ab.app (iI h.cons.1 h.ins.1 Z) λ_ _ _ _ h=>h).boxed d Z (λ_ _ _ _ _ _ h=>h) _ _,(h.list.EX ab.app (iI h.list.1 h.ins.1 Z) λ_ _ _ _ h=>h).boxed d Z (λ_ _ _ _ _ _ h=>h) _ _,h.ge⟩,(xR.app h.ins.1 ab Z).trans (xR.bJ d Z _ _)⟩
theorem zF.ahs(h:zF B g k vi vc vl ci cc cl w){x:dP}{cs:List O}(aJ:Acc B 148 2 afI w3 v' (k.cons++[x]) (cc++[cs]))(ab:jk B vc w w3): zF B g {k with cons:=k.cons++[x]} vi v' vl ci (cc++[cs]) cl (w3.setCell ⟨g,3,I⟩ v')/\xR w (w3.setCell ⟨g,3,I⟩ v'):=by have d:=ab.app.blk _ _ _ (cZ h.cons.1 h.blk Z) h.blk;exact⟨⟨d.bJ 3 _,(h.ins.EX ab.app (iI h.ins.1 h.cons.1 Z) λ_ _ _ _ h=>h).boxed d Z (λ_ _ _ _ _ _ h=>h) _ _,aJ.boxed d Z (λ_ _ _ _ _ _ h=>h) _ _,(h.list.EX ab.app (iI h.list.1 h.cons.1 Z) λ_ _ _ _ h=>h).boxed d Z (λ_ _ _ _ _ _ h=>h) _ _,h.ge⟩,(xR.app h.cons.1 ab Z).trans (xR.bJ d Z _ _)⟩
theorem zF.aa5(h:zF B g k vi vc vl ci cc cl w){x:mO}{cs:List O}(aJ:Acc B 143 4 afz w3 v' (k.list++[x]) (cl++[cs]))(ab:jk B vl w w3): zF B g (k.put x) vi vc v' ci cc (cl++[cs]) (w3.setCell ⟨g,4,I⟩ v')/\xR w (w3.setCell ⟨g,4,I⟩ v'):=by have d:=ab.app.blk _ _ _ (cZ h.list.1 h.blk Z) h.blk;exact⟨⟨d.bJ 4 _,(h.ins.EX ab.app (iI h.ins.1 h.list.1 Z) λ_ _ _ _ h=>h).boxed d Z (λ_ _ _ _ _ _ h=>h) _ _,(h.cons.EX ab.app (iI h.cons.1 h.list.1 Z) λ_ _ _ _ h=>h).boxed d Z (λ_ _ _ _ _ _ h=>h) _ _,aJ.boxed d Z (λ_ _ _ _ _ _ h=>h) _ _,h.ge⟩,(xR.app h.list.1 ab Z).trans (xR.bJ d Z _ _)⟩
theorem zF.ad3(h:zF B g k vi vc vl ci cc cl w)(m:Int):zF B g {k with most:=m} vi vc vl ci cc cl (w.setCell ⟨g,5,I⟩ (C E m))/\xR w (w.setCell ⟨g,5,I⟩ (C E m)):=
 ⟨⟨h.blk.bJ 5 _,h.ins.boxed h.blk Z (λ_ _ _ _ _ _ h=>h) _ _,h.cons.boxed h.blk Z (λ_ _ _ _ _ _ h=>h) _ _,h.list.boxed h.blk Z (λ_ _ _ _ _ _ h=>h) _ _,h.ge⟩,xR.bJ h.blk Z _ _⟩
end
def kX:ND->Bool
 | .mk op _ _ _ _ args=>decide (op=41) || (args.map λa=>kX a).any λb=>b
def uU (op pos:Int):Int:=if(op=42\/(25<=op/\op<=31))/\-1 < pos then pos else-1
def kZ:ND->Int
 | .mk op _ _ pos _ args=>(args.map λa=>kZ a).foldl max (uU op pos)
theorem Gl(op kind pos attr:Int)(val:dP)(args:List ND):kX (.mk op kind val pos attr args)=(decide (op=41) || args.any kX):=by rw[kX.eq_def];simp only[List.any_map];rfl
theorem GY(op kind pos attr:Int)(val:dP)(args:List ND):kZ (.mk op kind val pos attr args)=(args.map kZ).foldl max (uU op pos):=by rw[kZ.eq_def]
def agl (x:ND) (w:L) (e:Ending) (w':L):Prop:=e=.returned (.tuple #[JM (kX x),C E (kZ x)])/\JK w.heap.size w w'
def agk (w:L) (bl:Array O) (op pos:Int) (args:List ND) (a l i:O) (wr:L):Prop:=∃(r:Nat) (ba:Bool) (la:Int),r<=args.length/\a=JM ba/\l=C E la/\i=C E r/\F (ba=(decide (op=41) || (args.take r).any kX))/\F (la=((args.take r).map kZ).foldl max (uU op pos))/\F (JK w.heap.size w wr/\aj wr w.heap.size 150 bl)
theorem abK(x:ND):∀(w:L) (cs:List O),qg w cs x->aH x<=100000->Calls Tryz.prog 47 #[.agg cs.toArray] w (agl x w):=by
 refine vN (p:=λx=>∀(w:L) (cs:List O),qg w cs x->aH x<=100000->Calls Tryz.prog 47 #[.agg cs.toArray] w (agl x w)) ?_ x;intro e aP aM ba ar S bf w cs h V;obtain⟨dg,rfl,ag,bN⟩:=h.opened;obtain⟨Y,a9,rfl,d0,cR⟩:=ag.slice;have f:=A ag;have dF:=A bf;have cw:=A V;have eJ:S.length<=100000:=Vq;obtain⟨an,bk⟩:∃an,an=w.alloc (JO #[C E e,C E aP,G Y S.length a9,C E aM.kind,C JL aM.bits,C E ba,C E ar] 150):=⟨_,D⟩;have aV:=Rx;unfold maxLen at cR;clear bf ag V h bN;go_in;go_upto_region 1 with fail;rw[<-bk];clear bk;obtain⟨al,am,ax,aW,T,bi,bM,a5,a6,aq,aZ,aO,be,bI⟩:=aK aV.2;go_upto_region 2 with fail;go_cut [30] from 12 to 30 (λbc bn=>∃cx:Bool,bc=JM cx/\F (cx=decide ((e=42\/(25<=e/\e<=31))/\-1 < ba))/\an=bn);case first=>
  rcases b:(e== 42) with _|_
  ·by_cases v:25<=e
   ·by_cases c2:e<=31
    ·by_cases bz: -1 < ba;all_goals go_wp2_with fail
     all_goals(go_meet;exact⟨_,D,A (by(try simp only[beq_iff_eq,beq_eq_false_iff_ne,ne_eq] at b);simp[v,c2,bz,b]),D⟩)
    go_wp2_with fail;all_goals(go_meet;exact⟨_,D,A (by(try simp only[beq_iff_eq,beq_eq_false_iff_ne,ne_eq] at b);simp[v,c2,b];try omega),D⟩)
   go_wp2_with fail;all_goals(go_meet;exact⟨_,D,A (by(try simp only[beq_iff_eq,beq_eq_false_iff_ne,ne_eq] at b);simp[v,b];try omega),D⟩)
  by_cases bz: -1 < ba;all_goals go_wp2_with fail
  all_goals(go_meet;exact⟨_,D,A (by(try simp only[beq_iff_eq,beq_eq_false_iff_ne,ne_eq] at b);simp[bz,b]),D⟩)
 case rest=>
 obtain⟨cx,rfl,dQ,rfl⟩:=hcut;go_upto_if 30 with fail;go_cut [5] from 31 to 32 (λbc bn=>bc=C E (uU e ba)/\an=bn);case first=>
  rcases cx with _|_
  ·have bj:F (uU e ba=-1):=A (JZ (Lr dQ.symm));go_wp2_with fail;go_meet;exact⟨by rw[bj.out],D⟩
  have bj:F (uU e ba=ba):=A (Kq (Lu dQ.symm));go_wp2_with fail;go_meet;exact⟨by rw[bj.out],D⟩
 case rest=>
 obtain⟨rfl,rfl⟩:=hcut;go_wp2_with fail;clear al am ax aW T bi bM a5 a6 aq aZ aO be bI;go_loopw [4,5,36] (λa bP a3 wr=>agk w #[C E e,C E aP,G Y S.length a9,C E aM.kind,C JL aM.bits,C E ba,C E ar] e ba S a bP a3 wr) (λa bP a3 wr=>S.length-(intOf a3).toNat);case atStart=>exact⟨0,_,_,Kw _,D,D,D,A (by simp;rfl),A D,aV⟩
 obtain⟨z,g,dH,aS,rfl,rfl,rfl,cy,dh,b7⟩:=hrel;have ct:(0:Int)<=(z:Int):=N;have cu:(z:Int)<=100000:=N;obtain⟨al,am,ax,aW,T,bi,bM,a5,a6,aq,aZ,aO,be,bI⟩:=aK b7.2;by_cases bA:z < S.length
 ·have c0:(z:Int) < (S.length:Int):=N;obtain⟨a2,ak⟩:∃a2,S[z]? =J a2:=⟨_,Kr bA⟩;have bV:=A ak;have dl:F (aH a2<=100000):=A (by have o:=Tj;have:=cw.out;omega);have dX:=A (dF.out z a2 ak);obtain⟨c6,d',i,e2,cn,bu⟩:=a2;obtain⟨y,b5,ch,cl,cW,af,-,-,b',bv,bo,bZ,c5,e4,co,bS⟩:=fC (iH f b7.1) ak;injection af with af _ cS;subst af cS;have dj:=A (dX wr _ bS dl);clear ak bS dX;go_wp2_with fail;refine dj.mono ?_;rintro a7 r ⟨rfl,cG⟩;have bX:=A (Kt (b7.1.trans (cG.mono b7.1.size)) (b7.2.below cG b7.2.lt));obtain⟨j,fE⟩:∃a,a=kX (.mk c6 d' i e2 cn bu):=⟨_,D⟩;obtain⟨l,di⟩:∃a,a=kZ (.mk c6 d' i e2 cn bu):=⟨_,D⟩;rw[<-fE,<-di];have k:F ((g || j)=(decide (e=41) || (S.take (z+1)).any kX)):=A (by rw[take_snoc' bV.out,List.any_append,<-Bool.or_assoc,<-cy.out,fE];simp);have bC:F (max dH l=((S.take (z+1)).map kZ).foldl max (uU e ba)):=A (by rw[take_snoc' bV.out,KX,MR,<-dh.out,di];rfl);clear cG fE di al am ax aW T bi bM a5 a6 aq aZ aO be bI b' bv bo bZ c5 e4 co;have n:F (∀cu d,cu=(g || j)->d=max dH l->(agk w #[C E e,C E aP,G (J ⟨y,b5,I⟩) S.length a9,C E aM.kind,C JL aM.bits,C E ba,C E ar] e ba S (JM cu) (C E d) (C E ((z:Int)+1)) r/\S.length-(intOf (Value.int E ((z:Int)+1))).toNat < S.length-(intOf (Value.int E (z:Int))).toNat)):=A (λcu d o a8=>⟨⟨z+1,cu,d,N,D,D,ZF,A (by rw[o];exact k),A (by rw[a8];exact bC),bX⟩,YF⟩);rcases g with _|_;all_goals go_wp2_with fail
  all_goals exact n _ _ ZH N
 have c0:(S.length:Int)<=(z:Int):=N;go_wp2_with fail;go_ret2;refine⟨?_,b7.1⟩;have o:=cy.out;have a8:=dh.out;rw[KN N] at o a8;rw[Gl,GY,<-o,<-a8];rfl
def af8 (w:L) (e:Ending) (w':L):Prop:=∃b:Bool,e=.returned (JM b)/\JK w.heap.size w w'
theorem acn(x:ND)(k:Int)(w:L)(cs:List O)(h:qg w cs x):Calls Tryz.prog 49 #[.agg cs.toArray,C E k] w (af8 w):=by
 obtain⟨e,aP,aM,ba,ar,S⟩:=x;obtain⟨dg,rfl,ag,bN⟩:=h.opened;obtain⟨Y,a9,rfl,d0,cR⟩:=ag.slice;obtain⟨an,bk⟩:∃an,an=w.alloc (JO #[C E e,C E aP,G Y S.length a9,C E aM.kind,C JL aM.bits,C E ba,C E ar] 150):=⟨_,D⟩;have aV:=Rx;clear ag h bN d0 cR;go_in;go_upto_region 1 with fail;rw[<-bk];clear bk;obtain⟨al,am,ax,aW,T,bi,bM,a5,a6,aq,aZ,aO,be,bI⟩:=aK aV.2;rcases b3:(e== k) with _|_
 ·go_wp2_with fail;all_goals(go_ret;exact⟨_,D,aV.1⟩)
 rcases bh:(ba== 0) with _|_
 ·go_wp2_with fail;all_goals(go_ret;exact⟨_,D,aV.1⟩)
 go_wp2_with fail;all_goals(go_ret;exact⟨_,D,aV.1⟩)

import Derived.Test.YtcabmcfnjkeemaaGreatBM00
import Derived.Test.YtcabmcfnjkeemaaGreatB11
set_option maxRecDepth 100000
set_option maxHeartbeats 40000000
set_option linter.unusedVariables false
set_option linter.unusedSimpArgs false
namespace Go.Proofs.YtcabmcfnjkeemaaGreat
open Go.Deep Go.RowKit
open Go renaming World->L,Value->O
open Go.IntKind renaming i64->E
open Go.Obj renaming cells->JO
open Go.RowKit renaming Hid->F,Below->JK
open Go.Value renaming int->C,slice->G,string->H
open Option renaming none->I,some->J
variable{e:ED}{W i w:L}{cs rest:List O}{g:Nat}{Q:Nat->Prop}{v:O}{t:TypeId}{P S a2:fV}
section
variable {toks:List dI}
structure PfS (w:L) (g:Nat) (t:TypeId) (v:O) (toks:List dI) (S S':fV) (rest:List O) (W:L):Prop where
 out:bT w g t v toks S S' rest W
 res:aj W w.heap.size 139 zE
 ord:g < w.heap.size
theorem PfS.more(h:PfS w g t v toks S P rest W)(k:bT W g t v toks P a2 rest i):PfS w g t v toks S a2 rest i:=
 ⟨h.out.trans k,h.res.grown k.grown XC,h.ord⟩
theorem PfS.below(h:PfS w g t v toks S P rest W)(k:JK W.heap.size W i):PfS w g t v toks S P rest i:=h.more (bT.of_below h.out.st k)
theorem PfS.gt(h:PfS w g t v toks S P rest W):w.heap.size < W.heap.size:=h.res.lt
structure FW (w:L) (g:Nat) (t:TypeId) (v:O) (toks:List dI) (S S':fV) (rest:List O) (Q:Nat->Prop) (cs:List O) (e:ED) (W:L):Prop where
 st:PfS w g t v toks S S' rest W
 ex:iD Q W cs e
 q:∀b,Q b->w.heap.size < b
theorem FW.more(h:FW w g t v toks S P rest Q cs e W)(k:bT W g t v toks P a2 rest i):FW w g t v toks S a2 rest Q cs e i:=
 ⟨h.st.more k,h.ex.keep (aF.aS k.grown λy d=>by have:=h.q y d;have:=h.st.ord;simp;omega) λ_ h=>h,h.q⟩
theorem FW.below(h:FW w g t v toks S P rest Q cs e W)(k:JK W.heap.size W i):FW w g t v toks S P rest Q cs e i:=h.more (bT.of_below h.st.out.st k)
theorem FW.fin{X:L}(h:FW w g t v toks S P rest Q cs e W)(ag:aU w.heap.size W X)(ai:pR e)(V:aP e<=2*(P.i-S.i)+1):yZ w g t v toks S rest (.returned (.agg cs.toArray)) X:=
 iE ag h.st.out c h.st.ord (h.ex.bound.keep (λ_ _ _ h=>h) λy d=>⟨h.q y d.1,d.2⟩) ai V
theorem aag(h:eP w g t v toks S rest)(l:Int)(a':1<=l/\l<=7)(ar:∀(W:L) (P:fV),S.i < P.i->eP W g t v toks P rest->Calls Tryz.prog 93 #[.pointer (J ⟨g,0,I⟩),C E l] W (yZ W g t v toks P rest))(aC:∀(W:L),eP W g t v toks S rest->Calls Tryz.prog 93 #[.pointer (J ⟨g,0,I⟩),C E (l+1)] W (yZ W g t v toks S rest)): Calls Tryz.prog 106 #[.pointer (J ⟨g,0,I⟩),C E l] w (yZ w g t v toks S rest):=by
 have dj:=TB;have M:=A (λW S (h:eP W g t v toks S rest) bL=>Ey h bL);have aV:=A ar;have bx:=A aC;obtain⟨an,bk⟩:∃an,an=w.alloc (JO zE 139):=⟨_,D⟩;have dh:=A (show PfS w g t v toks S S rest an by have d:JK w.heap.size w an:=Xq;exact⟨bT.of_below h d,Xr,h.blk.lt⟩);obtain⟨cX,cA⟩:=a';clear h ar aC;unfold zE at bk;go_in;go_upto_region 1 with fail;rw[<-bk];clear bk;go_upto_if 10 with fail;go_cut [5,6] (λba bl bn=>∃(i:ByteArray) (e:Int),ba=H i/\bl=C E e/\F (wfi e/\e≠13)/\an=bn);case first=>
  rcases bw:(l== 7) with _|_
  ·go_wp2_with fail;go_meet;exact⟨_,_,D,D,A ⟨aA Z Z,Z⟩,D⟩
  go_wp2_with fail;go_meet;exact⟨_,_,D,D,A ⟨aA Z Z,Z⟩,D⟩
 obtain⟨ba,e,rfl,rfl,b,rfl⟩:=hcut;go_wp2_with fail;refine(dj _ _ dh.out.out.st _).mono ?_;rintro a7 ce ⟨y,rfl,m,d⟩;have bC:=A (dh.below d);have aP:=A m;clear m d;rcases y with _|_
 ·go_wp2_with fail;refine(bx _ bC.out.out.st).mono ?_;rintro a7 b1 ⟨ak,bj,ah,rfl,a1,p,V,ai⟩;have ab:=A (show FW w g t v toks S ah rest (λy=>ce.heap.size<=y/\y < b1.heap.size) bj ak b1 from⟨bC.more ai,a1,λy d=>by have:=bC.gt;omega⟩);have cw:=A (Kt p V);clear a1 p V ai;obtain⟨ca,c8,bD,dc,cV,bW,aw⟩:=ak;obtain⟨dg,rfl,⟨Y,a9,rfl,-⟩,-⟩:=ab.ex.opened;obtain⟨cp,cf,cb,c7,b9,cM,cm,cF,cz,cP,d1,dd,d9,dp⟩:=aK ab.st.res;go_wp2_with fail;refine post7 ab.st.res D λX az aE=>?_;refine Uf ?_;exact ab.fin aE cw.1 cw.2
 go_wp2_with fail;refine(M _ _ bC.out.out.st (aP Yu)).mono ?_;rintro a7 b1 ⟨a3,ah,rfl,aM,ai,aR⟩;have B:=A (bC.more ai);have co:=A aR;have ev:=A aM;clear ai aR aM;go_wp2_with fail;refine(aV _ _ (by rw[co.out];exact KP _) B.out.out.st).mono ?_;rintro a7 r ⟨ak,bj,b6,rfl,a1,p,V,ai⟩;have cK:=A (show FW w g t v toks S b6 rest (λy=>b1.heap.size<=y/\y < r.heap.size) bj ak r from⟨B.more ai,a1,λy d=>by have:=B.gt;omega⟩);have cw:=A (Kt p (Kt V ai.le));have f:=A ai.grown.size;clear a1 p V ai;obtain⟨ca,c8,bD,dc,cV,bW,aw⟩:=ak;obtain⟨dg,rfl,⟨Y,a9,rfl,-⟩,-⟩:=cK.ex.opened;go_upto_region 8 with fail;refine aI (Φ:=λW=>FW w g t v toks S b6 rest (λy=>b1.heap.size<=y/\y < r.heap.size) [C E ca,G Y c8.length a9,C E bD,C E dc,H cV,H bW,C E aw] (.mk ca c8 bD dc cV bW aw) W/\aj W r.heap.size 139 #[C E ca,G Y c8.length a9,C E bD,C E dc,H cV,H bW,C E aw]) ⟨cK.below (JY.alloc c _),aj.new _ _ _⟩ ?_;intro e8 bz;have s:=A bz;clear bz;obtain⟨b0,aL,ao,b2,bu,R,bd,bO,bY,cd⟩:=s.1.st.out.st.cells;go_upto_region 9 with fail;refine aI (Φ:=λW=>FW w g t v toks S {b6 with op:=_} rest (λy=>b1.heap.size<=y/\y < r.heap.size) [C E ca,G Y c8.length a9,C E bD,C E dc,H cV,H bW,C E aw] (.mk ca c8 bD dc cV bW aw) W/\aj W r.heap.size 139 #[C E ca,G Y c8.length a9,C E bD,C E dc,H cV,H bW,C E aw]) ⟨s.1.more ⟨s.1.st.out.st.qO _,grownBy_set _ _ _ _,KD _⟩,s.2.grown (grownBy_set _ _ _ _) (by have:=cK.st.gt;have:=cK.st.ord;simp;omega)⟩ ?_;intro eK c4;have bs:=A c4;clear c4 b0 aL ao b2 bu R bd bO bY cd;obtain⟨al,am,ax,aW,T,bi,bM,a5,a6,aq,aZ,aO,be,bI⟩:=aK bs.2;have dR:=A ((Ky eK.heap.size eK).alloc c (JO #[C E ca,G Y c8.length a9,C E bD,C E dc,H cV,H bW,C E aw] 139));have cZ:=A (show FW w g t v toks S {b6 with op:=_} rest (λy=>b1.heap.size<=y) [C E e,G (J ⟨eK.heap.size,0,I⟩) 1 1,C E 0,C E 0,H ⟨#[]⟩,H ⟨#[]⟩,C E a3] (.mk e [.mk ca c8 bD dc cV bW aw] 0 0 ⟨#[]⟩ ⟨#[]⟩ a3) (eK.alloc (JO #[C E ca,G Y c8.length a9,C E bD,C E dc,H cV,H bW,C E aw] 139)) from ⟨(bs.1.below dR).st,iD.shut (sD (Q:=λy=>b1.heap.size<=y) (bs.1.ex.keep (λ_ _ _ h=>h) λy d=>d.1) (by have a8:=bs.2.lt;have ac:=f.out;omega)) ⟨b.1,bP,bP,ev,Z,Z⟩,λy d=>by have:=B.gt;omega⟩);obtain⟨cp,cf,cb,c7,b9,cM,cm,cF,cz,cP,d1,dd,d9,dp⟩:=aK cZ.st.res;go_wp2_with fail;refine post7 cZ.st.res D λX az aE=>?_;refine Uf ?_;refine cZ.fin aE (.mk _ _ _ _ _ _ _ (λa7=>absurd a7 b.2) λa aJ=>by rw[KG] at aJ;subst aJ;exact cw.1) ?_;have o:=cw.2.1;have a8:=cw.2.2;have ac:=co.out;rw[aY];exact QL
end
attribute [local go_sem ↓] Go.wp_at_zero Go.wp_at_succ
section
variable {toks:List dI}
def iOf (g:Nat) (W:L):Nat:=(intOf ((W.cell? ⟨g,1,I⟩).getD undef)).toNat
theorem eP.iOf(h:eP W g t v toks S rest):iOf g W=S.i:=by unfold Go.Proofs.YtcabmcfnjkeemaaGreat.iOf;rw[h.cells.2.1];simp[intOf]
structure LvX (w:L) (g:Nat) (t:TypeId) (v:O) (toks:List dI) (S S':fV) (rest:List O) (b:Nat) (cs:List O) (e:ED) (W:L):Prop where
 st:FW w g t v toks S S' rest (λk=>w.heap.size < k/\k≠b) cs e W
 box:aj W b 139 cs.toArray
 lt:w.heap.size < b
 par:pR e
 nodes:aP e<=2*(S'.i-S.i)+1
theorem LvX.more{b:Nat}(h:LvX w g t v toks S P rest b cs e W)(k:bT W g t v toks P a2 rest i):LvX w g t v toks S a2 rest b cs e i:=
 ⟨h.st.more k,h.box.grown k.grown (by have:=h.st.st.ord;have:=h.lt;simp;omega),h.lt,h.par,by have:=h.nodes;have:=k.le;omega⟩
theorem LvX.below{b:Nat}(h:LvX w g t v toks S P rest b cs e W)(k:JK W.heap.size W i):LvX w g t v toks S P rest b cs e i:=h.more (bT.of_below h.st.st.out.st k)
theorem ac6{a9 aI:List O}{f:ED}(h:iD Q w a9 e)(k:iD Q w aI f)(a1:Q w.heap.size):aX Q 7 (iD Q) (w.alloc (JO (a9++aI).toArray 139)) (G (J ⟨w.heap.size,0,I⟩) 2 2) [e,f]:=by
 refine⟨J ⟨w.heap.size,0,I⟩,2,D,KD _,Z,λ_=>⟨w.heap.size,0,D,a1,λa3 aa ad=>?_⟩⟩;have aR:=(KA.1 ad).1;have ah:∀bj a2,iD Q w bj a2->iD Q (w.alloc (JO (a9++aI).toArray 139)) bj a2:=λbj a2 h=>h.keep (λaT u _ ai=>(Nz w _ aT (ay ai)).trans ai) λ_ h=>h;have aw:∀a4,(w.alloc (JO (a9++aI).toArray 139)).cell? ⟨w.heap.size,a4,I⟩=(a9++aI)[a4]?:=λa4=>((aj.new w 139 (a9++aI).toArray).cell a4).trans ZH;have cU:=h.len;match a3,aR,ad with
 |0,_,ad=>simp at ad;subst ad;refine⟨a9,h.len,ah _ _ h,λa4 u ap=>?_⟩;have bK:=(KA.1 ap).1;rw[show 0+0*7+a4=a4 by omega,aw,KW bK];exact ap
 |1,_,ad=>simp at ad;subst ad;refine⟨aI,k.len,ah _ _ k,λa4 u ap=>?_⟩;rw[show 0+1*7+a4=7+a4 by omega,aw,Lh N,cU,Nat.add_sub_cancel_left];exact ap
theorem afY(l:Int):(Du l).1<=6/\0<=(Du l).2/\(Du l).2<=14:=by
 have h:Du l=(1,14)\/Du l=(1,13)\/Du l=(6,7)\/Du l=(2,1)\/Du l=(3,3)\/Du l=(0,0):=by unfold Du;(repeat' split) <;> simp
 rcases h with h|h|h|h|h|h <;> rw[h] <;> decide
theorem Jw(h:eP w g t v toks S rest)(l:Int)(a':1<=l/\l<=8)(ar:∀(W:L) (P:fV) (s:Int),S.i < P.i->1<=s/\s<=8->eP W g t v toks P rest->Calls Tryz.prog 93 #[.pointer (J ⟨g,0,I⟩),C E s] W (yZ W g t v toks P rest))(aC:l<=7->∀(W:L),eP W g t v toks S rest->Calls Tryz.prog 93 #[.pointer (J ⟨g,0,I⟩),C E (l+1)] W (yZ W g t v toks S rest)): Calls Tryz.prog 93 #[.pointer (J ⟨g,0,I⟩),C E l] w (yZ w g t v toks S rest):=by
 have dj:=TB;have cB:=A (λW S (h:eP W g t v toks S rest)=>uM h);have bm:=A (λW=>EI l W);have bC:=A (λW (h:eP W g t v toks S rest)=>adw h λW P aR ai=>ar W P 1 aR Z ai);have bc:=A (λW (h:eP W g t v toks S rest) (de:l<=7)=>aag h l ⟨a'.1,de⟩ (λW P aR ai=>ar W P l aR a' ai) (aC de));have aV:=A ar;have bx:=A aC;obtain⟨an,bk⟩:∃an,an=w.alloc (JO zE 139):=⟨_,D⟩;have dh:=A (show PfS w g t v toks S S rest an by have d:JK w.heap.size w an:=Xq;exact⟨bT.of_below h d,Xr,h.blk.lt⟩);obtain⟨cX,cA⟩:=a';clear h ar aC;unfold zE at bk;obtain⟨b0,aL,ao,b2,bu,R,bd,bO,bY,cd⟩:=dh.out.out.st.cells;obtain⟨cp,cf,cb,c7,b9,cM,cm,cF,cz,cP,d1,dd,d9,dp⟩:=aK dh.res;go_in;go_upto_region 1 with fail;rw[<-bk];clear bk;rcases bS:(S.er !=0) with _|_
 ·rcases ac:(l== 3) with _|_
  ·rcases de:(l== 7) with _|_
   ·rcases dy:(l== 8) with _|_
    ·have bF:l<=7:=by
      have:l≠8:=by simpa using dy
      omega
     have bp:=A bF;go_upto_region 7 with fail;clear b0 aL ao b2 bu R bd bO bY cd cp cf cb c7 b9 cM cm cF cz cP d1 dd d9 dp;go_wp2_with fail;refine(bx bp _ dh.out.out.st).mono ?_;rintro a7 b1 ⟨ak,bj,ah,rfl,a1,p,V,ai⟩;have ab:=A (show FW w g t v toks S ah rest (λy=>an.heap.size<=y/\y < b1.heap.size) bj ak b1 from⟨dh.more ai,a1,λy d=>by have:=dh.gt;omega⟩);have cw:=A (Kt p V);clear a1 p V ai;obtain⟨ca,c8,bD,dc,cV,bW,aw⟩:=ak;obtain⟨dg,rfl,⟨Y,a9,rfl,-⟩,-⟩:=ab.ex.opened;go_upto_region 8 with fail;refine aI (Φ:=λW=>∃(q:fV) (bj:List O) (a7:ED),LvX w g t v toks S q rest b1.heap.size bj a7 W) ⟨ah,_,_,⟨⟨ab.st.below (JY.alloc c _),ab.ex.keep (λaT u _ ai=>(Nz b1 _ aT (ay ai)).trans ai) (λy d=>⟨ab.q y d,N⟩),λy d=>d.1⟩,aj.new _ _ _,ab.st.gt,cw.1,cw.2⟩⟩ ?_;intro bf b6;have bX:=A b6;clear b6 ab cw;generalize b1.heap.size=b at*;go_loopw [] (λwr=>∃(q:fV) (bj:List O) (a7:ED),F (LvX w g t v toks S q rest b bj a7 wr)) (λwr=>toks.length-iOf g wr);case atStart=>obtain⟨q,bj,a7,aD⟩:=bX.out;exact⟨q,bj,a7,A aD⟩
     obtain⟨P,bj,ak,ci⟩:=hrel;obtain⟨ca,c8,bD,dc,cV,bW,aw⟩:=ak;obtain⟨dg,rfl,⟨Y,a9,rfl,-⟩,-⟩:=ci.st.ex.opened;obtain⟨b0,aL,ao,b2,bu,R,bd,bO,bY,cd⟩:=ci.st.st.out.st.cells;obtain⟨al,am,ax,aW,T,bi,bM,a5,a6,aq,aZ,aO,be,bI⟩:=aK ci.box;obtain⟨cp,cf,cb,c7,b9,cM,cm,cF,cz,cP,d1,dd,d9,dp⟩:=aK ci.st.st.res;rcases eh:(P.er== 0) with _|_
     ·go_wp2_with fail;refine post7 ci.st.st.res D λX az aE=>?_;refine Uf ?_;exact ci.st.fin aE ci.par ci.nodes
     go_upto_region 9 with fail;clear b0 aL ao b2 bu R bd bO bY cd al am ax aW T bi bM a5 a6 aq aZ aO be bI cp cf cb c7 b9 cM cm cF cz cP d1 dd d9 dp;go_wp2_with fail;refine(bm _).mono ?_;rintro a7 av ⟨di,bG,rfl,ag,c3,aQ,d⟩;have bh:=A (ci.below d);obtain⟨cq,cT,cg⟩:=afY l;have f:=A (λbw=>ag bw);have f7:=A d.size;clear ag d;generalize (Du l).1=dn at*;generalize (Du l).2=bv at*;go_wp2_with fail;go_loopw [8,47] (λbl a3 eg=>∃(z:Nat) (e:Int),bl=C E e/\a3=C E z/\z<=dn/\F (e=0\/(P.i+1 < toks.length/\wfi e))/\F (LvX w g t v toks S P rest b [C E ca,G Y c8.length a9,C E bD,C E dc,H cV,H bW,C E aw] (.mk ca c8 bD dc cV bW aw) eg)/\F (JK av.heap.size av eg)) (λ_ a3 _=>dn-(intOf a3).toNat);case atStart=>exact⟨0,0,D,D,Kw _,A (.inl rfl),bh,A JY⟩
     obtain⟨z,bl,rfl,rfl,aS,ck,bB,b7⟩:=hrel;have ct:(0:Int)<=(z:Int):=N;by_cases bA:z < dn
     ·have c0:(z:Int) < (dn:Int):=N;obtain⟨bR,b8,rfl,-,aB⟩:=f.out N;obtain⟨u,ap,-⟩:=aB z bA;have aM:wr.cell? ⟨bR,b8+z,I⟩=J (H u):=(b7.cell (ay ap)).trans ap;clear ap aB;go_wp2_with fail;refine(dj _ _ bB.st.st.out.st _).mono ?_;rintro a7 cU ⟨c2,rfl,m,dO⟩;have M:=A (bB.below dO);have dR:=A (b7.trans (dO.mono b7.size));have aP:=A m;clear m dO aM;rcases c2 with _|_
      ·go_wp2_with fail;go_roundw;case rel=>
        first
        |exact⟨z+1,bl,D,ZF,N,ck,M,dR⟩
        |((repeat apply KL);exact⟨⟨z+1,bl,D,ZF,N,ck,M,dR⟩,D⟩)
       simp[intOf];omega
      have bn:F ((bv+(z:Int))=0\/(P.i+1 < toks.length/\wfi (bv+(z:Int)))):=A (.inr ⟨aP Yu,aA N N⟩);go_wp2_with fail;go_roundw;case rel=>
       first
       |exact⟨z+1,_,D,ZF,N,bn,M,dR⟩
       |((repeat apply KL);exact⟨⟨z+1,_,D,ZF,N,bn,M,dR⟩,D⟩)
      simp[intOf];omega
     have cr:(dn:Int)<=(z:Int):=N;rcases br:(bl== 0) with _|_
     ·have bH:=A (show P.i+1 < toks.length/\wfi bl by rcases ck with h|h;(rw[h] at br;exact absurd br Z);exact h);go_upto_region 19 with fail;go_wp2_with fail;refine(cB _ _ bB.st.st.out.st).mono ?_;rintro a7 cU ⟨aa,rfl,ad,bN,dO⟩;have M:=A (bB.below dO);have cY:=A bN;have aH:=vY aa cU;clear ad bN dO;unfold tokA;go_upto_region 20 with fail;clear aH;obtain⟨b0,aL,ao,b2,bu,R,bd,bO,bY,cd⟩:=M.st.st.out.st.cells;have bE:=M.st.st.out.st.idxs;have aN:(0:Int)<=(P.i:Int):=N;go_upto_region 21 with fail;refine aI (Φ:=λW=>LvX w g t v toks S {P with i:=P.i+1} rest b [C E ca,G Y c8.length a9,C E bD,C E dc,H cV,H bW,C E aw] (.mk ca c8 bD dc cV bW aw) W) (M.more ⟨M.st.st.out.st.rH (n:=P.i+1) bH.1,grownBy_set _ _ _ _,Ld _⟩) ?_;intro cW bt;have bL:=A bt;clear bt b0 aL ao b2 bu R bd bO bY cd bE aN;have aU:IntKind.i64.wrap (l+1)=l+1:=wrap_in N N;obtain⟨b4,bg⟩:∃b4,b4=World.drew cW:=⟨_,D⟩;have bV:=A (show LvX w g t v toks S {P with i:=P.i+1} rest b [C E ca,G Y c8.length a9,C E bD,C E dc,H cV,H bW,C E aw] (.mk ca c8 bD dc cV bW aw) b4 by rw[bg];exact bL.below (JY.drew));have f:F (b4.cell? ⟨b,0,I⟩=J (C E ca)/\b4.cell? ⟨b,1,I⟩=J (G Y c8.length a9)/\b4.cell? ⟨b,2,I⟩=J (C E bD)/\b4.cell? ⟨b,3,I⟩=J (C E dc)/\b4.cell? ⟨b,4,I⟩=J (H cV)/\b4.cell? ⟨b,5,I⟩=J (H bW)/\b4.cell? ⟨b,6,I⟩=J (C E aw)):=A ⟨bV.box.cell 0,bV.box.cell 1,bV.box.cell 2,bV.box.cell 3,bV.box.cell 4,bV.box.cell 5,bV.box.cell 6⟩;refine aG (λW=>W.cell? ⟨b,0,I⟩=J (C E ca)/\W.cell? ⟨b,1,I⟩=J (G Y c8.length a9)/\W.cell? ⟨b,2,I⟩=J (C E bD)/\W.cell? ⟨b,3,I⟩=J (C E dc)/\W.cell? ⟨b,4,I⟩=J (H cV)/\W.cell? ⟨b,5,I⟩=J (H bW)/\W.cell? ⟨b,6,I⟩=J (C E aw)) (λa4=>!([0,1,2,3,4,5,6,7,8]:List Nat).contains a4) U ?_;rw[<-bg];clear bg;refine tl 0 f ?_;refine tl 1 f ?_;refine tl 2 f ?_;refine tl 3 f ?_;refine tl 4 f ?_;refine tl 7 f ?_;refine t1 5 λK j=>?_;go_simp;go_wp2_with (go_at_call 93;refine(aV _ {P with i:=P.i+1} (l+1) (Nat.lt_succ_of_le bB.st.st.out.le) (by have:=bp.out;omega) bV.st.st.out.st).mono ?_;rintro a7 cK ⟨fu,bZ,x,rfl,a1,p,V,ai⟩);have B:=A (bV.more ai);have k:=A (a1.keep (λ_ _ _ h=>h) (Q':=λa0=>w.heap.size < a0/\a0≠b) λy d=>by have o:=bV.st.st.gt;have a8:=bV.box.lt;omega);have eI:=A (Kt p (Kt V ai.le));clear a1 p V ai;obtain⟨c6,ae,af,b5,bb,cn,bs⟩:=fu;obtain⟨dg,rfl,⟨bq,bo,rfl,-⟩,-⟩:=k.opened;have f:F (cK.cell? ⟨b,0,I⟩=J (C E ca)/\cK.cell? ⟨b,1,I⟩=J (G Y c8.length a9)/\cK.cell? ⟨b,2,I⟩=J (C E bD)/\cK.cell? ⟨b,3,I⟩=J (C E dc)/\cK.cell? ⟨b,4,I⟩=J (H cV)/\cK.cell? ⟨b,5,I⟩=J (H bW)/\cK.cell? ⟨b,6,I⟩=J (C E aw)):=A ⟨B.box.cell 0,B.box.cell 1,B.box.cell 2,B.box.cell 3,B.box.cell 4,B.box.cell 5,B.box.cell 6⟩;(refine j.out _ _ (λ_=>f) ?_;clear j K);refine t1 6 λK j=>?_;go_simp;obtain⟨e6,b3⟩:∃W,W=cK.alloc (JO #[C E ca,G Y c8.length a9,C E bD,C E dc,H cV,H bW,C E aw,C E c6,G bq ae.length bo,C E af,C E b5,H bb,H cn,C E bs] 139):=⟨_,D⟩;have bJ:=A (show JK cK.heap.size cK e6 by rw[b3];exact JY.alloc c _);have bK:=A (show aX (λa0=>w.heap.size < a0/\a0≠b) 7 (iD (λa0=>w.heap.size < a0/\a0≠b)) e6 (G (J ⟨cK.heap.size,0,I⟩) 2 2) [(.mk ca c8 bD dc cV bW aw),(.mk c6 ae af b5 bb cn bs)] by rw[b3];exact ac6 B.st.ex k ⟨B.st.st.gt,by have:=B.box.lt;omega⟩);have r:=A (B.below bJ);rw[<-b3];clear b3;have f:F (e6.cell? ⟨b,0,I⟩=J (C E ca)/\e6.cell? ⟨b,1,I⟩=J (G Y c8.length a9)/\e6.cell? ⟨b,2,I⟩=J (C E bD)/\e6.cell? ⟨b,3,I⟩=J (C E dc)/\e6.cell? ⟨b,4,I⟩=J (H cV)/\e6.cell? ⟨b,5,I⟩=J (H bW)/\e6.cell? ⟨b,6,I⟩=J (C E aw)):=A ⟨r.box.cell 0,r.box.cell 1,r.box.cell 2,r.box.cell 3,r.box.cell 4,r.box.cell 5,r.box.cell 6⟩;(refine j.out _ _ (λ_=>f) ?_;clear j K);refine tl 8 f ?_;refine t1 9 λK j=>?_;obtain⟨al,am,ax,aW,T,bi,bM,a5,a6,aq,aZ,aO,be,bI⟩:=aK r.box;go_simp;(refine TS ?_;clear j K);clear al am ax aW T bi bM a5 a6 aq aZ aO be bI;refine td ?_;try simp only[Exit.then]
      go_upto_region 22 with fail;refine aI (Φ:=λW=>LvX w g t v toks S x rest b [C E bl,G (J ⟨cK.heap.size,0,I⟩) 2 2,C E 0,C E 0,H ⟨#[]⟩,H ⟨#[]⟩,C E aa.at_] (.mk bl [(.mk ca c8 bD dc cV bW aw),(.mk c6 ae af b5 bb cn bs)] 0 0 ⟨#[]⟩ ⟨#[]⟩ aa.at_) W) ?_ ?_
      ·have a2:=jQ r.box D (C E bl) (G (J ⟨cK.heap.size,0,I⟩) 2 2) (C E 0) (C E 0) (H ⟨#[]⟩) (H ⟨#[]⟩) (C E aa.at_);have bz:aF (λa0=>w.heap.size < a0/\a0≠b) e6 _:=a2.2.keep _ λy d=>d.2;refine⟨⟨⟨r.st.st.out.qO a2.2 (KI r.lt) (by have o:=r.lt;have a8:=r.st.st.ord;omega),a2.2.blk _ _ _ (by have:=r.lt;omega) r.st.st.res,r.st.st.ord⟩,iD.shut (bK.keep bz (λ_ h=>h) λ_ _ h=>h.keep bz λ_ h=>h) ⟨bH.2,bP,bP,cY.2.2.2.2,Z,Z⟩,λy d=>d.1⟩,a2.1,r.lt,?_,?_⟩
       ·refine .mk _ _ _ _ _ _ _ (λ_=>rfl) λa aJ=>?_;simp only[List.mem_cons,List.not_mem_nil,or_false] at aJ;rcases aJ with rfl|rfl
        ·exact bL.par
        exact eI.1
       have o:=bB.nodes;have a8:=eI.2.1;have ac:=eI.2.2;have b6:=bB.st.st.out.le;simp only at a8 ac;rw[aY];exact QL
      intro bQ e7;have cC:=A e7;clear e7;have bU:=A (show P.i+1<=x.i from eI.2.2);rcases b6:(l== 4) with _|_
      ·go_wp2_with fail;go_roundw;case rel=>
        first
        |exact⟨x,_,_,cC⟩
        |((repeat apply KL);exact⟨⟨x,_,_,cC⟩,D⟩)
       rw[ci.st.st.out.st.iOf,cC.st.st.out.st.iOf];have o:=bU.out;have a8:=cC.st.st.out.st.idx;omega
      obtain⟨al,am,ax,aW,T,bi,bM,a5,a6,aq,aZ,aO,be,bI⟩:=aK cC.box;obtain⟨cp,cf,cb,c7,b9,cM,cm,cF,cz,cP,d1,dd,d9,dp⟩:=aK cC.st.st.res;go_wp2_with fail;refine post7 cC.st.st.res D λX az aE=>?_;refine Uf ?_;exact cC.st.fin aE cC.par cC.nodes
     obtain⟨al,am,ax,aW,T,bi,bM,a5,a6,aq,aZ,aO,be,bI⟩:=aK bB.box;obtain⟨cp,cf,cb,c7,b9,cM,cm,cF,cz,cP,d1,dd,d9,dp⟩:=aK bB.st.st.res;go_wp2_with fail;refine post7 bB.st.st.res D λX az aE=>?_;refine Uf ?_;exact bB.st.fin aE bB.par bB.nodes
    go_upto_region 6 with fail;clear b0 aL ao b2 bu R bd bO bY cd cp cf cb c7 b9 cM cm cF cz cP d1 dd d9 dp;go_wp2_with fail;refine(bC _ dh.out.out.st).mono ?_;exact Oi
   have bp:=A (show l<=7 by rw[show l=7 by simpa using de];decide);go_upto_region 4 with fail;clear b0 aL ao b2 bu R bd bO bY cd cp cf cb c7 b9 cM cm cF cz cP d1 dd d9 dp;go_wp2_with fail;refine(bc _ dh.out.out.st bp).mono ?_;exact Oi
  have bp:=A (show l<=7 by rw[show l=3 by simpa using ac];decide);go_upto_region 4 with fail;clear b0 aL ao b2 bu R bd bO bY cd cp cf cb c7 b9 cM cm cF cz cP d1 dd d9 dp;go_wp2_with fail;refine(bc _ dh.out.out.st bp).mono ?_;exact Oi
 go_wp2_with fail;refine post7 dh.res D λX az aE=>?_;refine Uf ?_;exact iE aE dh.out.out c dh.ord (iD.nil ⟨bP,bP,bP,bP,Z,Z⟩) (pR.nil Z) (jc _)
end
theorem pK{P:Program}{b:Func}{d:Array O}{cs:Array O}{s q r:Tmp}{bF:TypeId}{aI:TypeDesc}{cb:Tmp}(h:b.results=#[.cell s bF,.tmp q,.tmp r,.tmp cb])(ai:d.getD s undef=.pointer (J ⟨g,0,I⟩))(ab:aj w g t cs)(ap:P.underlying bF=J aI)(j:(match aI with| .struct _| .array _ _=>true|_=>false)=true)(aR:(P.info? bF).map (·.size)=J cs.size): (results b d).run P w=.ok (.tuple #[.agg cs,d.getD q undef,d.getD r undef,d.getD cb undef]) w:=by have a':=run_loadVar_row (P:=P) w g t bF cs (0,0) aI ab ap j aR;simp only[Array.getD_eq_getD_getElem?] at ai;simp[results,h,ai,asAddr,Sem.run_bind,Sem.run_pure,a']
variable{b:List dI}
theorem abH:∀(m:Nat) (w:L) (S:fV) (l:Int),eP w g t v b S rest->1<=l/\l<=8->(b.length-S.i)*9+(8-l).toNat < m->Calls Tryz.prog 93 #[.pointer (J ⟨g,0,I⟩),C E l] w (yZ w g t v b S rest):=by
 intro m;induction m with
 |zero=>intro w S l _ _ h;omega
 |succ m bf=>intro w S l h a' bL;have aR:=h.idx;refine Jw h l a' (λB P s bA fs ai=>bf B P s ai fs (by have:=ai.idx;omega)) λde B ai=>bf B S (l+1) ai N N
theorem abI{l:Int}(h:eP w g t v b S rest)(a':1<=l/\l<=8):Calls Tryz.prog 93 #[.pointer (J ⟨g,0,I⟩),C E l] w (yZ w g t v b S rest):=
 abH _ w S l h a' (KP _)
theorem BO{q:Type}{m:Nat}{R:L->List O->q->Prop}{xs:List q}(h:bU m R w v xs)(hF:0 < m):aX (λb=>b < w.heap.size) m R w v xs:=by obtain⟨Y,a9,af,o,a8,ac⟩:=h;refine⟨Y,a9,af,o,a8,λV=>?_⟩;obtain⟨b,b5,cE,aw⟩:=ac V;refine⟨b,b5,cE,?_,aw⟩;obtain⟨bj,a',-,cM⟩:=aw 0 _ (Kr V);exact ay (cM 0 _ (Kr N))
def agy (w:L) (toks:List dI) (i:Nat) (e:Ending) (w':L):Prop:=
 ∃(x:ED) (cs:List O) (n a ec:Int),e=.returned (.tuple #[.agg cs.toArray,C E n,C E a,C E ec])/\iD (λb=>w.heap.size<=b/\b < w'.heap.size) w' cs x/\JK w.heap.size w w'/\
  (ec=0->pR x/\aP x<=8003/\∃k:Nat,n=(k:Int)/\i<=k/\k < toks.length)
theorem Ij{i:Nat}(af:bU 5 aeo w v b)(aT:IX b)(aR:i < b.length):Calls Tryz.prog 63 #[v,C E i] w (agy w b i):=by
 obtain⟨Y,a9,rfl,d0,cR⟩:=af.slice;obtain⟨an,bk⟩:∃an,an=(w.alloc (JO zE 139)).alloc (JO #[G Y b.length a9,C E i,C E 0,C E 0,C E 0] 117):=⟨_,D⟩;have aC:=A (show JK w.heap.size w an by rw[bk];exact(JY.alloc c _).alloc ZH _);have cZ:=A (show aj an w.heap.size 139 zE by rw[bk];exact(aj.new _ _ _).alloc _);have b1:=A (show eP an (w.heap.size+1) 117 (G Y b.length a9) b ⟨i,0,0,0⟩ [] by refine⟨?_,((BO af Z).keep (aF.of_below aC λy d=>d) (λy d=>N) λ_ _ h=>h),aT,aR⟩;rw[bk];have:=aj.new (w.alloc (JO zE 139)) 117 #[G Y b.length a9,C E i,C E 0,C E 0,C E 0];rw[KE] at this;exact this);have dq:=A (λB t (h:eP B (w.heap.size+1) 117 (G Y b.length a9) b t [])=>abI (l:=1) h Z);have ct:(0:Int)<=(i:Int):=N;have c0:(i:Int) < (b.length:Int):=N;have dr:=A aT;have co:=A aR;clear af aT aR;unfold zE at bk;go_in;go_upto_region 4 with fail;rw[<-bk];clear bk;go_wp2_with fail;refine(dq _ _ b1).mono ?_;rintro a7 ce ⟨aa,bj,a2,rfl,a1,p,V,ai⟩;have n:=A (cZ.grown ai.grown ZH);have bB:=A (Kt a1 (Kt p V));have k:=A (show JK w.heap.size w ce from aC.grown ai.grown (by have:=cZ.lt;omega) λa0 ah=>by injection ah with ah;omega);have ei:=A ai;have dA:=A (show w.heap.size+2<=an.heap.size by have:=b1.blk.lt;omega);clear a1 p V ai;obtain⟨ca,c8,bD,dc,cV,bW,aw⟩:=aa;obtain⟨dg,rfl,⟨bq,bo,rfl,-⟩,-⟩:=bB.1.opened;obtain⟨dZ,W⟩:∃dZ,dZ=ce.alloc (JO #[C E ca,G bq c8.length bo,C E bD,C E dc,H cV,H bW,C E aw] 139):=⟨_,D⟩;have cj:=A (show JK ce.heap.size ce dZ by rw[W];exact JY.alloc c _);have ab:=A (show aj dZ ce.heap.size 139 #[C E ca,G bq c8.length bo,C E bD,C E dc,H cV,H bW,C E aw] by rw[W];exact aj.new _ _ _);have a4:=A (n.below cj n.lt);have e2:=A (ei.st.below cj);go_upto_region 5 with fail;rw[<-W];clear W;obtain⟨b0,aL,ao,b2,bu,R,bd,bO,bY,cd⟩:=e2.cells;obtain⟨al,am,ax,aW,T,bi,bM,a5,a6,aq,aZ,aO,be,bI⟩:=aK ab;obtain⟨cp,cf,cb,c7,b9,cM,cm,cF,cz,cP,d1,dd,d9,dp⟩:=aK a4;rcases bS:(a2.er !=0) with _|_
 ·go_upto_region 7 with fail;go_region;go_wp2_with fail;refine adK a4 D λX az aE=>?_;refine Ku (pK D D az Tryz.underlying139 D D) D ?_;refine⟨_,[C E ca,G bq c8.length bo,C E bD,C E dc,H cV,H bW,C E aw],_,_,_,D,bB.1.keep ((aF.of_below cj λy d=>d.2).trans (aE.keep _ λy d=>Yk)) (λy d=>⟨Yk,by rw[aE.size];exact Kv d.2 cj.size⟩),aE.below _ _ c (k.trans (cj.mono k.size)),λ_=>⟨bB.2.1,?_,a2.i,D,ei.le,ei.st.idx⟩⟩;have o:=bB.2.2;have a8:=ei.st.idx;have ac:=dr.len;omega
 go_upto_region 6 with fail;go_region;go_wp2_with fail;refine adK a4 D λX az aE=>?_;refine Ku (pK D D az Tryz.underlying139 D D) D ?_;exact⟨.mk 0 [] 0 0 ⟨#[]⟩ ⟨#[]⟩ 0,[C E 0,G I 0 0,C E 0,C E 0,H ⟨#[]⟩,H ⟨#[]⟩,C E 0],_,_,_,D,iD.nil ⟨bP,bP,bP,bP,Z,Z⟩,aE.below _ _ c (k.trans (cj.mono k.size)),λh=>by simp at bS;exact absurd h bS⟩

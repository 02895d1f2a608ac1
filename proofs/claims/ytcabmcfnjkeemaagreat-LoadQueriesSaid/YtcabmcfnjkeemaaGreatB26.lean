import Derived.Test.YtcabmcfnjkeemaaGreatBM00
import Derived.Test.YtcabmcfnjkeemaaGreatB25
set_option maxRecDepth 100000
set_option maxHeartbeats 40000000
set_option linter.unusedVariables false
set_option linter.unusedSimpArgs false
namespace Go.Proofs.YtcabmcfnjkeemaaGreat
open Go.Deep Go.RowKit
open Go renaming World->L,Value->O
open Go.IntKind renaming i64->E
open Go.Obj renaming cells->JO
open Go.RowKit renaming Hid->F,Below->JK
open Go.Value renaming int->C,slice->G,bool->JM
open Option renaming none->I,some->J
attribute [local go_sem ↓] Go.wp_at_zero Go.wp_at_succ
theorem GH(n:ND):∀(r:Int) (k:gK),(dX n r k).most<=max k.most (r+aH n):=by
 refine vN (p:=λn=>∀(r:Int) (k:gK),(dX n r k).most<=max k.most (r+aH n)) ?_ n;intro e aP aM ba ar S bf r k;have bL:=dn e aP ba ar aM S;by_cases g:e=40
 ·rw[aaP g];simp only[gK.up];omega
 rcases S with _|⟨a,_|⟨y,S⟩⟩
 ·rw[aaM g];simp only[gK.up];omega
 ·have o:=bf 0 a rfl r (k.up r);rw[aaN g];simp only[gK.put,gK.up,List.map_cons,List.sum_cons,List.map_nil,List.sum_nil] at o bL⊢;omega
 have o:=bf 0 a rfl r (k.up r);have a8:=bf 1 y D (r+1) (dX a r (k.up r));rw[aaO g];simp only[gK.put,gK.up,List.map_cons,List.sum_cons] at o a8 bL⊢;omega
theorem DT(n:ND):∀(r:Int) (k:gK),k.most<=(dX n r k).most:=by
 refine vN (p:=λn=>∀(r:Int) (k:gK),k.most<=(dX n r k).most) ?_ n;intro e aP aM ba ar S bf r k;by_cases g:e=40
 ·rw[aaP g];simp only[gK.up];omega
 rcases S with _|⟨a,_|⟨y,S⟩⟩
 ·rw[aaM g];simp only[gK.up];omega
 ·have o:=bf 0 a rfl r (k.up r);rw[aaN g];simp only[gK.put,gK.up] at o⊢;omega
 have o:=bf 0 a rfl r (k.up r);have a8:=bf 1 y D (r+1) (dX a r (k.up r));rw[aaO g];simp only[gK.put,gK.up] at o a8⊢;omega
theorem II(n:ND)(l:List ND):fU (n :: l)=aH n+fU l:=D
theorem Hl:∀(l:List ND) (k:gK),(l.foldl gB k).ins.length<=k.ins.length+fU l/\(l.foldl gB k).cons.length<=k.cons.length+fU l/\(l.foldl gB k).list.length<=k.list.length+2*fU l/\(l.foldl gB k).most<=max k.most (fU l+1)/\k.most<=(l.foldl gB k).most
 | [],k=>⟨KD _,KD _,KD _,by show k.most<=_;omega,Lp _⟩
 |n :: l,k=>by
  obtain⟨o,a8,ac,b6,bz⟩:=Hl l (gB k n)
  obtain⟨cC,d4,du⟩:=wV n 1 k
  have dH:=GH n 1 k
  have aT:=DT n 1 k
  have ai:=oI n
  rw[LU,II]
  unfold gB gK.put at o a8 ac b6 bz
  simp only[List.length_append,List.length_cons,List.length_nil] at o a8 ac b6 bz
  unfold gB gK.put
  omega
theorem Ad(l:List ND):(kL l).ins.length<=fU l/\(kL l).cons.length<=fU l/\(kL l).list.length<=2*fU l/\(kL l).most<=fU l+1/\0<=(kL l).most:=by
 cases l with
 |nil=>exact⟨KD _,KD _,KD _,by show(0:Int)<=_;omega,Lp _⟩
 |cons M l=>
  obtain⟨o,a8,ac,b6,bz⟩:=Hl l (dX M 0 ⟨[],[],[],0⟩);obtain⟨cC,d4,du⟩:=wV M 0 ⟨[],[],[],0⟩;have dH:=GH M 0 ⟨[],[],[],0⟩;have aT:=DT M 0 ⟨[],[],[],0⟩;simp only[List.length_nil] at cC d4 du dH aT;rw[II,show kL (M :: l)=l.foldl gB (dX M 0 ⟨[],[],[],0⟩) from D];refine⟨N,N,N,?_,?_⟩
  ·rw[Int.natCast_add];omega
  omega
theorem DR(l:List ND)(n:ND):kL (l++[n])=if l=[] then dX n 0 ⟨[],[],[],0⟩ else gB (kL l) n:=by
 cases l with
 |nil=>rfl
 |cons bm l=>rw[JZ ZH];show(l++[n]).foldl gB _=_;rw[MR];rfl
def ag1 (l:List ND) (W:L) (e:Ending) (W':L):Prop:=∃vi vc vl,e=.returned (.agg #[C E (codeOf l).regs,C E 0,vi,vc,vl])/\jm (λb=>W.heap.size<=b/\b < W'.heap.size) W' [C E (codeOf l).regs,C E 0,vi,vc,vl] (codeOf l)/\JK W.heap.size W W'
def CoL (l:List ND) (W W1:L) (g:Nat) (i:O) (wr:L):Prop:=
 ∃(r:Nat) (k:gK) (vi vc vl:O) (ci cc cl:List (List O)),r<=l.length/\i=C E r/\F (zF g g k vi vc vl ci cc cl wr)/\F (k=kL (l.take r))/\F (JK g W1 wr/\g<=wr.heap.size)
variable{v:O}
theorem GI{M:Nat}{W:L}{l:List ND}(h:dM (λb=>b < M) W v l)(ca:M<=W.heap.size)(bm:l≠[])(aT:∀n∈l,∃P,jZ P n=true)(bN:fU l<=100000):Calls Tryz.prog 51 #[v] W (ag1 l W):=by
 have f:=A h;have dr:=A aT;have cY:=A bN;have bH:=A ca;obtain⟨Y,a9,rfl,ef,dC,-⟩:=h;have eJ:l.length<=100000:=Ko (pG l) bN;have f3:0 < l.length:=List.length_pos_iff.2 bm;unfold maxLen at dC;clear aT bN ca bm ef;obtain⟨ae,ab⟩:∃ae,ae=W.heap.size+1:=⟨_,D⟩;have dj:=A ab;obtain⟨an,bk⟩:∃an,an=(W.alloc (JO #[C E 0,C E 0,G I 0 0,G I 0 0,G I 0 0] 55)).alloc (JO #[C E 0,C E 0,G I 0 0,G I 0 0,G I 0 0,C E 0] 207):=⟨_,D⟩;have aV:=A (show JK W.heap.size W an/\aj an W.heap.size 55 #[C E 0,C E 0,G I 0 0,G I 0 0,G I 0 0]/\aj an ae 207 #[C E 0,C E 0,G I 0 0,G I 0 0,G I 0 0,C E 0] by rw[bk,ab];refine⟨(JY.alloc c _).alloc ZH _,(aj.new _ _ _).alloc _,?_⟩;have a8:=aj.new (W.alloc (JO #[C E 0,C E 0,G I 0 0,G I 0 0,G I 0 0] 55)) 207 #[C E 0,C E 0,G I 0 0,G I 0 0,G I 0 0,C E 0];rw[KE] at a8;exact a8);clear ab;go_in;go_upto_region 2 with fail;rw[<-dj.out,<-bk];clear bk;have fT:(0:Int)<=(l.length:Int):=N;go_wp2_with fail;go_loopw [9] (λa3 wr=>CoL l W an ae a3 wr) (λa3 wr=>l.length-(intOf a3).toNat);case atStart=>exact⟨0,⟨[],[],[],0⟩,_,_,_,[],[],[],Kw _,D,A ⟨aV.2.2,Acc.nil _,Acc.nil _,Acc.nil _,KD _⟩,A D,A ⟨Ky _ _,KI aV.2.2.lt⟩⟩
 obtain⟨z,a0,em,aY,aM,dL,ai,dq,aS,rfl,cm,e3,b7⟩:=hrel;have ct:(0:Int)<=(z:Int):=N;have cu:(z:Int)<=100000:=N;by_cases bA:z < l.length
 ·have c0:(z:Int) < (l.length:Int):=N;obtain⟨dT,ek⟩:∃n,l[z]? =J n:=⟨_,Kr bA⟩;obtain⟨P,ag⟩:=dr.out dT (Kz ek);have aw:=A ag;have ao:=A ek;have dh:=A (Ad (l.take z));have eL:=A (show fU (l.take z)+aH dT<=100000 by have o:fU (l.take (z+1))=fU (l.take z)+aH dT:=qR aH ek;have a8:fU (l.take (z+1))<=fU l:=nO aH l (z+1);have ac:=cY.out;omega);rw[<-e3.out] at dh;have bp:=A (dM.keep f (aF.of_below (aV.1.trans (b7.1.mono (by rw[dj.out];omega))) λb d=>Kv d bH) (Q':=λb=>b < ae) λb d=>by have:=bH.out;have:=dj.out;omega);obtain⟨e,aP,q,ba,ar,S⟩:=dT;obtain⟨ff,fr,g3,cE,cP,af,-,-,b',bv,bo,bZ,c5,bG,co,fh⟩:=fC (dM.slr bp) ek;injection af with af aD cL;subst af cL;clear aD ag ek;have dy:0 < l.length:=N;have ds:=A (show ∀cf:Int,0<=cf->cf<=1->∀aL:gK,aL.ins.length<=100000->aL.cons.length<=100000->aL.list.length<=200000->cf+aH (.mk e aP q ba ar S)<=1000000/\aL.ins.length+aH (.mk e aP q ba ar S)<=1000000000/\aL.cons.length+aH (.mk e aP q ba ar S)<=1000000000/\aL.list.length+aH (.mk e aP q ba ar S)<=1000000000 from λcf o a8 aL ac b6 bz=>by have:=eL.out;omega);have dK:=A (show a0.ins.length<=100000/\a0.cons.length<=100000/\a0.list.length<=200000 by have:=dh.out;have:=eL.out;omega);have d8:=A b7.1.size;rcases e5:decide (0 < z) with _|_
  ·have g:=A (show z=0 by have:=Lr e5;omega);have aN:(if 1 < (z:Int) then 1 else(z:Int))=(z:Int):=by have:=g.out;split <;> omega
   have cR:=A (ds (z:Int) N (by have:=g.out;omega) a0 dK.1 dK.2.1 dK.2.2);have bU:=A (Hr (.mk e aP q ba ar S) ae ae wr _ (z:Int) a0 _ _ _ _ _ _ P fh aw ct cR.1 cR.2.1 cR.2.2.1 cR.2.2.2 cm);clear fh;go_wp2_with (go_at_call 84;(try rw[aN]);refine bU.mono ?_;rintro a7 b1 ⟨rfl,bV,c3,k,aQ,b5,b9,du,c9,a'⟩;have bb:=A du;have cj:=A (b7.1.trans c9);have ak:=A (Ko b7.2 c9.size);clear du c9 a');exact⟨⟨z+1,_,_,_,_,_,_,_,N,ZF,bb,A (by rw[take_one ao.out,DR,Kq (by rw[g.out];rfl),e3.out,g.out];rfl),A ⟨cj,ak.out⟩⟩,YF⟩
  have g:=A (Lu e5);have aN:(if 1 < (z:Int) then 1 else(z:Int))=1:=by have:=g.out;split <;> omega
  have bU:=A (Hr (.mk e aP q ba ar S) ae ae wr _ 1 a0 _ _ _ _ _ _ P fh aw Z (ds 1 Z Z a0 dK.1 dK.2.1 dK.2.2).1 (ds 1 Z Z a0 dK.1 dK.2.1 dK.2.2).2.1 (ds 1 Z Z a0 dK.1 dK.2.1 dK.2.2).2.2.1 (ds 1 Z Z a0 dK.1 dK.2.1 dK.2.2).2.2.2 cm);clear fh;go_upto_region 6 with(go_at_call 84;(try rw[aN]);refine bU.mono ?_;rintro a7 b1 ⟨rfl,bV,c3,k,aQ,b5,b9,du,c9,a'⟩;have bb:=A du;have cj:=A (b7.1.trans c9);have ak:=A (Ko b7.2 c9.size);clear du c9 a');clear b' bv bo bZ c5 bG co aN;obtain⟨b2,a'⟩:∃aa,aa=dX (.mk e aP q ba ar S) 1 a0:=⟨_,D⟩;rw[<-a'] at bb;have ad:=A a';have B:=A (show b2.list.length<=400000 by have o:=(wV (.mk e aP q ba ar S) 1 a0).2.2;rw[<-a'] at o;have:=dK.out;have:=eL.out;omega);clear a';obtain⟨dY,ch,rfl⟩:=aB bb.ins.1;obtain⟨c7,c6,rfl⟩:=aB bb.cons.1;obtain⟨di,bB,rfl⟩:=aB bb.list.1;obtain⟨al,am,ax,aW,T,bi,a5,a6,aq,aZ,aO,be⟩:=fK bb.blk;go_upto_region 8 with(at_builtin;refine fE tZ lD D (.tmp 27) (.tmp 29) D bb.out.list ak.out (cs:=[C E 13,C E 0,C E 0,C E 1]) (x:=⟨13,0,0,1⟩) D ⟨D,aA Z Z,aA Z Z,aA Z Z,aA Z Z⟩ Vh (by have:=B.out;omega) (by have:=B.out;unfold maxLen;omega) D D ?_;intro cD cX r bE bl c8;have V:=A (bb.out.aa5 (x:=⟨13,0,0,1⟩) bE bl);have b0:=bb.out.blk.grown bl.grown (cZ bb.out.list.1 bb.out.blk Z);have cc:=A (bl.app.below ae _ c ak.out JY);have c':=b0.frozen 4;have d7:=b0.cell 4;clear bE bl c8 b0);refine aI (Φ:=λX=>zF ae ae (b2.put ⟨13,0,0,1⟩) (G dY b2.ins.length ch) (G c7 b2.cons.length c6) (G cD (b2.list.length+1) cX) aQ b5 (b9++[[C E 13,C E 0,C E 0,C E 1]]) X/\JK ae an X/\ae<=X.heap.size) ⟨V.1,(aU.one _ ae 4 _).below _ _ c (cj.trans cc),by rw[MF];exact Ko ak cc.size⟩ ?_;intro av bz;have s:=A bz;clear bz V cc c' d7 al am ax aW T bi a5 a6 aq aZ aO be cj ak bb;go_wp2_with fail;exact⟨⟨z+1,b2.put ⟨13,0,0,1⟩,_,_,_,_,_,_,N,ZF,A s.1,A (by rw[take_one ao.out,DR,JZ (by intro a7;have o:=congrArg List.length a7;rw[Lc] at o;simp only[List.length_nil] at o;have:=g.out;omega),<-e3.out,ad.out];rfl),A s.2⟩,YF⟩
 have c0:(l.length:Int)<=(z:Int):=N;have dQ:=A (show a0=kL l by rw[e3.out,KN N]);have dh:=A (Ad l);rw[<-dQ.out] at dh;have fn:=A (show a0.list.length<=200000 by have:=dh.out;have:=cY.out;omega);obtain⟨dY,ch,rfl⟩:=aB cm.ins.1;obtain⟨c7,c6,rfl⟩:=aB cm.cons.1;obtain⟨di,bB,rfl⟩:=aB cm.list.1;obtain⟨al,am,ax,aW,T,bi,a5,a6,aq,aZ,aO,be⟩:=fK cm.blk;go_upto_region 10 with(at_builtin;refine fE tZ lD D (.tmp 40) (.tmp 42) D cm.out.list b7.out.2 (cs:=[C E 52,C E 0,C E 0,C E 0]) (x:=⟨52,0,0,0⟩) D ⟨D,aA Z Z,aA Z Z,aA Z Z,aA Z Z⟩ Vh (by have:=fn.out;omega) (by have:=fn.out;unfold maxLen;omega) D D ?_;intro cD cX r bE bl c8;have V:=A (cm.out.aa5 (x:=⟨52,0,0,0⟩) bE bl);have b0:=cm.out.blk.grown bl.grown (cZ cm.out.list.1 cm.out.blk Z);have cc:=A (bl.app.below ae _ c b7.out.2 JY);have c':=b0.frozen 4;have d7:=b0.cell 4;clear bE bl c8 b0);refine aI (Φ:=λX=>zF ae ae (a0.put ⟨52,0,0,0⟩) (G dY a0.ins.length ch) (G c7 a0.cons.length c6) (G cD (a0.list.length+1) cX) dL ai (dq++[[C E 52,C E 0,C E 0,C E 0]]) X/\JK ae an X/\ae<=X.heap.size) ⟨V.1,(aU.one _ ae 4 _).below _ _ c (b7.1.trans cc),by rw[MF];exact Ko b7.2 cc.size⟩ ?_;intro av bz;have s:=A bz;clear bz V cc c' d7 al am ax aW T bi a5 a6 aq aZ aO be cm;obtain⟨al,am,ax,aW,T,bi,a5,a6,aq,aZ,aO,be⟩:=fK s.1.blk;go_upto_region 11 with fail;refine aI (Φ:=λX=>aU ae av X/\aj X ae 207 #[C E a0.most,C E 0,G dY a0.ins.length ch,G c7 a0.cons.length c6,G cD (a0.list.length+1) cX,C E a0.most]) ⟨aU.one _ _ _ _,s.1.blk.bJ 0 _⟩ ?_;intro bt c4;have bs:=A c4;have j:=A (bs.1.blk _ _ _ (by have:=dj.out;omega) (aV.2.1.below s.2.1 (by have:=dj.out;omega)));clear c4 al am ax aW T bi a5 a6 aq aZ aO be;obtain⟨al,am,ax,aW,T,bi,a5,a6,aq,aZ,aO,be⟩:=fK bs.2;obtain⟨R,bd,bO,bY,cd⟩:=jO j;have cI:=j.frozen 0;have c1:=j.frozen 1;have bT:=j.frozen 2;have cB:=j.frozen 3;have dm:=j.frozen 4;go_wp2_with fail;refine pJ j D λcr az aE=>?_;refine Ku (au D D az Tryz.underlying55 D D) D ?_;have ah:=dQ.out;subst ah;have bA:=dj.out;have a1:∀{m:Nat} {a7:TypeId} {v:O} {n:Nat} {aC:List O},av.ownsRow ae a7 m v n aC->a7≠207->∀b,v.ownBlock=J b->ae<=b->b < av.heap.size->ae < b/\b < av.heap.size:=λaS bS b d o a8=>⟨by
  have ac:=cZ aS s.1.blk bS.symm;rcases KT ae b with b6|b6
  ·exact b6
  exact absurd (by rw[d];congr 1;omega) ac,a8⟩
 have y:aF (λb=>ae < b/\b < av.heap.size) av cr:=aF.trans (bs.1.keep _ λb d=>N) (aE.keep _ λb d=>N);have ay:cr.heap.size=av.heap.size:=aE.size.trans bs.1.size;have bL:∀b,ae < b/\b < av.heap.size->W.heap.size<=b/\b < cr.heap.size:=λb d=>⟨N,by rw[ay];exact d.2⟩;have o:aX (λb=>ae < b/\b < av.heap.size) 4 uZ av (G dY (kL l).ins.length ch) (kL l).ins:=bQ (show eF 4 uZ av dL (kL l).ins from s.1.ins.2) s.1.ins.1 (a1 s.1.ins.1 Z) (.inr trivial);have a8:aX (λb=>ae < b/\b < av.heap.size) 2 rU av (G c7 (kL l).cons.length c6) (kL l).cons:=bQ (show eF 2 rU av ai (kL l).cons from s.1.cons.2) s.1.cons.1 (a1 s.1.cons.1 Z) (.inr trivial);have ac:aX (λb=>ae < b/\b < av.heap.size) 4 vC av (G cD ((kL l).list.length+1) cX) ((kL l).list++[⟨52,0,0,0⟩]):=bQ (show eF 4 vC av (dq++[[C E 52,C E 0,C E 0,C E 0]]) ((kL l).list++[⟨52,0,0,0⟩]) from s.1.list.2) s.1.list.1 (a1 s.1.list.1 Z) (.inr trivial);refine⟨_,_,_,D,⟨_,_,_,D,aX.keep o y bL λ_ _ h=>h,aX.keep a8 y bL λ_ _ h=>h,aX.keep ac y bL λ_ _ h=>h,(show wfi (kL l).most from aA (by have:=dh.out;omega) (by have:=dh.out;have:=cY.out;omega)),(show wfi 0 from aA Z Z)⟩,?_⟩;exact aE.below _ _ c (bs.1.below _ _ N (aV.1.trans (s.2.1.mono N)))
def rO (Q:Nat->Prop) (w:L) (cs:List O) (b:rM):Prop:=∃v,cs=[C E b.ty,v]/\dM Q w v b.gd/\wfi b.ty
def Dc (Q:Nat->Prop) (w:L) (cs:List O) (e:rP):Prop:=∃vc vb,cs=[C E e.br,vc,vb]/\dM Q w vc e.cl/\aX Q 2 (rO Q) w vb e.bars/\wfi e.br
def StQ (Q:Nat->Prop) (w:L) (cs:List O) (s:jV):Prop:=
 ∃vb vl vg ve,cs=[C E s.par,C E s.ty,JM s.many,C E s.win,vb,vl,vg,ve]/\aX Q 2 (rO Q) w vb s.bars/\dM Q w vl s.leaves/\dM Q w vg s.guards/\aX Q 3 (Dc Q) w ve s.ends/\wfi s.par/\wfi s.ty/\wfi s.win
def acB (Q:Nat->Prop) (w:L) (cs:List O) (a:ER):Prop:=∃vk vs,cs=[C E a.strategy,vk,vs]/\aX Q 1 fF w vk a.keys/\aX Q 8 (StQ Q) w vs a.states/\wfi a.strategy
theorem fM:bZ rO:=λ_ _ _ _ _ _ ⟨bc,o,a8,ac⟩ ah a1=>⟨bc,o,a8.keep ah a1,ac⟩
theorem yj:bZ Dc:=λ_ _ _ _ _ _ ⟨aY,cn,o,a8,ac,b6⟩ ah a1=>⟨aY,cn,o,a8.keep ah a1,aX.keep ac ah a1 λ_ _ h=>fM _ _ _ _ _ _ h ah a1,b6⟩
theorem kN:bZ StQ:=λ_ _ _ _ _ _ ⟨cn,aM,cR,aO,o,a8,ac,b6,bz,c4⟩ ah a1=>⟨cn,aM,cR,aO,o,aX.keep a8 ah a1 λ_ _ h=>fM _ _ _ _ _ _ h ah a1,ac.keep ah a1,b6.keep ah a1,aX.keep bz ah a1 λ_ _ h=>yj _ _ _ _ _ _ h ah a1,c4⟩
variable{w w':L}{Q:Nat->Prop}
theorem acB.keep{Q':Nat->Prop}{cs:List O}{a:ER}(h:acB Q w cs a)(ah:aF Q w w')(a1:∀b,Q b->Q' b):acB Q' w' cs a:=by obtain⟨e1,a9,o,a8,ac,b6⟩:=h;exact⟨e1,a9,o,aX.keep a8 ah a1 λ_ _ h=>h,aX.keep ac ah a1 λ_ _ h=>kN _ _ _ _ _ _ h ah a1,b6⟩
theorem aeH:kH Tryz.prog 78 158 2 32:=kH.of (z:=.agg #[C E 0,G I 0 0]) Tryz.underlying78 U D Z
theorem pq(h:JK w.heap.size w w'):aF Q w w':=λaT u _ aw=>(h.cell (ay aw)).trans aw
variable{ps:List aO}{m:Nat}
theorem Bc{Y:Option Addr}{a9:Nat}(h:aX Q 4 (jo Q) w (G Y m a9) ps){k:Nat}{q:aO}(a1:ps[k]? =J q): ∃b off bu bP c7 c6,Y=J ⟨b,off,I⟩/\w.cell? ⟨b,off+k*4,I⟩=J (C E q.form)/\w.cell? ⟨b,off+k*4+1,I⟩=J (C E q.ty)/\w.cell? ⟨b,off+k*4+2,I⟩=J (G bu q.guards.length bP)/\w.cell? ⟨b,off+k*4+3,I⟩=J (G c7 q.closes.length c6)/\dM Q w (G bu q.guards.length bP) q.guards/\dM Q w (G c7 q.closes.length c6) q.closes/\wfi q.form/\wfi q.ty:=by obtain⟨cl,ch,af,-,-,ab⟩:=h;injection af with cE _ _;obtain⟨b,off,o,-,a8⟩:=ab (by have:=(KA.1 a1).1;omega);obtain⟨bj,-,⟨cR,aY,rfl,ac,b6,bz,c4⟩,aw⟩:=a8 k q a1;obtain⟨bu,bP,rfl,-,-⟩:=ac.out.slice;obtain⟨c7,c6,rfl,-,-⟩:=b6.out.slice;exact⟨b,off,bu,bP,c7,c6,cE.trans o,aw 0 _ D,aw 1 _ D,aw 2 _ D,aw 3 _ D,ac,b6,bz,c4⟩
theorem acQ(ps:List aO)(a:Nat):eX ps a a=[]:=by unfold eX;rw[List.drop_eq_nil_of_le Zm];rfl
theorem aa'{a n:Nat}{q:aO}(h:a<=n)(a1:ps[n]? =J q):eX ps a (n+1)=eX ps a n++[⟨q.ty,q.guards⟩]:=by
 have V:=(KA.1 a1).1;have a7:ps[n]=q:=by rw[Kr V] at a1;injection a1
 unfold eX;rw[ML V,List.drop_append_of_le_length Zm,KX,a7];rfl
theorem aez(a:Int)(Y:Option Addr)(n a9:Nat):∀u∈([C E a,G Y n a9]:List O),u.oneCell'=true:=by intro u ap;simp only[List.mem_cons,List.not_mem_nil,or_false] at ap;rcases ap with rfl|rfl <;> rfl
def af7 (ps:List aO) (a z:Nat) (W:L) (e:Ending) (W':L):Prop:=∃v css,e=.returned v/\Acc (W.heap.size+1) 158 2 rO W' v (eX ps a z) css/\JK W.heap.size W W'
def af6 (ps:List aO) (a z:Nat) (bb:Array O) (W:L) (v i:O) (wr:L):Prop:=
 ∃(n:Nat) (css:List (List O)),a<=n/\n<=z/\i=C E n/\F (Acc (W.heap.size+1) 158 2 rO wr v (eX ps a n) css)/\F (JK W.heap.size W wr/\aj wr W.heap.size 72 bb)
theorem Gn{W:L}{Y:Option Addr}{a9:Nat}(id win:Int){a z:Nat}(h:aX Q 4 (jo Q) W (G Y ps.length a9) ps)(e:a<=z)(cv:z<=ps.length)(dy:ps.length<=8)(bN:(ps.map gJ).sum<=100000): Calls Tryz.prog 23 #[.agg #[C E id,C E win,G Y ps.length a9],C E a,C E z] W (af7 ps a z W):=by
 have f:=A h;have eL:=A bN;obtain⟨an,bk⟩:∃an,an=W.alloc (JO #[C E id,C E win,G Y ps.length a9] 72):=⟨_,D⟩;have aV:=SL;clear h bN;go_in;go_upto_region 1 with fail;rw[<-bk];clear bk;have bJ:(0:Int)<=(a:Int):=N;have i:(z:Int)<=8:=N;go_wp2_with fail;go_loopw [7,8] (λbc a3 wr=>af6 ps a z #[C E id,C E win,G Y ps.length a9] W bc a3 wr) (λbc a3 wr=>z-(intOf a3).toNat);case atStart=>exact⟨a,[],KD _,e,D,A (by rw[acQ];exact Acc.nil _),aV⟩
 clear aV;obtain⟨M,cA,ab,ae,rfl,cy,b7⟩:=hrel;have ct:(0:Int)<=(M:Int):=N;by_cases bA:M < z
 ·have c0:(M:Int) < (z:Int):=N;have e1:(M:Int) < (ps.length:Int):=N;obtain⟨m,a1⟩:∃m,ps[M]? =J m:=⟨_,Kr N⟩;obtain⟨aJ,b5,bu,bP,c7,c6,cE,-,bv,bo,-,cz,-,-,bh⟩:=Bc f a1;subst cE;have bB:=A a1;have bq:=A bh;have b:=A (show ∀X,JK W.heap.size W X->X.cell? ⟨aJ,b5+M*4+1,I⟩=J (C E m.ty)/\X.cell? ⟨aJ,b5+M*4+2,I⟩=J (G bu m.guards.length bP)/\bU 7 qg X (G bu m.guards.length bP) m.guards from λX az=>⟨(az.cell (ay bv)).trans bv,(az.cell (ay bo)).trans bo,(cz.keep (pq az) λ_ h=>h).out⟩);have ds:=A (show(m.guards.map aH).sum<=100000 by have o:=fB gJ a1;have a8:=eL.out;have ac:fU m.guards=(m.guards.map aH).sum:=D;have b6:fU m.guards<=gJ m:=YU;omega);obtain⟨cT,bS,bp⟩:=aB cy.1;subst bp;clear a1 bh bv bo cz;go_upto_region 5 with fail;obtain⟨R,bg⟩:∃b4,b4=World.drew wr:=⟨_,D⟩;have be:=Tq;have bC:=A (show JK W.heap.size W R/\aj R W.heap.size 72 #[C E id,C E win,G (J ⟨aJ,b5,I⟩) ps.length a9] from⟨b7.1.trans (be.mono b7.1.size),b7.2.below be b7.2.lt⟩);have f7:=A (Acc.below fM cy be);have dB:=A (show(eX ps a M).length<=8 from Ko (zL ps a M) dy);have f:=A (show R.cell? ⟨W.heap.size,2,I⟩=J (G (J ⟨aJ,b5,I⟩) ps.length a9)/\R.cell? ⟨aJ,b5+M*4+1,I⟩=J (C E m.ty)/\R.cell? ⟨aJ,b5+M*4+2,I⟩=J (G bu m.guards.length bP) from⟨bC.2.cell 2,(b R bC.1).1,(b R bC.1).2.1⟩);refine aG (λX=>X.cell? ⟨W.heap.size,2,I⟩=J (G (J ⟨aJ,b5,I⟩) ps.length a9)/\X.cell? ⟨aJ,b5+M*4+1,I⟩=J (C E m.ty)/\X.cell? ⟨aJ,b5+M*4+2,I⟩=J (G bu m.guards.length bP)) (λa4=>!([0,1,2,3,4,5,6,7,8,9,10,11,12,13,14,15,16]:List Nat).contains a4) U ?_;rw[<-bg];clear bg;refine tl 0 f ?_;refine tl 1 f ?_;refine tl 2 f ?_;refine tl 3 f ?_;refine tl 4 f ?_;refine tl 5 f ?_;refine tl 6 f ?_;refine tl 7 f ?_;refine tl 8 f ?_;refine tl 9 f ?_;refine tl 10 f ?_;refine tl 11 f ?_;refine tl 12 f ?_;refine t1 13 λK j=>?_;go_simp;go_wp2_with (go_at_call 22;refine(jT 100000 m.guards ds Z R _ (b R bC.1).2.2).mono ?_;rintro a7 r ⟨cR,rfl,dp,cG⟩);obtain⟨V,ag,rfl,-,-⟩:=dp.out.slice;have dA:=A dp;have cc:=A (show JK W.heap.size W r/\aj r W.heap.size 72 #[C E id,C E win,G (J ⟨aJ,b5,I⟩) ps.length a9] from⟨bC.1.trans (cG.mono bC.1.size),bC.2.below cG bC.2.lt⟩);have bz:=A (Acc.below fM f7 cG);have g:=A (show ∀y,R.heap.size<=y->J y≠(Value.slice cT (eX ps a M).length bS).ownBlock from λy d a7=>by have:=(aQ f7.1 a7.symm).1;omega);have f:=A (show r.cell? ⟨W.heap.size,2,I⟩=J (G (J ⟨aJ,b5,I⟩) ps.length a9)/\r.cell? ⟨aJ,b5+M*4+1,I⟩=J (C E m.ty)/\r.cell? ⟨aJ,b5+M*4+2,I⟩=J (G bu m.guards.length bP) from⟨cc.2.cell 2,(b r cc.1).1,(b r cc.1).2.1⟩);clear dp cG;(refine j.out _ _ (λ_=>f) ?_;clear j K);refine tl 14 f ?_;refine t1 15 λK j=>?_;go_simp;have ak:=A (show JK r.heap.size r (r.alloc (JO #[C E m.ty,G V m.guards.length ag] 158)) from JY.alloc c _);have dv:=A (show JK W.heap.size W (r.alloc (JO #[C E m.ty,G V m.guards.length ag] 158))/\aj (r.alloc (JO #[C E m.ty,G V m.guards.length ag] 158)) W.heap.size 72 #[C E id,C E win,G (J ⟨aJ,b5,I⟩) ps.length a9] from⟨cc.1.trans (ak.mono cc.1.size),cc.2.below ak cc.2.lt⟩);refine j.out _ _ (λ_=>(show(r.alloc (JO #[C E m.ty,G V m.guards.length ag] 158)).cell? ⟨W.heap.size,2,I⟩=J (G (J ⟨aJ,b5,I⟩) ps.length a9)/\(r.alloc (JO #[C E m.ty,G V m.guards.length ag] 158)).cell? ⟨aJ,b5+M*4+1,I⟩=J (C E m.ty)/\(r.alloc (JO #[C E m.ty,G V m.guards.length ag] 158)).cell? ⟨aJ,b5+M*4+2,I⟩=J (G bu m.guards.length bP) from⟨dv.2.cell 2,(b _ dv.1).1,(b _ dv.1).2.1⟩)) ?_;clear j K;refine aC (Φ:=λX=>(JK r.heap.size r X/\aj X r.heap.size 158 #[C E m.ty,G V m.guards.length ag])/\JK W.heap.size W X/\aj X W.heap.size 72 #[C E id,C E win,G (J ⟨aJ,b5,I⟩) ps.length a9]) ⟨⟨ak,aj.new _ _ _⟩,dv.out⟩ ?_;intro cj h;have a2:=A h.1;have aR:=A h.2;have f:=A (show cj.cell? ⟨W.heap.size,2,I⟩=J (G (J ⟨aJ,b5,I⟩) ps.length a9)/\cj.cell? ⟨aJ,b5+M*4+1,I⟩=J (C E m.ty)/\cj.cell? ⟨aJ,b5+M*4+2,I⟩=J (G bu m.guards.length bP) from⟨aR.2.cell 2,(b _ aR.1).1,(b _ aR.1).2.1⟩);clear h ak dv;refine t1 16 λK j=>?_;have fw:(((eX ps a M).length:Int) < ((eX ps a M).length:Int)+1):=N;refine gX aeH fM D (.tmp 15) (.tmp 30) D bz.out cc.out.2.lt (cs:=[C E m.ty,G V m.guards.length ag]) (x:=⟨m.ty,m.guards⟩) D ⟨_,D,dA.out.keep (λ_ _ _ h=>h) λy d=>⟨by have:=bC.out.2.lt;omega,d.2,g.out y d.1⟩,bq.out⟩ (aez _ _ _ _) a2.out.2 a2.out.1 c Yl WJ D D ?_;intro cD cX bt bE bl c8;have t:=A bE;have dc:=A (show JK W.heap.size W bt/\aj bt W.heap.size 72 #[C E id,C E win,G (J ⟨aJ,b5,I⟩) ps.length a9] from⟨aR.1.grown bl.grown aR.1.size λa0 ah=>by have:=bl.ge a0 ah;omega,aR.2.grown bl.grown λa7=>Xe⟩);have f:=A (show bt.cell? ⟨W.heap.size,2,I⟩=J (G (J ⟨aJ,b5,I⟩) ps.length a9)/\bt.cell? ⟨aJ,b5+M*4+1,I⟩=J (C E m.ty)/\bt.cell? ⟨aJ,b5+M*4+2,I⟩=J (G bu m.guards.length bP) from⟨dc.2.cell 2,(b bt dc.1).1,(b bt dc.1).2.1⟩);clear bE bl c8;(refine j.out _ _ (λ_=>f) ?_;clear j K);refine tp 17 ?_;refine td ?_;try simp only[Exit.then]
  go_wp2_with fail;exact⟨⟨M+1,_,N,N,ZF,A (by rw[aa' ab bB.out];exact t),dc⟩,YF⟩
 have c0:(z:Int)<=(M:Int):=N;obtain rfl:M=z:=N;go_wp2_with fail;go_ret;exact⟨_,cA,D,cy,b7.1⟩
def aaD (N:Nat->Prop) (Q:Nat->Prop) (w:L) (cs:List O) (x:aW):Prop:=jm (λb=>Q b/\¬N b) w cs x
def Dk (u:O) (Q:Nat->Prop) (w:L) (cs:List O) (x:fD):Prop:=vF (λb=>Q b/\J b≠u.ownBlock) w cs x
def yM (u:O) (Q:Nat->Prop) (w:L) (cs:List O) (x:iF):Prop:=lT (λb=>Q b/\J b≠u.ownBlock) w cs x
def StopR (_:Nat->Prop) (w:L) (cs:List O) (x:jg):Prop:=jR w cs x
theorem pF(m:Nat->Prop):bZ (aaD m):=λ_ _ _ _ _ _ h ah a1=>jm.keep h (λaT bc ai aw=>ah aT bc ai.1 aw) λy d=>⟨a1 y d.1,d.2⟩
theorem vJ(u:O):bZ (Dk u):=λ_ _ _ _ _ _ h ah a1=>vF.keep h (λaT bc ai aw=>ah aT bc ai.1 aw) λy d=>⟨a1 y d.1,d.2⟩
theorem yS(u:O):bZ (yM u):=λ_ _ _ _ _ _ h ah a1=>lT.keep h (λaT bc ai aw=>ah aT bc ai.1 aw) λy d=>⟨a1 y d.1,d.2⟩
theorem yR:bZ StopR:=λ_ _ _ _ _ _ h _ _=>h
theorem acZ:kH Tryz.prog 42 55 5 88:=kH.of (z:=.agg #[C E 0,C E 0,G I 0 0,G I 0 0,G I 0 0]) Tryz.underlying42 U D Z
theorem ac2:kH Tryz.prog 85 160 2 16:=kH.of (z:=.agg #[C E 0,C E 0]) Tryz.underlying85 U D Z
theorem ac3:kH Tryz.prog 89 93 3 40:=kH.of (z:=.agg #[C E 0,C E 0,G I 0 0]) Tryz.underlying89 U D Z
theorem aeJ:kH Tryz.prog 41 91 8 96:=kH.of (z:=.agg #[C E 0,C E 0,JM false,C E 0,G I 0 0,C E 0,C E 0,G I 0 0]) Tryz.underlying41 U D Z
structure nY (bt:Nat) (Z:Nat->Prop) (vc vc':O) (w w':L):Prop where
 bel:JK bt w w'
 block:∀g,g < w.heap.size->g≠bt->J g≠vc.ownBlock->¬Z g->w'.heap[g]? =w.heap[g]?
 own:∀g,vc'.ownBlock=J g->vc.ownBlock=J g\/w.heap.size<=g
def NoZ (_:Nat):Prop:=False
variable{B g:Nat}
section
variable {bt:Nat} {Z Z':Nat->Prop} {v1 v2 v3:O} {w2:L} {t:TypeId} {cs:Array O}
theorem nY.refl(ba:Nat)(v:O)(w:L):nY ba Z v v w w:=⟨Ky _ _,λ_ _ _ _ _=>rfl,λ_ h=>.inl h⟩
theorem nY.trans(h:nY bt Z v1 v2 w w')(k:nY bt Z v2 v3 w' w2):nY bt Z v1 v3 w w2:=by
 refine⟨h.bel.trans k.bel,λae o a8 ac bz=>(k.block ae (Kv o h.bel.size) a8 (λa7=>?_) bz).trans (h.block ae o a8 ac bz),λae ab=>?_⟩
 ·rcases h.own ae a7.symm with b6|b6
  ·exact ac b6.symm
  omega
 rcases k.own ae ab with o|o
 ·exact h.own ae o
 exact .inr (Ko h.bel.size o)
theorem nY.weak(h:nY bt Z v1 v2 w w')(cv:∀b,b < w.heap.size->Z b->Z' b):nY bt Z' v1 v2 w w':=⟨h.bel,λae o a8 ac bz=>h.block ae o a8 ac λh=>bz (cv ae o h),h.own⟩
theorem nY.none(h:nY bt NoZ v1 v2 w w'):nY bt Z v1 v2 w w':=h.weak λ_ _ h=>h.elim
theorem nY.of_below(v:O)(h:JK w.heap.size w w')(d:bt<=w.heap.size):nY bt Z v v w w':=⟨h.mono d,λae o _ _ _=>h.block ae o,λ_ h=>.inl h⟩
theorem nY.up(h:nY bt Z v1 v2 w w')(d:JK w.heap.size w' w2)(a':bt<=w.heap.size):nY bt Z v1 v2 w w2:=⟨h.bel.trans (d.mono a'),λae o a8 ac b6=>(d.block ae o).trans (h.block ae o a8 ac b6),h.own⟩
theorem nY.blk(k:nY bt Z v1 v2 w w')(d:aj w g t cs)(ab:g≠bt)(af:J g≠v1.ownBlock)(cv:¬Z g):aj w' g t cs:=by have h:=k.block g d.lt ab af cv;unfold aj at d⊢;exact h.trans d
theorem Acc.cd{q:Type}{e:TypeId}{R R':(Nat->Prop)->L->List O->q->Prop}{xs:List q}{css:List (List O)}(h:Acc B e m R w v xs css)(k:nY bt Z v1 v2 w w')(d:bt < B)(af:∀g,v.ownBlock=J g->J g≠v1.ownBlock)(cv:∀g,v.ownBlock=J g->¬Z g)(f:∀cs x,R (QA B v w) w cs x->R' (QA B v w') w' cs x):Acc B e m R' w' v xs css:=
 ⟨sU h.1 λg ab=>k.block g (aQ h.1 ab).1 (by have:=(aQ h.1 ab).2;omega) (af g ab) (cv g ab),h.2.keep λcs x ad=>f cs x ad⟩
theorem nY.keep(k:nY bt Z v1 v2 w w')(h:∀b,Q b->b < w.heap.size/\b≠bt/\J b≠v1.ownBlock/\¬Z b):aF Q w w':=λaT u a1 ai=>(KJ (k.block aT.block (h _ a1).1 (h _ a1).2.1 (h _ a1).2.2.1 (h _ a1).2.2.2)).trans ai
theorem nY.off(k:nY bt Z v1 v2 w w'){b:Nat}(o:b < w.heap.size)(a8:J b≠v1.ownBlock):J b≠v2.ownBlock:=λa7=>by
 rcases k.own b a7.symm with h|h
 ·exact a8 h.symm
 omega
theorem Dk.cd{cs:List O}{x:fD}(h:Dk v1 (QA B v w) w cs x)(k:nY bt Z v1 v2 w w')(d:bt < B)(cv:∀b,B<=b->b < w.heap.size->¬Z b):Dk v2 (QA B v w') w' cs x:=
 vF.keep h (k.keep λb d=>⟨d.1.2.1,Yv,d.2,cv b d.1.1 d.1.2.1⟩) λb d=>⟨⟨d.1.1,Kv d.1.2.1 k.bel.size,d.1.2.2⟩,k.off d.1.2.1 d.2⟩
theorem yM.cd{cs:List O}{x:iF}(h:yM v1 (QA B v w) w cs x)(k:nY bt Z v1 v2 w w')(d:bt < B)(cv:∀b,B<=b->b < w.heap.size->¬Z b):yM v2 (QA B v w') w' cs x:=
 lT.keep h (k.keep λb d=>⟨d.1.2.1,Yv,d.2,cv b d.1.1 d.1.2.1⟩) λb d=>⟨⟨d.1.1,Kv d.1.2.1 k.bel.size,d.1.2.2⟩,k.off d.1.2.1 d.2⟩
def aa4 (B:Nat) (u:O) (w:L) (v:O) (l:List jg):Prop:=aX (λb=>B<=b/\b < w.heap.size/\J b≠u.ownBlock) 2 jR w v l
theorem aa4.cd{l:List jg}(h:aa4 B v1 w v l)(k:nY bt Z v1 v2 w w')(d:bt < B)(cv:∀b,B<=b->b < w.heap.size->¬Z b):aa4 B v2 w' v l:=
 aX.keep h (k.keep λb d=>⟨d.2.1,YN,d.2.2,cv b d.1 d.2.1⟩) (λb d=>⟨d.1,Kv d.2.1 k.bel.size,k.off d.2.1 d.2.2⟩) λ_ _ h=>h
end
structure qV (B bt:Nat) (a0 a1 a2 a3 a4 a5 a6:O) (N:Nat->Prop) (cs:List aW) (vc:O) (w:L):Prop where
 blk:aj w bt 44 #[a0,a1,a2,a3,a4,a5,a6,vc]
 acc:∃css,Acc B 55 5 (aaD N) w vc cs css
 lt:bt < B
 low:B<=w.heap.size
 off:∀g,N g->g < w.heap.size/\g≠bt/\J g≠vc.ownBlock
section
variable {bt:Nat} {a0 a1 a2 a3 a4 a5 a6 vc v':O} {N N':Nat->Prop} {cs:List aW} {x:aW} {w3:L} {css':List (List O)}
theorem qV.app(h:qV B bt a0 a1 a2 a3 a4 a5 a6 N cs vc w)(ag:w.heap.size<=w'.heap.size)(d:∀g,g < w.heap.size->¬N g->w'.heap[g]? =w.heap[g]?)(p:∀b,b < w.heap.size->N' b->N b)(br:∀b,N' b->b < w'.heap.size):qV B bt a0 a1 a2 a3 a4 a5 a6 N' cs vc w':=by
 obtain⟨cA,aJ⟩:=h.acc;have af:¬N bt:=λa7=>(h.off bt a7).2.1 D;refine⟨?_,⟨cA,sU aJ.1 λg ab=>d g (aQ aJ.1 ab).1 λa7=>(h.off g a7).2.2 ab.symm,aJ.2.keep λcs aa ad=>jm.keep ad (λaT u ai aw=>(KJ (d aT.block ai.1.2.1 ai.2)).trans aw) λb d=>⟨⟨d.1.1,Kv d.1.2.1 ag,d.1.2.2⟩,λa7=>d.2 (p b d.1.2.1 a7)⟩⟩,h.lt,Ko h.low ag,λg ab=>⟨br g ab,λa7=>af (p bt h.blk.lt (a7▸ab)),λa7=>?_⟩⟩
 ·have o:=h.blk;have a8:=d bt h.blk.lt af;unfold aj at o⊢;exact a8.trans o
 have o:=aQ aJ.1 a7.symm;exact(h.off g (p g o.1 ab)).2.2 a7
theorem qV.below(h:qV B bt a0 a1 a2 a3 a4 a5 a6 N cs vc w)(d:JK w.heap.size w w'):qV B bt a0 a1 a2 a3 a4 a5 a6 N cs vc w':=h.app d.size (λae o _=>d.block ae o) (λ_ _ h=>h) λy p=>Kv (h.off y p).1 d.size
theorem qV.to(h:qV B bt a0 a1 a2 a3 a4 a5 a6 N cs vc w)(p:∀b,N' b->N b):qV B bt a0 a1 a2 a3 a4 a5 a6 N' cs vc w:=h.app c (λ_ _ _=>rfl) (λb _ d=>p b d) λb d=>(h.off b (p b d)).1
theorem qV.slice(h:qV B bt a0 a1 a2 a3 a4 a5 a6 N cs vc w):∃Y a9,vc=G Y cs.length a9:=by obtain⟨cA,aJ⟩:=h.acc;exact aB aJ.1
theorem qV.own(h:qV B bt a0 a1 a2 a3 a4 a5 a6 N cs vc w)(ab:vc.ownBlock=J g):g < w.heap.size/\B<=g:=by obtain⟨cA,aJ⟩:=h.acc;exact aQ aJ.1 ab
theorem qV.apart(h:qV B bt a0 a1 a2 a3 a4 a5 a6 N cs vc w){b n:Nat}{e:TypeId}{aC:List O}(k:w.ownsRow b e m v n aC)(bS:e≠55):∀g,v.ownBlock=J g->J g≠vc.ownBlock:=by obtain⟨cA,aJ⟩:=h.acc;exact iI k aJ.1 bS
theorem qV.typed(h:qV B bt a0 a1 a2 a3 a4 a5 a6 N cs vc w){t:TypeId}{db:Array O}(k:aj w g t db)(bS:t≠55):J g≠vc.ownBlock:=by obtain⟨cA,aJ⟩:=h.acc;exact cZ aJ.1 k bS
theorem qV.put(h:qV B bt a0 a1 a2 a3 a4 a5 a6 N cs vc w)(d:JK w.heap.size w w')(bE:Acc B 55 5 (aaD N) w3 v' (cs++[x]) css')(ab:jk B vc w' w3)(c8:∀g,v'.ownBlock=J g->vc.ownBlock=J g\/w'.heap.size<=g): qV B bt a0 a1 a2 a3 a4 a5 a6 N (cs++[x]) v' (w3.setCell ⟨bt,7,I⟩ v')/\nY bt NoZ vc v' w (w3.setCell ⟨bt,7,I⟩ v'):=by
 have j:=h.below d;have ay:(w3.setCell ⟨bt,7,I⟩ v').heap.size=w3.heap.size:=MF _ _ _;have bm:J bt≠vc.ownBlock:=λa7=>by have:=ab.ge bt a7.symm;have:=h.lt;omega
 have ah:=j.blk.grown ab.grown bm;refine⟨⟨ah.bJ 7 _,⟨css',bE.up (pF N) (yE h.lt)⟩,h.lt,by rw[ay];exact Ko j.low ab.grown.size,λg ap=>⟨by rw[ay];exact Kv (j.off g ap).1 ab.grown.size,(h.off g ap).2.1,λa7=>?_⟩⟩,?_,λg o a8 ac _=>?_,λg af=>?_⟩
 ·rcases c8 g a7.symm with o|o
  ·exact(h.off g ap).2.2 o.symm
  have:=(j.off g ap).1;omega
 ·have a8:=ab.app.below B w' c j.low JY;exact(aU.one w3 bt 7 v').below _ _ c ((d.mono (KI (Kv h.lt h.low))).trans (a8.mono (KI h.lt)))
 ·exact(La _ _ _ _ (by show g≠bt;exact a8)).trans ((ab.grown.block g (Kv o d.size) ac).trans (d.block g o))
 rcases c8 g af with o|o
 ·exact .inl o
 exact .inr (Ko d.size o)
end
theorem qM(cs:List aW)(l:List ND):(dR cs l).2.length<=cs.length+1:=by
 cases l with
 |nil=>exact Ld _
 |cons M l=>show(cs++[_]).length<=_;rw[KC];exact KD _
theorem uD{cs:List aW}(l:List ND)(h:cs.length<=1000000):wfi (dR cs l).1:=by
 cases l with
 |nil=>exact(show wfi (-1) from aA Z Z)
 |cons M l=>exact ji.2 (by show _<=(cs.length:Int)/\(cs.length:Int)<=_;omega)
theorem lH:∀(P:List rM) (aw:List jg×List aW),(P.foldl iU aw).2.length<=aw.2.length+P.length/\(P.foldl iU aw).1.length=aw.1.length+P.length
 | [],aw=>⟨KD _,D⟩
 |b :: P,aw=>by
  obtain⟨o,a8⟩:=lH P (iU aw b)
  have ac:=qM aw.2 b.gd
  have b3:(iU aw b).2=(dR aw.2 b.gd).2:=D
  have bh:(iU aw b).1.length=aw.1.length+1:=Wv
  rw[LU,MI]
  rw[b3] at o
  rw[bh] at a8
  omega
def LOk (l:List ND):Prop:=(∀n∈l,∃P,jZ P n=true)/\fU l<=100000

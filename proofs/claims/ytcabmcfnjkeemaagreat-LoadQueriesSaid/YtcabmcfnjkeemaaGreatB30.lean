import Derived.Test.YtcabmcfnjkeemaaGreatBM00
import Derived.Test.YtcabmcfnjkeemaaGreatB29
set_option maxRecDepth 100000
set_option maxHeartbeats 40000000
set_option linter.unusedVariables false
set_option linter.unusedSimpArgs false
namespace Go.Proofs.YtcabmcfnjkeemaaGreat
open Go.RowKit
open Go renaming World->L,Value->O
open Go.IntKind renaming i64->E
open Go.Obj renaming cells->JO
open Go.RowKit renaming Below->JK
open Go.Value renaming int->C,slice->G,bool->JM
open Option renaming none->I,some->J
variable{w:L}
theorem acg{Q:Nat->Prop}{Y:Option Addr}{m a9:Nat}{l:List jV}(h:aX Q 8 (StQ Q) w (G Y m a9) l){k:Nat}{s:jV}(ag:l[k]? =J s): ∃b off dw cq bq cT bO cg aW q,Y=J ⟨b,off,I⟩/\w.cell? ⟨b,off+k*8,I⟩=J (C E s.par)/\w.cell? ⟨b,off+k*8+1,I⟩=J (C E s.ty)/\w.cell? ⟨b,off+k*8+2,I⟩=J (JM s.many)/\w.cell? ⟨b,off+k*8+3,I⟩=J (C E s.win)/\w.cell? ⟨b,off+k*8+4,I⟩=J (G dw s.bars.length cq)/\w.cell? ⟨b,off+k*8+5,I⟩=J (G bq s.leaves.length cT)/\w.cell? ⟨b,off+k*8+6,I⟩=J (G bO s.guards.length cg)/\w.cell? ⟨b,off+k*8+7,I⟩=J (G aW s.ends.length q)/\aX Q 2 (rO Q) w (G dw s.bars.length cq) s.bars/\dM Q w (G bq s.leaves.length cT) s.leaves/\dM Q w (G bO s.guards.length cg) s.guards/\aX Q 3 (Dc Q) w (G aW s.ends.length q) s.ends/\wfi s.par/\wfi s.ty/\wfi s.win:=by obtain⟨cl,ch,af,-,-,ab⟩:=h;injection af with cE _ _;obtain⟨b,off,o,-,a8⟩:=ab (by have:=(KA.1 ag).1;omega);obtain⟨bj,-,⟨dY,es,g6,eV,rfl,cC,d4,du,dH,aT⟩,aw⟩:=a8 k s ag;obtain⟨dw,cq,rfl,-,-⟩:=id cC;obtain⟨bq,cT,rfl,-,-⟩:=id d4;obtain⟨bO,cg,rfl,-,-⟩:=id du;obtain⟨aW,q,rfl,-,-⟩:=id dH;exact⟨b,off,dw,cq,bq,cT,bO,cg,aW,q,cE.trans o,aw 0 _ D,aw 1 _ D,aw 2 _ D,aw 3 _ D,aw 4 _ D,aw 5 _ D,aw 6 _ D,aw 7 _ D,cC,d4,du,dH,aT⟩
theorem aeL{Q:Nat->Prop}{Y:Option Addr}{m a9:Nat}{l:List rP}(h:aX Q 3 (Dc Q) w (G Y m a9) l){k:Nat}{s:rP}(ag:l[k]? =J s): ∃b off dw cq bq cT,Y=J ⟨b,off,I⟩/\w.cell? ⟨b,off+k*3,I⟩=J (C E s.br)/\w.cell? ⟨b,off+k*3+1,I⟩=J (G dw s.cl.length cq)/\w.cell? ⟨b,off+k*3+2,I⟩=J (G bq s.bars.length cT)/\dM Q w (G dw s.cl.length cq) s.cl/\aX Q 2 (rO Q) w (G bq s.bars.length cT) s.bars/\wfi s.br:=by obtain⟨cl,ch,af,-,-,ab⟩:=h;injection af with cE _ _;obtain⟨b,off,o,-,a8⟩:=ab (by have:=(KA.1 ag).1;omega);obtain⟨bj,-,⟨dY,es,rfl,cC,d4,du⟩,aw⟩:=a8 k s ag;obtain⟨dw,cq,rfl,-,-⟩:=id cC;obtain⟨bq,cT,rfl,-,-⟩:=id d4;exact⟨b,off,dw,cq,bq,cT,cE.trans o,aw 0 _ D,aw 1 _ D,aw 2 _ D,cC,d4,du⟩
structure IW (s:jV):Prop where
 AX:s.bars.length<=8
 bars:∀b∈s.bars,LOk b.gd
 leaves:LOk s.leaves
 guards:LOk s.guards
 Ei:s.ends.length<=1
 ends:∀e∈s.ends,LOk e.cl/\e.bars.length<=8/\∀b∈e.bars,LOk b.gd
theorem uF:∀(f:List rP) (aw:List iF×List aW),(∀e∈f,e.bars.length<=8)->(f.foldl mV aw).2.length<=aw.2.length+9*f.length/\(f.foldl mV aw).1.length=aw.1.length+f.length
 | [],aw,_=>⟨KD _,D⟩
 |e :: f,aw,h=>by
  obtain⟨o,a8⟩:=uF f (mV aw e) λaa ad=>h aa Zz
  have ac:=qM aw.2 e.cl
  have b6:=(lH e.bars ([],(dR aw.2 e.cl).2)).1
  have bz:=h e ZH
  have b3:(mV aw e).2=(e.bars.foldl iU ([],(dR aw.2 e.cl).2)).2:=D
  have bh:(mV aw e).1.length=aw.1.length+1:=Wv
  simp only at b6
  rw[LU,MI]
  rw[b3] at o
  rw[bh] at a8
  omega
theorem Ii{s:jV}(h:IW s)(cs:List aW):(dU cs s.bars).2.length<=cs.length+8/\(gU cs s).2.length<=cs.length+9/\(iC cs s).2.length<=cs.length+10/\(uO cs s).2.length<=cs.length+19:=by have o:=(lH s.bars ([],cs)).1;have a8:=qM (dU cs s.bars).2 s.leaves;have ac:=qM (gU cs s).2 s.guards;have b6:=(uF s.ends ([],(iC cs s).2) λa7 bS=>(h.ends a7 bS).2.1).1;have bz:=h.AX;have c4:=h.Ei;have b3:(dU cs s.bars).2=(s.bars.foldl iU ([],cs)).2:=D;have bh:(uO cs s).2=(s.ends.foldl mV ([],(iC cs s).2)).2:=D;have ca:(gU cs s).2=(dR (dU cs s.bars).2 s.leaves).2:=D;have dc:(iC cs s).2=(dR (gU cs s).2 s.guards).2:=D;simp only at o b6;rw[<-b3] at o;rw[<-bh] at b6;rw[<-ca] at a8;rw[<-dc] at ac;omega
theorem yU{l:List jV}(h:∀s∈l,IW s):∀n,n<=l.length->(bI (l.take n)).2.length<=19*n/\(bI (l.take n)).1.length=n:=by
 intro n;induction n with
 |zero=>intro _;exact⟨KD _,D⟩
 |succ n bf=>intro V;obtain⟨e9,ea⟩:=bf N;obtain⟨s,ag⟩:∃s,l[n]? =J s:=⟨_,Kr N⟩;have o:=(Ii (h s (Kz ag)) (bI (l.take n)).2).2.2.2;rw[mF l ag];unfold pU;rw[KC];simp only[List.length_cons,List.length_nil];omega
structure FV (B bt:Nat) (a0 a1 a2 a3 a4 a5 vs vc0:O) (wr:L) (c13 cx:Array O) (bx:Option Nat) (v:O) (l:List jg) (cs:List aW) (vc:O) (X:L):Prop where
 tb:qV B bt a0 a1 a2 a3 a4 a5 vs (λb=>J b=vs.ownBlock\/bx=J b) cs vc X
 cd:nY bt NoZ vc0 vc wr X
 b13:aj X wr.heap.size 81 c13
 sp:aX (λb=>wr.heap.size<=b/\b < X.heap.size/\J b≠vc.ownBlock/\bx≠J b) 2 jR X v l
 bx:∀b,bx=J b->aj X b 91 cx/\wr.heap.size < b
 lt:bt < wr.heap.size
variable{X wr:L}{cs:List aW}{B:Nat}{vs:O}
section
variable {bt b:Nat} {a0 a1 a2 a3 a4 a5 vc0 v v' vc vc':O} {X':L} {c13 cx cx':Array O} {bx:Option Nat} {l l':List jg} {cs':List aW}
theorem FV.call(h:FV B bt a0 a1 a2 a3 a4 a5 vs vc0 wr c13 cx bx v l cs vc X)(t:qV B bt a0 a1 a2 a3 a4 a5 vs (λb=>J b=vs.ownBlock\/bx=J b) cs' vc' X')(k:nY bt NoZ vc vc' X X'):FV B bt a0 a1 a2 a3 a4 a5 vs vc0 wr c13 cx bx v l cs' vc' X':=
 ⟨t,h.cd.trans k,k.blk h.b13 YI (h.tb.typed h.b13 Z) id,aX.keep h.sp (k.keep λb d=>⟨d.2.1,by have:=h.lt;have:=d.1;omega,d.2.2.1,id⟩) (λb d=>⟨d.1,Kv d.2.1 k.bel.size,k.off d.2.1 d.2.2.1,d.2.2.2⟩) λ_ _ h=>h,
  λb d=>⟨k.blk (h.bx b d).1 (by have:=h.lt;have:=(h.bx b d).2;omega) (h.tb.typed (h.bx b d).1 Z) id,(h.bx b d).2⟩,h.lt⟩
theorem FV.stops(h:FV B bt a0 a1 a2 a3 a4 a5 vs vc0 wr c13 cx bx v l cs vc X)(s:aa4 X.heap.size vc' X' v' l')(t:qV B bt a0 a1 a2 a3 a4 a5 vs (λb=>J b=vs.ownBlock\/bx=J b) cs' vc' X')(k:nY bt NoZ vc vc' X X'):FV B bt a0 a1 a2 a3 a4 a5 vs vc0 wr c13 cx bx v' l' cs' vc' X':=by have a8:=h.call t k;refine⟨a8.tb,a8.cd,a8.b13,aX.keep s (λ_ _ _ h=>h) (λb d=>⟨Ko h.cd.bel.size d.1,d.2.1,d.2.2,λa7=>?_⟩) λ_ _ h=>h,a8.bx,h.lt⟩;have:=(h.bx b a7).1.lt;have:=d.1;omega
theorem FV.alloc(h:FV B bt a0 a1 a2 a3 a4 a5 vs vc0 wr c13 cx I v l cs vc X):FV B bt a0 a1 a2 a3 a4 a5 vs vc0 wr c13 #[C E 0,C E 0,JM false,C E 0,G I 0 0,C E 0,C E 0,G I 0 0] (J X.heap.size) v l cs vc (X.alloc (JO #[C E 0,C E 0,JM false,C E 0,G I 0 0,C E 0,C E 0,G I 0 0] 91)):=by have cv:JK X.heap.size X (X.alloc (JO #[C E 0,C E 0,JM false,C E 0,G I 0 0,C E 0,C E 0,G I 0 0] 91)):=JY.alloc c _;have ay:(X.alloc (JO #[C E 0,C E 0,JM false,C E 0,G I 0 0,C E 0,C E 0,G I 0 0] 91)).heap.size=X.heap.size+1:=KE _ _;have ao:=h.cd.bel.size;refine⟨h.tb.app cv.size (λae o _=>cv.block ae o) (λy d a7=>a7.elim .inl λa7=>Xi) λy a7=>a7.elim (λa7=>by have:=(h.tb.off y (.inl a7)).1;omega) λa7=>Xi,h.cd.up (cv.mono ao) (KI h.lt),h.b13.below cv h.b13.lt,aX.keep h.sp (aF.of_below cv λy d=>d.2.1) (λy d=>⟨d.1,Yw,d.2.2.1,λa7=>by injection a7 with a7;have:=d.2.1;omega⟩) λ_ _ h=>h,λy d=>?_,h.lt⟩;injection d with d;subst d;exact⟨aj.new _ _ _,h.b13.lt⟩
theorem FV.fin(h:FV B bt a0 a1 a2 a3 a4 a5 vs vc0 wr c13 cx (J b) v l cs vc X)(aE:aU b X X')(d:aj X' b 91 cx'):FV B bt a0 a1 a2 a3 a4 a5 vs vc0 wr c13 cx' (J b) v l cs vc X':=by have bA:=(h.bx b D).2;refine⟨h.tb.app XE (λae o a8=>aE.grown.block ae o λa7=>a8 (.inr a7.symm)) (λ_ _ a7=>a7) λae a7=>by rw[aE.size];exact(h.tb.off ae a7).1,h.cd.up (aE.below _ _ (KI bA) JY) (KI h.lt),aE.blk _ _ _ N h.b13,aX.keep h.sp (aE.keep _ λae ab a7=>ab.2.2.2 ZG) (λae ab=>⟨ab.1,by rw[aE.size];exact ab.2.1,ab.2.2⟩) λ_ _ h=>h,λae ab=>?_,h.lt⟩;injection ab with ab;subst ab;exact⟨d,bA⟩
end
structure IL (B bt:Nat) (a0 a1 a2 a3 a4 a5 vs vc0:O) (wr:L) (bx:Nat) (vx:O) (X2:L) (c0 c1 c2 c3 c4 c5 c6 ve:O) (tl:List iF) (cs:List aW) (vc:O) (X:L):Prop where
 tb:qV B bt a0 a1 a2 a3 a4 a5 vs (λb=>(J b=vs.ownBlock\/J bx=J b)\/J b=ve.ownBlock) cs vc X
 cd:nY bt NoZ vc0 vc wr X
 cz:nY bt (λb=>b=bx) vx vc X2 X
 row:aj X bx 91 #[c0,c1,c2,c3,c4,c5,c6,ve]
 acc:∃css,Acc X2.heap.size 93 3 (yM vc) X ve tl css
 lt:bt < wr.heap.size/\wr.heap.size < bx/\bx < X2.heap.size
section
variable {bt bx:Nat} {a0 a1 a2 a3 a4 a5 vc0 vx c0 c1 c2 c3 c4 c5 c6 ve ve' vc vc' v:O} {X' X2 w5 w6:L} {tl:List iF} {x:iF} {cs':List aW} {css':List (List O)} {g:Nat} {t:TypeId} {ds:Array O} {l:List jg}
theorem IL.call(h:IL B bt a0 a1 a2 a3 a4 a5 vs vc0 wr bx vx X2 c0 c1 c2 c3 c4 c5 c6 ve tl cs vc X)(t:qV B bt a0 a1 a2 a3 a4 a5 vs (λb=>(J b=vs.ownBlock\/J bx=J b)\/J b=ve.ownBlock) cs' vc' X')(k:nY bt NoZ vc vc' X X'):IL B bt a0 a1 a2 a3 a4 a5 vs vc0 wr bx vx X2 c0 c1 c2 c3 c4 c5 c6 ve tl cs' vc' X':=by obtain⟨cA,aJ⟩:=h.acc;exact⟨t,h.cd.trans k,h.cz.trans k.none,k.blk h.row YI (h.tb.typed h.row Z) id,⟨cA,aJ.cd k YI (h.tb.apart aJ.1 Z) (λ_ _=>id) λ_ _ ad=>yM.cd ad k YI λ_ _ _=>id⟩,h.lt⟩
theorem IL.below(h:IL B bt a0 a1 a2 a3 a4 a5 vs vc0 wr bx vx X2 c0 c1 c2 c3 c4 c5 c6 ve tl cs vc X)(k:JK X.heap.size X X'):IL B bt a0 a1 a2 a3 a4 a5 vs vc0 wr bx vx X2 c0 c1 c2 c3 c4 c5 c6 ve tl cs vc X':=h.call (h.tb.below k) (nY.of_below _ k (KI h.tb.blk.lt))
theorem IL.box(h:IL B bt a0 a1 a2 a3 a4 a5 vs vc0 wr bx vx X2 c0 c1 c2 c3 c4 c5 c6 ve tl cs vc X)(k:nY bt NoZ vc vc' X X')(d:aj X g t ds)(ab:X2.heap.size<=g)(c7:t≠55):aj X' g t ds:=k.blk d YI (h.tb.typed d c7) id
theorem IL.put(h:IL B bt a0 a1 a2 a3 a4 a5 vs vc0 wr bx vx X2 c0 c1 c2 c3 c4 c5 c6 ve tl cs vc X)(bz:JK X.heap.size X w5)(aJ:Acc X2.heap.size 93 3 (yM vc) w6 ve' (tl++[x]) css')(ab:jk X2.heap.size ve w5 w6)(c8:∀g,ve'.ownBlock=J g->ve.ownBlock=J g\/w5.heap.size<=g): IL B bt a0 a1 a2 a3 a4 a5 vs vc0 wr bx vx X2 c0 c1 c2 c3 c4 c5 c6 ve' (tl++[x]) cs vc (w6.setCell ⟨bx,7,I⟩ ve'):=by
 have j:=h.below bz;have bA:=h.lt;have ay:(w6.setCell ⟨bx,7,I⟩ ve').heap.size=w6.heap.size:=MF _ _ _;have e6:X2.heap.size<=w5.heap.size:=j.cz.bel.size;have bm:J bx≠ve.ownBlock:=λa7=>by have:=ab.ge bx a7.symm;omega
 have fP:=j.row.grown ab.grown bm;have b:JK X2.heap.size w5 w6:=ab.app.below X2.heap.size w5 c e6 JY;have e:=aU.one w6 bx 7 ve';have et:JK wr.heap.size w5 (w6.setCell ⟨bx,7,I⟩ ve'):=e.below _ _ N (b.mono N);have cc:qV B bt a0 a1 a2 a3 a4 a5 vs (λy=>(J y=vs.ownBlock\/J bx=J y)\/J y=ve'.ownBlock) cs vc w6:=j.tb.app ab.grown.size (λg o a8=>ab.grown.block g o λa7=>a8 (.inr a7)) (λy d a7=>a7.elim .inl λa7=>.inr ((c8 y a7.symm).elim (λh=>h.symm) λh=>absurd d N)) λy a7=>a7.elim (λh=>Kv (j.tb.off y (.inl h)).1 ab.grown.size) λa7=>(aQ aJ.1 a7.symm).1;refine⟨cc.app (by rw[ay];exact KD _) (λg o a8=>La _ _ _ _ (by intro a7;exact a8 (.inl (.inr ZG)))) (λ_ _ a7=>a7) λg a7=>by rw[ay];exact(cc.off g a7).1,j.cd.up et (KI bA.1),?_,fP.bJ 7 _,⟨css',aJ.up (yS vc) (yE bA.2.2)⟩,bA⟩;have aL:=j.cz.up b N;refine⟨aL.bel.trans (e.below _ _ N JY),λg o a8 ac b6=>(La _ _ _ _ b6).trans (aL.block g o a8 ac b6),aL.own⟩
theorem IL.tail(h:IL B bt a0 a1 a2 a3 a4 a5 vs vc0 wr bx vx X2 c0 c1 c2 c3 c4 c5 c6 ve tl cs vc X){V:L}(j:X2.heap.size<=V.heap.size)(af:∀g,ve.ownBlock=J g->g < V.heap.size)(ag:aa4 V.heap.size vc X v l){dx dq:Int}(o:wfi dx)(a8:wfi dq):yM vc (QA X2.heap.size ve X) X [C E dx,C E dq,v] ⟨dx,dq,l⟩:=
 ⟨v,D,aX.keep ag (λ_ _ _ h=>h) (λy d=>⟨⟨Ko j d.1,d.2.1,λa7=>by have:=af y a7.symm;have:=d.1;omega⟩,d.2.2⟩) λ_ _ h=>h,o,a8⟩
end
theorem IL.ahy{ba T:Nat}{bJ bD bs e i n aZ e9 aO aY cn:O}{ck:L}{tl:List iF}{c7:List jg}{par bF win aM bu:Int}{many:Bool}{d7:O}(h:IL B ba bJ bD bs e i n vs aZ wr T e9 ck (C E par) (C E bF) (JM many) (C E win) d7 (C E aM) (C E bu) aO tl cs aY X)(ag:aX (λb=>wr.heap.size<=b/\b < ck.heap.size/\J b≠e9.ownBlock/\J T≠J b) 2 jR ck cn c7)(af:∀g,vs.ownBlock=J g->g < wr.heap.size)(bW:B<=wr.heap.size)(bN:wfi par/\wfi bF/\wfi win/\wfi aM/\wfi bu): Dk aY (QA B vs X) X [C E par,C E bF,JM many,C E win,cn,C E aM,C E bu,aO] ⟨par,bF,many,win,c7,aM,bu,tl⟩:=by obtain⟨cA,aJ⟩:=h.acc;have bA:=h.lt;have ay:=h.cz.bel.size;have a1:∀b,wr.heap.size<=b->b < X.heap.size->J b≠aY.ownBlock->QA B vs X b/\J b≠aY.ownBlock:=λb o a8 ac=>⟨⟨N,a8,λa7=>by have:=af b a7.symm;omega⟩,ac⟩;refine⟨_,_,D,aX.keep ag (h.cz.keep λb d=>⟨d.2.1,YN,d.2.2.1,λa7=>d.2.2.2 ZG⟩) (λb d=>a1 b d.1 (Kv d.2.1 ay) (h.cz.off d.2.1 d.2.2.1)) λ_ _ h=>h,?_,bN⟩;exact bQ (R:=lT λb=>QA B vs X b/\J b≠aY.ownBlock) (aJ.2.keep λ_ _ ad=>lT.keep ad (λ_ _ _ h=>h) λb d=>a1 b Yv d.1.2.1 d.2) aJ.1 (λg ab o a8=>a1 g N a8 (h.tb.apart aJ.1 Z g ab)) (.inr trivial)
theorem oZ.yD{g:Nat}{cr:L}{T:bF}{vk ar aY:O}(h:oZ B w T vk ar vs aY)(aE:aU g w cr)(ab:g < B):oZ B cr T vk ar vs aY:=by
 obtain⟨e,br,aH⟩:=h.rows;obtain⟨ai,cm,j⟩:=h.codes;have ah:aF (QB B vs aY w) w cr:=aE.keep _ λy d=>by have:=d.1;omega
 have a1:∀y,QB B vs aY w y->QB B vs aY cr y:=λy a1=>⟨a1.1,by rw[aE.size];exact a1.2.1,a1.2.2⟩;exact⟨h.keys.keep ah a1 λ_ _ h=>h,h.kinds.keep ah a1 λ_ _ h=>h.keep ah a1,⟨e,aE.own _ _ _ _ _ _ (λa7=>by have:=(aQ br a7).2;omega) br,aH.keep λ_ _ h=>h.keep ah a1⟩,⟨ai,aE.own _ _ _ _ _ _ (λa7=>by have:=(aQ cm a7).2;omega) cm,j.keep λ_ _ h=>h.keep ah a1⟩,h.apart,h.ok⟩
theorem oZ.low{b:Nat}{T:bF}{vk ar aY:O}(h:oZ B w T vk ar vs aY)(bW:b<=B):oZ b w T vk ar vs aY:=by obtain⟨e,br,aH⟩:=h.rows;obtain⟨ai,cm,j⟩:=h.codes;have ah:aF (QB B vs aY w) w w:=λ_ _ _ h=>h;have a1:∀y,QB B vs aY w y->QB b vs aY w y:=λy a1=>⟨Ko bW a1.1,a1.2⟩;exact⟨h.keys.keep ah a1 λ_ _ h=>h,h.kinds.keep ah a1 λ_ _ h=>h.keep ah a1,⟨e,ku br bW,aH.keep λ_ _ h=>h.keep ah a1⟩,⟨ai,ku cm bW,j.keep λ_ _ h=>h.keep ah a1⟩,h.apart,h.ok⟩
theorem qV.row{ba:Nat}{bJ bD bs e i n v' aY:O}{m:Nat->Prop}{f:List fD}{css:List (List O)}{b1:L}(h:qV B ba bJ bD bs e i n vs m cs aY w)(p:∀b,J b=vs.ownBlock->m b)(bE:Acc B 91 8 (Dk aY) b1 v' f css)(ab:jk B vs w b1)(c8:∀g,v'.ownBlock=J g->vs.ownBlock=J g\/w.heap.size < g): qV B ba bJ bD bs e i n v' (λb=>J b=v'.ownBlock) cs aY (b1.setCell ⟨ba,6,I⟩ v')/\Acc B 91 8 (Dk aY) (b1.setCell ⟨ba,6,I⟩ v') v' f css:=by have ay:(b1.setCell ⟨ba,6,I⟩ v').heap.size=b1.heap.size:=MF _ _ _;have a8:qV B ba bJ bD bs e i n vs (λb=>J b=v'.ownBlock) cs aY b1:=h.app ab.grown.size (λg o a8=>ab.grown.block g o λa7=>a8 (p g a7)) (λb d a7=>(c8 b a7.symm).elim (λh=>p b h.symm) λh=>absurd d N) λb a7=>(aQ bE.1 a7.symm).1;obtain⟨k,j⟩:=a8.acc;exact⟨⟨a8.blk.bJ 6 _,⟨k,j.up (pF _) (yE h.lt)⟩,h.lt,by rw[ay];exact a8.low,λg a7=>by rw[ay];exact a8.off g a7⟩,bE.up (vJ aY) (yE h.lt)⟩

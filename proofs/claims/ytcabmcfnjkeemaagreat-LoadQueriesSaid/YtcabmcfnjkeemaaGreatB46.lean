import Derived.Test.YtcabmcfnjkeemaaGreatBM00
import Derived.Test.YtcabmcfnjkeemaaGreatB45
set_option maxRecDepth 100000
set_option maxHeartbeats 40000000
set_option linter.unusedVariables false
set_option linter.unusedSimpArgs false
namespace Go.Proofs.YtcabmcfnjkeemaaGreat
open Go.RowKit
open Go renaming World->L,Value->O
open Go.IntKind renaming i64->E
open Go.RowKit renaming Below->JK
open Go.Value renaming int->C,slice->G
open Option renaming none->I,some->J
def oT:Tg:=.gd 1001 0
def OuE (X:L) (vb:O) (r:Nat) (bs:List dB) (cs:List O) (b':dB):Prop:=
 ∃g i b vp,vb.ownBlock=J g/\i < r/\bs[i]? =J b/\X.cell? ⟨g,i*3+2,I⟩=J vp/\cs=[C E b'.id,C E b'.win,vp]/\b'.parts=b.parts/\wfi b'.id/\wfi b'.win
structure Dj (B:Nat) (T:Nat->Tg) (X:L) (vb:O) (r:Nat) (bs:List dB) (vo:O) (obs:List dB):Prop where
 acc:∃cb,Acc B 72 3 FY X vo obs cb/\∀(j:Nat) (cs:List O) (b':dB),cb[j]? =J cs->obs[j]? =J b'->OuE X vb r bs cs b'
 tag:∀g,vo.ownBlock=J g->T g=oT
section
variable {W:L} {p:bD} {B b7 b5:Nat} {vk vb vo:O} {r m a:Nat} {bid bwin:Int} {vp vi:O} {ix:List Nat} {T T':Nat->Tg} {X Y:L} {bs bs' obs:List dB} {b b':dB} {q:aO} {U:Nat->Prop}
theorem ql.afl(h:ql T B X vb bs){g:Nat}(ab:vb.ownBlock=J g):T g=.br/\B<=g/\g < X.heap.size:=by obtain⟨cA,h⟩:=h;exact⟨h.tag g ab,(aQ h.acc.1 ab).2,(aQ h.acc.1 ab).1⟩
theorem Dj.nil(B:Nat)(T:Nat->Tg)(X:L)(cn:O)(r:Nat)(P:List dB):Dj B T X cn r P (G I 0 0) []:=⟨⟨[],Acc.nil X,λa4 bj aY h=>Zw⟩,λae h=>Xw⟩
theorem Dj.bG(h:Dj B T X vb r bs vo obs)(d:ql T B X vb bs)(k:Stp U B T X T' Y)(a9:∀g,T g=oT->U g)(bo:∀g,T g=.br->U g):Dj B T' Y vb r bs vo obs:=by obtain⟨⟨ck,aJ,bS⟩,c7⟩:=h;have o:∀g,vo.ownBlock=J g->B<=g/\g < X.heap.size:=λg ab=>⟨(aQ aJ.1 ab).2,(aQ aJ.1 ab).1⟩;refine⟨⟨ck,jG aJ (λ_ _ _ _ _ _ h=>h) λg ab=>k.block g (o g ab).1 (o g ab).2 (a9 g (c7 g ab)),λa4 bj aY b3 bh=>?_⟩,λg ab=>(k.tag g (o g ab).1 (o g ab).2 (a9 g (c7 g ab))).trans (c7 g ab)⟩;obtain⟨g,a3,y,dn,ci,cw,dm,dz,dK⟩:=bS a4 bj aY b3 bh;obtain⟨t1,d5,b8⟩:=d.afl ci;exact⟨g,a3,y,dn,ci,cw,dm,(KJ (a:=⟨g,a3*3+2,I⟩) (k.block g d5 b8 (bo g t1))).trans dz,dK⟩
theorem Dj.bJ(h:Dj B T X vb r bs vo obs)(x:dB):Dj B T X vb r (bs.set r x) vo obs:=by obtain⟨⟨ck,aJ,bS⟩,c7⟩:=h;refine⟨⟨ck,aJ,λa4 bj aY b3 bh=>?_⟩,c7⟩;obtain⟨ae,a3,y,dn,ci,cw,dm,dz⟩:=bS a4 bj aY b3 bh;exact⟨ae,a3,y,dn,ci,cw,by rw[KO,JZ N];exact dm,dz⟩
theorem Dj.next(h:Dj B T X vb r bs vo obs):Dj B T X vb (r+1) bs vo obs:=by obtain⟨⟨ck,aJ,bS⟩,c7⟩:=h;refine⟨⟨ck,aJ,λa4 bj aY b3 bh=>?_⟩,c7⟩;obtain⟨ae,a3,y,dn,ci,cw,dm⟩:=bS a4 bj aY b3 bh;exact⟨ae,a3,y,dn,ci,N,dm⟩
theorem Dj.snoc{v':O}{cs:List O}{ck:List (List O)}(aJ:Acc B 72 3 FY X vo obs ck)(bS:∀(j:Nat) (cs:List O) (b':dB),ck[j]? =J cs->obs[j]? =J b'->OuE X vb r bs cs b')(c7:∀g,vo.ownBlock=J g->T g=oT)(d:ql T B X vb bs)(aH:∀g,X.heap.size<=g->T g=.other)(bW:B<=X.heap.size)(cN:Acc B 72 3 FY Y v' (obs++[b']) (ck++[cs]))(ab:jk B vo X Y)(c8:∀g,v'.ownBlock=J g->vo.ownBlock=J g\/X.heap.size<=g)(V:OuE X vb (r+1) bs cs b'):Dj B (eU T v'.ownBlock oT) Y vb (r+1) bs v' (obs++[b'])/\Stp (λg=>T g≠oT) B T X (eU T v'.ownBlock oT) Y/\∀g,Y.heap.size<=g->eU T v'.ownBlock oT g=.other:=by
 have b6:∀g,B<=g->g < X.heap.size->eU T v'.ownBlock oT g=T g:=λg o a8=>by
  by_cases e:J g=v'.ownBlock
  ·rcases c8 g e.symm with ac|ac
   ·rw[<-e,gZ,c7 g ac]
   omega
  exact gG e
 have ag:Stp (λg=>T g≠oT) B T X (eU T v'.ownBlock oT) Y:=by refine⟨(Ky B X).grown ab.grown bW ab.ge,λg o a8 _=>b6 g o a8,λg _ a8 ac=>ab.grown.block g a8 λa7=>ac (c7 g a7.symm)⟩
 have i:∀g,Y.heap.size<=g->eU T v'.ownBlock oT g=.other:=λg m=>by
  rw[gG λa7=>?_]
  ·exact aH g (Ko ag.bel.size m)
  have:=(aQ cN.1 (g:=g) a7.symm).1;omega
 have a':ck.length=obs.length:=aJ.2.1;have b:∀cs b',OuE X vb (r+1) bs cs b'->OuE Y vb (r+1) bs cs b':=λcs b' h=>by obtain⟨g,a3,y,dn,ci,cw,dm,dz,dK⟩:=h;obtain⟨t1,d5,b8⟩:=d.afl ci;exact⟨g,a3,y,dn,ci,cw,dm,(KJ (a:=⟨g,a3*3+2,I⟩) (ag.block g d5 b8 (by rw[t1];intro h;cases h))).trans dz,dK⟩
 refine⟨⟨⟨_,cN,λj au f b3 bh=>?_⟩,λg ab=>YP⟩,ag,i⟩;rcases KT j obs.length with bA|cr
 ·rw[KW N] at b3;rw[KW bA] at bh;obtain⟨g,a3,y,dn,ci,cw,dm⟩:=bS j au f b3 bh;exact b _ _ ⟨g,a3,y,dn,ci,N,dm⟩
 have bA:=(KA.1 bh).1;simp at bA;have a7:j=obs.length:=N;subst a7;rw[Lh N,a',Me] at b3;rw[Lh N,Me] at bh;have ca:cs=au:=Zb;have dc:b'=f:=Zc;subst ca dc;exact b _ _ V
theorem Dj.out(h:Dj B T X vb r bs vo obs)(d:ql T B X vb bs):aX (λb=>B<=b/\b < X.heap.size) 3 (BrQ (λb=>B<=b/\b < X.heap.size)) X vo obs:=by
 obtain⟨⟨cA,aJ,bS⟩,c7⟩:=h;have aH:eF 3 (BrQ (λb=>B<=b/\b < X.heap.size)) X cA obs:=⟨aJ.2.1,λa0 m a1=>by
  obtain⟨bj,o,a8,-⟩:=aJ.2.2 a0 m a1;obtain⟨ae,a3,b,dn,ci,cw,dm,dz,dK,bi,aP⟩:=bS a0 bj m o a1;obtain⟨bg,aw⟩:=d;obtain⟨Y,a9,af⟩:=aB aw.acc.1;obtain⟨ag,ch,j,M,-,-,-,-,-,-,-,ao,e5,-⟩:=ql.at ⟨bg,aw⟩ dm;rw[M] at ci;have e:ag=ae:=by simpa [Value.ownBlock] using ci
  subst e;rw[dz] at ao;injection ao with ao;subst ao;exact⟨bj,o,a8,dn,dK,by rw[bi];exact e5.out,aP⟩⟩
 exact bQ aH aJ.1 (λae _ o a8=>⟨o,a8⟩) (.inr trivial)
structure yN (W:L) (p:bD) (B b7 b5:Nat) (vk vb:O) (gb r m:Nat) (bid bwin:Int) (vp vi:O) (ix:List Nat) (T:Nat->Tg) (X:L) (bs:List dB) (vo:O) (obs:List dB):Prop where
 pl:oW T B X vk vb {p with branches:=bs}
 res:bV B T X (W.heap.size+1) 29 zPl
 out:bV B T X b7 29 #[C E p.strategy,vk,vo]
 bel:JK W.heap.size W X
 br:bV B T X b5 72 #[C E bid,C E bwin,vp]
 ix:IxO B T X vi ix
 Dp:X.cell? ⟨gb,r*3+2,I⟩=J vp
 low:W.heap.size<=B
 own:vb.ownBlock=J gb
 ou:Dj B T X vb r bs vo obs
theorem En:oT≠ .other/\oT≠ .nd/\oT≠ .br/\oT≠oQ/\∀i,oT≠ .pt i:=⟨YO,YO,YO,WO,(by intro i h;cases h)⟩
variable {gb:Nat}
theorem yN.step(h:yN W p B b7 b5 vk vb gb r m bid bwin vp vi ix T X bs vo obs)(k:Stp U B T X T' Y)(a9:∀g,B<=g->g < X.heap.size->T g=.other->U g)(d9:oW T' B Y vk vb {p with branches:=bs})(bo:∀g,T g=.br->U g)(bZ:∀g,T g=oT->U g):yN W p B b7 b5 vk vb gb r m bid bwin vp vi ix T' Y bs vo obs:=by obtain⟨t1,d5,b8⟩:=h.pl.kU.afl h.own;exact⟨d9,h.res.FK k a9,h.out.FK k a9,h.bel.trans (k.bel.mono h.low),h.br.FK k a9,h.ix.bG k a9,(KJ (a:=⟨gb,r*3+2,I⟩) (k.block gb d5 b8 (bo _ t1))).trans h.Dp,h.low,h.own,h.ou.bG h.pl.kU k bZ bo⟩
theorem yN.rows(h:yN W p B b7 b5 vk vb gb r m bid bwin vp vi ix T X bs vo obs)(k:Stp zx B T X T' Y)(aH:∀g,Y.heap.size<=g->T' g=.other):yN W p B b7 b5 vk vb gb r m bid bwin vp vi ix T' Y bs vo obs:=
 h.step k (λ_ _ _ _=>trivial) (h.pl.bG k (λ_ _=>trivial) aH) (λ_ _=>trivial) λ_ _=>trivial
theorem yN.more(h:yN W p B b7 b5 vk vb gb r m bid bwin vp vi ix T X bs vo obs)(k:JK X.heap.size X Y):yN W p B b7 b5 vk vb gb r m bid bwin vp vi ix T Y bs vo obs:=h.rows (Stp.of_below T k h.pl.low) λae ab=>h.pl.fresh ae (Ko k.size ab)
theorem yN.st(h:yN W p B b7 b5 vk vb gb r m bid bwin vp vi ix T X bs vo obs)(k:Stp (λg=>T g≠oQ) B T X T' Y)(aH:∀g,Y.heap.size<=g->T' g=.other)(a':bs.length<=100):yN W p B b7 b5 vk vb gb r m bid bwin vp vi ix T' Y bs vo obs:=
 h.step k (λg _ _ a7=>XD) (h.pl.aeZ k.bel (k.fO (V:=λb9=>b9≠oQ) λ_ h=>h) (Jd a') aH) (λg a7=>XD) λg a7=>by rw[a7];exact En.2.2.2.1
theorem yN.ahv(h:yN W p B b7 b5 vk vb gb r m bid bwin vp vi ix T X bs vo obs):yN W p B b7 b5 vk vb gb r m bid bwin vp (G I 0 0) [] T X bs vo obs:=⟨h.pl,h.res,h.out,h.bel,h.br,aX.nil _ _ _,h.Dp,h.low,h.own,h.ou⟩
theorem yN.setW(h:yN W p B b7 b5 vk vb gb r m bid bwin vp (G I 0 0) [] T X bs vo obs)(bW:B<=b7)(d:b7 < b5)(bB:W.heap.size+1 < B)(win:Int):yN W p B b7 b5 vk vb gb r m bid win vp (G I 0 0) [] T (X.setCell ⟨b5,1,I⟩ (C E win)) bs vo obs:=by have b:B<=b5:=N;have e:=aU.one X b5 1 (C E win);have ag:=Stp.dV T e b;have c7:T b5=.other:=h.br.tag b;have bm:∀ae,T ae≠ .other->ae≠b5:=λae ab a7=>ab (a7▸c7);obtain⟨t1,d5,b8⟩:=h.pl.kU.afl h.own;exact⟨h.pl.bG ag bm (λae ab=>h.pl.fresh ae (by rw[<-e.size];exact ab)),h.res.far e N,h.out.far e N,e.below _ _ N h.bel,h.br.set 1 _ D,aX.nil _ _ _,(KJ (a:=⟨gb,r*3+2,I⟩) (ag.block gb d5 b8 (bm gb (by rw[t1];intro h;cases h)))).trans h.Dp,h.low,h.own,h.ou.bG h.pl.kU ag (λae ab=>bm ae YC) λae ab=>bm ae XF⟩
theorem yN.part{t cX:Nat}(h:yN W p B b7 b5 vk vb gb r m bid bwin vp vi ix T X bs vo obs)(b1:vb=G (J ⟨gb,0,I⟩) t cX)(d:bs[r]? =J b)(a1:b.parts[a]? =J q): ∃P a9 cR aY,vp=G (J ⟨P,0,I⟩) b.parts.length a9/\b.parts.length<=a9/\a9<=maxLen/\B<=P/\P < X.heap.size/\T P=.pt r/\X.cell? ⟨P,a*4,I⟩=J (C E q.form)/\X.cell? ⟨P,a*4+1,I⟩=J (C E q.ty)/\X.cell? ⟨P,a*4+2,I⟩=J cR/\X.cell? ⟨P,a*4+3,I⟩=J aY/\bY T (.gd r a) B X cR q.guards/\bY T (.cl r a) B X aY q.closes/\(∀j,X.frozen? ⟨P,j,I⟩=false)/\T gb=.br:=by exact Qc
theorem yN.put{P a9 t cX:Nat}{v:O}{l:List ND}(h:yN W p B b7 b5 vk (G (J ⟨gb,0,I⟩) t cX) gb r m bid bwin (G (J ⟨P,0,I⟩) m a9) vi ix T X bs vo obs)(d:bs[r]? =J b)(bL:b.parts.length=m)(a1:b.parts[a]? =J q)(fx:r < 100)(ag:Stp U B T X T' Y)(n:∀g,B<=g->g < X.heap.size->T g=.other->U g)(j:∀g,T g≠ .gd r a->T g≠ .other->U g)(aH:∀g,Y.heap.size<=g->T' g=.other)(aS:bY T' (.gd r a) B Y v l): yN W p B b7 b5 vk (G (J ⟨gb,0,I⟩) t cX) gb r m bid bwin (G (J ⟨P,0,I⟩) m a9) vi ix T' (Y.setCell ⟨P,a*4+2,I⟩ v) (bs.set r {b with parts:=b.parts.set a {q with guards:=l}}) vo obs/\aU P Y (Y.setCell ⟨P,a*4+2,I⟩ v)/\T' P=.pt r/\Stp (λg=>U g/\g≠P) B T X T' (Y.setCell ⟨P,a*4+2,I⟩ v):=by
 obtain⟨fH,ch,cR,aY,b3,bh,ca,dc,cY,S,dw,dU,cA,b4,f,i,cV,cq⟩:=h.part D d a1;injection b3 with b3 _ _;injection b3 with b3;injection b3 with b3;subst b3;have x:T' P=.pt r:=(ag.tag P dc cY (j P XI XI)).trans S;have y:lN (λb9=>b9≠ .gd r a/\Used b9) B T X T' Y:=ag.fO λg ab=>j g ab.1 ab.2;have dL:rQ X gb r P b.parts.length a9:=by rw[bL];exact h.Dp
 have e:=h.pl.kU.ad2 d dL a1 y aS;have cf:Stp (λg=>U g/\g≠P) B T X T' (Y.setCell ⟨P,a*4+2,I⟩ v):=ag.trans (Stp.dV T' e.2.2 dc);have s:∀g,T g=.other->g≠P:=pV S YO;have M:∀g,B<=g->g < X.heap.size->T g=.other->U g/\g≠P:=λg o a8 ac=>⟨n g o a8 ac,s g ac⟩;have bo:∀g,T g=.br->U g/\g≠P:=λg ab=>⟨j g XF XF,pV S YO g ab⟩;have bZ:∀g,T g=oT->U g/\g≠P:=λg ab=>⟨j g (by rw[ab];intro h;injection h with h;omega) YC,pV S (λh=>En.2.2.2.2 r h.symm) g ab⟩;refine⟨⟨⟨?_,e.1,λg ab=>aH g (by rw[<-e.2.2.size];exact ab),Ko h.pl.low cf.bel.size⟩,h.res.FK cf M,h.out.FK cf M,h.bel.trans (cf.bel.mono h.low),h.br.FK cf M,h.ix.bG cf M,by rw[<-bL];exact e.2.1,h.low,h.own,(h.ou.bG h.pl.kU cf bZ bo).bJ _⟩,e.2.2,x,cf⟩;exact iT h.pl.keys cf λg ab=>⟨j g XF XF,pV S YO g ab⟩
end

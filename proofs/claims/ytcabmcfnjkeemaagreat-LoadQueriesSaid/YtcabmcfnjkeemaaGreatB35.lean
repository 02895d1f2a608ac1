import Derived.Test.YtcabmcfnjkeemaaGreatBM00
import Derived.Test.YtcabmcfnjkeemaaGreatB34
set_option maxRecDepth 100000
set_option maxHeartbeats 40000000
set_option linter.unusedVariables false
set_option linter.unusedSimpArgs false
namespace Go.Proofs.YtcabmcfnjkeemaaGreat
open Go.RowKit
open Go renaming World->L,Value->O
open Go.IntKind renaming i64->E
open Go.Obj renaming cells->JO
open Go.RowKit renaming Below->JK
open Go.Value renaming int->C,slice->G,string->H
open Option renaming none->I,some->J
def zPl:Array O:=#[C E 0,G I 0 0,G I 0 0]
def IxO (B:Nat) (T:Nat->Tg) (X:L) (vi:O) (ix:List Nat):Prop:=aX (λb=>B<=b/\b < X.heap.size/\T b=.other) 1 fF X vi (ints ix)
variable{X:L}{B:Nat}{T T':Nat->Tg}{vi:O}
theorem IxO.bG{U:Nat->Prop}{V:L}{bq:List Nat}(h:IxO B T X vi bq)(k:Stp U B T X T' V)(a9:∀g,B<=g->g < X.heap.size->T g=.other->U g):IxO B T' V vi bq:=
 aX.keep h (λaT u ai aw=>(KJ (k.block aT.block ai.1 ai.2.1 (a9 _ ai.1 ai.2.1 ai.2.2))).trans aw) (λy d=>⟨d.1,Kv d.2.1 k.bel.size,(k.tag y d.1 d.2.1 (a9 _ d.1 d.2.1 d.2.2)).trans d.2.2⟩) λ_ _ h=>h
variable{g:Nat}
theorem bV.FK{U:Nat->Prop}{V:L}{t:TypeId}{cs:Array O}(h:bV B T X g t cs)(k:Stp U B T X T' V)(a9:∀g,B<=g->g < X.heap.size->T g=.other->U g):bV B T' V g t cs:=h.bG k λo=>a9 g o h.blk.lt (h.tag o)
structure uQ (W:L) (p:bD) (B b7 b5:Nat) (vk vb:O) (gb r m:Nat) (bid bwin:Int) (vp vi:O) (ix:List Nat) (T:Nat->Tg) (X:L) (bs:List dB):Prop where
 pl:oW T B X vk vb {p with branches:=bs}
 res:bV B T X (W.heap.size+1) 29 zPl
 out:bV B T X b7 29 #[C E p.strategy,vk,vb]
 bel:JK W.heap.size W X
 br:bV B T X b5 72 #[C E bid,C E bwin,vp]
 ix:IxO B T X vi ix
 Dp:X.cell? ⟨gb,r*3+2,I⟩=J vp
 low:W.heap.size<=B
variable{W Y:L}{bs:List dB}{a cX m r t:Nat}{vk:O}{q:aO}{p:bD}{b:dB}
section
variable {b7 b5:Nat} {vb:O} {gb:Nat} {bid bwin:Int} {vp:O} {ix:List Nat} {bs':List dB} {U:Nat->Prop}
theorem uQ.step(h:uQ W p B b7 b5 vk vb gb r m bid bwin vp vi ix T X bs)(k:Stp U B T X T' Y)(a9:∀g,B<=g->g < X.heap.size->T g=.other->U g)(d9:oW T' B Y vk vb {p with branches:=bs'})(a':Y.cell? ⟨gb,r*3+2,I⟩=J vp):uQ W p B b7 b5 vk vb gb r m bid bwin vp vi ix T' Y bs':=
 ⟨d9,h.res.FK k a9,h.out.FK k a9,h.bel.trans (k.bel.mono h.low),h.br.FK k a9,h.ix.bG k a9,a',h.low⟩
theorem uQ.rows(h:uQ W p B b7 b5 vk vb gb r m bid bwin vp vi ix T X bs)(k:Stp zx B T X T' Y)(aH:∀g,Y.heap.size<=g->T' g=.other):uQ W p B b7 b5 vk vb gb r m bid bwin vp vi ix T' Y bs:=by
 refine h.step k (λ_ _ _ _=>trivial) (h.pl.bG k (λ_ _=>trivial) aH) ?_;rcases KT gb B with o|o
 ·exact(KJ (a:=⟨gb,r*3+2,I⟩) (k.bel.block gb o)).trans h.Dp
 exact(KJ (a:=⟨gb,r*3+2,I⟩) (k.block gb o (ay h.Dp) trivial)).trans h.Dp
theorem uQ.more(h:uQ W p B b7 b5 vk vb gb r m bid bwin vp vi ix T X bs)(k:JK X.heap.size X Y):uQ W p B b7 b5 vk vb gb r m bid bwin vp vi ix T Y bs:=h.rows (Stp.of_below T k h.pl.low) λae ab=>h.pl.fresh ae (Ko k.size ab)
theorem uQ.st(h:uQ W p B b7 b5 vk vb gb r m bid bwin vp vi ix T X bs)(k:Stp (λg=>T g≠oQ) B T X T' Y)(aH:∀g,Y.heap.size<=g->T' g=.other)(a':bs.length<=100)(ab:T gb=.br):uQ W p B b7 b5 vk vb gb r m bid bwin vp vi ix T' Y bs:=by
 refine h.step k (λg _ _ a7=>XD) (h.pl.aeZ k.bel (k.fO (V:=λb9=>b9≠oQ) λ_ h=>h) (Jd a') aH) ?_;rcases KT gb B with o|o
 ·exact(KJ (a:=⟨gb,r*3+2,I⟩) (k.bel.block gb o)).trans h.Dp
 exact(KJ (a:=⟨gb,r*3+2,I⟩) (k.block gb o (ay h.Dp) XF)).trans h.Dp
theorem uQ.part(h:uQ W p B b7 b5 vk vb gb r m bid bwin vp vi ix T X bs)(b1:vb=G (J ⟨gb,0,I⟩) t cX)(d:bs[r]? =J b)(a1:b.parts[a]? =J q): ∃P a9 cR aY,vp=G (J ⟨P,0,I⟩) b.parts.length a9/\b.parts.length<=a9/\a9<=maxLen/\B<=P/\P < X.heap.size/\T P=.pt r/\X.cell? ⟨P,a*4,I⟩=J (C E q.form)/\X.cell? ⟨P,a*4+1,I⟩=J (C E q.ty)/\X.cell? ⟨P,a*4+2,I⟩=J cR/\X.cell? ⟨P,a*4+3,I⟩=J aY/\bY T (.gd r a) B X cR q.guards/\bY T (.cl r a) B X aY q.closes/\(∀j,X.frozen? ⟨P,j,I⟩=false)/\T gb=.br:=by exact Qc
end
def jJ (k:Nat) (q:aO):List ND:=if k=0 then q.guards else q.closes
def qW (r a k:Nat):Tg:=if k=0 then .gd r a else .cl r a
def fA (k:Nat) (q:aO) (l:List ND):aO:=if k=0 then {q with guards:=l} else {q with closes:=l}
theorem iG(r a k:Nat):qW r a k≠ .nd/\qW r a k≠ .other/\(∀i,qW r a k≠ .pt i)/\qW r a k≠ .br:=by unfold qW;split <;> exact⟨YO,YO,(by intro i h;cases h),YO⟩
variable{k:Nat}
theorem afN(h:r < 100):qW r a k≠oQ:=by
 unfold qW oQ;split
 ·intro h;injection h with h;omega
 intro h;cases h
variable{av:L}{n:ND}{P:Nat}{vt:O}
section
variable {b7 b5:Nat} {gb n9 c9:Nat} {bid bwin:Int} {ix:List Nat} {T9:Nat->Tg} {w9:L} {c:Nat}
theorem uQ.lst{v:O}(h:uQ W p B b7 b5 vk (G (J ⟨gb,0,I⟩) n9 c9) gb r m bid bwin (G (J ⟨P,0,I⟩) m c) vi ix T X bs)(d:bs[r]? =J b)(a1:b.parts[a]? =J q)(ah:k < 2)(aw:X.cell? ⟨P,a*4+2+k,I⟩=J v):bY T (qW r a k) B X v (jJ k q):=by
 obtain⟨fH,ch,cR,aY,b3,bh,ca,dc,cY,S,dw,dU,cA,b4,f,i,cV,cq⟩:=h.part D d a1;injection b3 with b3 _ _;injection b3 with b3;injection b3 with b3;subst b3;unfold qW jJ;rcases(show k=0\/k=1 by omega) with rfl|rfl
 ·rw[Kq D,Kq D];rw[Na,cA] at aw;injection aw with aw;exact aw▸f
 rw[JZ Z,JZ Z];rw[Nat.add_assoc,b4] at aw;injection aw with aw;exact aw▸i
theorem uQ.put{v:O}{l:List ND}{U:Nat->Prop}(h:uQ W p B b7 b5 vk (G (J ⟨gb,0,I⟩) n9 c9) gb r m bid bwin (G (J ⟨P,0,I⟩) m c) vi ix T X bs)(d:bs[r]? =J b)(bL:b.parts.length=m)(a1:b.parts[a]? =J q)(ah:k < 2)(ag:Stp U B T X T' Y)(n:∀g,B<=g->g < X.heap.size->T g=.other->U g)(j:∀g,T g≠qW r a k->T g≠ .other->U g)(aH:∀g,Y.heap.size<=g->T' g=.other)(aS:bY T' (qW r a k) B Y v l): uQ W p B b7 b5 vk (G (J ⟨gb,0,I⟩) n9 c9) gb r m bid bwin (G (J ⟨P,0,I⟩) m c) vi ix T' (Y.setCell ⟨P,a*4+2+k,I⟩ v) (bs.set r {b with parts:=b.parts.set a (fA k q l)})/\aU P Y (Y.setCell ⟨P,a*4+2+k,I⟩ v)/\T' P=.pt r/\Stp (λg=>U g/\g≠P) B T X T' (Y.setCell ⟨P,a*4+2+k,I⟩ v):=by
 obtain⟨fH,ch,cR,aY,b3,bh,ca,dc,cY,S,dw,dU,cA,b4,f,i,cV,cq⟩:=h.part D d a1;injection b3 with b3 _ _;injection b3 with b3;injection b3 with b3;subst b3;obtain⟨t1,d5,b8,aB⟩:=iG r a k;have x:T' P=.pt r:=(ag.tag P dc cY (j P (by rw[S];exact λa7=>b8 r a7.symm) XI)).trans S;have y:lN (λb9=>b9≠qW r a k/\Used b9) B T X T' Y:=ag.fO λg ab=>j g ab.1 ab.2;have dL:rQ X gb r P b.parts.length c:=by rw[bL];exact h.Dp
 have e:ql T' B (Y.setCell ⟨P,a*4+2+k,I⟩ v) (G (J ⟨gb,0,I⟩) n9 c9) (bs.set r {b with parts:=b.parts.set a (fA k q l)})/\rQ (Y.setCell ⟨P,a*4+2+k,I⟩ v) gb r P b.parts.length c/\aU P Y (Y.setCell ⟨P,a*4+2+k,I⟩ v):=by
  unfold fA;rcases(show k=0\/k=1 by omega) with rfl|rfl
  ·rw[Kq D];exact h.pl.kU.ad2 d dL a1 y aS
  rw[JZ Z];exact h.pl.kU.afu d dL a1 y aS
 have cf:Stp (λg=>U g/\g≠P) B T X T' (Y.setCell ⟨P,a*4+2+k,I⟩ v):=ag.trans (Stp.dV T' e.2.2 dc);have s:∀g,T g=.other->g≠P:=pV S YO;refine⟨h.step cf (λg o a8 ac=>⟨n g o a8 ac,s g ac⟩) ⟨?_,e.1,λg ab=>aH g (by rw[<-e.2.2.size];exact ab),Ko h.pl.low cf.bel.size⟩ (by rw[<-bL];exact e.2.1),e.2.2,x,cf⟩;exact iT h.pl.keys cf λg ab=>⟨j g (by rw[ab];exact t1.symm) XF,pV S YO g ab⟩
structure IU (W:L) (p:bD) (B b7 b5:Nat) (vk:O) (gb n9 c9 r m:Nat) (bid bwin:Int) (P c:Nat) (vi:O) (ix:List Nat) (vst:O) (st:List ND) (b13:Nat) (nb:Array O) (a k:Nat) (vt:O) (lt:List ND) (bs:List dB) (T:Nat->Tg) (X:L):Prop where
 mv:uQ W p B b7 b5 vk (G (J ⟨gb,0,I⟩) n9 c9) gb r m bid bwin (G (J ⟨P,0,I⟩) m c) vi ix T X bs
 stay:bY T oQ B X vst st
 fQ:bV B T X b13 150 nb
 row:bY T (qW r a k) B X vt lt
 rW:X.cell? ⟨P,a*4+2+k,I⟩=J vt
 zi:T P=.pt r
 pge:B<=P
 plt:P < X.heap.size
 fz:∀j,X.frozen? ⟨P,j,I⟩=false
 nge:B<=b13
 rlt:r < 100
variable {vst:O} {st lt:List ND} {b13:Nat} {nb:Array O}
theorem IU.rows(h:IU W p B b7 b5 vk gb n9 c9 r m bid bwin P c vi ix vst st b13 nb a k vt lt bs T X)(ag:Stp zx B T X T' Y)(aH:∀g,Y.heap.size<=g->T' g=.other):IU W p B b7 b5 vk gb n9 c9 r m bid bwin P c vi ix vst st b13 nb a k vt lt bs T' Y:=by have a7:=ag.block P h.pge h.plt trivial;have aB:lN (λ_=>True) B T X T' Y:=ag.fO λ_ _=>trivial;exact⟨h.mv.rows ag aH,h.stay.fO aB trivial trivial,h.fQ.bG ag λ_=>trivial,h.row.fO aB trivial trivial,(KJ (a:=⟨P,a*4+2+k,I⟩) a7).trans h.rW,(ag.tag P h.pge h.plt trivial).trans h.zi,h.pge,Kv h.plt ag.bel.size,λa4=>(Nb (a:=⟨P,a4,I⟩) a7).trans (h.fz a4),h.nge,h.rlt⟩
theorem IU.more(h:IU W p B b7 b5 vk gb n9 c9 r m bid bwin P c vi ix vst st b13 nb a k vt lt bs T X)(d:JK X.heap.size X Y):IU W p B b7 b5 vk gb n9 c9 r m bid bwin P c vi ix vst st b13 nb a k vt lt bs T Y:=h.rows (Stp.of_below T d h.mv.pl.low) λae ab=>h.mv.pl.fresh ae (Ko d.size ab)
theorem IU.mid{sO:List O}{aT bG:Nat}(h:IU W p B b7 b5 vk gb n9 c9 r m bid bwin P c vi ix vst st b13 nb a k vt lt bs T X)(cQ:aa3 T (qW r a k) B X av lt n sO aT bG): av.cell? ⟨P,a*4+2+k,I⟩=J vt/\(∀j,av.frozen? ⟨P,j,I⟩=false)/\(∀j u,nb[j]? =J u->av.cell? ⟨b13,j,I⟩=J u)/\P≠aT:=by obtain⟨t1,d5,b8,aB⟩:=iG r a k;have l:T P≠qW r a k:=Wu;have a7:=cQ.mid.block P h.pge h.plt l;have aG:=cQ.mid.block b13 h.nge h.fQ.blk.lt (by rw[h.fQ.tag h.nge];exact λa7=>d5 a7.symm);exact⟨(KJ (a:=⟨P,a*4+2+k,I⟩) a7).trans h.rW,λj=>(Nb (a:=⟨P,j,I⟩) a7).trans (h.fz j),λj u ap=>(KJ (a:=⟨b13,j,I⟩) aG).trans ((h.fQ.blk.cell j).trans ap),cQ.ne P h.plt l⟩
theorem IU.fin{sO:List O}{aT bG:Nat}(h:IU W p B b7 b5 vk gb n9 c9 r m bid bwin P c vi ix vst st b13 nb a k vt lt bs T X)(cQ:aa3 T (qW r a k) B X av lt n sO aT bG)(d:bs[r]? =J b)(bL:b.parts.length=m)(a1:b.parts[a]? =J q)(ah:k < 2): ∃T',uQ W p B b7 b5 vk (G (J ⟨gb,0,I⟩) n9 c9) gb r m bid bwin (G (J ⟨P,0,I⟩) m c) vi ix T' ((dA aT (lt.length*7) sO av).setCell ⟨P,a*4+2+k,I⟩ (G (J ⟨aT,0,I⟩) (lt.length+1) bG)) (bs.set r {b with parts:=b.parts.set a (fA k q (lt++[n]))})/\bY T' oQ B ((dA aT (lt.length*7) sO av).setCell ⟨P,a*4+2+k,I⟩ (G (J ⟨aT,0,I⟩) (lt.length+1) bG)) vst st/\∀j,j≠a*4+2+k->((dA aT (lt.length*7) sO av).setCell ⟨P,a*4+2+k,I⟩ (G (J ⟨aT,0,I⟩) (lt.length+1) bG)).cell? ⟨P,j,I⟩=X.cell? ⟨P,j,I⟩:=by
 obtain⟨t1,d5,b8,aB⟩:=iG r a k;have l:T P≠qW r a k:=Wu;obtain⟨cJ,db,dr,da⟩:=h.mv.put d bL a1 ah cQ.bG (λae _ _ a7=>by rw[a7];exact λa7=>d5 a7.symm) (λae o _=>o) cQ.fresh cQ.row;refine⟨_,cJ,?_,λj bK=>?_⟩
 ·refine h.stay.fO (da.fO (V:=λb9=>b9≠qW r a k/\b9≠ .pt r) λae ab=>⟨ab.1,λa7=>ab.2 (a7▸h.zi)⟩) ⟨(afN h.rlt).symm,YO⟩ ⟨t1.symm,YO⟩
 rw[LJ _ _ _ _ (by intro a7;injection a7 with _ a7;exact bK a7.symm)];exact KJ (a:=⟨P,j,I⟩) (cQ.bG.block P h.pge h.plt l)
end
variable{j:Nat}
theorem jY{w:L}(ay:List O)(k:Nat)(h:w.frozen? ⟨P,j,I⟩=false):(dA g k ay w).frozen? ⟨P,j,I⟩=false:=by
 induction ay generalizing k w with
 |nil=>exact h
 |cons u ay bf=>exact bf _ (iK _ _ _ _ h)
structure Bx where
 g:Nat
 t:TypeId
 cs:Array O
structure Fm (B:Nat) (T:Nat->Tg) (g:Nat) (X:L) (bl:List Bx):Prop where
 box:∀x∈bl,aj X x.g x.t x.cs/\B<=x.g/\T x.g=.other/\x.g≠g
 nd:(bl.map Bx.g).Nodup
variable{x:Bx}{its:List dJ}{i:Nat}{S:SchD}
section
variable {Q:Nat->Prop} {U:Nat->Prop} {T0:Nat->Tg} {bl:List Bx}
theorem Fm.get(h:Fm B T g X bl)(i:Nat)(ad:bl[i]? =J x):aj X x.g x.t x.cs:=(h.box x (Kz ad)).1
theorem Fm.bG(h:Fm B T g X bl)(k:Stp U B T X T' Y)(a9:∀x∈bl,U x.g):Fm B T' g Y bl:=
 ⟨λx ad=>⟨(k.block x.g (h.box x ad).2.1 (h.box x ad).1.lt (a9 x ad)).trans (h.box x ad).1,(h.box x ad).2.1,(k.tag x.g (h.box x ad).2.1 (h.box x ad).1.lt (a9 x ad)).trans (h.box x ad).2.2.1,(h.box x ad).2.2.2⟩,h.nd⟩
theorem Fm.push(h:Fm B T g X bl)(t:TypeId)(cs:Array O)(b6:T X.heap.size=.other)(bW:B<=X.heap.size)(ab:g < X.heap.size):Fm B T g (X.alloc (JO cs t)) (⟨X.heap.size,t,cs⟩ :: bl):=by
 refine⟨λaa ad=>?_,?_⟩
 ·rcases Nh.1 ad with rfl|ad
  ·exact⟨aj.new _ _ _,bW,b6,YQ⟩
  exact⟨(h.box aa ad).1.alloc _,(h.box aa ad).2⟩
 rw[List.map_cons,Nr];refine⟨λbL=>?_,h.nd⟩;obtain⟨a2,ak,bS⟩:=LC.1 bL;have o:=(h.box a2 ak).1.lt;have a8:a2.g=X.heap.size:=bS;omega
theorem adF{l:List Bx}(h:(l.map Bx.g).Nodup){a2:Bx}(ad:l[i]? =J x)(ak:l[j]? =J a2)(m:i≠j):a2.g≠x.g:=λa7=>by
 have o:(l.map Bx.g)[i]? =J x.g:=by rw[Le,ad];rfl
 have a8:(l.map Bx.g)[j]? =J x.g:=by rw[Le,ak,<-a7];rfl
 exact m ((List.getElem?_inj (KA.1 o).1 h).1 (o.trans a8.symm))
theorem abL{l:List Bx}{cs:Array O}(ad:l[i]? =J x):(l.set i {x with cs:=cs}).map Bx.g=l.map Bx.g:=by
 apply List.ext_getElem?;intro a0;rw[Le,Le,KO];by_cases ah:i=a0
 ·subst ah;rw[Kq D,Kq (KA.1 ad).1,ad];rfl
 rw[JZ ah]
theorem Fm.yD(h:Fm B T g X bl)(ad:bl[i]? =J x){cs':Array O}(aE:aU x.g X Y)(d:aj Y x.g x.t cs'):Fm B T g Y (bl.set i {x with cs:=cs'}):=by
 refine⟨λa2 ak=>?_,by rw[abL ad];exact h.nd⟩;obtain⟨a0,ah⟩:=Nw ak;rw[KO] at ah;by_cases W:i=a0
 ·subst W;rw[Kq D,Kq (KA.1 ad).1] at ah;injection ah with ah;subst ah;exact⟨d,(h.box x (Kz ad)).2⟩
 rw[JZ W] at ah;have bL:=h.box a2 (Kz ah);exact⟨aE.blk _ _ _ (adF h.nd ad ah W) bL.1,bL.2⟩
theorem kV.bG{vs:O}{er d3:Int}(h:kV Q g vt vs vi S its er d3 X)(k:Stp U B T X T' Y)(ab:B<=g->U g)(n:∀b,Q b->b < B\/U b):kV Q g vt vs vi S its er d3 Y:=by
 have b0:∀b,b < X.heap.size->(B<=b->U b)->Y.heap[b]? =X.heap[b]?:=λb o a8=>by
  rcases KT b B with ac|ac
  ·exact k.bel.block b ac
  exact k.block b ac o (a8 ac)
 have ah:aF Q X Y:=λaT u ai aw=>(KJ (b0 aT.block (ay aw) λo=>(n _ ai).resolve_left N)).trans aw;exact⟨(b0 g h.blk.lt ab).trans h.blk,h.Dt.keep ah λ_ h=>h,aX.keep h.Aq ah (λ_ h=>h) λ_ _ h=>h,h.ok,h.len,λb d=>⟨(h.off b d).1,Kv (h.off b d).2 k.bel.size⟩⟩
end
structure mJ (Q:Nat->Prop) (g B:Nat) (vt vs vi:O) (S:SchD) (its:List dJ) (vk vb:O) (p:bD) (T0:Nat->Tg) (W:L) (er:Int) (bs:List dB) (bl:List Bx) (T:Nat->Tg) (X:L):Prop where
 st:∃a,kV Q g vt vs vi S its er a X
 pl:oW T B X vk vb {p with branches:=bs}
 fm:Fm B T g X bl
 tg:T g=.other/\B<=g/\g < W.heap.size
 org:Stp (λb=>T0 b=.other/\b≠g) B T0 W T X
 hq:∀b,Q b->b < W.heap.size/\(b < B\/(T0 b=.other/\b≠g))
variable{a9:Nat}
section
variable {Q:Nat->Prop} {vs:O} {vb:O} {T0:Nat->Tg} {er er' ea':Int} {bs':List dB} {bl Gp:List Bx} {U:Nat->Prop}
theorem mJ.go(h:mJ Q g B vt vs vi S its vk vb p T0 W er bs bl T X)(k:Stp U B T X T' Y)(j:∀b,B<=b->b < W.heap.size->T0 b=.other->b≠g->T b=.other->U b)(cf:∃a,kV Q g vt vs vi S its er' a Y)(d9:oW T' B Y vk vb {p with branches:=bs'})(i:Fm B T' g Y Gp)(eO:T' g=.other):mJ Q g B vt vs vi S its vk vb p T0 W er' bs' Gp T' Y:=by have bw:∀b,B<=b->b < W.heap.size->T0 b=.other->b≠g->T b=.other:=λb o a8 ac b6=>(h.org.tag b o a8 ⟨ac,b6⟩).trans ac;exact⟨cf,d9,i,⟨eO,h.tg.2⟩,⟨h.org.bel.trans k.bel,λb o a8 ac=>(k.tag b o (Kv a8 h.org.bel.size) (j b o a8 ac.1 ac.2 (bw b o a8 ac.1 ac.2))).trans (h.org.tag b o a8 ac),λb o a8 ac=>(k.block b o (Kv a8 h.org.bel.size) (j b o a8 ac.1 ac.2 (bw b o a8 ac.1 ac.2))).trans (h.org.block b o a8 ac)⟩,h.hq⟩
theorem mJ.step(h:mJ Q g B vt vs vi S its vk vb p T0 W er bs bl T X)(k:Stp U B T X T' Y)(ab:U g)(j:∀b,B<=b->b < W.heap.size->T0 b=.other->b≠g->T b=.other->U b)(d9:oW T' B Y vk vb {p with branches:=bs'})(i:Fm B T' g Y Gp):mJ Q g B vt vs vi S its vk vb p T0 W er bs' Gp T' Y:=by
 obtain⟨a,ag⟩:=h.st;refine h.go k j ⟨a,ag.bG k (λ_=>ab) λb d=>?_⟩ d9 i ((k.tag g h.tg.2.1 ag.blk.lt ab).trans h.tg.1);obtain⟨o,a8⟩:=h.hq b d;rcases KT b B with ac|ac
 ·exact .inl ac
 rcases a8 with a8|a8
 ·exact .inl a8
 exact .inr (j b ac o a8.1 a8.2 ((h.org.tag b ac o a8).trans a8.1))
theorem mJ.more(h:mJ Q g B vt vs vi S its vk vb p T0 W er bs bl T X)(k:JK X.heap.size X Y):mJ Q g B vt vs vi S its vk vb p T0 W er bs bl T Y:=
 h.step (Stp.of_below T k h.pl.low) trivial (λ_ _ _ _ _ _=>trivial) (h.pl.more k) (h.fm.bG (Stp.of_below T k h.pl.low) λ_ _=>trivial)
theorem mJ.push(h:mJ Q g B vt vs vi S its vk vb p T0 W er bs bl T X)(t:TypeId)(cs:Array O):mJ Q g B vt vs vi S its vk vb p T0 W er bs (⟨X.heap.size,t,cs⟩ :: bl) T (X.alloc (JO cs t)):=by have a0:JK X.heap.size X (X.alloc (JO cs t)):=JY.alloc c _;have a8:=h.more a0;obtain⟨a,ag⟩:=h.st;exact⟨a8.st,a8.pl,h.fm.push t cs (h.pl.fresh _ c) h.pl.low ag.blk.lt,a8.tg,a8.org,a8.hq⟩
theorem mJ.drop(h:mJ Q g B vt vs vi S its vk vb p T0 W er bs (x :: bl) T X):mJ Q g B vt vs vi S its vk vb p T0 W er bs bl T X:=
 ⟨h.st,h.pl,⟨λa2 ak=>h.fm.box a2 (Md _ ak),(Nr.1 VK).2⟩,h.tg,h.org,h.hq⟩
theorem mJ.gsz(h:mJ Q g B vt vs vi S its vk vb p T0 W er bs bl T X):g < X.heap.size:=by obtain⟨a,ag⟩:=h.st;exact ag.blk.lt
theorem mJ.add(h:mJ Q g B vt vs vi S its vk vb p T0 W er bs bl T X)(ad:aj X x.g x.t x.cs)(b6:T x.g=.other)(bW:B<=x.g)(ab:x.g≠g)(V:∀a2∈bl,a2.g≠x.g):mJ Q g B vt vs vi S its vk vb p T0 W er bs (x :: bl) T X:=by
 refine⟨h.st,h.pl,⟨λa2 ak=>?_,?_⟩,h.tg,h.org,h.hq⟩
 ·rcases Nh.1 ak with rfl|ak
  ·exact⟨ad,bW,b6,ab⟩
  exact h.fm.box a2 ak
 rw[List.map_cons,Nr];exact⟨λbL=>by obtain⟨a2,ak,bS⟩:=LC.1 bL;exact V a2 ak bS,h.fm.nd⟩
theorem mJ.yD{cs':Array O}(h:mJ Q g B vt vs vi S its vk vb p T0 W er bs bl T X)(ad:bl[i]? =J x)(bB:W.heap.size<=x.g)(aE:aU x.g X Y)(d:aj Y x.g x.t cs'):mJ Q g B vt vs vi S its vk vb p T0 W er bs (bl.set i {x with cs:=cs'}) T Y:=by obtain⟨b3,bh,ca,dc⟩:=h.fm.box x (Kz ad);have a0:=Stp.dV T aE bh;refine h.step a0 dc.symm (λy o a8 _ _ _ a7=>N) (h.pl.bG a0 (λy d a7=>d (a7▸ca)) λy d=>h.pl.fresh y XR) (h.fm.yD ad aE d)
theorem mJ.call(h:mJ Q g B vt vs vi S its vk vb p T0 W er bs bl T X)(ab:X.grownBy Y (J g))(ag:kV Q g vt vs vi S its er' ea' Y):mJ Q g B vt vs vi S its vk vb p T0 W er' bs bl T Y:=by have a0:Stp (λy=>y≠g) B T X T Y:=⟨(Ky B X).grown ab h.pl.low λa4 bK=>VG,λ_ _ _ _=>rfl,λy _ a8 ac=>ab.block y a8 λa7=>ac Zj⟩;exact h.go a0 (λy _ _ _ b6 _=>b6) ⟨_,ag⟩ (h.pl.bG a0 (λy d a7=>d (a7▸h.tg.1)) λy d=>h.pl.fresh y (Ko ab.size d)) (h.fm.bG a0 λaa ad=>(h.fm.box aa ad).2.2.2) h.tg.1
theorem mJ.JD(h:mJ Q g B vt vs vi S its vk vb p T0 W er bs bl T X)(ab:X.grownBy Y (J g)):Stp (λb=>b≠g) B T X (lJ T X.heap.size Y.heap.size I .nd) Y:=⟨(Ky B X).grown ab h.pl.low λa4 bK=>VG,λb _ a8 _=>xG a8,λb _ a8 ac=>ab.block b a8 λa7=>ac Zj⟩
theorem mJ.node(h:mJ Q g B vt vs vi S its vk vb p T0 W er bs bl T X)(ab:X.grownBy Y (J g))(ag:kV Q g vt vs vi S its er' ea' Y):mJ Q g B vt vs vi S its vk vb p T0 W er' bs bl (lJ T X.heap.size Y.heap.size I .nd) Y:=by obtain⟨a,l⟩:=h.st;have a0:=h.JD ab;exact h.go a0 (λy _ _ _ b6 _=>b6) ⟨_,ag⟩ (h.pl.bG a0 (λy d a7=>d (a7▸h.tg.1)) λy d=>FN d ab.size) (h.fm.bG a0 λaa ad=>(h.fm.box aa ad).2.2.2) ((xG l.blk.lt).trans h.tg.1)
theorem mJ.part(h:mJ Q g B vt vs vi S its vk vb p T0 W er bs bl T X)(d:bs[r]? =J b)(a1:b.parts[a]? =J q): ∃aQ ck P a9 cR aY,vb=G (J ⟨aQ,0,I⟩) bs.length ck/\rQ X aQ r P b.parts.length a9/\T P=.pt r/\B<=P/\P < X.heap.size/\X.cell? ⟨P,a*4+2,I⟩=J cR/\X.cell? ⟨P,a*4+3,I⟩=J aY/\bY T (.gd r a) B X cR q.guards/\bY T (.cl r a) B X aY q.closes/\(∀j,X.frozen? ⟨P,j,I⟩=false)/\T aQ=.br/\B<=aQ:=by obtain⟨aQ,ck,dn,af,-,-,aD,-,cL,-,-,ao,e5,-⟩:=h.pl.kU.at d;obtain⟨P,a9,cR,aY,rfl,-,-,o,a8,ac,-,-,bu,aJ,c4,de,-,-,dy⟩:=e5.at a1;exact⟨aQ,ck,P,a9,cR,aY,af,ao,ac,o,a8,bu,aJ,c4,de,dy,cL,aD⟩
structure CdF (gb r a k P c n9 c9:Nat) (b:dB) (vt:O) (lt:List ND) (T:Nat->Tg) (B:Nat) (X:L):Prop where
 Dp:rQ X gb r P b.parts.length c
 row:bY T (qW r a k) B X vt lt
 rW:X.cell? ⟨P,a*4+2+k,I⟩=J vt
 zi:T P=.pt r
 agI:T gb=.br
 pge:B<=P/\B<=gb
 plt:P < X.heap.size
 fz:∀j,X.frozen? ⟨P,j,I⟩=false
theorem CdF.bG{aQ:Nat}{i:List ND}(h:CdF aQ r a k P a9 t cX b vt i T B X)(s:Stp U B T X T' Y)(j:∀b,T b≠ .other->U b):CdF aQ r a k P a9 t cX b vt i T' B Y:=by
 have ai:T P≠ .other:=by rw[h.zi];intro h;cases h
 have ab:T aQ≠ .other:=by rw[h.agI];intro h;cases h
 have a7:=s.block P h.pge.1 h.plt (j _ ai);have ae:=ay h.Dp;obtain⟨t1,d5,b8,aB⟩:=iG r a k;exact⟨(KJ (a:=⟨aQ,r*3+2,I⟩) (s.block aQ h.pge.2 ae (j _ ab))).trans h.Dp,h.row.fO (s.fO (V:=λb9=>b9≠ .other) λb d=>j b d) d5 YO,(KJ (a:=⟨P,a*4+2+k,I⟩) a7).trans h.rW,(s.tag P h.pge.1 h.plt (j _ ai)).trans h.zi,(s.tag aQ h.pge.2 ae (j _ ab)).trans h.agI,h.pge,Kv h.plt s.bel.size,λa4=>(Nb (a:=⟨P,a4,I⟩) a7).trans (h.fz a4)⟩
theorem CdF.mid{aQ aT bG:Nat}{i:List ND}{sO:List O}(h:CdF aQ r a k P a9 t cX b vt i T B X)(cQ:aa3 T (qW r a k) B X av i n sO aT bG): av.cell? ⟨P,a*4+2+k,I⟩=J vt/\(∀j,av.frozen? ⟨P,j,I⟩=false)/\P≠aT:=by obtain⟨t1,d5,b8,aB⟩:=iG r a k;have l:T P≠qW r a k:=Wu;have a7:=cQ.mid.block P h.pge.1 h.plt l;exact⟨(KJ (a:=⟨P,a*4+2+k,I⟩) a7).trans h.rW,λj=>(Nb (a:=⟨P,j,I⟩) a7).trans (h.fz j),cQ.ne P h.plt l⟩
theorem mJ.fin{aQ aT bG:Nat}{e9:O}{i:List ND}{sO:List O}(h:mJ Q g B vt vs vi S its vk (G (J ⟨aQ,0,I⟩) t cX) p T0 W er bs bl T X)(f:CdF aQ r a k P a9 t cX b e9 i T B X)(cQ:aa3 T (qW r a k) B X av i n sO aT bG)(d:bs[r]? =J b)(a1:b.parts[a]? =J q)(ah:k < 2): ∃T',mJ Q g B vt vs vi S its vk (G (J ⟨aQ,0,I⟩) t cX) p T0 W er (bs.set r {b with parts:=b.parts.set a (fA k q (i++[n]))}) bl T' ((dA aT (i.length*7) sO av).setCell ⟨P,a*4+2+k,I⟩ (G (J ⟨aT,0,I⟩) (i.length+1) bG)):=by
 obtain⟨t1,d5,b8,aB⟩:=iG r a k;have ag:=cQ.bG;obtain⟨V,j⟩:∃V,V=dA aT (i.length*7) sO av:=⟨_,D⟩;have aS:=cQ.row;have aH:=cQ.fresh;rw[<-j] at ag aS aH⊢;obtain⟨T',ft⟩:∃b9,b9=eU T (J aT) (qW r a k):=⟨_,D⟩;rw[<-ft] at ag aS aH;have l:T P≠qW r a k:=by rw[f.zi];exact λa7=>b8 r a7.symm
 have x:T' P=.pt r:=(ag.tag P f.pge.1 f.plt l).trans f.zi;have y:lN (λb9=>b9≠qW r a k/\Used b9) B T X T' V:=ag.fO λg ab=>ab.1;have e:ql T' B (V.setCell ⟨P,a*4+2+k,I⟩ (G (J ⟨aT,0,I⟩) (i.length+1) bG)) (G (J ⟨aQ,0,I⟩) t cX) (bs.set r {b with parts:=b.parts.set a (fA k q (i++[n]))})/\rQ (V.setCell ⟨P,a*4+2+k,I⟩ (G (J ⟨aT,0,I⟩) (i.length+1) bG)) aQ r P b.parts.length a9/\aU P V (V.setCell ⟨P,a*4+2+k,I⟩ (G (J ⟨aT,0,I⟩) (i.length+1) bG)):=by
  unfold fA;unfold qW at aS y;rcases(show k=0\/k=1 by omega) with rfl|rfl
  ·rw[Kq D] at aS⊢;simp only[if_true] at y;exact h.pl.kU.ad2 d f.Dp a1 y aS
  rw[JZ Z] at aS⊢;simp only[if_neg (show ¬(1:Nat)=0 by decide)] at y;exact h.pl.kU.afu d f.Dp a1 y aS
 have cf:Stp (λg=>T g≠qW r a k/\g≠P) B T X T' (V.setCell ⟨P,a*4+2+k,I⟩ (G (J ⟨aT,0,I⟩) (i.length+1) bG)):=ag.trans (Stp.dV T' e.2.2 f.pge.1);have s:∀b,T b=.other->T b≠qW r a k/\b≠P:=λb d=>⟨by rw[d];exact λa7=>d5 a7.symm,pV f.zi YO b d⟩;refine⟨T',h.step cf (s g h.tg.1) (λb _ _ _ _ d=>s b d) ⟨?_,e.1,λb d=>aH b (by rw[<-e.2.2.size];exact d),Ko h.pl.low cf.bel.size⟩ (h.fm.bG cf λaa ad=>s _ (h.fm.box aa ad).2.2.1)⟩;exact iT h.pl.keys cf λb d=>⟨by rw[d];exact t1.symm,pV f.zi YO b d⟩
end
variable{attr name:ByteArray}{at_ op sc:Int}{args:List ED}
theorem ab3{n:Int}(h:dO (.mk op args n sc name attr at_)=true):∀a∈args,dO a=true:=λa aJ=>by
 rw[dO.eq_def] at h
 simp only[Bool.and_eq_true,List.all_map,List.all_eq_true] at h
 exact h.2 a aJ
theorem Gw{n:Int}(h:iP S its (.mk op args n sc name attr at_)=true):∀a∈args,iP S its a=true:=λa aJ=>by
 rw[iP.eq_def] at h
 simp only[Bool.and_eq_true,List.all_map,List.all_eq_true] at h
 exact h.2 a aJ
theorem DL{n:Int}(h:iP S its (.mk op args n sc name attr at_)=true)(br:24<=op):(jP S its op name attr).isSome=true:=by rw[iP.eq_def] at h;simp only[Bool.and_eq_true] at h;have o:=h.1;rwa [JZ N,Kq br] at o
theorem Jl(h:(jP S its op name attr).isSome=true):cO its name∈its/\(cO its name).name=name:=by
 unfold jP at h;cases aH:iO its name with
 |none=>rw[aH] at h;cases h
 |some a2=>
  have a7:cO its name=a2:=by unfold cO;rw[aH];rfl
  rw[a7];exact zW aH
theorem Ho(S:SchD)(its:List dJ)(b:Bool):∀x:ED,dO x=true->iP S its x=true->∀a2∈dD its b x,a2∈its/\0 < a2.name.size
 | .mk e b8 M bQ bq bF ar,aS,aH,a2,ak=>by
  rw[dD.eq_def] at ak
  simp only[List.mem_append,List.mem_flatMap] at ak
  rcases ak with h|⟨a,o,a8⟩
  ·have br:24<=e:=by
    by_cases aw:e=24\/(24 < e/\b=false)
    ·rcases aw with aw|aw <;> omega
    rw[JZ aw] at h;cases h
   have a7:a2=cO its bq:=by
    split at h
    ·exact KG.1 h
    cases h
   subst a7
   obtain⟨o,a8⟩:=Jl (DL aH br)
   exact⟨o,by rw[a8];exact(BD aS br).2.2⟩
  exact Ho S its b a (ab3 aS a o) (Gw aH a o) a2 a8
theorem vK(S:SchD)(its:List dJ)(t:Option ByteArray):∀x:ED,iP S its x=true->∀bl∈lF S its t x,bl≠I
 | .mk e b8 M bQ bq bF ar,aH,bl,br=>by
  rw[lF.eq_def] at br
  simp only at br
  by_cases a':24<=e
  ·rw[Kq a',KG] at br
   obtain⟨a0,ah⟩:=Option.isSome_iff_exists.1 (DL aH a')
   rw[br,ah]
   exact Option.some_ne_none _
  rw[JZ a'] at br
  obtain⟨a,o,a8⟩:=MX.1 br
  exact vK S its t a (Gw aH a o) bl a8
theorem AQ(S:SchD)(its:List dJ)(t:Option ByteArray):∀x:ED,dD its false x=[]->lF S its t x=[]
 | .mk e b8 M bQ bq bF ar,h=>by
  rw[dD.eq_def] at h
  rw[lF.eq_def]
  simp only[List.append_eq_nil_iff,List.flatMap_eq_nil_iff] at h⊢
  have a':¬24<=e:=λbr=>by
   have o:=h.1
   rw[Kq ((show e=24\/24 < e by omega).imp_right λh=>⟨h,trivial⟩)] at o
   cases o
  rw[JZ a',List.flatMap_eq_nil_iff]
  exact λa aJ=>AQ S its t a (h.2 a aJ)
theorem nI{w:L}{Y:Option Addr}{l:List dJ}(h:bU 6 ItC w (G Y m a9) l){a2:dJ}(ak:l[i]? =J a2): ∃b off,Y=J ⟨b,off,I⟩/\w.cell? ⟨b,off+i*6,I⟩=J (H a2.name)/\w.cell? ⟨b,off+i*6+1,I⟩=J (C E a2.branch)/\w.cell? ⟨b,off+i*6+2,I⟩=J (C E a2.part)/\w.cell? ⟨b,off+i*6+3,I⟩=J (C E a2.pos)/\w.cell? ⟨b,off+i*6+4,I⟩=J (C E a2.form)/\w.cell? ⟨b,off+i*6+5,I⟩=J (C E a2.kind)/\ItW a2:=by obtain⟨dz,bl,b',af,-,-,aR,bj,dC,⟨rfl,cr⟩,cM⟩:=bU.get h ak;injection af with af _ _;subst af;exact⟨dz,bl,D,cM 0 _ D,cM 1 _ D,cM 2 _ D,cM 3 _ D,cM 4 _ D,cM 5 _ D,cr⟩
def Lp2 (l:List dJ) (j:Nat) (last:dJ) (ok:Bool):Prop:=last∈l/\(∀y∈l.take j,y.part<=last.part)/\(ok=true->∀y∈l.take j,∀z,l[0]? =J z->y.branch=z.branch)
def Lp3 (l:List dJ) (j:Nat) (last:dJ) (ok0 ok:Bool):Prop:=ok=true->ok0=true/\∀y∈l.take j,y.form=3->y.name=last.name
def Lp4 (l:List dJ) (j:Nat) (last:dJ) (ok0 ok ask0 ask:Bool):Prop:=(ok=true->ok0=true/\∀y∈l.take j,y.form=2->y.name=last.name/\ask=true)/\(ask0=true->ask=true)
theorem xH{q:Type}{l:List q}{x a2:q}(ad:l[j]? =J x)(ak:a2∈l.take (j+1)):a2∈l.take j\/a2=x:=by
 have bK:=(KA.1 ad).1;have a7:l[j]=x:=by rw[Kr bK] at ad;injection ad
 rw[ML bK,KQ,KG,a7] at ak;exact ak
section
variable {l:List dJ} {last y z:dJ} {ok ok0 ask ask0 b:Bool}
theorem AU(h:Lp2 l j last ok)(ak:l[j]? =J y)(cv:l[0]? =J z){fh:dJ}(a':fh=if last.part < y.part then y else last)(d:b=true->ok=true/\y.branch=z.branch):Lp2 l (j+1) fh b:=by
 subst a';refine⟨?_,λu ap=>?_,λaf u ap e g=>?_⟩
 ·split
  ·exact Kz ak
  exact h.1
 ·rcases xH ak ap with o|rfl
  ·have:=h.2.1 u o;split <;> omega
  split <;> omega
 rcases xH ak ap with o|rfl
 ·exact h.2.2 (d af).1 u o e g
 rw[cv] at g;injection g with g;exact g▸(d af).2
theorem xg(h:Lp3 l j last ok0 ok)(ak:l[j]? =J y)(d:b=true->ok=true/\(y.form=3->y.name=last.name)):Lp3 l (j+1) last ok0 b:=λaf=>by
 refine⟨(h (d af).1).1,λu ap=>?_⟩
 rcases xH ak ap with o|rfl
 ·exact(h (d af).1).2 u o
 exact(d af).2
theorem sN(h:Lp4 l j last ok0 ok ask0 ask)(ak:l[j]? =J y){e:Bool}(aJ:ask=true->e=true)(d:b=true->ok=true/\(y.form=2->y.name=last.name/\e=true)):Lp4 l (j+1) last ok0 b ask0 e:=by
 refine⟨λaf=>⟨(h.1 (d af).1).1,λu ap=>?_⟩,λo=>aJ (h.2 o)⟩;rcases xH ak ap with o|rfl
 ·exact λaH=>⟨((h.1 (d af).1).2 u o aH).1,aJ ((h.1 (d af).1).2 u o aH).2⟩
 exact(d af).2
end
theorem aeG{x:ED}{au:dJ}{fJ fL fz:Bool}(aS:dO x=true)(aH:iP S its x=true)(V:dD its false x≠[])(a8:Lp2 (dD its false x) (dD its false x).length au fJ)(ac:Lp3 (dD its false x) (dD its false x).length au fJ fL)(b6:Lp4 (dD its true x) (dD its true x).length au fL true (au.form !=2) fz):qX its x au fz/\0 < au.name.size:=by
 obtain⟨ca,dc⟩:=b6.1 D;obtain⟨b3,bh⟩:=ac ca;rw[LQ] at bh dc;have cC:=a8.2.1;have d4:=a8.2.2 b3;rw[LQ] at cC d4;obtain⟨aA,cv⟩:∃aA,(dD its false x)[0]? =J aA:=⟨_,Kr (List.length_pos_iff.2 V)⟩;have a':=Ho S its false x aS aH au a8.1;refine⟨⟨λa2 ak=>⟨(d4 a2 ak aA cv).trans (d4 au a8.1 aA cv).symm,cC a2 ak⟩,a'.1,λa2 ak=>bh a2 ak,λa2 ak=>dc a2 ak,λaJ=>?_⟩,a'.2⟩;rcases bz:(au.form !=2) with _|_
 ·simpa using bz
 have:=b6.2 bz;rw[aJ] at this;cases this
structure CZ (S:SchD) (its:List dJ) (bs:List dB):Prop where
 mko:Di S its bs
 brg:∀b∈bs,lu (aZ S) b
 afP:∀b∈bs,b.parts≠[]
section
variable {x:ED} {last:dJ} {asked:Bool}
theorem iM.kind2(h:iM S):∀l∈aZ S,∀k∈l,1<=k/\k<=4:=λl a' k ah=>by
 unfold aZ at a'
 obtain⟨b9,c7,rfl⟩:=LC.1 a'
 obtain⟨aG,aH,rfl⟩:=LC.1 ah
 exact h.kinds b9 c7 aG aH
theorem iM.attr2(h:iM S):∀l∈aZ S,l.length<=8:=λl a'=>by
 unfold aZ at a'
 obtain⟨b9,c7,rfl⟩:=LC.1 a'
 rw[KZ]
 exact h.attrs b9 c7
theorem CZ.bJ(h:CZ S its bs)(d:bs[i]? =J b)(a1:b.parts[k]? =J q){f:aO}(bL:Di S its (bs.set i {b with parts:=b.parts.set k f}))(V:f.form=3->f.closes=[]):CZ S its (bs.set i {b with parts:=b.parts.set k f}):=by have aR:=(KA.1 d).1;refine⟨bL,jv h.brg (lu.bJ (h.brg b (Kz d)) (bL.br _ (Kz (i:=i) YB)) V),jv h.afP λa7=>?_⟩;have b3:=congrArg List.length a7;rw[Lj,NJ] at b3;exact h.afP b (Kz d) (NP.1 b3)
theorem CZ.none_(h:CZ S its bs)(ad:dD its false x=[])(V:qy S its I x n)(d:bs[i]? =J b)(a1:b.parts[k]? =J q):CZ S its (bs.set i {b with parts:=b.parts.set k {q with guards:=q.guards++[n]}}):=by
 have ai:=(h.mko.br b (Kz d)).part k q a1;have a2:∀aJ,jZ aJ n=true:=λaJ=>V aJ λbl br=>by rw[AQ S its I x ad] at br;cases br
 refine h.bJ d a1 (h.mko.put d a1 D D ⟨ai.ty,λaH dT ek=>?_,λaH dT ek=>?_,ai.closes⟩) ((h.brg b (Kz d)).not q (Kz a1))
 ·rcases KQ.1 ek with o|o
  ·exact ai.not aH dT o
  rw[KG] at o;rw[o];exact a2 _
 rcases KQ.1 ek with o|o
 ·exact ai.guards aH dT o
 rw[KG] at o;rw[o];exact a2 _
theorem CZ.place(h:CZ S its bs)(aw:qX its x last asked):∃(i k:Nat) (b:dB) (q:aO),last.branch=i/\last.part=k/\bs[i]? =J b/\b.parts[k]? =J q/\q.form=last.form/\q.ty=last.kind:=by obtain⟨i,k,b,q,o,a8,ac,b6,bz,c4,-⟩:=h.mko.its.at_ last aw.mem;exact⟨i,k,b,q,o,a8,ac,b6,bz,c4⟩
theorem FU{kk:Nat}{l:List ND}(d:bs[i]? =J b)(a1:b.parts[k]? =J q)(a':l=jJ kk q):lS (bs.set i {b with parts:=b.parts.set k (fA kk q (l++[n]))})=lS bs+aH n:=by
 subst a';have o:=tX kG (x:={b with parts:=b.parts.set k (fA kk q (jJ kk q++[n]))}) d;have a8:=tX gJ (x:=fA kk q (jJ kk q++[n])) a1;have ac:kG {b with parts:=b.parts.set k (fA kk q (jJ kk q++[n]))}=((b.parts.set k (fA kk q (jJ kk q++[n]))).map gJ).sum:=D;have b6:kG b=(b.parts.map gJ).sum:=D;have bz:gJ (fA kk q (jJ kk q++[n]))=gJ q+aH n:=by
  unfold fA jJ gJ;split
  ·simp only[xJ];omega
  simp only[xJ];omega
 unfold lS;omega
theorem aa6{a:ByteArray}(h:0 < a.size):wL a=J a:=by unfold wL;rw[JZ N]
theorem CZ.guard(h:CZ S its bs)(ag:iM S)(aS:dO x=true)(aH:iP S its x=true)(aw:qX its x last true)(a':0 < last.name.size)(b3:last.branch=i)(bh:last.part=k)(d:bs[i]? =J b)(a1:b.parts[k]? =J q)(aE:q.form=last.form)(e7:q.ty=last.kind)(V:qy S its (wL last.name) x n): CZ S its (bs.set i {b with parts:=b.parts.set k {q with guards:=q.guards++[n]}}):=by rw[aa6 a'] at V;exact h.bJ d a1 (Jh ag.kind2 ag.attr2 h.mko aS aw b3 bh d a1 aE e7 (vK S its _ x aH) (by rw[Kq D];exact V)) ((h.brg b (Kz d)).not q (Kz a1))
theorem CZ.close(h:CZ S its bs)(ag:iM S)(aS:dO x=true)(aH:iP S its x=true)(aw:qX its x last false)(b3:last.branch=i)(bh:last.part=k)(d:bs[i]? =J b)(a1:b.parts[k]? =J q)(aE:q.form=last.form)(e7:q.ty=last.kind)(V:qy S its I x n): CZ S its (bs.set i {b with parts:=b.parts.set k {q with closes:=q.closes++[n]}}):=
 h.bJ d a1 (Jg ag.kind2 ag.attr2 h.mko aS aw b3 bh d a1 aE e7 (vK S its _ x aH) V) λa7=>by
  have a8:=aw.ask D
  rw[<-aE] at a8
  exact absurd (a8.symm.trans a7) Z
end

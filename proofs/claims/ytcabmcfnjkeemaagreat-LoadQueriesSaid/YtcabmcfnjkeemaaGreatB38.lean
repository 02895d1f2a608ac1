import Derived.Test.YtcabmcfnjkeemaaGreatBM00
import Derived.Test.YtcabmcfnjkeemaaGreatB37
set_option maxRecDepth 100000
set_option maxHeartbeats 40000000
set_option linter.unusedVariables false
set_option linter.unusedSimpArgs false
namespace Go.Proofs.YtcabmcfnjkeemaaGreat
open Go.Deep Go.RowKit
open Go renaming World->L,Value->O
open Go.IntKind renaming i64->E
open Go.Obj renaming cells->JO
open Go.RowKit renaming Hid->F,Below->JK
open Go.Value renaming int->C,slice->G,string->H,bool->JM
open Option renaming none->I,some->J
structure Src (B:Nat) (w0:L) (T:Nat->Tg) (X:L):Prop where
 size:w0.heap.size<=X.heap.size
 mem:∀g,B<=g->g < w0.heap.size->T g=.nd/\X.heap[g]? =w0.heap[g]?
variable{X:L}{B:Nat}{T T':Nat->Tg}{v:O}
section
variable {U:Nat->Prop} {w0 Y:L}
theorem Src.bG(h:Src B w0 T X)(k:Stp U B T X T' Y)(a9:∀g,T g=.nd->U g):Src B w0 T' Y:=
 ⟨Ko h.size k.bel.size,λg o a8=>have a:=h.mem g o a8;have ab:=Kv a8 h.size;⟨(k.tag g o ab (a9 g a.1)).trans a.1,(k.block g o ab (a9 g a.1)).trans a.2⟩⟩
theorem Src.keep(h:Src B w0 T X):aF (λb=>B<=b/\b < w0.heap.size) w0 X:=λaT u ai aw=>(KJ (h.mem aT.block ai.1 ai.2).2).trans aw
theorem Src.sub(h:Src B w0 T X):∀b,(B<=b/\b < w0.heap.size)->(B<=b/\b < X.heap.size/\T b=.nd):=λb d=>⟨d.1,Kv d.2 h.size,(h.mem b d.1 d.2).1⟩
theorem Src.nds{l:List ND}(h:Src B w0 T X)(k:dM (λb=>B<=b/\b < w0.heap.size) w0 v l):dM (λb=>B<=b/\b < X.heap.size/\T b=.nd) X v l:=k.keep h.keep h.sub
end
variable{w:L}{ps:List aO}{bs:List dB}{vk:O}
section
variable {w':L} {vb vp:O} {ks:List Int} {cb cp:List (List O)}
theorem mM.st(h:mM T B w vk ks vb bs cb vp ps cp)(k:Stp (λg=>T g≠oQ) B T w T' w')(aH:∀g,w'.heap.size<=g->T' g=.other)(a':bs.length < 100):mM T' B w' vk ks vb bs cb vp ps cp:=by have ah:=k.fO (V:=λb9=>b9≠oQ) λ_ h=>h;have ai:PsU bs.length ps.length λb9=>b9≠oQ:=⟨YO,YO,λk _=>WO,λk _=>YO⟩;exact⟨iT h.keys k λg ab=>XF,h.kU.fO ah (Jd N),h.pts.fO ah ai,aH,Ko h.low k.bel.size⟩
theorem mM.drop(h:mM T B w vk ks vb bs cb vp ps cp):mM T B w vk ks vb bs cb (G I 0 0) [] []:=⟨h.keys,h.kU,wE.nil _ _ _ _,h.fresh,h.low⟩
end
variable{e:List aO}{q:aO}
theorem gQ.snoc(h:gQ ps e){f:aO}(aH:f.form=q.form)(c7:f.ty=q.ty)(ab:eG q.guards f.guards)(aw:eG q.closes f.closes):gQ (ps++[q]) (e++[f]):=by
 induction h with
 |nil=>exact .keep aH c7 ab aw .nil
 |drop o _ bf=>exact .drop o bf
 |keep o a8 ac b6 _ bf=>exact .keep o a8 ac b6 bf
theorem gQ.ace(h:gQ ps e)(aH:q.form=3):gQ (ps++[q]) e:=by
 induction h with
 |nil=>exact .drop aH .nil
 |drop o _ bf=>exact .drop o bf
 |keep o a8 ac b6 _ bf=>exact .keep o a8 ac b6 bf
theorem aad(h:gQ ps e):(∀q∈ps,q.form=3->q.closes=[])->∀q∈e,q.form=3->q.closes=[]:=by
 induction h with
 |nil=>exact λh=>h
 |drop _ _ bf=>exact λh=>bf λq a1=>h q (Md _ a1)
 | @keep q f ps e o a8 ac b6 _ bf=>
  intro h z aS aH;rcases Nh.1 aS with rfl|aS
  ·have:=h q ZH (o.symm.trans aH);rw[this] at b6;exact b6.nil
  exact bf (λq a1=>h q (Md _ a1)) z aS aH
theorem lu.pass{kinds:List (List Int)}{b:dB}{win:Int}(h:lu kinds b)(bN:0<=win/\win<=1152921504606846976)(ai:gQ b.parts ps):lu kinds ⟨b.id,win,ps⟩:=
 ⟨h.ok.pass D bN ai,aad ai h.not⟩
theorem Ci{l aw:List ND}(h:∀x∈aw,x∈l):eG l aw:=λx ad=>⟨x,h x ad,kJ.refl x⟩
theorem ad8{dq:L}(ag:Src B dq T X)(h:aX (λb=>B<=b/\b < dq.heap.size) 4 (jo (λb=>B<=b/\b < dq.heap.size)) dq v ps){k:Nat}(a1:ps[k]? =J q): ∃b off a9 Y n cl bD,v=G (J ⟨b,off,I⟩) ps.length a9/\X.cell? ⟨b,off+k*4,I⟩=J (C E q.form)/\X.cell? ⟨b,off+k*4+1,I⟩=J (C E q.ty)/\X.cell? ⟨b,off+k*4+2,I⟩=J (G Y q.guards.length n)/\X.cell? ⟨b,off+k*4+3,I⟩=J (G cl q.closes.length bD)/\dM (λb=>B<=b/\b < dq.heap.size) dq (G Y q.guards.length n) q.guards/\dM (λb=>B<=b/\b < dq.heap.size) dq (G cl q.closes.length bD) q.closes/\wfi q.form/\wfi q.ty:=by
 have o:aX (λb=>B<=b/\b < dq.heap.size) 4 (λ_ bj aa=>jo (λb=>B<=b/\b < dq.heap.size) dq bj aa) X v ps:=by refine aX.keep h ag.keep (λ_ h=>h) (R':=λ_ bj aa=>jo (λb=>B<=b/\b < dq.heap.size) dq bj aa) λbj aa ad=>?_;exact ad
 obtain⟨b,off,a9,af,-,-,-,bj,-,aS,aw⟩:=(aX.out (R':=λ_ bj aa=>jo (λb=>B<=b/\b < dq.heap.size) dq bj aa) o λ_ _ h=>h).get a1;obtain⟨cR,aY,rfl,ac,b6,bz,c4⟩:=aS;obtain⟨Y,n,rfl,-⟩:=id ac;obtain⟨cl,bD,rfl,-⟩:=id b6;exact⟨b,off,a9,Y,n,cl,bD,af,aw 0 _ D,aw 1 _ D,aw 2 _ D,aw 3 _ D,ac,b6,bz,c4⟩
variable{cs:List O}{S:SchD}
section
variable {Q:Nat->Prop}
theorem aaq{q:Type}{m:Nat}{R R':L->List O->q->Prop}{xs:List q}(h:bU m R w v xs)(hF:0 < m)(f:∀cs x,R w cs x->R' w cs x):aX (λb=>b < w.heap.size) m R' w v xs:=by obtain⟨Y,a9,o,a8,ac,b6⟩:=h;refine⟨Y,a9,o,a8,ac,λbw=>?_⟩;obtain⟨b,b5,bz,c4⟩:=b6 bw;obtain⟨x,ad⟩:∃x,xs[0]? =J x:=⟨_,Kr bw⟩;obtain⟨cs,cC,d4,du⟩:=c4 0 x ad;obtain⟨u,ap⟩:∃u,cs[0]? =J u:=⟨_,Kr N⟩;refine⟨b,b5,bz,ay (du 0 u ap),λa3 a2 ak=>?_⟩;obtain⟨au,b3,bh,ca⟩:=c4 a3 a2 ak;exact⟨au,b3,f _ _ bh,ca⟩
theorem qB.lt{vt vs:O}(h:qB w vt vs S):Dl (λb=>b < w.heap.size) w vt vs S:=
 ⟨aaq h.types Z λbj aa ⟨bc,o,a8⟩=>⟨bc,o,aaq a8 Z λ_ _ h=>h⟩,aaq h.syms Z λ_ _ h=>h⟩
theorem iD.lt{x:ED}(h:iD Q w cs x):iD (λb=>b < w.heap.size) w cs x:=by
 induction h with
 |mk e M bQ ar bq bF b8 Y a9 cA bN aw bL a' ag aS bf=>refine .mk e M bQ ar bq bF b8 Y a9 cA bN aw bL a' (λbw=>?_) bf;obtain⟨b,b5,o,a8,ac⟩:=ag bw;obtain⟨cs,cM⟩:∃cs,cA[0]? =J cs:=⟨_,Kr N⟩;obtain⟨x,ad⟩:∃x,b8[0]? =J x:=⟨_,Kr bw⟩;have de:=(aS 0 cs x cM ad).len;obtain⟨u,ap⟩:∃u,cs[0]? =J u:=⟨_,Kr N⟩;exact⟨b,b5,o,ay (ac 0 cs cM 0 u ap),ac⟩
end
theorem Aj(ps b:List aO){k:Nat}(h:k<=ps.length):dH (ps++b) k=dH ps k:=by unfold dH;apply List.filter_congr;intro a3 aR;have aR:=MK.1 aR;unfold dZ;rw[KW N]
section
variable {its:List dJ} {r:Nat} {win:Int}
theorem adr(h:wI S its bs)(b:dB):wI S its (bs++[b]):=
 ⟨λa2 ak=>by
  obtain⟨a3,a0,aY,m,o,a8,ac,b6⟩:=h.at_ a2 ak
  exact⟨a3,a0,aY,m,o,a8,by rw[KW (KA.1 ac).1];exact ac,b6⟩,h.one,h.uniq⟩
theorem ads(h:wI S its (bs++[⟨r,win,ps⟩]))(aS:bs.length=r){nm:ByteArray}{e t:Int}(V:iO its nm=I)(c7:0<=t/\t < (S.types.length:Int))(aH:1<=e/\e<=3): wI S (its++[⟨nm,(r:Int),(ps.length:Int),((dH ps ps.length).length:Int),e,t⟩]) (bs++[⟨r,win,ps++[⟨e,t,[],[]⟩]⟩]):=by
 have b:∀a2∈its,a2.name≠nm:=λa2 ak a7=>by unfold iO at V;have o:=List.find?_eq_none.1 V a2 ak;simp[a7] at o
 have a':(bs++[(⟨r,win,ps⟩:dB)])[r]? =J ⟨r,win,ps⟩:=by rw[Lh N,aS,Me];rfl
 have dC:(bs++[(⟨r,win,ps++[⟨e,t,[],[]⟩]⟩:dB)])[r]? =J ⟨r,win,ps++[⟨e,t,[],[]⟩]⟩:=by rw[Lh N,aS,Me];rfl
 have k:∀a2∈its,¬(a2.branch=(r:Int)/\a2.part=(ps.length:Int)):=λa2 ak a7=>by
  obtain⟨a3,a0,y,m,o,a8,ac,b6,-⟩:=h.at_ a2 ak;obtain rfl:a3=r:=by have:=a7.1;omega
  rw[a'] at ac;injection ac with ac;subst ac;have bz:=(KA.1 b6).1;have c4:=a7.2;simp only at bz;omega
 refine⟨λa2 ak=>?_,λa2 ak aA cv b3 bh=>?_,λa2 ak aA cv a7=>?_⟩
 ·rcases KQ.1 ak with ak|ak
  ·obtain⟨a3,a0,y,m,o,a8,ac,b6,bz,c4,de,dy⟩:=h.at_ a2 ak;by_cases aR:a3=r
   ·subst aR;rw[a'] at ac;injection ac with ac;subst ac;have aD:a0 < ps.length:=(KA.1 b6).1;exact⟨a3,a0,_,m,o,a8,dC,by simp only;rw[KW aD];exact b6,bz,c4,by simp only at de⊢;rw[Aj _ _ (KI aD)];exact de,dy⟩
   have bA:=(KA.1 ac).1;simp at bA;rw[KW N] at ac;exact⟨a3,a0,y,m,o,a8,by rw[KW N];exact ac,b6,bz,c4,de,dy⟩
  rw[KG] at ak;subst ak;exact⟨r,ps.length,_,⟨e,t,[],[]⟩,D,D,dC,ZH,D,D,by simp only;rw[Aj _ _ c],c7.1,c7.2,aH⟩
 ·rcases KQ.1 ak with ak|ak
  ·rcases KQ.1 cv with cv|cv
   ·exact h.one a2 ak aA cv b3 bh
   rw[KG] at cv;subst cv;exact absurd ⟨b3,bh⟩ (k a2 ak)
  rw[KG] at ak;subst ak;rcases KQ.1 cv with cv|cv
  ·exact absurd ⟨b3.symm,bh.symm⟩ (k aA cv)
  rw[KG] at cv;exact cv.symm
 rcases KQ.1 ak with ak|ak
 ·rcases KQ.1 cv with cv|cv
  ·exact h.uniq a2 ak aA cv a7
  rw[KG] at cv;subst cv;exact absurd a7 (b a2 ak)
 rw[KG] at ak;subst ak;rcases KQ.1 cv with cv|cv
 ·exact absurd a7.symm (b aA cv)
 rw[KG] at cv;exact cv.symm
def PsB (S:SchD) (ps:List aO):Prop:=∀q∈ps,q.guards=[]/\q.closes=[]/\0<=q.ty/\q.ty < (S.types.length:Int)
def Bare (bs:List dB):Prop:=∀b∈bs,b.parts≠[]/\b.parts.length<=8/\∀q∈b.parts,q.guards=[]/\q.closes=[]
theorem Cj:∀{l:List Nat},(∀x∈l,x=0)->l.sum=0
 | [],_=>rfl
 |a :: l,h=>by rw[List.sum_cons,h a (MS ..),Cj λx ad=>h x (Md _ ad)]
theorem aeB{P:List dB}(h:Bare P):lS P=0:=by
 have o:∀y∈P,kG y=0:=λy d=>by
  have a8:∀m∈y.parts,gJ m=0:=λm a1=>by obtain⟨b3,bh⟩:=(h y d).2.2 m a1;unfold gJ fU;rw[b3,bh];rfl
  unfold kG;exact Cj λaa ad=>by obtain⟨m,a1,rfl⟩:=LC.1 ad;exact a8 m a1
 unfold lS;exact Cj λaa ad=>by obtain⟨y,d,rfl⟩:=LC.1 ad;exact o y d
theorem aeD(h:PsB S ps)(aS:r < 4)(bN:0<=win/\win<=1152921504606846976)(a':ps.length<=8):lu (aZ S) ⟨r,win,ps⟩:=by
 refine⟨⟨⟨YQ,YQ⟩,bN,a',λa3 m a1=>?_⟩,λm a1 _=>(h m a1).2.1⟩;obtain⟨o,a8,ac,b6⟩:=h m (Kz a1);refine⟨⟨ac,by unfold aZ;rw[KZ];exact b6⟩,λ_ M V=>?_,λ_ M V=>?_,λ_ M V=>?_⟩
 ·rw[o] at V;cases V
 ·rw[o] at V;cases V
 rw[a8] at V;cases V
end
structure lM (g B:Nat) (vt vs:O) (S:SchD) (W0:L) (bl:List Bx) (its:List dJ) (vi:O) (er:Int) (vb:O) (bs:List dB) (cb:List (List O)) (vp:O) (ps:List aO) (cp:List (List O)) (T:Nat->Tg) (X:L):Prop where
 st:∃ea,aj X g 132 #[vt,vs,vi,C E er,C E ea]
 bel:JK B W0 X
 Aq:∃ci,Acc B 193 6 ItR X vi its ci
 itt:∀b,vi.ownBlock=J b->T b=oQ
 len:its.length<=32
 cl:mM T B X (G I 0 0) [] vb bs cb vp ps cp
 fm:Fm B T g X bl
 tg:T g=.other/\B<=g
 bln:bs.length < 100
variable{v':O}
section
variable {g:Nat} {vt vs:O} {W0:L} {bl:List Bx} {its:List dJ} {vi:O} {er:Int} {vb:O} {cb:List (List O)} {vp:O} {cp:List (List O)} {Y:L} {U:Nat->Prop}
theorem lM.ne(h:lM g B vt vs S W0 bl its vi er vb bs cb vp ps cp T X){b:Nat}(d:vi.ownBlock=J b):b≠g:=λa7=>by
 have o:=h.itt b d
 rw[a7,h.tg.1] at o
 cases o
theorem lM.mst(h:lM g B vt vs S W0 bl its vi er vb bs cb vp ps cp T X)(ag:Dl (λb=>b < B) W0 vt vs S)(br:iM S):∃d3,kV (λb=>b < B\/(B<=b/\b < X.heap.size/\vi.ownBlock=J b)) g vt vs vi S its er d3 X:=by
 obtain⟨d3,d⟩:=h.st;obtain⟨dL,aJ⟩:=h.Aq;refine⟨d3,d,ag.keep (aF.of_below h.bel λb d=>d) λb d=>.inl d,?_,br,h.len,λb e=>?_⟩
 ·exact bQ (show eF 6 ItC X dL its from aJ.2) aJ.1 (λb d o a8=>.inr ⟨o,a8,d⟩) (.inr trivial)
 rcases e with o|o
 ·exact⟨by have:=h.tg.2;omega,Kv o h.cl.low⟩
 exact⟨h.ne o.2.2,o.2.1⟩
theorem aft(i n:Nat)(aR:i < 100):PsU i n λt=>t≠ .other/\t≠oQ:=⟨⟨YO,YO⟩,⟨YO,YO⟩,λa0 _=>⟨YO,WO⟩,λa0 _=>⟨YO,YO⟩⟩
theorem agG(m:Nat)(bL:m < 100):BsU m λt=>t≠ .other/\t≠oQ:=⟨⟨YO,YO⟩,⟨YO,YO⟩,λa3 aR M=>aft a3 M N⟩
theorem mM.stU{n:List Int}(h:mM T B X vk n vb bs cb vp ps cp)(k:Stp U B T X T' Y)(a9:∀b,T b≠ .other->T b≠oQ->U b)(aH:∀b,Y.heap.size<=b->T' b=.other)(a':bs.length < 100):mM T' B Y vk n vb bs cb vp ps cp:=
 ⟨iT h.keys k λb d=>a9 b XK XK,h.kU.fO (k.fO λb d=>a9 b d.1 d.2) (agG _ a'),h.pts.fO (k.fO λb d=>a9 b d.1 d.2) (aft _ _ a'),aH,Ko h.low k.bel.size⟩
theorem lM.step{Gp:List Bx}{l j:O}{f:List dB}{m n:List (List O)}(h:lM g B vt vs S W0 bl its vi er vb bs cb vp ps cp T X)(k:Stp U B T X T' Y)(ab:U g)(aR:∀b,T b=oQ->U b)(cU:mM T' B Y (G I 0 0) [] l f m j e n)(i:Fm B T' g Y Gp)(a':f.length < 100):lM g B vt vs S W0 Gp its vi er l f m j e n T' Y:=by obtain⟨d3,d⟩:=h.st;obtain⟨dL,aJ⟩:=h.Aq;exact⟨⟨d3,(k.block g h.tg.2 d.lt ab).trans d⟩,h.bel.trans k.bel,⟨dL,jG aJ (λ_ _ _ _ _ _ h=>h) λb d=>k.block b (aQ aJ.1 d).2 (aQ aJ.1 d).1 (aR b (h.itt b d))⟩,λb d=>(k.tag b (aQ aJ.1 d).2 (aQ aJ.1 d).1 (aR b (h.itt b d))).trans (h.itt b d),h.len,cU,i,⟨(k.tag g h.tg.2 d.lt ab).trans h.tg.1,h.tg.2⟩,a'⟩
theorem lM.more(h:lM g B vt vs S W0 bl its vi er vb bs cb vp ps cp T X)(k:JK X.heap.size X Y):lM g B vt vs S W0 bl its vi er vb bs cb vp ps cp T Y:=
 h.step (Stp.of_below T k h.cl.low) trivial (λ_ _=>trivial) (h.cl.more k) (h.fm.bG (Stp.of_below T k h.cl.low) λ_ _=>trivial) h.bln
theorem lM.gsz(h:lM g B vt vs S W0 bl its vi er vb bs cb vp ps cp T X):g < X.heap.size:=by obtain⟨d3,d⟩:=h.st;exact d.lt
theorem lM.push(h:lM g B vt vs S W0 bl its vi er vb bs cb vp ps cp T X)(t:TypeId)(cs:Array O):lM g B vt vs S W0 (⟨X.heap.size,t,cs⟩ :: bl) its vi er vb bs cb vp ps cp T (X.alloc (JO cs t)):=by have a0:JK X.heap.size X (X.alloc (JO cs t)):=JY.alloc c _;exact h.step (Stp.of_below T a0 h.cl.low) trivial (λ_ _=>trivial) (h.cl.more a0) (h.fm.push t cs (h.cl.fresh _ c) h.cl.low h.gsz) h.bln
theorem lM.drop{x:Bx}(h:lM g B vt vs S W0 (x :: bl) its vi er vb bs cb vp ps cp T X):lM g B vt vs S W0 bl its vi er vb bs cb vp ps cp T X:=
 ⟨h.st,h.bel,h.Aq,h.itt,h.len,h.cl,⟨λa2 ak=>h.fm.box a2 (Md _ ak),(Nr.1 VK).2⟩,h.tg,h.bln⟩
theorem lM.yD{i:Nat}{x:Bx}{cs':Array O}(h:lM g B vt vs S W0 bl its vi er vb bs cb vp ps cp T X)(ad:bl[i]? =J x)(aE:aU x.g X Y)(d:aj Y x.g x.t cs'):lM g B vt vs S W0 (bl.set i {x with cs:=cs'}) its vi er vb bs cb vp ps cp T Y:=by obtain⟨b3,bh,ca,dc⟩:=h.fm.box x (Kz ad);have a0:=Stp.dV T aE bh;exact h.step a0 dc.symm (λy d a7=>by rw[a7,ca] at d;cases d) (h.cl.bG a0 (λy d a7=>d (a7▸ca)) λy d=>h.cl.fresh y XR) (h.fm.yD ad aE d) h.bln
theorem lM.call{br ee:Int}(h:lM g B vt vs S W0 bl its vi er vb bs cb vp ps cp T X)(ab:X.grownBy Y (J g))(d:aj Y g 132 #[vt,vs,vi,C E br,C E ee]):lM g B vt vs S W0 bl its vi br vb bs cb vp ps cp T Y:=by obtain⟨dL,aJ⟩:=h.Aq;have a0:Stp (λy=>y≠g) B T X T Y:=⟨(Ky B X).grown ab h.cl.low λa4 bK=>by injection bK with bK;rw[<-bK];exact h.tg.2,λ_ _ _ _=>rfl,λy _ a8 ac=>ab.block y a8 λa7=>ac Zj⟩;exact⟨⟨ee,d⟩,h.bel.trans a0.bel,⟨dL,jG aJ (λ_ _ _ _ _ _ h=>h) λy d=>a0.block y (aQ aJ.1 d).2 (aQ aJ.1 d).1 (h.ne d)⟩,h.itt,h.len,h.cl.bG a0 (λy d a7=>d (a7▸h.tg.1)) λy d=>h.cl.fresh y (Ko ab.size d),h.fm.bG a0 λaa ad=>(h.fm.box aa ad).2.2.2,h.tg,h.bln⟩
theorem lM.item{a2:dJ}{e:List (List O)}(h:lM g B vt vs S W0 bl its vi er vb bs cb vp ps cp T X)(cN:Acc B 193 6 ItR Y v' (its++[a2]) e)(d5:jk B vi X Y)(c8:∀b,v'.ownBlock=J b->vi.ownBlock=J b\/X.heap.size<=b)(a':its.length < 32): ∃T',lM g B vt vs S W0 bl (its++[a2]) v' er vb bs cb vp ps cp T' (Y.setCell ⟨g,2,I⟩ v'):=by
 obtain⟨d3,d⟩:=h.st;have aE:=aU.one Y g 2 v';have bm:∀b,v'.ownBlock=J b->b≠g:=λb d a7=>by
  rcases c8 b d with o|o
  ·exact h.ne o a7
  have:=h.gsz;omega
 have m:∀b,b < X.heap.size->eU T v'.ownBlock oQ b=T b:=λb o=>by
  by_cases d:J b=v'.ownBlock
  ·rcases c8 b d.symm with a8|a8
   ·rw[<-d,gZ,h.itt b a8]
   omega
  exact gG d
 have aL:Stp (λb=>T b≠oQ) B T X (eU T v'.ownBlock oQ) Y:=⟨(Ky B X).grown d5.grown h.cl.low d5.ge,λb _ a8 _=>m b a8,λb _ a8 ac=>d5.grown.block b a8 λa7=>ac (h.itt b a7.symm)⟩;have ay:=d5.grown.size;have a0:∀b,Y.heap.size<=b->eU T v'.ownBlock oQ b=.other:=λb d=>by
  rw[gG]
  ·exact h.cl.fresh b (Ko ay d)
  intro a7;have:=(aQ cN.1 (g:=b) a7.symm).1;omega
 have f:aj Y g 132 #[vt,vs,vi,C E er,C E d3]:=(aL.block g h.tg.2 d.lt Xl).trans d;have ao:=aL.trans (Stp.dV (eU T v'.ownBlock oQ) aE h.tg.2);have b6:eU T v'.ownBlock oQ g=.other:=(m g h.gsz).trans h.tg.1;refine⟨eU T v'.ownBlock oQ,⟨⟨d3,?_⟩,h.bel.trans ao.bel,⟨e,jG cN (λ_ _ _ _ _ _ h=>h) λb d=>aE.grown.block b (aQ cN.1 d).1 λa7=>bm b d Zj⟩,λb d=>by rw[d];exact gZ,by rw[KC];simp;omega,h.cl.stU ao (λb o a8=>⟨a8,λa7=>o (a7▸h.tg.1)⟩) (λb d=>a0 b XR) h.bln,h.fm.bG ao λaa ad=>⟨VJ,(h.fm.box aa ad).2.2.2⟩,⟨b6,h.tg.2⟩,h.bln⟩⟩;exact f.bJ 2 v'
theorem lM.part(h:lM g B vt vs S W0 bl its vi er vb bs cb vp ps cp T X)(aJ:Acc B 76 4 acE Y v' (ps++[q]) (cp++[cs]))(ab:jk B vp X Y)(c8:∀g,v'.ownBlock=J g->vp.ownBlock=J g\/X.heap.size<=g)(a1:PtX T B X bs.length ps.length cs q): ∃T',lM g B vt vs S W0 bl its vi er vb bs cb v' (ps++[q]) (cp++[cs]) T' Y:=by obtain⟨o,a8⟩:=h.cl.part aJ ab c8 a1;exact⟨_,h.step a8 Xl (λy d=>XK) o (h.fm.bG a8 λaa ad=>VJ) h.bln⟩
theorem lM.branch{b:dB}(h:lM g B vt vs S W0 bl its vi er vb bs cb vp ps cp T X)(aJ:Acc B 72 3 FY Y v' (bs++[b]) (cb++[cs]))(ab:jk B vb X Y)(c8:∀g,v'.ownBlock=J g->vb.ownBlock=J g\/X.heap.size<=g)(d:BrX T B X bs.length cs b)(a':bs.length < 90): ∃T',lM g B vt vs S W0 bl its vi er v' (bs++[b]) (cb++[cs]) (G I 0 0) [] [] T' Y:=by obtain⟨o,a8⟩:=h.cl.branch aJ ab c8 d;exact⟨_,h.step a8 Xl (λb d=>XK) o (h.fm.bG a8 λaa ad=>VJ) (by rw[KC];simp;omega)⟩
theorem lM.ahB{p:bD}(h:lM g B vt vs S W0 bl its vi er vb bs cb (G I 0 0) [] [] T X)(ag:Dl (λb=>b < B) W0 vt vs S)(br:iM S)(ai:p.branches=bs)(ah:aX (λb=>B<=b/\b < X.heap.size/\T b=.nd) 1 fF X vk p.keys): ∃T',mJ (λb=>b < B\/(B<=b/\b < X.heap.size/\vi.ownBlock=J b)) g B vt vs vi S its vk vb p T' X er bs bl T' X:=by
 obtain⟨d3,bL⟩:=h.mst ag br;have q:∀b,vi.ownBlock=J b->B<=b/\b < X.heap.size:=λb d=>by obtain⟨dL,aJ⟩:=h.Aq;exact⟨(aQ aJ.1 d).2,(aQ aJ.1 d).1⟩
 have aH:∀b,X.heap.size<=b->eU T vi.ownBlock .other b=.other:=λb d=>by
  unfold eU;split
  ·rfl
  exact h.cl.fresh b d
 have a0:Stp (λb=>T b≠oQ) B T X (eU T vi.ownBlock .other) X:=Stp.retag X λb _ _ ac=>gG λa7=>ac (h.itt b a7.symm);have cU:=h.cl.stU a0 (λ_ _ a8=>a8) aH h.bln;have b6:eU T vi.ownBlock .other g=.other:=(a0.tag g h.tg.2 h.gsz Xl).trans h.tg.1;refine⟨eU T vi.ownBlock .other,⟨⟨d3,bL⟩,⟨iT ah a0 λb d=>XK,⟨cb,cU.kU⟩,aH,h.cl.low⟩,h.fm.bG a0 λaa ad=>VJ,⟨b6,h.tg.2,h.gsz⟩,(Stp.refl _ _ _).weak λ_ _=>trivial,λb d=>?_⟩⟩;rcases d with o|⟨o,a8,ac⟩
 ·exact⟨Kv o h.cl.low,.inl o⟩
 exact⟨a8,.inr ⟨by rw[ac];exact gZ,h.ne ac⟩⟩
end
attribute [local go_sem ↓] Go.wp_at_zero Go.wp_at_succ
def yQ (q:qZ):Prop:=0 < q.branches.length/\(1<=q.strategy/\q.strategy<=3)/\(0<=q.win/\q.win<=1152921504606846976)
def aaQ (x:nZ):Prop:=1<=x.form/\x.form<=3
def rC (l:List nZ):Prop:=0 < l.length/\∀x∈l,aaQ x
def aaJ (x:ED):Prop:=(dO x=true/\rV x=true)/\x.op≠13
def acH (q:qZ):Prop:=yQ q/\(∀l∈q.branches,rC l)/\(∀x∈q.conds,aaJ x)
def RqP (q:qZ) (w:L) (e:Ending) (w':L):Prop:=∃b,e=.returned (JM b)/\(b=true->acH q)/\JK w.heap.size w w'
theorem aaj{cn e2:O}{q:qZ}(h:xW w cn e2 q):Calls Tryz.prog 69 #[.agg (vS cn e2 q)] w (RqP q w):=by
 obtain⟨cg,ck,rfl,ej,cq⟩:=h.br.slice;obtain⟨cQ,aH,rfl,d0,cR⟩:=h.wh.slice;have ae:=A h;have aX:=A (λb9 B h=>name_any b9 B h);obtain⟨an,bk⟩:∃an,an=w.alloc (JO #[G cg q.branches.length ck,G cQ q.conds.length aH,C E q.strategy,C E q.win,H q.key,C E q.keyAt] 62):=⟨_,D⟩;have aC:=QY;have cZ:=SE;have eJ:q.conds.length<=8003:=h.sum.2;unfold maxLen at cR cq;clear h;unfold vS;go_in;go_upto_region 1 with fail;rw[<-bk];clear bk;obtain⟨al,am,ax,aW,T,bi,a5,a6,aq,aZ,aO,be⟩:=lV cZ;go_cut [3] from 9 to 42 (λbc bn=>∃d:Bool,bc=JM d/\F (d=true->yQ q)/\F (JK w.heap.size w bn/\aj bn w.heap.size 62 #[G cg q.branches.length ck,G cQ q.conds.length aH,C E q.strategy,C E q.win,H q.key,C E q.keyAt]));case first=>
  by_cases v:(0:Int) < (q.branches.length:Int)
  ·by_cases c2:1<=q.strategy
   ·by_cases bz:q.strategy<=3
    ·by_cases dN:0<=q.win
     ·by_cases d3:q.win<=1152921504606846976
      ·rcases ah:q.key.toList.isEmpty with _|_
       ·go_wp2_with fail;refine(aX q.key _ (by have:=ae.out.ok.2.2.1;omega)).mono ?_;rintro a7 b1 ⟨cu,rfl,ay,c9⟩;have bb:=A (show JK w.heap.size w b1/\aj b1 w.heap.size 62 #[G cg q.branches.length ck,G cQ q.conds.length aH,C E q.strategy,C E q.win,H q.key,C E q.keyAt] from⟨aC.trans (c9.mono aC.size),cZ.below c9 cZ.lt⟩);clear c9 ay;go_wp2_with fail;all_goals(go_meet;exact⟨_,D,A (λ_=>⟨N,⟨c2,bz⟩,dN,d3⟩),bb⟩)
       go_wp2_with fail;go_meet;exact⟨_,D,A (λ_=>⟨N,⟨c2,bz⟩,dN,d3⟩),A ⟨aC,cZ.out⟩⟩
      exact OW
     exact OW
    exact OW
   exact OW
  exact OW
 obtain⟨d,rfl,p,s⟩:=hcut;clear al am ax aW T bi a5 a6 aq aZ aO be;obtain⟨al,am,ax,aW,T,bi,a5,a6,aq,aZ,aO,be⟩:=lV s.2;have et:q.branches.length<=9223372036854775807:=N;go_wp2_with fail;clear al am ax aW T bi a5 a6 aq aZ aO be;go_loopw [3,46] (λbc a3 wr=>∃(d:Bool) (z:Nat),z<=q.branches.length/\bc=JM d/\a3=C E z/\F (d=true->yQ q/\∀bP∈q.branches.take z,rC bP)/\F (JK w.heap.size w wr/\aj wr w.heap.size 62 #[G cg q.branches.length ck,G cQ q.conds.length aH,C E q.strategy,C E q.win,H q.key,C E q.keyAt])) (λbc a3 wr=>q.branches.length-(intOf a3).toNat);case atStart=>exact⟨d,0,Kw _,D,D,A (λh=>⟨p h,ZH⟩),s⟩
 obtain⟨d,z,aS,rfl,rfl,ei,bs⟩:=hrel;have ct:(0:Int)<=(z:Int):=N;have cu:(z:Int)<=9223372036854775807:=N;obtain⟨al,am,ax,aW,T,bi,a5,a6,aq,aZ,aO,be⟩:=lV bs.2;by_cases bA:z < q.branches.length
 ·have c0:(z:Int) < (q.branches.length:Int):=N;obtain⟨bP,ak⟩:∃bP,q.branches[z]? =J bP:=⟨_,Kr bA⟩;have bV:=A ak;obtain⟨y,b5,ch,af,-,-,aR,bj,a',⟨aM,rfl,dI⟩,cM⟩:=bU.get (ae.out.keep bs.1).br ak;injection af with af _ cS;subst af cS;obtain⟨di,dq,rfl,ef,dC⟩:=dI.slice;have b':=cM 0 _ D;simp only[Nat.mul_one,Nat.add_zero] at b';obtain⟨g,n⟩:∃g,g=wr:=⟨_,D⟩;have dX:=A (show bU 4 aa2 g (G di bP.length dq) bP from n▸dI);unfold maxLen at dC;have dH:bP.length<=9223372036854775807:=N;clear ak aR a' cM dI;go_upto_region 5 with fail;go_cut [3] from 50 to 55 (λbc bn=>∃aY:Bool,bc=JM aY/\F (aY=true->d=true/\0 < bP.length)/\wr=bn);case first=>
   rcases d with _|_
   ·go_wp2_with fail;go_meet;exact⟨_,D,A (λh=>absurd h KY),D⟩
   by_cases a1:(0:Int) < (bP.length:Int)
   ·go_wp2_with fail;go_meet;exact⟨_,D,A (λh=>⟨ZE,N⟩),D⟩
   go_wp2_with fail;go_meet;exact⟨_,D,A (λh=>by first|exact absurd h KY|(exfalso;have:=Lu h;omega)),D⟩
  obtain⟨aY,rfl,k,rfl⟩:=hcut;go_wp2_with fail;clear al am ax aW T bi a5 a6 aq aZ aO be b';go_loopw [3,58] (λbc a3 t=>∃(aY:Bool) (a0:Nat),a0<=bP.length/\bc=JM aY/\a3=C E a0/\F (aY=true->yQ q/\(∀bP∈q.branches.take z,rC bP)/\0 < bP.length/\∀aa∈bP.take a0,aaQ aa)/\F (JK w.heap.size w t/\aj t w.heap.size 62 #[G (J ⟨y,b5,I⟩) q.branches.length ck,G cQ q.conds.length aH,C E q.strategy,C E q.win,H q.key,C E q.keyAt])/\F (JK g.heap.size g t)) (λbc a3 t=>bP.length-(intOf a3).toNat);case atStart=>exact⟨aY,0,Kw _,D,D,A (λh=>⟨(ei (k.out h).1).1,(ei (k.out h).1).2,(k.out h).2,ZH⟩),bs,A (by rw[n];exact Ky _ _)⟩
  obtain⟨aY,a0,ah,rfl,rfl,f,cJ,b⟩:=hrel;have dS:(0:Int)<=(a0:Int):=N;have e0:(a0:Int)<=9223372036854775807:=N;obtain⟨al,am,ax,aW,T,bi,a5,a6,aq,aZ,aO,be⟩:=lV cJ.2;by_cases dL:a0 < bP.length
  ·have dD:(a0:Int) < (bP.length:Int):=N;obtain⟨a2,ak⟩:∃a2,bP[a0]? =J a2:=⟨_,Kr dL⟩;have l:=A ak;obtain⟨dz,bl,b',af,-,-,aR,bj,a',⟨rfl,cr⟩,cM⟩:=bU.get (bU.keep dX (bW.of_below b) λ_ _ h=>h) ak;injection af with af _ cS;subst af cS;have b0:=cM 0 _ D;have aL:=cM 1 _ D;have ao:=cM 2 _ D;have b2:=cM 3 _ D;simp only[Nat.add_zero] at b0;have eO:=A cr;clear ak aR a' cM cr;obtain⟨i,bF,cH,ar⟩:=a2;dsimp only at b0 aL ao b2;go_upto_region 9 with fail;have cy:=TL;refine UL ?_;intro cX aD;have bp:=A aD;clear aD cy al am ax aW T bi a5 a6 aq aZ aO be b0 aL ao b2;have fM:F (∀B,JK wr.heap.size wr B->(JK w.heap.size w B/\aj B w.heap.size 62 #[G (J ⟨y,b5,I⟩) q.branches.length ck,G cQ q.conds.length aH,C E q.strategy,C E q.win,H q.key,C E q.keyAt])/\JK g.heap.size g B):=A (λB bB=>⟨⟨cJ.1.trans (bB.mono cJ.1.size),cJ.2.below bB cJ.2.lt⟩,b.trans (bB.mono b.size)⟩);have j:F (∀B,JK wr.heap.size wr B->∀a9:Bool,(a9=true->aY=true/\1<=i/\i<=3)->(∃(aY:Bool) (cW:Nat),cW<=bP.length/\Value.bool a9=JM aY/\Value.int E ((a0:Int)+1)=C E cW/\F (aY=true->yQ q/\(∀bP∈q.branches.take z,rC bP)/\0 < bP.length/\∀aa∈bP.take cW,aaQ aa)/\F (JK w.heap.size w B/\aj B w.heap.size 62 #[G (J ⟨y,b5,I⟩) q.branches.length ck,G cQ q.conds.length aH,C E q.strategy,C E q.win,H q.key,C E q.keyAt])/\F (JK g.heap.size g B))/\bP.length-(intOf (Value.int E ((a0:Int)+1))).toNat < bP.length-(intOf (Value.int E (a0:Int))).toNat):=A (λB bB a9 aw=>by
    refine⟨⟨a9,a0+1,N,D,ZF,A (λh=>⟨(f (aw h).1).1,(f (aw h).1).2.1,(f (aw h).1).2.2.1,λa2 m=>?_⟩),A (fM B bB).1,A (fM B bB).2⟩,YF⟩;have bg:=l.out;rw[MJ,bg] at m;simp only[List.mem_append,Option.toList_some,List.mem_singleton] at m;rcases m with bL|rfl
    ·exact(f (aw h).1).2.2.2 a2 bL
    exact(aw h).2)
   obtain⟨R,bd,bO,bY,dG,cC,d4,du⟩:=oC bp.2;rcases aY with _|_
   ·go_wp2_with fail;exact j _ bp.1 false (λh=>absurd h KY)
   by_cases cz:1<=i;rotate_left
   ·go_wp2_with fail;exact j _ bp.1 false (λh=>absurd h KY)
   by_cases cP:i<=3;rotate_left
   ·go_wp2_with fail;exact j _ bp.1 false (λh=>absurd h KY)
   go_wp2_with fail;refine(aX bF _ (by have:=eO.2.1;exact Ko this Z)).mono ?_;rintro a7 b1 ⟨cu,rfl,ay,c9⟩;have bb:=A (show JK wr.heap.size wr b1/\aj b1 wr.heap.size 178 _ from⟨bp.1.trans (c9.mono bp.1.size),bp.2.below c9 bp.2.lt⟩);clear c9 ay R bd bO bY dG cC d4 du;obtain⟨R,bd,bO,bY,dG,cC,d4,du⟩:=oC bb.2;rcases cu with _|_
   ·go_wp2_with fail;exact j _ bb.1 false (λh=>absurd h KY)
   go_wp2_with fail;refine(aX cH _ (by have:=eO.2.2.1;exact Ko this Z)).mono ?_;rintro a7 r ⟨e1,rfl,ay,cG⟩;have bX:=A (bb.1.trans (cG.mono bb.1.size));clear cG ay R bd bO bY dG cC d4 du;go_wp2_with fail;all_goals exact j _ bX e1 (λh=>⟨ZE,cz,cP⟩)
  have dD:(bP.length:Int)<=(a0:Int):=N;go_wp2_with fail;refine⟨⟨aY,z+1,N,D,ZF,A (λh=>⟨(f h).1,λa2 m=>?_⟩),cJ⟩,YF⟩;have bg:=bV.out;rw[MJ,bg] at m;simp only[List.mem_append,Option.toList_some,List.mem_singleton] at m;rcases m with bL|rfl
  ·exact(f h).2.1 a2 bL
  exact⟨(f h).2.2.1,λaa ad=>(f h).2.2.2 aa YA⟩
 have e1:(q.branches.length:Int)<=(z:Int):=N;have cU:(q.conds.length:Int)<=8003:=N;have ai:F (d=true->yQ q/\∀bP∈q.branches,rC bP):=A (λh=>⟨(ei h).1,λbP a'=>(ei h).2 bP (by rw[KN N];exact a')⟩);go_wp2_with fail;clear al am ax aW T bi a5 a6 aq aZ aO be;go_loopw [3,88] (λbc a3 dF=>∃(d:Bool) (a0:Nat),a0<=q.conds.length/\bc=JM d/\a3=C E a0/\F (d=true->yQ q/\(∀bP∈q.branches,rC bP)/\∀aa∈q.conds.take a0,aaJ aa)/\F (JK w.heap.size w dF/\aj dF w.heap.size 62 #[G cg q.branches.length ck,G cQ q.conds.length aH,C E q.strategy,C E q.win,H q.key,C E q.keyAt])) (λbc a3 dF=>q.conds.length-(intOf a3).toNat);case atStart=>exact⟨d,0,Kw _,D,D,A (λh=>⟨(ai h).1,(ai h).2,ZH⟩),bs⟩
 obtain⟨d,a0,ah,rfl,rfl,f,cJ⟩:=hrel;have dS:(0:Int)<=(a0:Int):=N;have e0:(a0:Int)<=8003:=N;obtain⟨al,am,ax,aW,T,bi,a5,a6,aq,aZ,aO,be⟩:=lV cJ.2;by_cases dL:a0 < q.conds.length
 ·have dD:(a0:Int) < (q.conds.length:Int):=N;obtain⟨a2,ak⟩:∃a2,q.conds[a0]? =J a2:=⟨_,Kr dL⟩;have l:=A ak;have dl:=A (nP ak);obtain⟨e,b8,M,bQ,cH,ar,a⟩:=a2;obtain⟨y,b5,a9,Y,cW,af,-,-,b',bv,bo,bZ,c5,bG,co,bS⟩:=iW (jr ae.out.wh cJ.1) ak;injection af with af _ cS;subst af cS;have e5:=A (Jk _ _ _ bS VH);clear bS ak;have j:F (∀B,JK w.heap.size w B/\aj B w.heap.size 62 #[G cg q.branches.length ck,G (J ⟨y,b5,I⟩) q.conds.length aH,C E q.strategy,C E q.win,H q.key,C E q.keyAt]->∀a9:Bool,(a9=true->d=true/\aaJ (.mk e b8 M bQ cH ar a))->(∃(d:Bool) (cW:Nat),cW<=q.conds.length/\Value.bool a9=JM d/\Value.int E ((a0:Int)+1)=C E cW/\F (d=true->yQ q/\(∀bP∈q.branches,rC bP)/\∀aa∈q.conds.take cW,aaJ aa)/\F (JK w.heap.size w B/\aj B w.heap.size 62 #[G cg q.branches.length ck,G (J ⟨y,b5,I⟩) q.conds.length aH,C E q.strategy,C E q.win,H q.key,C E q.keyAt]))/\q.conds.length-(intOf (Value.int E ((a0:Int)+1))).toNat < q.conds.length-(intOf (Value.int E (a0:Int))).toNat):=A (λB bB a9 aw=>by
   refine⟨⟨a9,a0+1,N,D,ZF,A (λh=>⟨(f (aw h).1).1,(f (aw h).1).2.1,λa2 m=>?_⟩),A bB⟩,YF⟩;have bg:=l.out;rw[MJ,bg] at m;simp only[List.mem_append,Option.toList_some,List.mem_singleton] at m;rcases m with bL|rfl
   ·exact(f (aw h).1).2.2 a2 bL
   exact(aw h).2)
  rcases d with _|_
  ·go_wp2_with fail;exact j _ cJ false (λh=>absurd h KY)
  by_cases cz:e=13
  ·have cP:(e== 13)=true:=by simpa using cz
   go_wp2_with fail;exact j _ cJ false (λh=>absurd h KY)
  have cP:(e== 13)=false:=by simpa using cz
  go_wp2_with fail;refine e5.mono ?_;rintro a7 b1 ⟨cu,rfl,fd,c9⟩;have bb:=A (show JK w.heap.size w b1/\aj b1 w.heap.size 62 _ from⟨cJ.1.trans (c9.mono cJ.1.size),cJ.2.below c9 cJ.2.lt⟩);have a4:=A fd;clear c9 fd e5 al am ax aW T bi a5 a6 aq aZ aO be b' bv bo bZ c5 bG co;rcases cu with _|_
  ·go_wp2_with fail;exact j _ bb false (λh=>absurd h KY)
  go_wp2_with fail;exact j _ bb _ (λh=>⟨ZE,a4 ZE,cz⟩)
 have dD:(q.conds.length:Int)<=(a0:Int):=N;go_wp2_with fail;go_ret;exact⟨d,D,λh=>⟨(f h).1,(f h).2.1,λaa ad=>(f h).2.2 aa YA⟩,cJ.1⟩

import Derived.Test.YtcabmcfnjkeemaaGreatBM00
import Derived.Test.YtcabmcfnjkeemaaGreatB36
import Derived.Test.YtcabmcfnjkeemaaGreatB39
set_option maxRecDepth 100000
set_option maxHeartbeats 40000000
set_option linter.unusedVariables false
set_option linter.unusedSimpArgs false
namespace Go.Proofs.YtcabmcfnjkeemaaGreat
open Go.Deep Go.RowKit
open Go renaming World->L,Value->O
open Go.IntKind renaming i64->E
open Go.Obj renaming cells->JO
open Go.RowKit renaming Hid->F,Below->JK
open Go.Value renaming int->C,slice->G,string->H,bool->JM
open Option renaming none->I,some->J
variable{X:L}{B:Nat}
section
variable {Q:Nat->Prop} {g:Nat} {vt vs vi:O} {S:SchD} {its its':List dJ} {vk vb vp:O} {p:bD} {T0 T T':Nat->Tg} {W W0 Y:L} {er er' ea':Int} {bs:List dB} {bl Gp:List Bx} {cb cp:List (List O)} {ps:List aO} {x:Bx}
theorem mJ.restart(h:mJ Q g B vt vs vi S its vk vb p T0 W er bs bl T X)(aH:Fm B T g X Gp):mJ Q g B vt vs vi S its vk vb p T X er bs Gp T X:=by
 refine⟨h.st,h.pl,aH,⟨h.tg.1,h.tg.2.1,h.gsz⟩,(Stp.refl _ _ _).weak λ_ _=>trivial,λy d=>?_⟩;obtain⟨o,a8⟩:=h.hq y d;refine⟨Kv o h.org.bel.size,?_⟩;rcases KT y B with ac|ac
 ·exact .inl ac
 rcases a8 with a8|a8
 ·exact .inl a8
 exact .inr ⟨(h.org.tag y ac o a8).trans a8.1,a8.2⟩
theorem Fm.one(h:Fm B T g X (x :: bl)):Fm B T g X [x]:=⟨λa2 ak=>by rw[KG] at ak;rw[ak];exact h.box x (MS ..),ZH⟩
theorem Fm.tail(h:Fm B T g X (x :: bl)):Fm B T g X bl:=⟨λa2 ak=>h.box a2 (Md _ ak),(Nr.1 (by have:=h.nd;rwa [List.map_cons] at this)).2⟩
theorem mJ.fmo(h:mJ Q g B vt vs vi S its vk vb p T0 W er bs bl T X)(aH:Fm B T0 g W Gp):Fm B T g X Gp:=aH.bG h.org λa2 ak=>⟨(aH.box a2 ak).2.2.1,(aH.box a2 ak).2.2.2⟩
theorem lM.agH(h:lM g B vt vs S W0 bl its vi er vb bs cb vp ps cp T X)(ab:X.grownBy Y (J g))(d:aj Y g 132 #[vt,vs,vi,C E er',C E ea']):lM g B vt vs S W0 bl its vi er' vb bs cb vp ps cp (lJ T X.heap.size Y.heap.size I .nd) Y:=by
 have a8:=h.call ab d;have a0:Stp (λy=>y < X.heap.size) B T Y (lJ T X.heap.size Y.heap.size I .nd) Y:=Stp.retag Y λy _ _ d=>xG d;have bA:∀y,T y≠ .other->y < X.heap.size:=λy d=>by
  rcases KT y X.heap.size with ac|ac
  ·exact ac
  exact absurd (h.cl.fresh y ac) d
 exact a8.step a0 h.gsz (λy d=>bA y XK) (a8.cl.stU a0 (λy o _=>bA y o) (λy d=>FN d ab.size) h.bln) (a8.fm.bG a0 λa2 ak=>(h.fm.box a2 ak).1.lt) h.bln
end
def acD (S:SchD) (its:List dJ) (er:Int) (bs:List dB) (r:Nat):Prop:=
 bs.length=r/\(er=0->wI S its bs/\∀b∈bs,lu (aZ S) b)/\Bare bs/\its.length<=8*r/\(0 < r->0 < its.length)
section
variable {S:SchD} {its its':List dJ} {er er':Int} {bs:List dB} {r n:Nat} {win:Int} {ps:List aO}
theorem acS(S:SchD)(er:Int):acD S [] er [] 0:=
 ⟨D,λ_=>⟨⟨(λa2 ak=>Zy),(λa2 ak=>Zy),(λa2 ak=>Zy)⟩,(λy d=>ZB)⟩,(λy d=>ZB),ZH,λh=>absurd h (Nat.lt_irrefl 0)⟩
theorem abe(h:acD S its er bs r)(d:BrF S its er bs r win n er' its' ps)(V:0 < n)(dy:n<=8)(aS:r < 4)(bN:0<=win/\win<=1152921504606846976):acD S its' er' (bs++[⟨r,win,ps⟩]) (r+1):=by
 obtain⟨ct,c0,cu,e1⟩:=d;obtain⟨ci,cw,dm,dz,dK⟩:=h;refine⟨by rw[KC,ci];rfl,λbS=>?_,λy d=>?_,N,λ_=>N⟩
 ·obtain⟨b3,bh,ca⟩:=e1 bS;obtain⟨cC,d4⟩:=cw b3;refine⟨bh cC,λy d=>?_⟩;rcases KQ.1 d with o|o
  ·exact d4 y o
  rw[KG] at o;rw[o];exact aeD ca aS bN N
 rcases KQ.1 d with o|o
 ·exact dm y o
 rw[KG] at o;rw[o];refine⟨λa7=>?_,YQ,cu⟩;simp only at a7;rw[a7] at c0;simp at c0;omega
theorem aeE(h:acD S its 0 bs r):CZ S its bs:=by obtain⟨ci,cw⟩:=h.2.1 D;exact⟨⟨ci,λy d=>(cw y d).ok⟩,cw,λy d=>(h.2.2.1 y d).1⟩
end
theorem MkQ.fin{e k:Nat}{T:Nat->Tg}{cr:L}{vk cn:O}{p:bD}(h:oW T B X vk cn p)(ag:wfi p.strategy)(aE:aU e X cr)(b6:T e=.other)(bW:k<=B):qU (λb=>k<=b/\b < cr.heap.size) cr [C E p.strategy,vk,cn] p:=by
 refine⟨vk,cn,D,?_,?_,ag⟩
 ·exact aX.keep h.keys (aE.keep _ λb d a7=>by have o:=d.2.2;rw[a7,b6] at o;cases o) (λb d=>⟨Ko bW d.1,by rw[aE.size];exact d.2.1⟩) λ_ _ h=>h
 have ah:lN Used B T X T cr:=lN.dV aE λ_ ap=>ap b6;exact aX.keep (h.kU.fO ah (zO _)).out (λ_ _ _ h=>h) (λb d=>⟨Ko bW d.1,d.2⟩) λ_ _ h=>BrQ.keep h (λ_ _ _ h=>h) λb d=>⟨Ko bW d.1,d.2⟩
variable{w:L}
theorem abk{e2:O}{l:List ED}(h:bU 7 yX w e2 l)(bW:w.heap.size=B)(d:JK B w X){Q:Nat->Prop}(n:∀b,b < B->Q b){i:Nat}{x:ED}(ad:l[i]? =J x): ∃b off a9 cs',e2=G (J ⟨b,off,I⟩) l.length a9/\iD Q X cs' x/\∀(j:Nat) (u:O),cs'[j]? =J u->X.cell? ⟨b,off+i*7+j,I⟩=J u:=by obtain⟨b,off,a9,af,-,-,aR,bj,a',aS,aw⟩:=bU.get h ad;subst bW;refine⟨b,off,a9,bj,af,aS.lt.keep (aF.of_below d λb d=>d) n,λj u ap=>?_⟩;have o:=aw j u ap;exact(d.cell (ay o)).trans o
attribute [local go_sem ↓] Go.wp_at_zero Go.wp_at_succ
def ag9 (w:L) (e:Ending) (w':L):Prop:=∃t:ByteArray,e=.returned (H t)/\t.size<=70000/\JK w.heap.size w w'
theorem abC{v:O}{l:List nZ}(h:bU 4 aa2 w v l)(a':l.length<=8):Calls Tryz.prog 70 #[v] w (ag9 w):=by
 obtain⟨Y,a9,rfl,d0,cR⟩:=h.slice;have f:=A h;unfold maxLen at cR;clear h;go_in;go_wp2_with fail;go_loopw [3,8] (λba a3 wr=>∃(b9:ByteArray) (z:Nat),z<=l.length/\ba=H b9/\a3=C E z/\F (b9.size<=4+8005*z)/\F (JK w.heap.size w wr)) (λba a3 wr=>l.length-(intOf a3).toNat);case atStart=>exact⟨_,0,Kw _,D,D,A Z,A JY⟩
 obtain⟨b9,z,aS,rfl,rfl,d8,b7⟩:=hrel;have ct:(0:Int)<=(z:Int):=N;have cu:(z:Int)<=8:=N;have au:b9.size<=70000:=Yj;by_cases bA:z < l.length
 ·have c0:(z:Int) < (l.length:Int):=N;obtain⟨a2,ak⟩:∃a2,l[z]? =J a2:=⟨_,Kr bA⟩;obtain⟨dz,bl,b',af,-,-,aR,bj,dC,⟨rfl,cr⟩,cM⟩:=bU.get (bU.keep f (bW.of_below b7) λ_ _ h=>h) ak;injection af with af _ cS;subst af cS;have b0:=cM 0 _ D;have aL:=cM 1 _ D;have ao:=cM 2 _ D;have b2:=cM 3 _ D;simp only[Nat.add_zero] at b0;obtain⟨-,aa,e0,-⟩:=cr;clear ak aR dC cM;obtain⟨i,bF,cH,ar⟩:=a2;dsimp only at b0 aL ao b2 aa e0;go_upto_region 5 with fail;have cy:=TL;refine UL ?_;intro cX aD;have bp:=A aD;clear aD cy b0 aL ao b2;obtain⟨R,bd,bO,bY,dG,cC,d4,du⟩:=oC bp.2;have j:F (∀e:ByteArray,e.size<=b9.size+8005->(∃(b9:ByteArray) (b:Nat),b<=l.length/\Value.string e=H b9/\Value.int E ((z:Int)+1)=C E b/\F (b9.size<=4+8005*b)/\F (JK w.heap.size w cX))/\l.length-(intOf (Value.int E ((z:Int)+1))).toNat < l.length-(intOf (Value.int E (z:Int))).toNat):=A (λe d=>by refine⟨⟨e,z+1,N,D,ZF,A ?_,A (b7.trans (bp.1.mono b7.size))⟩,YF⟩;have o:=d8.out;omega);have fE:(decide ((0:Int) < (z:Int))=true)\/decide ((0:Int) < (z:Int))=false:=by cases decide ((0:Int) < (z:Int)) <;> simp
  rcases fE with fE|fE;all_goals rcases ac:(i== 3) with _|_
  all_goals rcases a8:(i== 2) with _|_
  all_goals go_wp2_with fail
  all_goals(have cI:(⟨#[44,32]⟩:ByteArray).size=2:=D;have c1:(⟨#[33]⟩:ByteArray).size=1:=D;have bT:(⟨#[43]⟩:ByteArray).size=1:=D;have cB:(⟨#[32]⟩:ByteArray).size=1:=D;refine j _ ?_;simp only[ByteArray.size_append];omega)
 have c0:(l.length:Int)<=(z:Int):=N;go_wp2_with fail;go_ret;exact⟨_,D,by have o:=d8.out;have cB:(⟨#[41]⟩:ByteArray).size=1:=D;simp only[ByteArray.size_append];omega,b7.out⟩
def agx (q:qZ) (w:L) (e:Ending) (w':L):Prop:=∃(t:ByteArray) (ec:Int),e=.returned (.tuple #[H t,C E ec])/\(ec=0->acH q/\q.branches.length<=4/\∀l∈q.branches,l.length<=8)/\JK w.heap.size w w'
def PrB (w:L) (Ab:Option Addr) (cb:Nat) (Aw:Option Addr) (cw:Nat) (q:qZ) (W:L):Prop:=JK w.heap.size w W/\aj W w.heap.size 62 #[G Ab q.branches.length cb,G Aw q.conds.length cw,C E q.strategy,C E q.win,H q.key,C E q.keyAt]
theorem PrB.more{W i:L}{cg:Option Addr}{ck:Nat}{cQ:Option Addr}{aH:Nat}{q:qZ}(h:PrB w cg ck cQ aH q W)(d:JK W.heap.size W i):PrB w cg ck cQ aH q i:=
 ⟨h.1.trans (d.mono h.1.size),h.2.below d h.2.lt⟩
def ahh (w:L) (Ab:Option Addr) (cb:Nat) (Aw:Option Addr) (cw:Nat) (q:qZ) (s i:O) (wr:L):Prop:=∃(t:ByteArray) (r:Nat),r<=q.branches.length/\s=H t/\i=C E r/\F (t.size<=8+70003*r)/\F (∀l∈q.branches.take r,l.length<=8)/\F (PrB w Ab cb Aw cw q wr)
def agw (w:L) (Ab:Option Addr) (cb:Nat) (Aw:Option Addr) (cw:Nat) (q:qZ) (s d i:O) (wr:L):Prop:=∃(t:ByteArray) (dd:Int) (r:Nat),r<=q.conds.length/\s=H t/\d=C E dd/\i=C E r/\F (t.size<=300000+8330*((q.conds.take r).map aP).sum)/\F (PrB w Ab cb Aw cw q wr)
theorem aai{cn e2:O}{q:qZ}(h:xW w cn e2 q):Calls Tryz.prog 40 #[.agg (vS cn e2 q)] w (agx q w):=by
 obtain⟨cg,ck,rfl,ej,cq⟩:=h.br.slice;obtain⟨cQ,aH,rfl,d0,cR⟩:=h.wh.slice;have ae:=A h;have e5:=A (λB (h:xW B (G cg q.branches.length ck) (G cQ q.conds.length aH) q)=>aaj h);have x:=A (λB (h:xW B (G cg q.branches.length ck) (G cQ q.conds.length aH) q)=>Bq h);obtain⟨an,bk⟩:∃an,an=w.alloc (JO #[G cg q.branches.length ck,G cQ q.conds.length aH,C E q.strategy,C E q.win,H q.key,C E q.keyAt] 62):=⟨_,D⟩;have aV:=A (show PrB w cg ck cQ aH q an by rw[bk];exact⟨JY.alloc c _,aj.new _ _ _⟩);have eJ:q.conds.length<=8003:=h.sum.2;have aC:q.key.size<=4000:=h.ok.2.2.1;unfold maxLen at cR cq;clear h;unfold vS;unfold vS at e5 x;go_in;go_upto_region 1 with fail;rw[<-bk];clear bk;obtain⟨al,am,ax,aW,T,bi,a5,a6,aq,aZ,aO,be⟩:=lV aV.2;go_wp2_with fail;refine(e5 _ (ae.out.keep aV.1)).mono ?_;rintro a7 b1 ⟨cu,rfl,c9,aU⟩;have c7:=A c9;have bb:=A (aV.more aU);clear c9 aU al am ax aW T bi a5 a6 aq aZ aO be;obtain⟨al,am,ax,aW,T,bi,a5,a6,aq,aZ,aO,be⟩:=lV bb.2;rcases cu with _|_
 ·go_wp2_with fail;go_ret2;exact⟨_,_,D,λh=>absurd h Z,bb.1⟩
 have er:=A (c7 D);clear c7;by_cases b6:(q.branches.length:Int)<=4;rotate_left
 ·have X:(4:Int) < (q.branches.length:Int):=N;go_wp2_with fail;go_ret2;exact⟨_,_,D,λh=>absurd h Z,bb.1⟩
 go_wp2_with fail;refine(x _ (ae.out.keep bb.1)).mono ?_;rintro a7 r ⟨dn,rfl,aU⟩;have bX:=A (bb.more aU);clear aU al am ax aW T bi a5 a6 aq aZ aO be;obtain⟨al,am,ax,aW,T,bi,a5,a6,aq,aZ,aO,be⟩:=lV bX.2;by_cases cU:dn<=200;rotate_left
 ·have X:(200:Int) < dn:=N;go_wp2_with fail;go_ret2;exact⟨_,_,D,λh=>absurd h Z,bX.1⟩
 go_wp2_with fail;clear al am ax aW T bi a5 a6 aq aZ aO be cU;go_loopw [4,26] (λba a3 wr=>ahh w cg ck cQ aH q ba a3 wr) (λba a3 wr=>q.branches.length-(intOf a3).toNat);case atStart=>exact⟨_,0,Kw _,D,D,A Z,A ZH,bX⟩
 obtain⟨b9,z,aS,rfl,rfl,d8,bm,b7⟩:=hrel;have ct:(0:Int)<=(z:Int):=N;have cu:(z:Int)<=4:=N;have au:b9.size<=300000:=Yj;obtain⟨al,am,ax,aW,T,bi,a5,a6,aq,aZ,aO,be⟩:=lV b7.2;by_cases bA:z < q.branches.length
 ·have c0:(z:Int) < (q.branches.length:Int):=N;obtain⟨bP,ak⟩:∃a2,q.branches[z]? =J a2:=⟨_,Kr bA⟩;have bV:=A ak;obtain⟨y,b5,ch,af,-,-,aR,bj,a',⟨aM,rfl,dI⟩,cM⟩:=bU.get (ae.out.keep b7.1).br ak;injection af with af _ cS;subst af cS;obtain⟨di,dq,rfl,ef,dC⟩:=dI.slice;have b':=cM 0 _ D;simp only[Nat.mul_one,Nat.add_zero] at b';have dX:=A dI;unfold maxLen at dC;clear ak aR a' cM dI;by_cases dy:bP.length<=8
  ·have bt:(bP.length:Int)<=8:=N;have dj:=A (abC dX dy);have Y:F (∀bP∈q.branches.take (z+1),bP.length<=8):=A (λcA dC=>by
    rw[MJ,bV.out] at dC;simp only[List.mem_append,Option.toList_some,List.mem_singleton] at dC;rcases dC with bL|rfl
    ·exact bm cA bL
    exact dy)
   clear dy;rcases Decidable.em (0 < z) with fE|fE;all_goals
    go_wp2_with fail
    refine dj.mono ?_
    rintro a7 av ⟨d5,rfl,bf,cO⟩
    have s:=A (b7.more cO)
    have bs:=A bf
    clear cO al am ax aW T bi a5 a6 aq aZ aO be b'
    go_wp2_with fail
    have cI:(⟨#[32,124,32]⟩:ByteArray).size=3:=D
    exact⟨⟨_,z+1,N,D,ZF,A (by have o:=d8.out;have a8:=bs.out;simp only[ByteArray.size_append];omega),Y,s⟩,YF⟩
  have bt:(8:Int) < (bP.length:Int):=N;go_wp2_with fail;go_ret2;exact⟨_,_,D,λh=>absurd h Z,b7.1⟩
 have c0:(q.branches.length:Int)<=(z:Int):=N;have ai:F (∀bP∈q.branches,bP.length<=8):=A (λbP a'=>bm bP (by rw[KN N];exact a'));go_wp2_with fail;clear al am ax aW T bi a5 a6 aq aZ aO be;go_loopw [4,7,46] (λba aI a3 wr=>agw w cg ck cQ aH q ba aI a3 wr) (λba aI a3 wr=>q.conds.length-(intOf a3).toNat);case atStart=>exact⟨b9,0,0,Kw _,D,D,D,A N,b7⟩
 obtain⟨b9,aE,a0,ah,rfl,rfl,rfl,d8,b7⟩:=hrel;have dS:(0:Int)<=(a0:Int):=N;have e0:(a0:Int)<=8003:=N;have au:b9.size<=70000000:=by have o:=d8.out;have a8:=pO aP q.conds a0;have ac:=ae.out.sum.1;omega
 obtain⟨al,am,ax,aW,T,bi,a5,a6,aq,aZ,aO,be⟩:=lV b7.2;by_cases dL:a0 < q.conds.length
 ·have dD:(a0:Int) < (q.conds.length:Int):=N;obtain⟨a2,ak⟩:∃a2,q.conds[a0]? =J a2:=⟨_,Kr dL⟩;have bV:=A ak;have dl:F (aP a2<=8003):=A (by have o:=nP ak;have a8:=ae.out.sum.1;omega);have f9:=A (er.2.2 a2 (Kz ak));have R:=A (abp a2);obtain⟨ca,c8,bD,dc,cV,bW,aw⟩:=a2;obtain⟨y,b5,ch,cl,cW,af,-,-,b',bv,bo,bZ,c5,bG,co,bS⟩:=iW (ae.out.keep b7.1).wh ak;injection af with af _ cS;subst af cS;have cB:=A (R _ _ bS (by have:=dl.out;omega) f9.1.1 f9.1.2);have P:F (∀B,JK wr.heap.size wr B->B.cell? ⟨y,b5+a0*7,I⟩=J (C E ca)):=A (λB bB=>(bB.cell (ay b')).trans b');clear ak bS R;go_wp2_with fail;refine cB.mono ?_;rintro a7 av ⟨d5,a1,rfl,bf,cO⟩;have s:=A (b7.more cO);have bs:=A bf;have V:=P.out _ cO;have a9:d5.size<=70000000:=by have o:=bs.out;have a8:=dl.out;omega
  have dA:F (((q.conds.take (a0+1)).map aP).sum=((q.conds.take a0).map aP).sum+aP (.mk ca c8 bD dc cV bW aw)):=A (mG aP bV);clear cO bf al am ax aW T bi a5 a6 aq aZ aO be b' bv bo bZ c5 bG co;obtain⟨al,am,ax,aW,T,bi,a5,a6,aq,aZ,aO,be⟩:=lV s.2;have n:F (∀(b8:ByteArray) (t:Int) (B:L),b8.size<=b9.size+d5.size+20->JK av.heap.size av B->(agw w cg ck (J ⟨y,b5,I⟩) aH q (H b8) (C E t) (C E ((a0:Int)+1)) B/\q.conds.length-(intOf (Value.int E ((a0:Int)+1))).toNat < q.conds.length-(intOf (Value.int E (a0:Int))).toNat)):=A (λb8 t B aa bB=>⟨⟨b8,t,a0+1,N,D,D,ZF,A (by rw[dA.out];have o:=d8.out;have a8:=bs.out;have ac:=jw (.mk ca c8 bD dc cV bW aw);omega),A (s.more bB)⟩,YF⟩);have ci:F (∀(B:L) bl,B=av.alloc bl->JK av.heap.size av B):=A (λB bl h=>by rw[h];exact JY.alloc c _);go_upto_region 20 with fail;go_cut [70] from 58 to 70 (λbc bn=>∃cx:Bool,bc=JM cx/\av=bn);case first=>
   rcases dE:(ca== 14) with _|_;all_goals rcases Decidable.em (1 < q.conds.length) with ab|ab
   all_goals(go_wp2_with fail;go_meet;exact⟨_,D,D⟩)
  case rest=>
  obtain⟨cx,rfl,rfl⟩:=hcut;go_upto_if 70 with fail;go_cut [9,10] from 71 to 75 (λbc aI bn=>∃(b8:ByteArray) (e0:Int),bc=H b8/\aI=C E e0/\F (b8.size<=d5.size+2)/\av=bn);case first=>rcases cx with _|_;all_goals(go_wp2_with fail;go_meet;exact⟨_,_,D,D,A (by have cI:(⟨#[40]⟩:ByteArray).size=1:=D;have c1:(⟨#[41]⟩:ByteArray).size=1:=D;(try simp only[ByteArray.size_append]);omega),D⟩)
  case rest=>
  obtain⟨b8,e0,rfl,rfl,bE,rfl⟩:=hcut;have ar:b8.size<=70000002:=by have:=bE.out;omega
  go_upto_region 22 with fail;go_cut [4] from 76 to 84 (λbc bn=>∃aB:ByteArray,bc=H aB/\F (aB.size<=b9.size+b8.size+7)/\F (JK av.heap.size av bn));case first=>
   rcases(show a0=0\/a0=1\/(1:Int) < (a0:Int) by omega) with d9|d9|d9
   ·subst d9;go_wp2_with fail;go_meet;exact⟨_,D,A (by have cI:(⟨#[32,87,72,69,82,69,32]⟩:ByteArray).size=7:=D;simp only[ByteArray.size_append];omega),A (ci _ _ D)⟩
   ·subst d9;exact Qq
   exact Qq
  case rest=>
  obtain⟨aB,rfl,l,dR⟩:=hcut;go_wp2_with fail;all_goals exact n _ _ _ (by have o:=bE.out;have a8:=l.out;omega) dR
 have dD:(q.conds.length:Int)<=(a0:Int):=N;have cf:=er.1.2.1;obtain⟨az,aA⟩:=cf;have aQ:=A (λM B h=>zn M B h);have eD:=A ae.out.ok.2.1;have bx:IntKind.i64.wrap (q.strategy-1)=q.strategy-1:=wrap_in N N;have eb:0<=q.strategy-1:=N;have dh:q.strategy-1 < 3:=N;obtain⟨cT,cp⟩:∃cT:Nat,(q.strategy-1).toNat=cT:=⟨_,D⟩;have ad:F (cT < 3):=A N;go_upto_region 25 with fail;go_cut [4] from 89 to 102 (λbc bn=>∃aB:ByteArray,bc=H aB/\F (aB.size<=b9.size+70)/\F (PrB w cg ck cQ aH q bn));case first=>
  obtain⟨b4,bg⟩:∃b4,b4=World.drew wr:=⟨_,D⟩;have c4:=A (show JK wr.heap.size wr b4 by rw[bg];exact JY.drew);have bw:F (∀B,JK wr.heap.size wr B->B.cell? ⟨w.heap.size,2,I⟩=J (C E q.strategy)/\B.cell? ⟨w.heap.size,3,I⟩=J (C E q.win)):=A (λB bB=>⟨(b7.more bB).2.cell 2,(b7.more bB).2.cell 3⟩);have f:=A (bw b4 c4);clear al am ax aW T bi a5 a6 aq aZ aO be;refine aG (λB=>B.cell? ⟨w.heap.size,2,I⟩=J (C E q.strategy)/\B.cell? ⟨w.heap.size,3,I⟩=J (C E q.win)) (λa4=>!([0,1,2,3,4,5,6,7,8,9,10,11,12,13,14]:List Nat).contains a4) U ?_;rw[<-bg];clear bg;refine aJ (i:=0) (v:=?_) D U U U U (λ_ _ _ h=>h) (KH ⟨U,?_⟩) f.out ?_;rotate_left
  ·exact NZ
  refine aJ (i:=2) (v:=?_) D U U U U (λ_ _ _ h=>h) (KH ⟨U,?_⟩) f.out ?_;rotate_left
  ·exact NZ
  refine aJ (i:=3) (v:=?_) D U U U U (λ_ _ _ h=>h) (KH ⟨U,?_⟩) f.out ?_;rotate_left
  ·exact NZ
  refine aJ (i:=4) (v:=?_) D U U U U (λ_ _ _ h=>h) (KH ⟨U,?_⟩) f.out ?_;rotate_left
  ·exact NZ
  refine aJ (i:=9) (v:=?_) D U U U U (λ_ _ _ h=>h) (KH ⟨U,?_⟩) f.out ?_;rotate_left
  ·exact NZ
  refine aJ (i:=10) (v:=?_) D U U U U (λ_ _ _ h=>h) (KH ⟨U,?_⟩) f.out ?_;rotate_left
  ·exact NZ
  refine bC (rs:=[1,11]) U ZH ?_;refine aN.cons D (λK j=>?_) ?_
  ·skip;go_simp;have cE:=A (λbl=>c4.alloc c4.size bl);obtain⟨m,b,ao⟩:=(show ∀B:L,∃m:ByteArray,(B.alloc (JO #[H ⟨#[83,84,82,73,67,84]⟩,H ⟨#[78,69,88,84]⟩,H ⟨#[65,78,89]⟩] 9)).cell? ⟨B.heap.size,cT,I⟩=J (H m)/\m.size<=24 from λB=>by obtain⟨y,b5,g,-,ag⟩:=TJ;injection g with g;injection g with b3 bh;subst b3 bh;obtain⟨ba,o,a8⟩:=ag cT ad;rw[Ls] at o;exact⟨ba,o,a8⟩) b4;have dl:=A b;clear b;refine j.out _ _ (λ_=>bw _ (cE _)) ?_;clear j K;have c4:=TM;have f:=A (bw _ c4);clear cE;refine aJ (i:=5) (v:=?_) D U U U U (λ_ _ _ h=>h) (KH ⟨U,?_⟩) f.out ?_;rotate_left
   ·exact NZ
   refine bC (rs:=[6,11]) U ZH ?_;refine aN.cons D (λK j=>?_) ?_
   ·skip;have b:=dl.out;go_simp;(refine j.out _ _ (λ_=>f) ?_;clear j K b);refine aJ (i:=7) (v:=?_) D U U U U (λ_ _ _ h=>h) (KH ⟨U,?_⟩) f.out ?_;rotate_left
    ·exact NZ
    refine aJ (i:=8) (v:=?_) D U U U U (λ_ _ _ h=>h) (KH ⟨U,?_⟩) f.out ?_;rotate_left
    ·exact NZ
    refine t1 11 λK j=>?_;go_simp;go_wp2_with (go_at_call 72;refine(aQ _ _ eD).mono ?_;rintro a7 av ⟨p,rfl,d,cO⟩);have dl:=A ((cO.cell (ay dl)).trans dl);have c4:=A (c4.trans (cO.mono c4.size));have f:=A (bw _ c4);have eZ:=A d;have S:p.size<=22:=d;clear cO d;(refine j.out _ _ (λ_=>f) ?_;clear j K);refine aJ (i:=12) (v:=?_) D U U U U (λ_ _ _ h=>h) (KH ⟨U,?_⟩) f.out ?_;rotate_left
    ·exact NZ
    refine aJ (i:=13) (v:=?_) D U U U U (λ_ _ _ h=>h) (KH ⟨U,?_⟩) f.out ?_;rotate_left
    ·exact NZ
    refine aJ (i:=14) (v:=?_) D U U U U (λ_ _ _ h=>h) (KH ⟨U,?_⟩) f.out ?_;rotate_left
    ·exact NZ
    exact Ou
   refine aN.cons D (λK j=>?_) aN.nil;go_simp;go_wp2_with (go_at_call 72;refine(aQ _ _ eD).mono ?_;rintro a7 av ⟨p,rfl,d,cO⟩);have dl:=A ((cO.cell (ay dl)).trans dl);have c4:=A (c4.trans (cO.mono c4.size));have f:=A (bw _ c4);have eZ:=A d;have S:p.size<=22:=d;clear cO d;(refine j.out _ _ (λ_=>f) ?_;clear j K);refine t1 6 λK j=>?_;have b:=dl.out;go_simp;(refine j.out _ _ (λ_=>f) ?_;clear j K b);refine aJ (i:=7) (v:=?_) D U U U U (λ_ _ _ h=>h) (KH ⟨U,?_⟩) f.out ?_;rotate_left
   ·exact NZ
   refine aJ (i:=8) (v:=?_) D U U U U (λ_ _ _ h=>h) (KH ⟨U,?_⟩) f.out ?_;rotate_left
   ·exact NZ
   refine aJ (i:=12) (v:=?_) D U U U U (λ_ _ _ h=>h) (KH ⟨U,?_⟩) f.out ?_;rotate_left
   ·exact NZ
   refine aJ (i:=13) (v:=?_) D U U U U (λ_ _ _ h=>h) (KH ⟨U,?_⟩) f.out ?_;rotate_left
   ·exact NZ
   refine aJ (i:=14) (v:=?_) D U U U U (λ_ _ _ h=>h) (KH ⟨U,?_⟩) f.out ?_;rotate_left
   ·exact NZ
   exact Ou
  refine aN.cons D (λK j=>?_) aN.nil;go_simp;go_wp2_with (go_at_call 72;refine(aQ _ _ eD).mono ?_;rintro a7 av ⟨p,rfl,d,cO⟩);have c4:=A (c4.trans (cO.mono c4.size));have f:=A (bw _ c4);have eZ:=A d;have S:p.size<=22:=d;clear cO d;(refine j.out _ _ (λ_=>f) ?_;clear j K);refine t1 1 λK j=>?_;go_simp;have cE:=A (λbl=>c4.alloc c4.size bl);obtain⟨m,b,ao⟩:=(show ∀B:L,∃m:ByteArray,(B.alloc (JO #[H ⟨#[83,84,82,73,67,84]⟩,H ⟨#[78,69,88,84]⟩,H ⟨#[65,78,89]⟩] 9)).cell? ⟨B.heap.size,cT,I⟩=J (H m)/\m.size<=24 from λB=>by obtain⟨y,b5,g,-,ag⟩:=TJ;injection g with g;injection g with b3 bh;subst b3 bh;obtain⟨ba,o,a8⟩:=ag cT ad;rw[Ls] at o;exact⟨ba,o,a8⟩) av;have dl:=A b;clear b;refine j.out _ _ (λ_=>bw _ (cE _)) ?_;clear j K;have c4:=TM;have f:=A (bw _ c4);clear cE;refine aJ (i:=5) (v:=?_) D U U U U (λ_ _ _ h=>h) (KH ⟨U,?_⟩) f.out ?_;rotate_left
  ·exact NZ
  refine t1 6 λK j=>?_;have b:=dl.out;go_simp;(refine j.out _ _ (λ_=>f) ?_;clear j K b);refine aJ (i:=7) (v:=?_) D U U U U (λ_ _ _ h=>h) (KH ⟨U,?_⟩) f.out ?_;rotate_left
  ·exact NZ
  refine aJ (i:=8) (v:=?_) D U U U U (λ_ _ _ h=>h) (KH ⟨U,?_⟩) f.out ?_;rotate_left
  ·exact NZ
  refine aJ (i:=12) (v:=?_) D U U U U (λ_ _ _ h=>h) (KH ⟨U,?_⟩) f.out ?_;rotate_left
  ·exact NZ
  refine aJ (i:=13) (v:=?_) D U U U U (λ_ _ _ h=>h) (KH ⟨U,?_⟩) f.out ?_;rotate_left
  ·exact NZ
  refine aJ (i:=14) (v:=?_) D U U U U (λ_ _ _ h=>h) (KH ⟨U,?_⟩) f.out ?_;rotate_left
  ·exact NZ
  exact Ou
 case rest=>
 obtain⟨aB,rfl,l,b7⟩:=hcut;clear bx eb dh cp al am ax aW T bi a5 a6 aq aZ aO be;have aD:aB.size<=70000070:=by have:=l.out;omega
 obtain⟨al,am,ax,aW,T,bi,a5,a6,aq,aZ,aO,be⟩:=lV b7.2;have ep:F (∀(e:ByteArray) (ap:Int),agx q w (.returned (.tuple #[H e,C E ap])) wc):=A (λe ap=>⟨e,ap,D,λ_=>⟨er,N,ai.out⟩,b7.1⟩);rcases aK:q.key.toList.isEmpty with _|_;all_goals(go_wp2_with fail)
 all_goals(go_ret2;exact ep _ _)

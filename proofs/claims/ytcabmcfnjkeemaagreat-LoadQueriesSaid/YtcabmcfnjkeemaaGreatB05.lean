import Derived.Test.YtcabmcfnjkeemaaGreatBM00
import Derived.Test.YtcabmcfnjkeemaaGreatB04
set_option maxRecDepth 100000
set_option maxHeartbeats 40000000
set_option linter.unusedVariables false
set_option linter.unusedSimpArgs false
namespace Go.Proofs.YtcabmcfnjkeemaaGreat
open Go.Deep Go.Maps Go.RowKit
open Go renaming World->L,Value->O
open Go.IntKind renaming i64->E
open Go.Obj renaming cells->JO
open Go.RowKit renaming Hid->F,Below->JK
open Go.Value renaming int->C,slice->G,bool->JM
open Option renaming none->I,some->J
variable{w:L}{g:Nat}
theorem EZ{t:TypeId}{bJ bD bs e i n k l y:O}(h:aj w g t #[bJ,bD,bs,e,i,n,k,l,y]): w.cell? ⟨g,0,I⟩=J bJ/\w.cell? ⟨g,1,I⟩=J bD/\w.cell? ⟨g,2,I⟩=J bs/\w.cell? ⟨g,3,I⟩=J e/\w.cell? ⟨g,4,I⟩=J i/\w.cell? ⟨g,5,I⟩=J n/\w.cell? ⟨g,6,I⟩=J k/\w.cell? ⟨g,7,I⟩=J l/\w.cell? ⟨g,8,I⟩=J y:=
 ⟨h.cell 0,h.cell 1,h.cell 2,h.cell 3,h.cell 4,h.cell 5,h.cell 6,h.cell 7,h.cell 8⟩
def gy (T:bF) (k a:Int):Int:=
 if 0<=k then match T.kinds[k.toNat]? with
  |none=>0
  |some l=>if a < -1\/(l.length:Int)<=a then 0 else if a=-1 then 1 else l.getD a.toNat 0
 else 0
variable{k:Int}{T:bF}
theorem acN{a:Int}(h:jf T k=false):gy T k a=0:=by
 unfold gy;by_cases ah:0<=k
 ·rw[Kq ah];unfold jf at h;rw[KU ah,Bool.true_and,decide_eq_false_iff_not] at h;rw[LY N]
 rw[JZ ah]
theorem acr(h:jf T k=true):∃(q:Nat) (l:List Int),k=q/\q < T.kinds.length/\T.kinds[q]? =J l:=by unfold jf at h;rw[LH,NH,NH] at h;exact⟨k.toNat,_,N,N,Kr N⟩
variable{l:List Int}
theorem acO{q:Nat}(h:T.kinds[q]? =J l)(a:Int):gy T q a=if a < -1\/(l.length:Int)<=a then 0 else if a=-1 then 1 else l.getD a.toNat 0:=by unfold gy;rw[Kq N,LX,h]
def ag6 (w:L) (n:Int) (e:Ending) (w':L):Prop:=e=.returned (C E n)/\JK w.heap.size w w'
theorem zJ(T:bF)(vk ar vs aY:O)(w:L)(h:jF w T vk ar vs aY)(g s:Nat)(bW:aj w g 110 #[C E T.strategy,vk,ar,C E T.syms,C E T.runs,C E T.cells,vs,aY,.map (J s)])(k a:Int): Calls Tryz.prog 103 #[.pointer (J ⟨g,0,I⟩),C E k,C E a] w (ag6 w (gy T k a)):=by
 obtain⟨bO,bZ,rfl,c3,aQ⟩:=h.kinds.slice;unfold maxLen at aQ;have cB:=A (yI T vk _ vs aY w h k);have q:=RV;have b7:=A bW;obtain⟨b0,aL,ao,b2,bu,aJ,bV,aK,aZ⟩:=EZ bW;obtain⟨z,aS⟩:∃z,gy T k a=z:=⟨_,D⟩;have ci:=A aS;rw[aS];obtain⟨au,ch⟩:∃au,jf T k=au:=⟨_,D⟩;rw[ch] at cB;have b8:=A ch;clear h bW aS ch;go_in;go_wp2_with fail;refine cB.mono ?_;rintro a7 ce ⟨rfl,cq⟩;have c6:=A cq;have e:=A (b7.below cq b7.lt);clear cq b0 aL ao b2 bu aJ bV aK aZ cB;cases au with
 |false=>have a7:z=0:=ci.symm.trans (acN b8);have a7:=A a7;exact PW
 |true=>
  obtain⟨m,bP,rfl,a1,a'⟩:=acr b8;obtain⟨bE,aE,bG,fX,bp,_,_,cF,bs⟩:=DU (q ce c6).kinds a';injection bp with cH bm cK;subst cH;obtain⟨ds,co,rfl,bM,d3⟩:=bs.slice;unfold maxLen at d3;have ct:(0:Int)<=(m:Int):=N;have c0:(m:Int) < (T.kinds.length:Int):=N;have cy:=A ((acO a' a).symm.trans ci);have av:=A bs;obtain⟨b0,aL,ao,b2,bu,aJ,bV,aK,aZ⟩:=EZ e.out;clear bs a' bm cK;by_cases o:a < -1
  ·have a7:F (z=0):=A (by rw[<-cy.out,Kq (.inl o)]);exact PW
  by_cases a8:(bP.length:Int)<=a
  ·have a7:F (z=0):=A (by rw[<-cy.out,Kq (.inr a8)]);exact PW
  by_cases ac:a=-1
  ·have a7:F (z=1):=A (by rw[<-cy.out,JZ N,Kq ac]);have b3:(a== -1)=true:=by simpa using ac
   clear ac;exact PW
  have b3:(a== -1)=false:=by simpa using ac
  obtain⟨M,rfl⟩:∃M:Nat,a=M:=⟨a.toNat,N⟩;obtain⟨b,i⟩:∃b,bP[M]? =J b:=⟨_,Kr N⟩;obtain⟨bl,S,bI,bp,_,_,dT,_⟩:=Am av i;injection bp with cH bm cK;subst cH;have a7:F (z=b):=A (by rw[<-cy.out,JZ N,JZ ac,LX,Ll,i];rfl);have cu:(0:Int)<=(M:Int):=N;have e1:(M:Int) < (bP.length:Int):=N;clear i bm cK ac;exact PW
def jX (w:L) (B:Nat) (v:O) (l:List Int):Prop:=∃A c,v=G A l.length c/\Reads w w.heap.size 1 A l.length (iv l)/\l.length<=c/\c<=maxLen/\∀ad,A=J ad->B<=ad.block
variable{w':L}{B:Nat}{v:O}
theorem jX.below(h:jX w B v l)(d:JK w.heap.size w w'):jX w' B v l:=by obtain⟨Y,a9,o,a8,ac⟩:=h;exact⟨Y,a9,o,adP a8 d,ac⟩
theorem jX.of(h:w.ownsRow B 3 1 v l.length (iv l)):jX w B v l:=by
 obtain⟨Y,a9,rfl⟩:=aB h;refine⟨Y,a9,D,Reads.JG h,(qK h).1,(qK h).2,λx cE=>?_⟩;rcases h.2 with⟨af,_⟩|⟨ae,r,k,af,d,_⟩
 ·injection af with o;rw[cE] at o;cases o
 injection af with o;rw[cE] at o;injection o with o;subst o;exact d
def adR (T:bF) (s:fD) (x:gI):Bool:=
 if s.many=decide (x.op=42) then false
 else if x.op=25 then decide (x.kind=1)
 else if gy T s.ty x.attr=0\/gy T s.ty x.attr≠x.kind then false
 else if x.op=31 then decide (gy T s.ty x.attr=4)
 else if 28<=x.op/\x.op<=30 then decide (gy T s.ty x.attr=1) || decide (gy T s.ty x.attr=4)
 else true
def iL (T:bF) (path:List Int) (one many asked:Int) (x:gI):Bool:=
 if x.op=41 then !decide (gy T asked x.attr=0) && decide (gy T asked x.attr=x.kind)
 else if(if x.op=42 then one else many)<=x.pos then false
 else match rowAt T.states (path.getD x.pos.toNat 0) with
  |none=>false
  |some s=>adR T s x
theorem Ja(T:bF)(vk ar vs aY:O)(w:L)(h:jF w T vk ar vs aY)(g s:Nat)(bW:aj w g 110 #[C E T.strategy,vk,ar,C E T.syms,C E T.runs,C E T.cells,vs,aY,.map (J s)])(x:gI)(B:Nat)(dn:O)(b:List Int)(ai:jX w B dn b)(one many t:Int)(cZ:0<=x.pos)(o:one<=b.length)(a8:many<=b.length)(i:∀j∈b,0<=j/\j < (T.states.length:Int)): Calls Tryz.prog 86 #[.pointer (J ⟨g,0,I⟩),.agg #[C E x.op,C E x.kind,C E x.pos,C E x.attr],.agg #[dn,C E one,C E many,C E t]] w (wF w (iL T b one many t x)):=by
 obtain⟨aC,bx⟩:∃aC,aC=(w.alloc (JO #[C E x.op,C E x.kind,C E x.pos,C E x.attr] 141)).alloc (JO #[dn,C E one,C E many,C E t] 172):=⟨_,D⟩;have W:JK w.heap.size w aC:=Vs;have an:aj aC w.heap.size 141 #[C E x.op,C E x.kind,C E x.pos,C E x.attr]:=Wx;have y:aj aC (w.heap.size+1) 172 #[dn,C E one,C E many,C E t]:=by rw[bx];have:=aj.new (w.alloc (JO #[C E x.op,C E x.kind,C E x.pos,C E x.attr] 141)) 172 #[dn,C E one,C E many,C E t];rw[KE] at this;exact this
 have dE:aC.heap.size=w.heap.size+2:=Zo;have ae:=bW.lt;have p:=bW.below W ae;have P:=h.below W;have e:=ai.below W;obtain⟨al,am,ax,aW⟩:=blk4 an;obtain⟨dT,v,c2,bz⟩:=blk4 y;obtain⟨X,az⟩:∃X,iL T b one many t x=X:=⟨_,D⟩;have aH:=A az;rw[az];have dP:=A dE;have b4:=A an;have Y:=A y;have bd:=A p;have q:=A P;have aw:=A e;have bC:=A W;have bT:=A i;clear an y p bW h ai P e W az dE i;by_cases bv:x.op=41
 ·have b3:(x.op== 41)=true:=Ze;have ci:F ((!decide (gy T t x.attr=0) && decide (gy T t x.attr=x.kind))=X):=A (by have:=aH.out;unfold iL at this;rw[Kq bv] at this;exact this);obtain⟨a0,ah⟩:∃a0,gy T t x.attr=a0:=⟨_,D⟩;have bU:=A (zJ T vk ar vs aY aC q g s bd t x.attr);rw[ah] at bU ci;clear ah bv;go_in;go_upto_region 1 with fail;rw[<-bx];clear bx;go_wp2_with fail;refine bU.mono ?_;rintro a7 ce ⟨rfl,cq⟩;have am:=(b4.below cq Yn).cell 1;have c6:=A (bC.trans (cq.mono bC.size));clear cq al ax aW dT v c2 bz;go_wp2_with fail;all_goals(go_ret;refine⟨dL ?_,c6.out⟩;rw[<-ci.out];(try simp only[beq_iff_eq,beq_eq_false_iff_ne,bne_iff_ne,bne_eq_false_iff_eq,ne_eq] at*);rw[LG];simp;try omega)
 have b3:(x.op== 41)=false:=Ze;obtain⟨M,V⟩:∃M,(if x.op=42 then one else many)=M:=⟨_,D⟩;have a6:M<=b.length:=by rw[<-V];split <;> assumption
 have ci:F ((if M<=x.pos then false else match rowAt T.states (b.getD x.pos.toNat 0) with|none=>false|some ba=>adR T ba x)=X):=A (by have:=aH.out;unfold iL at this;rw[JZ bv,V] at this;exact this);have cw:=A V;clear V bv;go_in;go_upto_region 1 with fail;rw[<-bx];clear bx;go_upto_if 32 with fail;go_cut [8] from 32 to 34 (λbc bn=>bc=C E M/\bn=aC);case first=>
  rcases bh:(x.op !=42) with _|_
  ·have bo:x.op=42:=Zc;have a7:F (one=M):=A (by rw[<-cw.out,Kq bo]);clear bo;go_wp2_with fail;go_meet;exact⟨by rw[a7.out],D⟩
  have bo:¬x.op=42:=Zc;have a7:F (many=M):=A (by rw[<-cw.out,JZ bo]);clear bo;go_wp2_with fail;go_meet;exact⟨by rw[a7.out],D⟩
 obtain⟨rfl,aG⟩:=hcut;subst aG;by_cases bZ:M<=x.pos
 ·have a7:X=false:=by have aD:=ci.out;rw[Kq bZ] at aD;exact aD.symm
  have a7:=A a7;go_wp2_with fail;go_ret;exact⟨dL a7.out.symm,bC.out⟩
 obtain⟨m,a1⟩:∃m:Nat,x.pos=m:=⟨x.pos.toNat,N⟩;obtain⟨j,bK⟩:∃j,b[m]? =J j:=⟨_,Kr N⟩;have a2:=bT.out j (Kz bK);obtain⟨bm,rfl⟩:∃bm:Nat,j=bm:=⟨j.toNat,N⟩;obtain⟨ba,ag⟩:∃ba,T.states[bm]? =J ba:=⟨_,Kr N⟩;have n:F (adR T ba x=X):=A (by have aD:=ci.out;rw[JZ bZ,a1,LX,Ll,bK] at aD;simp only[Option.getD_some,uG,ag] at aD;exact aD);obtain⟨cD,cX,rfl,d,d0,cR,_⟩:=aw.out;obtain⟨dN,e4,rfl,bN,aB⟩:=d.shape N;have R:=aB m (C E (bm:Int)) (by unfold iv;rw[Le,bK];rfl);obtain⟨bE,aE,bG,cn,aO,bp,c4,b7,cF,cz,cP,d1,dd,d9,dp,dB,au,S,_⟩:=sZ q.states ag;subst bp;obtain⟨ds,co,rfl,c3,aQ⟩:=au.slice;obtain⟨dq,cL,rfl,bg,aI⟩:=S.slice;have bV:=(EZ bd).2.2.2.2.2.2.1;unfold maxLen at cR b7 aQ aI;rw[a1] at ax;have cC:(0:Int)<=(m:Int):=N;have d4:(m:Int) < (b.length:Int):=N;have du:(0:Int)<=(bm:Int):=N;have dH:(bm:Int) < (T.states.length:Int):=N;have bB:=A a1;have aT:(m:Int) < M:=N;clear a1 bK a2 ag d aB bZ au S;have c1:=World.new_ne wc _ bV;have cW:=World.new_ne wc _ dT;have bL:=World.new_ne wc _ ax;have cd:=World.new_ne wc _ R;have a3:=World.new_ne wc _ cF;go_upto_region 9 with fail;go_region_held3 (λaF=>aF.cell? ⟨g,6,I⟩=J (G (J ⟨bE,aE,I⟩) T.states.length bG)/\aF.cell? ⟨w.heap.size+1,0,I⟩=J (G (J ⟨dN,e4,I⟩) b.length cX)/\aF.cell? ⟨w.heap.size,2,I⟩=J (C E (m:Int))/\aF.cell? ⟨dN,e4+m,I⟩=J (C E (bm:Int))/\aF.cell? ⟨bE,aE+bm*8,I⟩=J (C E ba.par)/\aF.cell? ⟨bE,aE+bm*8+1,I⟩=J (C E ba.ty)/\aF.cell? ⟨bE,aE+bm*8+2,I⟩=J (JM ba.many)/\aF.cell? ⟨bE,aE+bm*8+3,I⟩=J (C E ba.win)/\aF.cell? ⟨bE,aE+bm*8+4,I⟩=J (G ds ba.bars.length co)/\aF.cell? ⟨bE,aE+bm*8+5,I⟩=J (C E ba.leave)/\aF.cell? ⟨bE,aE+bm*8+6,I⟩=J (C E ba.guard)/\aF.cell? ⟨bE,aE+bm*8+7,I⟩=J (G dq ba.ends.length cL)) (go_keep) (fail);rename_i a5;clear a5 c1 cW bL cd a3 cF cz cP d1 dd d9 dp dB R dT v c2 bz bV;obtain⟨b1,dh⟩:∃b1,b1=(wc.alloc (JO #[C E ba.par,C E ba.ty,JM ba.many,C E ba.win,G ds ba.bars.length co,C E ba.leave,C E ba.guard,G dq ba.ends.length cL] 91)).drew:=⟨_,D⟩;rw[<-dh];have l:JK wc.heap.size wc b1:=by rw[dh];have:=(Ky wc.heap.size wc).alloc c (JO #[C E ba.par,C E ba.ty,JM ba.many,C E ba.win,G ds ba.bars.length co,C E ba.leave,C E ba.guard,G dq ba.ends.length cL] 91);exact⟨this.os,this.tape,this.output,this.size,this.block⟩
 have aa:aj b1 wc.heap.size 91 #[C E ba.par,C E ba.ty,JM ba.many,C E ba.win,G ds ba.bars.length co,C E ba.leave,C E ba.guard,G dq ba.ends.length cL]:=by rw[dh];exact(aj.new wc _ _).drew
 have dM:=b4.below l b4.lt;have bq:=A (bd.below l bd.lt);have ab:=A (q.below l);have cj:=A (bC.trans (l.mono bC.size));obtain⟨z,eB⟩:∃z,ba.many=z:=⟨_,D⟩;rw[eB] at aa;obtain⟨cp,cf,cb,c7,b9,cM,cm,k⟩:=nD aa;have a4:F ((if z=decide (x.op=42) then false else if x.op=25 then decide (x.kind=1) else if gy T ba.ty x.attr=0\/gy T ba.ty x.attr≠x.kind then false else if x.op=31 then decide (gy T ba.ty x.attr=4) else if 28<=x.op/\x.op<=30 then decide (gy T ba.ty x.attr=1) || decide (gy T ba.ty x.attr=4) else true)=X):=A (by have aD:=n.out;unfold adR at aD;rw[eB] at aD;exact aD);have f1:=A aa.lt;clear al am ax aW;obtain⟨al,am,ax,aW⟩:=blk4 dM;have f:=A dM;clear dh aa dM eB l n ci;rcases bh:(x.op !=42) with _|_
 ·have bo:x.op=42:=Zc;have ca:(x.op== 25)=false:=by rw[bo];decide
  have dS:F (x.op=42):=A bo;clear bo;cases z with
  |true=>have a7:F (X=false):=A (by have aD:=a4.out;rw[Kq (by rw[KU dS.out])] at aD;exact aD.symm);clear a4;go_wp2_with fail;go_ret;exact⟨dL a7.out.symm,cj.out⟩
  |false=>
   have cS:F ((if gy T ba.ty x.attr=0\/gy T ba.ty x.attr≠x.kind then false else true)=X):=A (by have aD:=a4.out;rw[JZ (by rw[KU dS.out];simp),JZ (by rw[dS.out];decide),JZ (show ¬x.op=31 by rw[dS.out];decide),JZ (show ¬(28<=x.op/\x.op<=30) by rw[dS.out];decide)] at aD;exact aD);obtain⟨a0,ah⟩:∃a0,gy T ba.ty x.attr=a0:=⟨_,D⟩;have bU:=A (zJ T vk ar _ aY b1 ab g s bq ba.ty x.attr);rw[ah] at bU cS;clear ah a4;go_wp2_with fail;refine bU.mono ?_;rintro a7 r ⟨rfl,cG⟩;have bt:=f.below cG f.lt;obtain⟨al,am,ax,aW⟩:=blk4 bt;have cc:=A (cj.trans (cG.mono cj.size));clear cG bt bU;have dD:28<=x.op:=by have:=dS.out;omega
   have e0:30 < x.op:=by have:=dS.out;omega
   have dc:(x.op== 31)=false:=by rw[dS.out];decide
   go_wp2_with fail;all_goals(go_ret;refine⟨dL ?_,cc.out⟩;rw[<-cS.out];(try simp only[beq_iff_eq,beq_eq_false_iff_ne,bne_iff_ne,bne_eq_false_iff_eq,ne_eq] at*);(repeat' split) <;> (first|rfl|(exfalso;omega)|(rw[LG];simp;omega)|(simp;omega)))
 have bo:¬x.op=42:=Zc;cases z with
 |false=>have a7:F (X=false):=A (by have aD:=a4.out;rw[Kq (by rw[KR bo])] at aD;exact aD.symm);clear a4 bo;go_wp2_with fail;go_ret;exact⟨dL a7.out.symm,cj.out⟩
 |true=>
  rcases ca:(x.op== 25) with _|_
  ·have bZ:¬x.op=25:=Zg;have cS:F ((if gy T ba.ty x.attr=0\/gy T ba.ty x.attr≠x.kind then false else if x.op=31 then decide (gy T ba.ty x.attr=4) else if 28<=x.op/\x.op<=30 then decide (gy T ba.ty x.attr=1) || decide (gy T ba.ty x.attr=4) else true)=X):=A (by have aD:=a4.out;rw[JZ (by rw[KR bo];simp),JZ bZ] at aD;exact aD);obtain⟨a0,ah⟩:∃a0,gy T ba.ty x.attr=a0:=⟨_,D⟩;have bU:=A (zJ T vk ar _ aY b1 ab g s bq ba.ty x.attr);rw[ah] at bU cS;clear ah a4 bo bZ;go_wp2_with fail;refine bU.mono ?_;rintro a7 r ⟨rfl,cG⟩;have bt:=f.below cG f.lt;obtain⟨al,am,ax,aW⟩:=blk4 bt;have cc:=A (cj.trans (cG.mono cj.size));clear cG bt bU;rcases dc:(x.op== 31) with _|_;all_goals(
    go_wp2_with fail
    all_goals(go_ret;refine⟨dL ?_,cc.out⟩;rw[<-cS.out];(try simp only[beq_iff_eq,beq_eq_false_iff_ne,bne_iff_ne,bne_eq_false_iff_eq,ne_eq] at*);(repeat' split) <;> (first|rfl|(exfalso;omega)|(rw[LG];simp;omega)|(simp;omega))))
  have bZ:x.op=25:=Zg;have cS:F (decide (x.kind=1)=X):=A (by have aD:=a4.out;rw[JZ (by rw[KR bo];simp),Kq bZ] at aD;exact aD);clear bo bZ a4;go_wp2_with fail;go_ret;exact⟨dL (by rw[<-cS.out,LG];simp),cj.out⟩
variable{S:List Int}{b n:Nat}
theorem iw.noCell(h:iw w b n S){p:Addr}{u:O}(aw:w.cell? p=J u):p.block≠b:=by rintro rfl;obtain⟨g,⟨f,e,X,_⟩,_⟩:=h;obtain⟨d,b5,i⟩:=p;have ag:=World.cell?_spot aw;have ag:i=I:=ag;subst ag;unfold World.cell? at aw;simp only at X;rw[X] at aw;simp at aw
theorem nJ(h:iw w b n S)(ab:w.grownBy w' (J b)):bW w w':=λaT u ai=>by
 have bm:=h.noCell ai
 exact(KJ (ab.block aT.block (ay ai) (λa7=>by injection a7 with a7;exact bm a7))).trans ai
theorem jX.keep(h:jX w B v l)(ah:bW w w')(ag:w.heap.size<=w'.heap.size):jX w' B v l:=by obtain⟨Y,a9,o,a8,ac⟩:=h;refine⟨Y,a9,o,⟨a8.1,λV=>?_⟩,ac⟩;obtain⟨x,cE,d,aw⟩:=a8.2 V;exact⟨x,cE,N,λa4 u ap=>ah _ _ (aw a4 u ap)⟩
def oV (w:L) (T:bF) (vk vkk vs vc:O) (g bM n:Nat) (S:List Int):Prop:=
 aj w g 110 #[C E T.strategy,vk,vkk,C E T.syms,C E T.runs,C E T.cells,vs,vc,.map (J bM)]/\iw w bM n S/\jF w T vk vkk vs vc
variable{s:Nat}{ar vk vs:O}
theorem oV.ne{aY:O}(h:oV w T vk ar vs aY g s n S):g≠s:=h.2.1.noCell (p:=⟨g,0,I⟩) (h.1.cell 0)
theorem oV.below{aY:O}(h:oV w T vk ar vs aY g s n S)(d:JK w.heap.size w w'):oV w' T vk ar vs aY g s n S:=
 ⟨h.1.below d h.1.lt,h.2.1.below d h.2.1.lt,h.2.2.below d⟩
theorem oV.told{aY:O}(h:oV w T vk ar vs aY g s n S)(ah:wfi k)(V:n < maxLen): ∃w',(Instr.mapUpdate 108 (.map (J s)) (C E k) (JM true)).run Tryz.prog w=.ok () w'/\oV w' T vk ar vs aY g s (n+1) (jH k S)/\w.grownBy w' (J s):=by obtain⟨w',aS,ag,ab⟩:=h.2.1.store ah V;exact⟨w',aS,⟨h.1.grown ab (λa7=>by injection a7 with a7;exact h.ne a7),ag,h.2.2.keep (nJ h.2.1 ab)⟩,ab⟩
def wQ (T:bF) (path:List Int) (one many asked n:Int):Bool:=
 decide (n=-1) || (decide (0<=n) && match T.codes[n.toNat]? with
  |none=>false
  |some c=>c.inputs.all (iL T path one many asked))
def lq (n:Int) (S:List Int):List Int:=if n=-1 then S else jH n S
def aga (w:L) (T:bF) (vk vkk vs vc:O) (g bM k:Nat) (b:Bool) (S:List Int) (e:Ending) (w':L):Prop:=
 e=.returned (JM b)/\w.grownBy w' (J bM)/\∃S',oV w' T vk vkk vs vc g bM (k+1) S'/\(b=true->S'=S)
theorem oV.next{aY:O}(h:oV w T vk ar vs aY g s n S):oV w T vk ar vs aY g s (n+1) S:=⟨h.1,h.2.1.mono (Ld n),h.2.2⟩
theorem acX(T:bF)(vk ar vs aY:O)(w:L)(g s k:Nat)(S:List Int)(h:oV w T vk ar vs aY g s k S)(ah:k < maxLen)(n:Int)(bN:wfi n)(B:Nat)(dn:O)(b:List Int)(ai:jX w B dn b)(one many t:Int)(cZ:∀a9∈T.codes,∀x∈a9.inputs,0<=x.pos)(o:one<=b.length)(a8:many<=b.length)(i:∀j∈b,0<=j/\j < (T.states.length:Int)): Calls Tryz.prog 58 #[.pointer (J ⟨g,0,I⟩),C E n,.agg #[dn,C E one,C E many,C E t]] w (aga w T vk ar vs aY g s k (wQ T b one many t n) (lq n S)):=by
 obtain⟨bq,bo,rfl,d0,cR⟩:=h.2.2.codes.slice;unfold maxLen at cR;obtain⟨aC,bx⟩:∃aC,aC=w.alloc (JO #[dn,C E one,C E many,C E t] 172):=⟨_,D⟩;have W:JK w.heap.size w aC:=VO;have y:aj aC w.heap.size 172 #[dn,C E one,C E many,C E t]:=Xt;have aF:=h.below W;have e:=ai.below W;have dE:aC.heap.size=w.heap.size+1:=Zo;have bC:=A W;have bw:=A aF;have b1:=A e;have Y:=A y;have dP:=A dE;obtain⟨X,az⟩:∃X,wQ T b one many t n=X:=⟨_,D⟩;have aH:=A az;rw[az];have ag:=A cZ;have bT:=A i;obtain⟨b0,aL,ao,b2,bu,aJ,bV,aK,aZ⟩:=EZ aF.1;clear h W aF e dE az cZ i ai y;by_cases ab:n=-1
 ·have b3:(n== -1)=true:=by simpa using ab
  have a7:F (X=true/\lq n S=S):=A ⟨by rw[<-aH.out];unfold wQ;rw[KU ab,Bool.true_or],by unfold lq;rw[Kq ab]⟩;clear ab;go_in;go_upto_region 1 with fail;rw[<-bx];clear bx;go_wp2_with fail;go_ret;exact⟨dL a7.out.1.symm,aT bC _,S,bw.next,λ_=>a7.out.2.symm⟩
 have b3:(n== -1)=false:=by simpa using ab
 by_cases ae:n < 0
 ·have a7:F (X=false):=A (by rw[<-aH.out];unfold wQ;rw[KR ab,KR N];rfl);exact Qh
 by_cases M:(T.codes.length:Int)<=n
 ·have a7:F (X=false):=A (by rw[<-aH.out];unfold wQ;rw[KR ab,LY N];simp);exact Qh
 obtain⟨m,rfl⟩:∃m:Nat,n=m:=⟨n.toNat,N⟩;obtain⟨a9,aw⟩:∃a9,T.codes[m]? =J a9:=⟨_,Kr N⟩;have ci:F (a9.inputs.all (iL T b one many t)=X):=A (by have aD:=aH.out;unfold wQ at aD;rw[KR ab,LX,aw,KU N] at aD;simpa using aD);have da:F (lq (m:Int) S=jH (m:Int) S):=A (by unfold lq;rw[JZ ab]);obtain⟨ce,l,r,b8⟩:=bw.told bN ah;have ap:=A (ag a9 (Kz aw));have dC:=nJ bw.2.1 b8;have a':=b1.keep dC b8.size;have V:=Y.grown b8 (λa7=>by injection a7 with a7;exact bw.2.1.noCell (p:=⟨w.heap.size,0,I⟩) (Y.cell 0) a7);have a3:=A (show w.grownBy ce (J s) from World.grownBy.trans (aT bC _) b8);obtain⟨bE,aE,bG,em,aA,aM,bp,_,_,cF,cz,cP,d1,dd,P,_⟩:=DI r.2.2.codes aw;injection bp with cH bm cK;subst cH;obtain⟨ds,co,rfl,c3,aQ⟩:=P.slice;unfold maxLen at aQ;have a1:=A P;have dy:=A r;have ej:=A a';have a0:=A V;have ct:(0:Int)<=(m:Int):=N;have c0:(m:Int) < (T.codes.length:Int):=N;have bB:(0:Int)<=(a9.inputs.length:Int):=N;have d6:w.heap.size < ce.heap.size:=by have:=a0.lt;exact this
 clear ab aw r a' V P b8 dC bm cK;go_in;go_upto_region 1 with fail;rw[<-bx];clear bx;go_upto_region 6 with fail;clear b0 aL ao b2 bu aJ bV aK aZ l;obtain⟨b0,aL,ao,b2,bu,aJ,bV,aK,aZ⟩:=EZ dy.1;go_wp2_with fail;clear b0 aL ao b2 bu aJ bV aK aZ cF cz cP d1 dd;go_loopw [38] (λba wr=>∃z:Nat,z<=a9.inputs.length/\ba=C E z/\F (JK ce.heap.size ce wr)/\F ((a9.inputs.take z).all (iL T b one many t)=true)) (λba _=>a9.inputs.length-(intOf ba).toNat);case atStart=>exact⟨0,Kw _,D,A JY,A ZH⟩
 obtain⟨z,aS,rfl,d,cv⟩:=hrel;have aU:=d.out.size;by_cases bA:z < a9.inputs.length
 ·obtain⟨x,ad⟩:∃x,a9.inputs[z]? =J x:=⟨_,Kr bA⟩;obtain⟨aN,b',cL,bp,_,_,cF,cz,cP,d1,_⟩:=GU (qF (bW.of_below d.out) a1) ad;injection bp with cH bm cK;subst cH;have cu:(0:Int)<=(z:Int):=N;have e1:(z:Int) < (a9.inputs.length:Int):=N;obtain⟨av,ac⟩:∃av,av=wr.alloc (JO #[C E x.op,C E x.kind,C E x.pos,C E x.attr] 141):=⟨_,D⟩;have cO:JK ce.heap.size ce av:=by rw[ac];exact d.out.alloc aU _
  have q:=dy.below cO;have cB:=A (Ja T vk ar vs _ av q.2.2 g s q.1 x B dn b (ej.below cO) one many t (ap x (Kz ad)) o a8 bT);have cm:=A (rY (f:=iL T b one many t) ad cv.out);have R:F (iL T b one many t x=false->X=false):=A (λh=>by rw[<-ci.out];exact zl ad h);have an:=A (show aj av wr.heap.size 141 #[C E x.op,C E x.kind,C E x.pos,C E x.attr] by rw[ac];exact aj.new wr _ _);have a2:=A (a0.below cO d6);have dv:=A cO;obtain⟨au,ch⟩:∃au,iL T b one many t x=au:=⟨_,D⟩;rw[ch] at cB cm R;clear ad bm cK ch cv d q cO;go_upto_region 9 with fail;rw[<-ac];clear ac cF cz cP d1;obtain⟨al,am,ax,aW⟩:=blk4 an.out;obtain⟨dT,v,c2,bz⟩:=blk4 a2.out;go_wp2_with fail;refine cB.mono ?_;rintro a7 bt ⟨rfl,dx⟩;have d3:=A (dv.trans (dx.mono dv.size));clear dx cB al am ax aW dT v c2 bz;cases au with
  |true=>
   have a7:=A (cm D);clear cm R;go_wp2_with fail;go_roundw;case rel=>first|exact⟨z+1,N,ZF,d3,a7⟩|((repeat apply KL);exact⟨⟨z+1,N,ZF,d3,a7⟩,D⟩)
   simp[intOf];omega
  |false=>have a7:=A (R D);clear cm R;go_wp2_with fail;go_ret;exact⟨dL a7.out.symm,a3.trans (aT d3 _),_,dy.below d3,λh=>Xy⟩
 have cr:(a9.inputs.length:Int)<=(z:Int):=N;have a7:F (X=true):=A (by have aD:=cv.out;rw[KN N,ci.out] at aD;exact aD);have b7:=A d.out;clear cv d;go_wp2_with fail;go_ret;exact⟨dL a7.out.symm,a3.trans (aT b7 _),_,dy.below b7,λ_=>da.symm⟩
structure mP where
 code:Int
 path:List Int
 one:Int
 many:Int
 asked:Int
def jE (T:bF) (u:mP):Bool:=wQ T u.path u.one u.many u.asked u.code
def bK (p:List Int) (b:jg):mP:=⟨b.gd,p,p.length,p.length,b.ty⟩
def eu (p:List Int) (e:iF):List mP:=⟨e.cl,p,p.length,p.length,-1⟩ :: e.bars.map (bK p)
def fP (T:bF) (i:Nat) (x:fD):List mP:=[⟨x.guard,dQ T.states i,(dQ T.states i).length-1,(dQ T.states i).length,x.ty⟩,⟨x.leave,dQ T.states x.par,(dQ T.states x.par).length,(dQ T.states x.par).length,-1⟩]
def jh (T:bF) (i:Nat) (x:fD):List mP:=fP T i x++x.bars.map (bK (dQ T.states x.par))++x.ends.flatMap (eu (dQ T.states i))
def iq (us:List mP) (S:List Int):List Int:=us.foldl (λS u=>lq u.code S) S
theorem vZ(ay:List mP)(u:mP)(S:List Int):iq (ay++[u]) S=lq u.code (iq ay S):=by unfold iq;rw[MR];rfl
theorem aco(ay vs:List mP)(S:List Int):iq (ay++vs) S=iq vs (iq ay S):=by unfold iq;rw[MR]
variable{r:Nat}
theorem BQ{q:Type}{l:List q}{a2:q}(h:l[r]? =J a2):l=l.take r++a2 :: l.drop (r+1):=by have aS:=(KA.1 h).1;rw[Kr aS] at h;injection h with h;rw[<-h,<-NI aS,Nq]
theorem take_one{q:Type}{l:List q}{a2:q}(h:l[r]? =J a2):l.take (r+1)=l.take r++[a2]:=by rw[MJ,h];rfl
theorem adH(rs:List fD):∀(k:Nat) (i:Int),∀j∈gq rs k i,0<=j/\j < (rs.length:Int):=by
 intro k;induction k with
 |zero=>intro i j bK;simp[gq] at bK
 |succ k bf=>
  intro i j bK;cases aS:rowAt rs i with
  |none=>simp only[gq,aS] at bK;cases bK
  |some aa=>
   obtain⟨M,rfl,V,_⟩:=BI aS;simp only[gq,aS] at bK;split at bK
   ·rcases KQ.1 bK with h|h
    ·exact bf _ j h
    have:j=(M:Int):=Zh;omega
   have:j=(M:Int):=by simpa using bK
   omega
theorem Hy(rs:List fD)(i:Int):∀j∈dQ rs i,0<=j/\j < (rs.length:Int):=adH rs _ i
theorem iw.low(h:iw w b n S):iw w b S.length S:=by
 obtain⟨g,⟨f,e,X,m,ag,d⟩,a8,ac⟩:=h;refine⟨g,⟨f,e,X,m,?_,d⟩,a8,ac⟩;have b3:Maps.size g=f.size:=by rw[d];simp[Maps.size,length_sorted]
 omega
theorem oV.low{aY:O}(h:oV w T vk ar vs aY g s n S):oV w T vk ar vs aY g s S.length S:=⟨h.1,h.2.1.low,h.2.2⟩
structure StW (w0:L) (T:bF) (vk vkk vs vc:O) (g bM:Nat) (vo vu:O) (own up:List Int) (hr:Nat) (cs:Array O) (w:L) (S:List Int):Prop where
 ask:oV w T vk vkk vs vc g bM S.length S
 po:jX w 0 vo own
 pu:jX w 0 vu up
 row:aj w hr 91 cs
 grown:w0.grownBy w (J bM)
section
variable {w0:L} {vkk vc:O} {bM:Nat} {vo vu:O} {own up:List Int} {hr:Nat} {cs:Array O}
theorem StW.below(h:StW w0 T vk vkk vs vc g bM vo vu own up hr cs w S)(d:JK w.heap.size w w'):StW w0 T vk vkk vs vc g bM vo vu own up hr cs w' S:=
 ⟨h.ask.below d,h.po.below d,h.pu.below d,h.row.below d h.row.lt,h.grown.trans (aT d _)⟩
def ahq (w0:L) (T:bF) (vk vkk vs vc:O) (g bM:Nat) (vo vu:O) (own up:List Int) (hr:Nat) (cs:Array O) (w:L) (b:Bool) (S:List Int) (e:Ending) (w':L):Prop:=
 e=.returned (JM b)/\w0.grownBy w' (J bM)/\bW w w'/\w.heap.size<=w'.heap.size/\(b=true->StW w0 T vk vkk vs vc g bM vo vu own up hr cs w' S)
theorem xC(h:StW w0 T vk vkk vs vc g bM vo vu own up hr cs w S)(aE:S.length < 1000000000)(cZ:∀a9∈T.codes,∀x∈a9.inputs,0<=x.pos)(cM:cs.size=8)(u:mP)(bN:wfi u.code)(dn:O)(ai:jX w 0 dn u.path)(o:u.one<=u.path.length)(a8:u.many<=u.path.length)(i:∀j∈u.path,0<=j/\j < (T.states.length:Int)): Calls Tryz.prog 58 #[.pointer (J ⟨g,0,I⟩),C E u.code,.agg #[dn,C E u.one,C E u.many,C E u.asked]] w (ahq w0 T vk vkk vs vc g bM vo vu own up hr cs w (jE T u) (lq u.code S)):=
 (acX T vk vkk vs vc w g bM S.length S h.ask Ya u.code bN 0 dn u.path ai u.one u.many u.asked cZ o a8 i).mono λa7 aF ⟨bS,ab,q,cE,d⟩=>by
  have ah:=nJ h.ask.2.1 ab
  refine⟨bS,h.grown.trans ab,ah,ab.size,λaf=>?_⟩
  have a7:=d af
  subst a7
  obtain⟨bJ,rest,di⟩:∃bJ rest,cs.toList=bJ :: rest:=by
   cases a':cs.toList with
   |nil=>(exfalso;have:cs.toList.length=8:=by simpa using cM);rw[a'] at this;cases this
   |cons a z=>exact⟨a,z,D⟩
  have W:w.cell? ⟨hr,0,I⟩=J bJ:=by
   rw[h.row.cell 0,<-NS,di];rfl
  exact⟨cE.low,h.po.keep ah ab.size,h.pu.keep ah ab.size,h.row.grown ab (λa7=>by injection a7 with a7;exact h.ask.2.1.noCell W a7),h.grown.trans ab⟩
end
def wJ (w0:L) (T:bF) (vk vkk vs vc:O) (g bM:Nat) (vo vu:O) (own up:List Int) (hr:Nat) (cs:Array O) (S:List Int) (P:List mP) (w:L):Prop:=
 StW w0 T vk vkk vs vc g bM vo vu own up hr cs w (iq P S)/\P.all (jE T)=true
def stateT (T:bF) (i:Nat) (x:fD):Bool:=(jh T i x).all (jE T)
theorem BU{ay P R:List mP}{u:mP}(bS:ay=P++u :: R)(h:jE T u=false):ay.all (jE T)=false:=by subst bS;rw[MV];exact⟨u,ZH,by rw[h];simp⟩
def aa1 (T:bF) (S:List Int):Prop:=S.Nodup/\∀j∈S,0<=j/\j < (T.codes.length:Int)
theorem Ej:∀(n:Nat) (l:List Int),l.Nodup->(∀j∈l,0<=j/\j < (n:Int))->l.length<=n:=by
 intro n;induction n with
 |zero=>
  intro l _ h;cases l with
  |nil=>exact KD _
  |cons a l=>have:=h a ZH;omega
 |succ n bf=>
  intro l V h;have o:=bf (l.erase (n:Int)) (V.erase _) (λj bK=>by
   have a8:=h j (List.mem_of_mem_erase bK);have ac:j≠(n:Int):=λa7=>by subst a7;exact(V.not_mem_erase) bK
   omega)
  have b6:=List.le_length_erase (a:=(n:Int)) (l:=l);omega
theorem su(h:aa1 T S):S.length<=T.codes.length:=Ej _ _ h.1 h.2
theorem DC(h:aa1 T S){u:mP}(ap:jE T u=true):aa1 T (lq u.code S):=by
 unfold lq jH;split
 ·exact h
 next V=>
 split
 ·exact h
 next bL=>
 refine⟨Nr.2 ⟨bL,h.1⟩,λa4 bK=>?_⟩;rcases Nh.1 bK with rfl|bK
 ·unfold jE wQ at ap;rw[KR V,Bool.false_or,LH,NH] at ap;refine⟨ap.1,?_⟩;rcases KT u.code.toNat T.codes.length with o|o
  ·omega
  have:=ap.2;rw[LY o] at this;cases this
 exact h.2 a4 bK
theorem aeF(h:aa1 T S):∀P:List mP,P.all (jE T)=true->aa1 T (iq P S):=by
 intro P;induction P generalizing S with
 |nil=>intro _;exact h
 |cons u P bf=>intro ai;rw[List.all_cons,LH] at ai;exact bf (DC h ai.1) ai.2
def afU (T:bF) (i:Nat):Bool:=match T.states[i]? with|some x=>rowT T i x|none=>true
def uV (T:bF) (n:Nat):Bool:=(List.range n).all (afU T)
def qC (c:aW):Bool:=decide (c.regs<=16) && lY c
def aed (T:bF) (i:Nat):List mP:=match T.states[i]? with|some x=>jh T i x|none=>[]
def gV (T:bF) (n:Nat):List mP:=(List.range n).flatMap (aed T)
def uX (T:bF):List mP:=gV T T.states.length
def yK (T:bF):Bool:=kM T && uV T T.states.length && T.codes.all qC && (uX T).all (jE T) && decide ((iq (uX T) []).length=T.codes.length)
variable{x:fD}
theorem EH(ad:T.states[r]? =J x)(h:uV T r=true):uV T (r+1)=rowT T r x:=by unfold uV at h⊢;rw[Nu,LK,h];simp[afU,ad]
theorem adU(ad:T.states[r]? =J x)(h:rowT T r x=false):uV T T.states.length=false:=by unfold uV;rw[MV];exact⟨r,MK.2 (KA.1 ad).1,by simp[afU,ad,h]⟩
theorem yJ(ad:T.states[r]? =J x):gV T (r+1)=gV T r++jh T r x:=by unfold gV;rw[Nu,Nv];simp[aed,ad]
theorem aee(ad:T.states[r]? =J x)(h:(jh T r x).all (jE T)=false):(uX T).all (jE T)=false:=by rw[MV] at h⊢;obtain⟨u,ap,aM⟩:=h;refine⟨u,?_,aM⟩;unfold uX gV;rw[MX];exact⟨r,MK.2 (KA.1 ad).1,by simp[aed,ad,ap]⟩
theorem Ia(h:T.codes.all qC=true):∀a9∈T.codes,∀x∈a9.inputs,0<=x.pos:=by intro a9 aw x ad;rw[LW] at h;have o:=h a9 aw;unfold qC lY at o;simp only[Bool.and_eq_true] at o;have a8:=LW.1 o.2.1.1.2 x ad;unfold dY at a8;simp only[Bool.and_eq_true,decide_eq_true_eq] at a8;exact a8.1.1.1.1.1.2
theorem aas(h:kM T=true):T.states.length<=32:=by unfold kM Ah at h;simp only[Bool.and_eq_true,decide_eq_true_eq] at h;omega
theorem abj(h:kM T=true):T.codes.length<=1024:=by unfold kM Ah at h;simp only[Bool.and_eq_true,decide_eq_true_eq] at h;omega
inductive ND where
 |mk (op kind:Int) (val:dP) (pos attr:Int) (args:List ND)
def ND.op:ND->Int| .mk op _ _ _ _ _=>op
def ND.kind:ND->Int| .mk _ k _ _ _ _=>k
def ND.val:ND->dP| .mk _ _ v _ _ _=>v
def ND.pos:ND->Int| .mk _ _ _ p _ _=>p
def ND.attr:ND->Int| .mk _ _ _ _ a _=>a
def ND.args:ND->List ND| .mk _ _ _ _ _ l=>l
structure gK where
 ins:List gI
 cons:List dP
 list:List mO
 most:Int
def gK.put (k:gK) (x:mO):gK:={k with list:=k.list++[x]}
def gK.up (k:gK) (r:Int):gK:={k with most:=max k.most (r+1)}
def dX:ND->Int->gK->gK
 | .mk op kind val pos attr args,r,k=>
  if op=40 then {k.up r with cons:=k.cons++[val],list:=k.list++[⟨51,r,k.cons.length,0⟩]}
  else match args with
   | []=>{k.up r with ins:=k.ins++[⟨op,kind,pos,attr⟩],list:=k.list++[⟨50,r,k.ins.length,0⟩]}
   | [a]=>(dX a r (k.up r)).put ⟨op,r,r,0⟩
   |a :: b :: _=>(dX b (r+1) (dX a r (k.up r))).put ⟨op,r,r,r+1⟩
def gB (k:gK) (n:ND):gK:=(dX n 1 k).put ⟨13,0,0,1⟩
def kL:List ND->gK
 | []=>⟨[],[],[],0⟩
 |n :: l=>l.foldl gB (dX n 0 ⟨[],[],[],0⟩)
def codeOf (l:List ND):aW:=⟨(kL l).most,0,(kL l).ins,(kL l).cons,(kL l).list++[⟨52,0,0,0⟩]⟩
def jZ (P:gI->Bool):ND->Bool
 | .mk op kind val pos attr args=>
  if op=40 then kQ val && args.isEmpty
  else match args with
   | []=>dY ⟨op,kind,pos,attr⟩ && P ⟨op,kind,pos,attr⟩
   | [a]=>(decide (op=6) || (decide (15<=op) && decide (op<=17))) && jZ P a
   | [a,b]=>decide (1<=op) && decide (op<=14) && !decide (op=6) && jZ P a && jZ P b
   |_ :: _ :: _ :: _=>false
structure Gen (P:gI->Bool) (k k':gK) (r:Int) (new:List mO) (ni:List gI) (nc:List dP):Prop where
 list:k'.list=k.list++new
 ins:k'.ins=k.ins++ni
 cons:k'.cons=k.cons++nc
 most:k.most<=k'.most
 reg:r+1<=k'.most
 some:new≠[]
 inp:ni.all (λx=>dY x && P x)=true
 val:nc.all kQ=true
 run:∀(nr n1 n2:Int) (len i:Nat) (R S:List Int) (rest:List mO),k'.most<=nr->(k'.ins.length:Int)<=n1->(k'.cons.length:Int)<=n2->i+new.length < len->
  ∃R':List Int,(∀y∈R,y∈R')/\r∈R'/\iQ nr 0 n1 n2 len i R S (new++rest)=iQ nr 0 n1 n2 len (i+new.length) R' S rest
theorem qE{p cq cT:Int}{i:Nat}{R:List Int}{x:mO}{rest:List mO}(aS:mW R S p 0 cq cT x=true)(j:x.op≠52)(X:x.op≠53)(aR:i+1 < b):iQ p 0 cq cT b i R S (x :: rest)=iQ p 0 cq cT b (i+1) (jH x.dst R) S rest:=by rw[iQ,aS,JZ X,JZ j,KR j,KR N];rfl
theorem nN{R:List Int}:(∀a2∈R,a2∈jH k R)/\k∈jH k R:=⟨λa2 ak=>(qI k a2 R).2 (.inr ak),(qI k k R).2 (.inl rfl)⟩
theorem gK.agL(k:gK)(r:Int):k.most<=(k.up r).most/\r+1<=(k.up r).most:=by unfold gK.up;simp only;omega
theorem sF(P:gI->Bool):∀(n:ND),jZ P n=true->∀(r:Int) (k:gK),0<=r->∃f ch c6,Gen P k (dX n r k) r f ch c6
 | .mk e j q bK bF b8,aT,r,k,aS=>by
  obtain⟨az,aM⟩:=k.agL r
  rw[jZ.eq_def] at aT
  rw[dX.eq_def]
  simp only at aT⊢
  by_cases g:e=40
  ·rw[Kq g] at aT⊢
   rw[LH] at aT
   refine⟨[⟨51,r,k.cons.length,0⟩],[],[q],D,by simp[gK.up],D,az,aM,ZH,D,by simp[aT.1],λp cq cT b a3 i t rest o a8 ac b6=>⟨jH r i,nN.1,nN.2,?_⟩⟩
   refine qE ?_ ZH ZH (by simpa using b6)
   simp only[List.length_append,List.length_cons,List.length_nil] at ac
   have o:(k.up r).most<=p:=o
   unfold mW sW yV
   simp
   omega
  rw[JZ g] at aT⊢
  match b8,aT with
  | [],aT=>
   refine⟨[⟨50,r,k.ins.length,0⟩],[⟨e,j,bK,bF⟩],[],D,D,by simp[gK.up],az,aM,ZH,by simpa using aT,D,λp cq cT b a3 i t rest o a8 ac b6=>⟨jH r i,nN.1,nN.2,?_⟩⟩
   refine qE ?_ ZH ZH (by simpa using b6)
   simp only[List.length_append,List.length_cons,List.length_nil] at a8
   have o:(k.up r).most<=p:=o
   unfold mW sW yV
   simp
   omega
  | [a],aT=>
   rw[LH] at aT
   obtain⟨br,aJ⟩:=aT
   obtain⟨f,ch,c6,ae⟩:=sF P a aJ r (k.up r) aS
   simp only[Bool.or_eq_true,Bool.and_eq_true,decide_eq_true_eq] at br
   refine⟨f++[⟨e,r,r,0⟩],ch,c6,by show(dX a r (k.up r)).list++_=_;rw[ae.list,LM];rfl,ae.ins,ae.cons,Ns az ae.most,ae.reg,ZH,ae.inp,ae.val,λp cq cT b a3 i t rest o a8 ac b6=>?_⟩
   rw[KC] at b6
   obtain⟨s,b3,bh,ca⟩:=ae.run p cq cT b a3 i t (⟨e,r,r,0⟩ :: rest) o a8 ac YL
   refine⟨jH r s,λa2 ak=>nN.1 a2 (b3 a2 ak),nN.2,?_⟩
   rw[LM,KC]
   refine ca.trans ?_
   refine qE ?_ YQ YQ YL
   have bz:=ae.reg
   unfold mW sW yV
   simp only[bh,decide_true]
   rw[JZ N,JZ N,JZ N,JZ N,JZ N,Kq N]
   simp
   exact⟨aS,by have c4:(dX a r (k.up r)).most<=p:=o;omega⟩
  | [a,y],aT=>
   simp only[Bool.and_eq_true,decide_eq_true_eq,Bool.not_eq_true',decide_eq_false_iff_not] at aT
   obtain⟨⟨⟨⟨dJ,cP⟩,c2⟩,aJ⟩,d⟩:=aT
   obtain⟨ev,v,h,ae⟩:=sF P a aJ r (k.up r) aS
   obtain⟨cV,x,ck,m⟩:=sF P y d (r+1) (dX a r (k.up r)) N
   refine⟨ev++cV++[⟨e,r,r,r+1⟩],v++x,h++ck,by show(dX y (r+1) (dX a r (k.up r))).list++_=_;rw[m.list,ae.list,LM,LM,LM];rfl,by show(dX y (r+1) (dX a r (k.up r))).ins=_;rw[m.ins,ae.ins,LM];rfl,by show(dX y (r+1) (dX a r (k.up r))).cons=_;rw[m.cons,ae.cons,LM];rfl,
    Ns az (Ns ae.most m.most),Ns ae.reg m.most,ZH,by rw[LK,ae.inp,m.inp];rfl,by rw[LK,ae.val,m.val];rfl,λp cq cT b a3 i t rest o a8 ac b6=>?_⟩
   rw[KC,KC] at b6
   have o:(dX y (r+1) (dX a r (k.up r))).most<=p:=o
   have a8:((dX y (r+1) (dX a r (k.up r))).ins.length:Int)<=cq:=a8
   have ac:((dX y (r+1) (dX a r (k.up r))).cons.length:Int)<=cT:=ac
   have cW:=a8
   have bL:=ac
   rw[m.ins,KC] at cW
   rw[m.cons,KC] at bL
   obtain⟨cI,b3,bh,ca⟩:=ae.run p cq cT b a3 i t (cV++(⟨e,r,r,r+1⟩ :: rest)) (Ns m.most o) N N YL
   obtain⟨l,ci,cw,dm⟩:=m.run p cq cT b (a3+ev.length) cI t (⟨e,r,r,r+1⟩ :: rest) o a8 ac YL
   refine⟨jH r l,λa2 ak=>nN.1 a2 (ci a2 (b3 a2 ak)),nN.2,?_⟩
   rw[LM,LM,KC,KC,<-Nat.add_assoc,<-Nat.add_assoc]
   refine ca.trans (dm.trans ?_)
   refine qE ?_ YQ YQ YL
   have bz:=m.reg
   have c4:=ci r bh
   unfold mW sW yV
   simp only[c4,cw,decide_true]
   rw[JZ N,JZ N,JZ N,JZ N,JZ N,JZ N]
   simp
   exact⟨⟨dJ,cP⟩,aS,N⟩
  |_ :: _ :: _ :: _,aT=>cases aT
structure Run (P:gI->Bool) (k:gK):Prop where
 inp:k.ins.all (λx=>dY x && P x)=true
 val:k.cons.all kQ=true
 most:1<=k.most
 some:k.list≠[]
 run:∀(nr n1 n2:Int) (len:Nat) (rest:List mO),k.most<=nr->(k.ins.length:Int)<=n1->(k.cons.length:Int)<=n2->k.list.length < len->
  ∃R':List Int,(0:Int)∈R'/\iQ nr 0 n1 n2 len 0 [] [] (k.list++rest)=iQ nr 0 n1 n2 len k.list.length R' [] rest
variable{P:gI->Bool}
theorem ab6{n:ND}(h:jZ P n=true):Run P (dX n 0 ⟨[],[],[],0⟩):=by
 obtain⟨f,ch,c6,ae⟩:=sF P n h 0 ⟨[],[],[],0⟩ (Lp _);have b3:(dX n 0 ⟨[],[],[],0⟩).list=f:=by rw[ae.list];rfl
 have bh:(dX n 0 ⟨[],[],[],0⟩).ins=ch:=by rw[ae.ins];rfl
 have ca:(dX n 0 ⟨[],[],[],0⟩).cons=c6:=by rw[ae.cons];rfl
 refine⟨by rw[bh];exact ae.inp,by rw[ca];exact ae.val,ae.reg,by rw[b3];exact ae.some,λp cq cT b rest o a8 ac b6=>?_⟩;rw[b3] at b6;obtain⟨s,_,cw,dm⟩:=ae.run p cq cT b 0 [] [] rest o a8 ac N;refine⟨s,cw,?_⟩;rw[b3];rw[Ls] at dm;exact dm
theorem adV{k:gK}{n:ND}(ah:Run P k)(h:jZ P n=true):Run P (gB k n):=by
 obtain⟨f,ch,c6,ae⟩:=sF P n h 1 k Z;have b3:(gB k n).list=k.list++f++[⟨13,0,0,1⟩]:=by show(dX n 1 k).list++_=_;rw[ae.list]
 have bh:(gB k n).ins=k.ins++ch:=ae.ins;have ca:(gB k n).cons=k.cons++c6:=ae.cons;have dc:(gB k n).most=(dX n 1 k).most:=D;refine⟨by rw[bh,LK,ah.inp,ae.inp];rfl,by rw[ca,LK,ah.val,ae.val];rfl,Ns ah.most ae.most,by rw[b3];simp,λp cq cT b rest o a8 ac b6=>?_⟩;rw[bh,KC] at a8;rw[ca,KC] at ac;rw[dc] at o;rw[b3,KC,KC] at b6;simp only[List.length_cons,List.length_nil] at b6;obtain⟨cI,ci,cw⟩:=ah.run p cq cT b (f++(⟨13,0,0,1⟩ :: rest)) (Ns ae.most o) N N N;obtain⟨l,cC,d4,du⟩:=ae.run p cq cT b k.list.length cI [] (⟨13,0,0,1⟩ :: rest) o (by rw[ae.ins,KC];omega) (by rw[ae.cons,KC];omega) N;refine⟨jH 0 l,nN.2,?_⟩;rw[b3,LM,LM,KC,KC];refine cw.trans (du.trans ?_);refine qE ?_ ZH ZH N;have bz:=ae.reg;have c4:=cC 0 ci;unfold mW sW yV;simp only[c4,d4,decide_true];simp;omega
theorem afe:∀(l:List ND) (k:gK),Run P k->(∀n∈l,jZ P n=true)->Run P (l.foldl gB k):=by
 intro l;induction l with
 |nil=>intro k ah _;exact ah
 |cons n l bf=>intro k ah h;exact bf _ (adV ah (h n ZH)) λbm bL=>h bm (by simp[bL])
theorem Il{l:List ND}(a':l≠[])(h:∀n∈l,jZ P n=true):Run P (kL l):=by
 match l,a' with
 |n :: l,_=>exact afe l _ (ab6 (h n ZH)) λbm bL=>h bm (by simp[bL])
theorem abh{l:List ND}(a':l≠[])(h:∀n∈l,jZ P n=true)(aS:(codeOf l).regs<=16)(V:(codeOf l).list.length<=1024):qC (codeOf l)=true/\(codeOf l).inputs.all P=true:=by
 have a0:=Il a' h;have a7:(codeOf l).list.length=(kL l).list.length+1:=by unfold codeOf;simp
 obtain⟨s,ci,cw⟩:=a0.run (codeOf l).regs (codeOf l).inputs.length (codeOf l).consts.length (codeOf l).list.length [⟨52,0,0,0⟩] (Lp _) (Lp _) (Lp _) (by rw[a7];omega);have i:=a0.inp;rw[LW] at i;have e9:(codeOf l).inputs.all dY=true:=by rw[LW];intro aa ad;have:=i aa ad;rw[LH] at this;exact this.1
 have ea:(codeOf l).inputs.all P=true:=by rw[LW];intro aa ad;have:=i aa ad;rw[LH] at this;exact this.2
 refine⟨?_,ea⟩;have bL:1<=(codeOf l).regs:=a0.most;have ab:iQ (codeOf l).regs (codeOf l).slots (codeOf l).inputs.length (codeOf l).consts.length (codeOf l).list.length 0 [] [] (codeOf l).list=true:=by refine cw.trans ?_;rw[iQ,a7];unfold mW sW;simp[ci,iQ]
 have af:(codeOf l).consts.all kQ=true:=a0.val;have ag:(codeOf l).slots=0:=D;unfold qC lY Gu;rw[e9,af,ab,ag];simp;omega

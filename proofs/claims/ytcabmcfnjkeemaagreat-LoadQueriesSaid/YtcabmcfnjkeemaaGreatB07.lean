import Derived.Test.YtcabmcfnjkeemaaGreatBM00
import Derived.Test.YtcabmcfnjkeemaaGreatB06
set_option maxRecDepth 100000
set_option maxHeartbeats 40000000
set_option linter.unusedVariables false
set_option linter.unusedSimpArgs false
namespace Go.Proofs.YtcabmcfnjkeemaaGreat
open Go.Deep Go.RowKit
open Go renaming World->L,Value->O
open Go.IntKind renaming i64->E,u64->JL
open Go.RowKit renaming Below->JK
open Go.Value renaming int->C,slice->G,string->H,bool->JM
open Option renaming none->I,some->J
inductive ED where
 |mk (op:Int) (args:List ED) (n scale:Int) (name attr:ByteArray) (at_:Int)
def ED.op:ED->Int| .mk op _ _ _ _ _ _=>op
def ED.args:ED->List ED| .mk _ l _ _ _ _ _=>l
def ED.name:ED->ByteArray| .mk _ _ _ _ nm _ _=>nm
def ED.attr:ED->ByteArray| .mk _ _ _ _ _ a _=>a
structure SchD where
 types:List (ByteArray×List (ByteArray×Int))
 syms:List ByteArray
structure dJ where
 name:ByteArray
 branch:Int
 part:Int
 pos:Int
 form:Int
 kind:Int
def zIt:dJ:=⟨⟨#[]⟩,0,0,0,0,0⟩
def oM:ByteArray:=⟨#[84,73,77,69]⟩
def aZ (S:SchD):List (List Int):=S.types.map λt=>t.2.map λf=>f.2
def jA (p:ByteArray->Bool):List ByteArray->Nat->Int
 | [],_=>-1
 |x :: l,i=>if p x then(i:Int) else jA p l (i+1)
def placeOf (l:List ByteArray) (s:ByteArray):Int:=jA (λx=>decide (x=s)) l 0
def dK (S:SchD) (t:Int) (s:ByteArray):Int:=if 0<=t then match S.types[t.toNat]? with
 |some x=>placeOf (x.2.map λf=>f.1) s
 |none=>-1
 else-1
def fH (S:SchD) (t a:Int):Int:=jS (aZ S) t a
def iO (its:List dJ) (s:ByteArray):Option dJ:=its.find? λy=>decide (y.name=s)
def cO (its:List dJ) (s:ByteArray):dJ:=(iO its s).getD zIt
def lU (S:SchD) (y:dJ) (op:Int) (attr:ByteArray):Int:=if op=25 then 0 else if attr=oM then-1 else dK S y.kind attr
def jP (S:SchD) (its:List dJ) (op:Int) (name attr:ByteArray):Option Int:=
 match iO its name with
 |none=>I
 |some y=>
  let k:=if op=25\/attr=oM then 1 else fH S y.kind (dK S y.kind attr)
  if ¬(op=25\/attr=oM)/\dK S y.kind attr < 0 then I
  else if(24 < op/\y.form≠2)\/((28<=op/\op<=30)/\k≠1/\k≠4)\/(op=31/\k≠4) then I
  else J k
def lF (S:SchD) (its:List dJ) (asked:Option ByteArray):ED->List (Option gI)
 | .mk op args n scale name attr at_=>
  if 24<=op then
   [match jP S its op name attr with
    |none=>I
    |some k=>J ⟨if op=24 then(if J name=asked then 41 else 42) else op,k,if op=24/\J name=asked then 0 else(cO its name).pos,lU S (cO its name) op attr⟩]
  else args.flatMap (lF S its asked)
def dD (its:List dJ) (plain:Bool):ED->List dJ
 | .mk op args n scale name attr at_=>(if op=24\/(24 < op/\plain=false) then [cO its name] else [])++args.flatMap (dD its plain)
def dO:ED->Bool
 | .mk op args n scale name attr at_=>
  (if op=6\/(15<=op/\op<=17) then decide (args.length=1) else if 1<=op/\op<=14 then decide (args.length=2) else decide (20<=op) && decide (op<=31) && decide (args.length=0) && (decide (op < 24) || decide (0 < name.size))) && (args.map λa=>dO a).all λb=>b
structure wI (S:SchD) (its:List dJ) (bs:List dB):Prop where
 at_:∀y∈its,∃(i k:Nat) (b:dB) (q:aO),y.branch=i/\y.part=k/\bs[i]? =J b/\b.parts[k]? =J q/\q.form=y.form/\q.ty=y.kind/\y.pos=((dH b.parts k).length:Int)/\0<=y.kind/\y.kind < (S.types.length:Int)/\(1<=y.form/\y.form<=3)
 one:∀y∈its,∀z∈its,y.branch=z.branch->y.part=z.part->y=z
 uniq:∀y∈its,∀z∈its,y.name=z.name->y=z
variable{its:List dJ}
theorem zW{s:ByteArray}{a2:dJ}(h:iO its s=J a2):a2∈its/\a2.name=s:=by unfold iO at h;exact⟨List.mem_of_find?_eq_some h,by have:=List.find?_some h;simpa using this⟩
structure qX (its:List dJ) (x:ED) (last:dJ) (asked:Bool):Prop where
 branch:∀y∈dD its false x,y.branch=last.branch/\y.part<=last.part
 mem:last∈its
 ahw:∀y∈dD its false x,y.form=3->y.name=last.name
 plain:∀y∈dD its true x,y.form=2->y.name=last.name/\asked=true
 ask:asked=false->last.form=2
variable{i:Nat}
theorem GL(ps:List aO){j:Nat}(h:i<=j):(dH ps i).length<=(dH ps j).length:=by
 induction j with
 |zero=>have:i=0:=N;subst this;exact KD _
 |succ j bf=>
  rcases KT i (j+1) with o|o
  ·have a8:=bf N;rw[gW,KC];omega
  have:i=j+1:=N;subst this;exact KD _
variable{k:Nat}{q:aO}
theorem ad6{ps:List aO}(a1:ps[k]? =J q)(aH:q.form≠3):(vW ps)[(dH ps k).length]? =J (q.ty,decide (q.form=2)):=by
 have ah:=(KA.1 a1).1;have a':dZ ps k=true:=by unfold dZ;rw[a1];simpa using aH
 have e:∀M,k < M->M<=ps.length->(dH ps M)[(dH ps k).length]? =J k:=by
  intro M;induction M with
  |zero=>intro h;omega
  |succ M bf=>
   intro o a8;rw[gW];rcases KT k M with ac|ac
   ·have b6:=bf ac N;rw[KW (KA.1 b6).1];exact b6
   have:k=M:=N;subst this;rw[Kq a',Lh c];simp
 unfold vW;rw[Le,show(dh ps)[(dH ps k).length]? =J k from e ps.length ah c];simp[a1]
theorem sV(p:ByteArray->Bool):∀(l:List ByteArray) (i:Nat),jA p l i=-1\/((i:Int)<=jA p l i/\jA p l i < ((i+l.length:Nat):Int)):=by
 intro l;induction l with
 |nil=>intro i;exact .inl rfl
 |cons aa l bf=>
  intro i;unfold jA;split
  ·refine .inr ⟨Lp _,?_⟩;rw[MI];omega
  rcases bf (i+1) with h|⟨o,a8⟩
  ·exact .inl h
  refine .inr ⟨N,?_⟩;rw[MI];omega
variable{S:SchD}
theorem adv{t:Int}(bw:0<=t)(o:t < (S.types.length:Int)):∃x,S.types[t.toNat]? =J x/\(aZ S)[t.toNat]? =J (x.2.map λf=>f.2):=by obtain⟨x,ad⟩:∃x,S.types[t.toNat]? =J x:=⟨_,Kr N⟩;refine⟨x,ad,?_⟩;unfold aZ;rw[Le,ad];rfl
theorem aex(n:∀l∈aZ S,∀k∈l,1<=k/\k<=4)(W:∀l∈aZ S,l.length<=8){t:Int}(bw:0<=t)(o:t < (S.types.length:Int)):jS (aZ S) t (-1)=1/\∀s:ByteArray,0<=dK S t s->dK S t s<=7/\1<=jS (aZ S) t (dK S t s)/\jS (aZ S) t (dK S t s)<=4:=by
 obtain⟨aa,ad,ah⟩:=adv bw o;have b:=Kz ah;refine⟨?_,λs ag=>?_⟩
 ·unfold jS;rw[Kq bw,ah];simp only;rw[JZ N];simp
 have a7:dK S t s=placeOf (aa.2.map λaG=>aG.1) s:=by unfold dK;rw[Kq bw,ad]
 have bA:dK S t s < ((aa.2.map λaG=>aG.2).length:Int):=by
  rw[a7] at ag⊢;unfold placeOf at ag⊢;rcases sV (λa2=>decide (a2=s)) (aa.2.map λaG=>aG.1) 0 with h|⟨a8,ac⟩
  ·omega
  rw[KZ] at ac⊢;omega
 have dy:=W _ b;refine⟨N,?_⟩;unfold jS;rw[Kq bw,ah];simp only;rw[JZ N,JZ N];refine n _ b _ ?_;rw[Ll,Kr N];exact List.getElem_mem _
theorem Ec{P:List dB}(aR:wI S its P)(n:∀l∈aZ S,∀k∈l,1<=k/\k<=4)(W:∀l∈aZ S,l.length<=8){x:ED}{au:dJ}{t:Bool}(aw:qX its x au t){b:dB}(b3:au.branch=i)(bh:au.part=k)(d:P[i]? =J b)(a1:b.parts[k]? =J q)(aE:q.form=au.form)(e7:q.ty=au.kind)(e5:b.parts.length<=8){one many:Int}(o:((dH b.parts k).length:Int)<=one)(a8:((dH b.parts k).length:Int)<=many)(ac:q.form≠3->((dH b.parts k).length:Int)+1<=many)(op:Int)(name attr:ByteArray)(aP:Int)(ah:24<=op/\op<=31)(m:jP S its op name attr=J aP)(bL:cO its name∈dD its false x)(d9:op=24->cO its name∈dD its true x): dY ⟨if op=24 then(if J name=(if t then J au.name else I) then 41 else 42) else op,aP,if op=24/\J name=(if t then J au.name else I) then 0 else(cO its name).pos,lU S (cO its name) op attr⟩=true/\nH (aZ S) (vW b.parts) one many q.ty ⟨if op=24 then(if J name=(if t then J au.name else I) then 41 else 42) else op,aP,if op=24/\J name=(if t then J au.name else I) then 0 else(cO its name).pos,lU S (cO its name) op attr⟩=true:=by
 unfold jP at m;cases aH:iO its name with
 |none=>rw[aH] at m;cases m
 |some a2=>
  rw[aH] at m;have fu:cO its name=a2:=by unfold cO;rw[aH];rfl
  rw[fu] at bL d9⊢;obtain⟨z,R⟩:=zW aH;obtain⟨el,ad⟩:=aw.branch a2 bL;obtain⟨T,cW,aY,f,bd,bO,bY,cd,cj,ar,b7,cb,bj,aj⟩:=aR.at_ a2 z;have a7:T=i:=N;subst a7;rw[d] at bY;injection bY with bY;subst bY;have cp:cW<=k:=N;have ae:=(KA.1 cd).1;have af:=mg b.parts cW;obtain⟨t1,d5⟩:=aex n W cb bj;have a3:cW=k->a2=au:=λh=>aR.one a2 z au aw.mem el N;have a4:cW < k->f.form≠3->((dH b.parts cW).length:Int) < ((dH b.parts k).length:Int):=λh a9=>by
   have b6:=GL b.parts (show cW+1<=k by omega);have bz:dZ b.parts cW=true:=by unfold dZ;rw[cd];simpa using a9
   rw[gW,Kq bz,KC] at b6;simp at b6;omega
  simp only at m;by_cases s:¬(op=25\/attr=oM)/\dK S a2.kind attr < 0
  ·rw[Kq s] at m;cases m
  rw[JZ s] at m;obtain⟨cT,av⟩:∃cT,(if op=25\/attr=oM then 1 else fH S a2.kind (dK S a2.kind attr))=cT:=⟨_,D⟩;rw[av] at m;by_cases bN:(24 < op/\a2.form≠2)\/((28<=op/\op<=30)/\cT≠1/\cT≠4)\/(op=31/\cT≠4)
  ·rw[Kq bN] at m;cases m
  rw[JZ bN] at m;injection m with m;subst m;obtain⟨Y,cE⟩:∃Y,lU S a2 op attr=Y:=⟨_,D⟩;rw[cE];have ab:(-1<=Y/\Y<=7)/\(1<=cT/\cT<=4)/\(op=25->Y=0/\cT=1)/\(op≠25->jS (aZ S) a2.kind Y=cT):=by
   unfold lU at cE;by_cases aa:op=25
   ·rw[Kq aa] at cE;rw[Kq (.inl aa)] at av;subst cE av;exact⟨N,N,λ_=>⟨D,D⟩,λh=>absurd aa h⟩
   rw[JZ aa] at cE;by_cases B:attr=oM
   ·rw[Kq B] at cE;rw[Kq (.inr B)] at av;subst cE av;exact⟨N,N,λh=>absurd h aa,λ_=>t1⟩
   rw[JZ B] at cE;have e:¬(op=25\/attr=oM):=λh=>h.elim aa B;rw[JZ e] at av;have cr:0<=dK S a2.kind attr:=by
    rcases Int.lt_or_le (dK S a2.kind attr) 0 with h|h
    ·exact absurd ⟨e,h⟩ s
    exact h
   obtain⟨aU,p,br⟩:=d5 attr cr;unfold fH at av;rw[av] at p br;subst cE;exact⟨N,⟨p,br⟩,λh=>absurd h aa,λ_=>av⟩
  obtain⟨e9,en,aa,v⟩:=ab;by_cases X:op=24
  ·subst X;have e0:=d9 D;have v:=v Z;simp only[if_true,true_and];by_cases g:J name=(if t then J au.name else I)
   ·have aJ:t=true/\name=au.name:=by
     cases t with
     |true=>simp at g;exact⟨D,g⟩
     |false=>simp at g
    have y:a2=au:=aR.uniq a2 z au aw.mem (by rw[R];exact aJ.2);rw[Kq g,Kq g];refine⟨XA,?_⟩;unfold nH;rw[Kq D,e7,<-y,v];simp;omega
   have r:¬(t=true/\name=au.name):=λh=>g (by rw[h.1,h.2];rfl);have a0:a2.form=1:=by
    rcases(show a2.form=1\/a2.form=2\/a2.form=3 by omega) with h|h|h
    ·exact h
    ·have b6:=aw.plain a2 e0 h;exact absurd ⟨b6.2,by rw[<-R];exact b6.1⟩ r
    have b6:=aw.ahw a2 bL h;have bz:a2=au:=aR.uniq a2 z au aw.mem b6;cases t with
    |true=>exact absurd ⟨D,by rw[<-R];exact b6⟩ r
    |false=>have c4:=aw.ask D;rw[<-bz] at c4;omega
   have bA:cW < k:=by
    rcases KT cW k with h|h
    ·exact h
    have bz:=a3 N;cases t with
    |true=>exact absurd ⟨D,by rw[<-R,bz]⟩ r
    |false=>have c4:=aw.ask D;rw[<-bz] at c4;omega
   have M:f.form≠3:=N;have ag:=a4 bA M;rw[JZ g,JZ g];refine⟨XA,?_⟩;unfold nH;rw[JZ YQ];simp only[if_true];rw[JZ (by rw[b7];omega),b7,LX,ad6 cd M];simp only;unfold ada;rw[ar,v,cj,a0];simp;omega
  have j:a2.form=2:=by
   rcases Decidable.em (a2.form=2) with h|h
   ·exact h
   exact absurd (.inl ⟨N,h⟩) bN
  have M:f.form≠3:=N;have ai:((dH b.parts cW).length:Int) < many:=by
   rcases KT cW k with h|h
   ·have:=a4 h M;omega
   have bz:=a3 N;have:cW=k:=N;subst this;have c4:=ac (by rw[aE,<-bz];omega);omega
  rw[JZ X,JZ (λh=>X h.1)];refine⟨XA,?_⟩;unfold nH;rw[JZ YQ];simp only;rw[JZ (by rw[JZ N,b7];omega),b7,LX,ad6 cd M];simp only;unfold ada;rw[ar,cj,j];simp only;rw[JZ Zv];by_cases V:op=25
  ·rw[Kq V];simp;exact(aa V).2
  rw[JZ V,v V];rw[JZ N];by_cases a5:op=31
  ·rw[Kq a5];simp;omega
  rw[JZ a5];by_cases a6:28<=op/\op<=30
  ·rw[Kq a6];simp;omega
  rw[JZ a6]
theorem yu(S:SchD)(its:List dJ)(t:Option ByteArray):∀x:ED,dO x=true->∀bl∈lF S its t x,∃(op:Int) (name attr:ByteArray),(24<=op/\op<=31)/\cO its name∈dD its false x/\(op=24->cO its name∈dD its true x)/\bl=(match jP S its op name attr with
    |none=>I
    |some k=>J ⟨if op=24 then(if J name=t then 41 else 42) else op,k,if op=24/\J name=t then 0 else(cO its name).pos,lU S (cO its name) op attr⟩)
 | .mk op b8 M e name attr ar,aS,bl,br=>by
  rw[lF.eq_def] at br
  rw[dO.eq_def] at aS
  simp only[Bool.and_eq_true,List.all_map,List.all_eq_true] at br aS
  rw[dD.eq_def,dD.eq_def]
  simp only
  by_cases a':24<=op
  ·rw[Kq a',KG] at br
   have o:=aS.1
   rw[JZ N,JZ N] at o
   simp only[Bool.and_eq_true,decide_eq_true_eq] at o
   refine⟨op,name,attr,⟨a',o.1.1.2⟩,?_,λh=>?_,br⟩
   ·rw[Kq (by rcases Decidable.em (op=24) with h|h;exact .inl h;exact .inr ⟨N,ZH⟩)]
    simp
   rw[Kq (.inl h)]
   simp
  rw[JZ a',MX] at br
  obtain⟨a,aJ,br⟩:=br
  have cQ:dO a=true:=aS.2 a aJ
  obtain⟨ca,b,d,o,a8,ac,b6⟩:=yu S its t a cQ bl br
  exact⟨ca,b,d,o,NT _ (MX.2 ⟨a,aJ,a8⟩),λh=>NT _ (MX.2 ⟨a,aJ,ac h⟩),b6⟩
def qy (S:SchD) (its:List dJ) (asked:Option ByteArray) (x:ED) (n:ND):Prop:=∀P:gI->Bool,(∀o∈lF S its asked x,∃i,o=J i/\dY i=true/\P i=true)->jZ P n=true
structure Di (S:SchD) (its:List dJ) (bs:List dB):Prop where
 its:wI S its bs
 br:∀b∈bs,qj (aZ S) b
theorem Di.put{P:List dB}(h:Di S its P){b:dB}{f:aO}(d:P[i]? =J b)(a1:b.parts[k]? =J q)(aH:f.form=q.form)(c7:f.ty=q.ty)(V:xU (aZ S) b.parts k f): Di S its (P.set i {b with parts:=b.parts.set k f}):=by
 have aR:=(KA.1 d).1;have ah:=(KA.1 a1).1;refine⟨⟨λa2 ak=>?_,h.its.one,h.its.uniq⟩,λa9 aw=>?_⟩
 ·obtain⟨T,cW,aY,z,bd,bO,bY,cd,cj,ar,b7,cb⟩:=h.its.at_ a2 ak;by_cases dL:i=T
  ·subst dL;rw[d] at bY;injection bY with bY;subst bY;have a':∀a4,dZ (b.parts.set k f) a4=dZ b.parts a4:=by
    intro a4;unfold dZ;rw[KO];by_cases m:k=a4
    ·subst m;rw[Kq D,Kq ah,a1];simp only;rw[aH]
    rw[JZ m]
   have ad:dH (b.parts.set k f) cW=dH b.parts cW:=by unfold dH;congr 1;funext a4;exact a' a4
   by_cases cp:k=cW
   ·subst cp;rw[a1] at cd;injection cd with cd;subst cd;exact⟨i,k,_,f,bd,bO,YB,by rw[KO,Kq D,Kq ah],aH.trans cj,c7.trans ar,by rw[ad];exact b7,cb⟩
   exact⟨i,cW,_,z,bd,bO,YB,by rw[KO,JZ cp];exact cd,cj,ar,by rw[ad];exact b7,cb⟩
  exact⟨T,cW,aY,z,bd,bO,by rw[KO,JZ dL];exact bY,cd,cj,ar,b7,cb⟩
 rcases List.mem_or_eq_of_mem_set aw with o|o
 ·exact h.br a9 o
 subst o;exact(h.br b (Kz d)).set a1 aH c7 V
section
variable {S:SchD} {its:List dJ} {bs:List dB} (hkinds:∀l∈aZ S,∀k∈l,1<=k/\k<=4) (hattrs:∀l∈aZ S,l.length<=8)
include hkinds hattrs
theorem xY(h:Di S its bs){x:ED}(aS:dO x=true){au:dJ}{t:Bool}(aw:qX its x au t){b:dB}{i k:Nat}{q:aO}(b3:au.branch=i)(bh:au.part=k)(d:bs[i]? =J b)(a1:b.parts[k]? =J q)(aE:q.form=au.form)(e7:q.ty=au.kind)(a2:∀bl∈lF S its (if t then J au.name else I) x,bl≠I){n:ND}(V:qy S its (if t then J au.name else I) x n){one many:Int}(o:((dH b.parts k).length:Int)<=one)(a8:((dH b.parts k).length:Int)<=many)(ac:q.form≠3->((dH b.parts k).length:Int)+1<=many): jZ (nH (aZ S) (vW b.parts) one many q.ty) n=true:=by
 refine V _ λbl br=>?_;obtain⟨e,bq,bF,ah,bL,d9,a7⟩:=yu S its _ x aS bl br;have bm:=a2 bl br;cases m:jP S its e bq bF with
 |none=>rw[m] at a7;exact absurd a7 bm
 |some aP=>rw[m] at a7;have dy:=(h.br b (Kz d)).len;obtain⟨v,c2⟩:=Ec h.its hkinds hattrs aw b3 bh d a1 aE e7 dy o a8 ac e bq bF aP ah m bL d9;exact⟨_,a7,v,c2⟩
theorem Jh(h:Di S its bs){x:ED}(aS:dO x=true){au:dJ}{t:Bool}(aw:qX its x au t){b:dB}{i k:Nat}{q:aO}(b3:au.branch=i)(bh:au.part=k)(d:bs[i]? =J b)(a1:b.parts[k]? =J q)(aE:q.form=au.form)(e7:q.ty=au.kind)(a2:∀bl∈lF S its (if t then J au.name else I) x,bl≠I){n:ND}(V:qy S its (if t then J au.name else I) x n): Di S its (bs.set i {b with parts:=b.parts.set k {q with guards:=q.guards++[n]}}):=by
 have ai:=(h.br b (Kz d)).part k q a1;refine h.put d a1 D D ⟨ai.ty,λaH dT ek=>?_,λaH dT ek=>?_,ai.closes⟩
 ·rcases KQ.1 ek with o|o
  ·exact ai.not aH dT o
  rw[KG] at o;subst o;exact xY hkinds hattrs h aS aw b3 bh d a1 aE e7 a2 V (Lp _) (Lp _) (λh=>absurd aH h)
 rcases KQ.1 ek with o|o
 ·exact ai.guards aH dT o
 rw[KG] at o;subst o;exact xY hkinds hattrs h aS aw b3 bh d a1 aE e7 a2 V (Lp _) N (λ_=>N)
theorem Jg(h:Di S its bs){x:ED}(aS:dO x=true){au:dJ}(aw:qX its x au false){b:dB}{i k:Nat}{q:aO}(b3:au.branch=i)(bh:au.part=k)(d:bs[i]? =J b)(a1:b.parts[k]? =J q)(aE:q.form=au.form)(e7:q.ty=au.kind)(a2:∀bl∈lF S its I x,bl≠I){n:ND}(V:qy S its I x n): Di S its (bs.set i {b with parts:=b.parts.set k {q with closes:=q.closes++[n]}}):=by
 have ai:=(h.br b (Kz d)).part k q a1;have j:=aw.ask D;refine h.put d a1 D D ⟨ai.ty,ai.not,ai.guards,λaH dT ek=>?_⟩;rcases KQ.1 ek with o|o
 ·exact ai.closes aH dT o
 rw[KG] at o;subst o;have g:jZ (nH (aZ S) (vW b.parts) ((dH b.parts k).length+1:Nat) ((dH b.parts k).length+1:Nat) q.ty) dT=true:=xY hkinds hattrs h aS aw b3 bh d a1 aE e7 a2 V N N (λ_=>N);refine V _ λbl br=>?_;obtain⟨e,bq,bF,ah,bL,d9,a7⟩:=yu S its _ x aS bl br;have bm:=a2 bl br;cases m:jP S its e bq bF with
 |none=>rw[m] at a7;exact absurd a7 bm
 |some aP=>
  rw[m] at a7;have dy:=(h.br b (Kz d)).len;obtain⟨v,c2⟩:=Ec h.its hkinds hattrs aw b3 bh d a1 aE e7 dy (one:=((dH b.parts k).length+1:Nat)) (many:=((dH b.parts k).length+1:Nat)) N N (λ_=>N) e bq bF aP ah m bL d9;refine⟨_,a7,v,?_⟩;have r:∀cH:ByteArray,¬(J cH=(if false=true then J au.name else I)):=λcH h=>by simp at h
  simp only[if_neg (r bq)] at c2;unfold nH at c2⊢;simp only;by_cases a':e=24
  ·subst a';simp at c2⊢;exact c2
  rw[JZ (by simp[a'];omega)] at c2;rw[JZ (by simp[a'];omega)];simpa [a'] using c2
end
def ExW (op n sc at_:Int) (name attr:ByteArray):Prop:=wfi op/\wfi n/\wfi sc/\wfi at_/\name.size<=4000/\attr.size<=4000
inductive iD (Q:Nat->Prop) (w:L):List O->ED->Prop where
 |mk (op n sc at_:Int) (name attr:ByteArray) (args:List ED) (A:Option Addr) (c:Nat) (css:List (List O))
  (hw:ExW op n sc at_ name attr) (hc:args.length<=c) (hm:c<=maxLen) (hl:css.length=args.length)
  (hs:0 < args.length->∃b off,A=J ⟨b,off,I⟩/\Q b/\∀(i:Nat) (cs:List O),css[i]? =J cs->∀(j:Nat) (u:O),cs[j]? =J u->w.cell? ⟨b,off+i*7+j,I⟩=J u)
  (hr:∀(i:Nat) (cs:List O) (x:ED),css[i]? =J cs->args[i]? =J x->iD Q w cs x):
  iD Q w [C E op,G A args.length c,C E n,C E sc,H name,H attr,C E at_] (.mk op args n sc name attr at_)
variable{w w':L}{Q Q':Nat->Prop}
variable{cs:List O}
theorem iD.len{x:ED}(h:iD Q w cs x):cs.length=7:=by cases h;rfl
theorem iD.keep{x:ED}(h:iD Q w cs x)(ah:aF Q w w')(n:∀b,Q b->Q' b):iD Q' w' cs x:=by
 induction h with
 |mk e M bQ ar bq bF b8 Y a9 cA bN aw bL a' ag aS bf=>refine .mk e M bQ ar bq bF b8 Y a9 cA bN aw bL a' (λbw=>?_) bf;obtain⟨b,b5,o,a8,ac⟩:=ag bw;exact⟨b,b5,o,n b a8,λa3 cs aR a4 u ap=>ah _ _ a8 (ac a3 cs aR a4 u ap)⟩
variable{name:ByteArray}{at_ n op sc:Int}
theorem iD.opened{attr:ByteArray}{args:List ED}(h:iD Q w cs (.mk op args n sc name attr at_)): ∃dg,cs=[C E op,dg,C E n,C E sc,H name,H attr,C E at_]/\aX Q 7 (iD Q) w dg args/\ExW op n sc at_ name attr:=by
 cases h with
 |mk _ _ _ _ _ _ _ Y a9 cA bN aw bL a' ag aS=>exact Py
theorem wP{q:Type}{m:Nat}{R:L->List O->q->Prop}{Y:Option Addr}{xs:List q}(ac:0 < xs.length->∃b off,Y=J ⟨b,off,I⟩/\Q b/\∀(i:Nat) (x:q),xs[i]? =J x->∃cs:List O,cs.length=m/\R w cs x/\∀(j:Nat) (u:O),cs[j]? =J u->w.cell? ⟨b,off+i*m+j,I⟩=J u): ∃css:List (List O),css.length=xs.length/\(0 < xs.length->∃b off,Y=J ⟨b,off,I⟩/\Q b/\∀(i:Nat) (cs:List O),css[i]? =J cs->∀(j:Nat) (u:O),cs[j]? =J u->w.cell? ⟨b,off+i*m+j,I⟩=J u)/\∀(i:Nat) (cs:List O) (x:q),css[i]? =J cs->xs[i]? =J x->cs.length=m/\R w cs x:=by
 rcases MB xs.length with bw|bw
 ·have ad:xs=[]:=MG bw;subst ad;exact⟨[],D,λh=>absurd h ZH,λi cs x h=>Zw⟩
 obtain⟨b,off,cE,a1,aw⟩:=ac bw;have aK:∀i,∃cs:List O,i < xs.length->cs.length=m/\(∀x,xs[i]? =J x->R w cs x)/\∀j u,cs[j]? =J u->w.cell? ⟨b,off+i*m+j,I⟩=J u:=λi=>by
  by_cases aR:i < xs.length
  ·obtain⟨cs,b6,bz,c4⟩:=aw i _ (Kr aR);exact⟨cs,λ_=>⟨b6,λx ad=>Vt,c4⟩⟩
  exact⟨[],λh=>absurd h aR⟩
 obtain⟨ae,ab⟩:=Classical.axiomOfChoice aK;have e:∀i,i < xs.length->((List.range xs.length).map ae)[i]? =J (ae i):=λi aR=>by rw[Le,NC aR];rfl
 refine⟨(List.range xs.length).map ae,ZH,λ_=>⟨b,off,cE,a1,λi cs aR j u ap=>?_⟩,λi cs x aR ad=>?_⟩
 ·have bA:=(KA.1 aR).1;simp at bA;rw[e i bA] at aR;injection aR with aR;subst aR;exact(ab i bA).2.2 j u ap
 have bA:=(KA.1 ad).1;rw[e i bA] at aR;injection aR with aR;subst aR;exact⟨(ab i bA).1,(ab i bA).2.1 x ad⟩
theorem iD.shut{dg:O}{args:List ED}(h:aX Q 7 (iD Q) w dg args){attr:ByteArray}(bN:ExW op n sc at_ name attr):iD Q w [C E op,dg,C E n,C E sc,H name,H attr,C E at_] (.mk op args n sc name attr at_):=by obtain⟨Y,a9,rfl,o,a8,ac⟩:=h;obtain⟨cA,a',ag,aS⟩:=wP ac;exact .mk op n sc at_ name attr args Y a9 cA bN o a8 a' ag λa3 bj aa aR ad=>(aS a3 bj aa aR ad).2
def yX:L->List O->ED->Prop:=iD (λ_=>True)
theorem iD.weak{x:ED}(h:iD Q w cs x):yX w cs x:=h.keep (λ_ _ _ h=>h) λ_ _=>trivial
theorem yX.below{x:ED}(h:yX w cs x)(d:JK w.heap.size w w'):yX w' cs x:=iD.keep h (λaT u _ ai=>(d.cell (ay ai)).trans ai) λ_ h=>h
theorem yX.opened{attr:ByteArray}{args:List ED}(h:yX w cs (.mk op args n sc name attr at_)): ∃dg,cs=[C E op,dg,C E n,C E sc,H name,H attr,C E at_]/\bU 7 yX w dg args/\ExW op n sc at_ name attr:=by obtain⟨dg,o,a8,bN⟩:=iD.opened h;exact⟨dg,o,a8.out λ_ _ h=>h,bN⟩
variable{v:O}
theorem jr{l:List ED}(h:bU 7 yX w v l)(d:JK w.heap.size w w'):bU 7 yX w' v l:=h.keep (bW.of_below d) λ_ _ h=>h.below d
theorem abr{l:List ED}(h:bU 7 yX w v l){attr:ByteArray}{args:List ED}(ad:l[i]? =J (.mk op args n sc name attr at_)): ∃b off a9 dg,v=G (J ⟨b,off,I⟩) l.length a9/\l.length<=a9/\a9<=maxLen/\w.cell? ⟨b,off+i*7,I⟩=J (C E op)/\w.cell? ⟨b,off+i*7+1,I⟩=J dg/\w.cell? ⟨b,off+i*7+2,I⟩=J (C E n)/\w.cell? ⟨b,off+i*7+3,I⟩=J (C E sc)/\w.cell? ⟨b,off+i*7+4,I⟩=J (H name)/\w.cell? ⟨b,off+i*7+5,I⟩=J (H attr)/\w.cell? ⟨b,off+i*7+6,I⟩=J (C E at_)/\bU 7 yX w dg args/\ExW op n sc at_ name attr:=by obtain⟨b,off,a9,af,o,a8,aR,bj,a',aS,aw⟩:=h.get ad;obtain⟨dg,rfl,ag,bN⟩:=aS.opened;exact⟨b,off,a9,dg,af,o,a8,aw 0 _ D,aw 1 _ D,aw 2 _ D,aw 3 _ D,aw 4 _ D,aw 5 _ D,aw 6 _ D,ag,bN⟩
def aP:ED->Nat
 | .mk _ args _ _ _ _ _=>1+(args.map λa=>aP a).sum
theorem aY(op n sc at_:Int)(name attr:ByteArray)(args:List ED):aP (.mk op args n sc name attr at_)=1+(args.map aP).sum:=by rw[aP.eq_def]
theorem jw(x:ED):0 < aP x:=by cases x;rw[aY];omega
theorem mG(f:ED->Nat){l:List ED}{x:ED}(h:l[i]? =J x):((l.take (i+1)).map f).sum=((l.take i).map f).sum+f x:=by have aR:=(KA.1 h).1;rw[ML aR,KX,LD];have a7:l[i]=x:=Xj;rw[a7];simp
theorem pO(f:ED->Nat)(l:List ED)(i:Nat):((l.take i).map f).sum<=(l.map f).sum:=by exact Qe
theorem JB{attr:ByteArray}{args:List ED}{x:ED}(h:args[i]? =J x):aP x < aP (.mk op args n sc name attr at_):=by rw[aY];have o:=mG aP h;have a8:=pO aP args (i+1);omega
theorem vG{p:ED->Prop}(h:∀(op n sc at_:Int) (name attr:ByteArray) (args:List ED),(∀(i:Nat) (x:ED),args[i]? =J x->p x)->p (.mk op args n sc name attr at_))(x:ED):p x:=by
 have e:∀bm x,aP x<=bm->p x:=by
  intro bm;induction bm with
  |zero=>intro x ad;have:=jw x;omega
  |succ bm bf=>intro x ad;obtain⟨op,args,n,sc,name,attr,at_⟩:=x;exact h op n sc at_ name attr args λi a2 ak=>bf a2 (by have:=JB (op:=op) (n:=n) (sc:=sc) (at_:=at_) (name:=name) (attr:=attr) ak;omega)
 exact e _ x c
def NdW (op kind pos attr:Int) (v:dP):Prop:=wfi op/\wfi kind/\wfi v.kind/\oU v.bits/\wfi pos/\wfi attr
inductive dW (Q:Nat->Prop) (w:L):List O->ND->Prop where
 |mk (op kind pos attr:Int) (val:dP) (args:List ND) (A:Option Addr) (c:Nat) (css:List (List O))
  (hw:NdW op kind pos attr val) (hc:args.length<=c) (hm:c<=maxLen) (hl:css.length=args.length)
  (hs:0 < args.length->∃b off,A=J ⟨b,off,I⟩/\Q b/\∀(i:Nat) (cs:List O),css[i]? =J cs->∀(j:Nat) (u:O),cs[j]? =J u->w.cell? ⟨b,off+i*7+j,I⟩=J u)
  (hr:∀(i:Nat) (cs:List O) (x:ND),css[i]? =J cs->args[i]? =J x->dW Q w cs x):
  dW Q w [C E op,C E kind,G A args.length c,C E val.kind,C JL val.bits,C E pos,C E attr] (.mk op kind val pos attr args)
variable{x:ND}
theorem dW.len(h:dW Q w cs x):cs.length=7:=by cases h;rfl
theorem dW.keep(h:dW Q w cs x)(ah:aF Q w w')(n:∀b,Q b->Q' b):dW Q' w' cs x:=by
 induction h with
 |mk e j bK bF q b8 Y a9 cA bN aw bL a' ag aS bf=>refine .mk e j bK bF q b8 Y a9 cA bN aw bL a' (λbw=>?_) bf;obtain⟨b,b5,o,a8,ac⟩:=ag bw;exact⟨b,b5,o,n b a8,λa3 cs aR a4 u ap=>ah _ _ a8 (ac a3 cs aR a4 u ap)⟩
variable{attr kind pos:Int}{args:List ND}{val:dP}
theorem dW.opened(h:dW Q w cs (.mk op kind val pos attr args)): ∃dg,cs=[C E op,C E kind,dg,C E val.kind,C JL val.bits,C E pos,C E attr]/\aX Q 7 (dW Q) w dg args/\NdW op kind pos attr val:=by
 cases h with
 |mk _ _ _ _ _ _ Y a9 cA bN aw bL a' ag aS=>exact Py
theorem dW.shut{dg:O}(h:aX Q 7 (dW Q) w dg args)(bN:NdW op kind pos attr val):dW Q w [C E op,C E kind,dg,C E val.kind,C JL val.bits,C E pos,C E attr] (.mk op kind val pos attr args):=by obtain⟨Y,a9,rfl,o,a8,ac⟩:=h;obtain⟨cA,a',ag,aS⟩:=wP ac;exact .mk op kind pos attr val args Y a9 cA bN o a8 a' ag λa3 bj aa aR ad=>(aS a3 bj aa aR ad).2
theorem iR:bZ dW:=λ_ _ _ _ _ _ h ah a1=>h.keep ah a1
def qg:L->List O->ND->Prop:=dW (λ_=>True)
theorem dW.weak(h:dW Q w cs x):qg w cs x:=h.keep (λ_ _ _ h=>h) λ_ _=>trivial
theorem qg.below(h:qg w cs x)(d:JK w.heap.size w w'):qg w' cs x:=dW.keep h (λaT u _ ai=>(d.cell (ay ai)).trans ai) λ_ h=>h
theorem qg.opened(h:qg w cs (.mk op kind val pos attr args)): ∃dg,cs=[C E op,C E kind,dg,C E val.kind,C JL val.bits,C E pos,C E attr]/\bU 7 qg w dg args/\NdW op kind pos attr val:=by obtain⟨dg,o,a8,bN⟩:=dW.opened h;exact⟨dg,o,a8.out λ_ _ h=>h,bN⟩
variable{l:List ND}
theorem iH(h:bU 7 qg w v l)(d:JK w.heap.size w w'):bU 7 qg w' v l:=h.keep (bW.of_below d) λ_ _ h=>h.below d
theorem vO(h:dW Q w cs x):∀u∈cs,u.oneCell'=true:=by obtain⟨e,j,q,bK,bF,b8⟩:=x;exact Qk
theorem fC(h:bU 7 (dW Q) w v l)(ad:l[i]? =J (.mk op kind val pos attr args)): ∃b off a9 Y k,v=G (J ⟨b,off,I⟩) l.length a9/\l.length<=a9/\a9<=maxLen/\w.cell? ⟨b,off+i*7,I⟩=J (C E op)/\w.cell? ⟨b,off+i*7+1,I⟩=J (C E kind)/\w.cell? ⟨b,off+i*7+2,I⟩=J (G Y args.length k)/\w.cell? ⟨b,off+i*7+3,I⟩=J (C E val.kind)/\w.cell? ⟨b,off+i*7+4,I⟩=J (C JL val.bits)/\w.cell? ⟨b,off+i*7+5,I⟩=J (C E pos)/\w.cell? ⟨b,off+i*7+6,I⟩=J (C E attr)/\dW Q w [C E op,C E kind,G Y args.length k,C E val.kind,C JL val.bits,C E pos,C E attr] (.mk op kind val pos attr args):=by obtain⟨b,off,a9,af,o,a8,aR,bj,a',aS,aw⟩:=h.get ad;obtain⟨dg,rfl,⟨Y,k,rfl,-⟩,bN⟩:=dW.opened aS;exact⟨b,off,a9,Y,k,af,o,a8,aw 0 _ D,aw 1 _ D,aw 2 _ D,aw 3 _ D,aw 4 _ D,aw 5 _ D,aw 6 _ D,aS⟩
def aH:ND->Nat
 | .mk _ _ _ _ _ args=>1+(args.map λa=>aH a).sum
theorem dn(op kind pos attr:Int)(val:dP)(args:List ND):aH (.mk op kind val pos attr args)=1+(args.map aH).sum:=by rw[aH.eq_def]
theorem oI(x:ND):0 < aH x:=by cases x;rw[dn];omega
theorem qR(f:ND->Nat)(h:l[i]? =J x):((l.take (i+1)).map f).sum=((l.take i).map f).sum+f x:=by have aR:=(KA.1 h).1;rw[ML aR,KX,LD];have a7:l[i]=x:=Xj;rw[a7];simp
theorem nO(f:ND->Nat)(l:List ND)(i:Nat):((l.take i).map f).sum<=(l.map f).sum:=by exact Qe
theorem qQ(f:ND->Nat)(h:l[i]? =J x):f x<=(l.map f).sum:=by have o:=qR f h;have a8:=nO f l (i+1);omega
theorem pG(l:List ND):l.length<=(l.map aH).sum:=by
 induction l with
 |nil=>simp
 |cons a l bf=>simp only[List.length_cons,List.map_cons,List.sum_cons];have:=oI a;omega
theorem jy(h:args[i]? =J x):aH x < aH (.mk op kind val pos attr args):=by rw[dn];have o:=qQ aH h;omega
theorem AY:args.length < aH (.mk op kind val pos attr args):=by rw[dn];have:=pG args;omega
theorem vN{p:ND->Prop}(h:∀(op kind:Int) (val:dP) (pos attr:Int) (args:List ND),(∀(i:Nat) (x:ND),args[i]? =J x->p x)->p (.mk op kind val pos attr args))(x:ND):p x:=by
 have e:∀bm x,aH x<=bm->p x:=by
  intro bm;induction bm with
  |zero=>intro x ad;have:=oI x;omega
  |succ bm bf=>intro x ad;obtain⟨op,kind,val,pos,attr,args⟩:=x;exact h op kind val pos attr args λi a2 ak=>bf a2 (by have:=jy (op:=op) (kind:=kind) (pos:=pos) (attr:=attr) (val:=val) ak;omega)
 exact e _ x c
def dM (Q:Nat->Prop) (w:L) (v:O) (l:List ND):Prop:=aX Q 7 (dW Q) w v l
theorem dM.keep(h:dM Q w v l)(ah:aF Q w w')(n:∀b,Q b->Q' b):dM Q' w' v l:=aX.keep h ah n λ_ _ h=>h.keep ah n
theorem dM.nil(Q:Nat->Prop)(w:L):dM Q w (G I 0 0) []:=aX.nil _ _ _
theorem dM.out(h:dM Q w v l):bU 7 qg w v l:=aX.out h λ_ _ h=>h.weak
theorem dM.slr(h:dM Q w v l):bU 7 (dW Q) w v l:=aX.out h λ_ _ h=>h
def jo (Q:Nat->Prop) (w:L) (cs:List O) (x:aO):Prop:=∃vg vc,cs=[C E x.form,C E x.ty,vg,vc]/\dM Q w vg x.guards/\dM Q w vc x.closes/\wfi x.form/\wfi x.ty
def BrQ (Q:Nat->Prop) (w:L) (cs:List O) (x:dB):Prop:=∃vp,cs=[C E x.id,C E x.win,vp]/\aX Q 4 (jo Q) w vp x.parts/\wfi x.id/\wfi x.win
theorem jo.keep{x:aO}(h:jo Q w cs x)(ah:aF Q w w')(n:∀b,Q b->Q' b):jo Q' w' cs x:=by obtain⟨cR,aY,o,a8,ac,b6⟩:=h;exact⟨cR,aY,o,a8.keep ah n,ac.keep ah n,b6⟩
theorem BrQ.keep{x:dB}(h:BrQ Q w cs x)(ah:aF Q w w')(n:∀b,Q b->Q' b):BrQ Q' w' cs x:=by obtain⟨dn,o,a8,ac⟩:=h;exact⟨dn,o,aX.keep a8 ah n λ_ _ h=>h.keep ah n,ac⟩
def qU (Q:Nat->Prop) (w:L) (cs:List O) (x:bD):Prop:=∃vk vb,cs=[C E x.strategy,vk,vb]/\aX Q 1 fF w vk x.keys/\aX Q 3 (BrQ Q) w vb x.branches/\wfi x.strategy
theorem qU.keep{x:bD}(h:qU Q w cs x)(ah:aF Q w w')(n:∀b,Q b->Q' b):qU Q' w' cs x:=by obtain⟨e1,cn,o,a8,ac,b6⟩:=h;exact⟨e1,cn,o,aX.keep a8 ah n λ_ _ h=>h,aX.keep ac ah n λ_ _ h=>h.keep ah n,b6⟩
def acC (w:L) (e:Ending) (w':L):Prop:=∃b,e=.returned (JM b)/\JK w.heap.size w w'
def acG (w:L) (e:Ending) (w':L):Prop:=∃b,e=.returned (JM b)/\w=w'
theorem vM(a9:Int)(w:L):Calls Tryz.prog 87 #[C .u8 a9] w (acG w):=by go_in;exact Ov
theorem tY(a9:Int)(w:L):Calls Tryz.prog 91 #[C .u8 a9] w (acG w):=by go_in;exact Ov
theorem abb(a9:Int)(w:L):Calls Tryz.prog 59 #[C .u8 a9] w (acG w):=by go_in;exact Ov
def Dw (w:L) (B:Nat) (A:Option Addr) (n:Nat):Prop:=∃b off,A=J ⟨b,off,I⟩/\B<=b/\∀i,i < n->∃s,w.cell? ⟨b,off+i,I⟩=J (H s)/\s.size<=24
theorem jD(w:L)(cs:Array O)(e:TypeId)(m:Nat×Nat)(h:cs.toList.all (λu=>match u with| H s=>decide (s.size<=24)|_=>false)=true)(n:Nat)(V:cs.size=n):Dw (w.alloc (.cells cs e m)) w.heap.size (J ⟨w.heap.size,0,I⟩) n:=by
 refine⟨w.heap.size,0,D,KD _,λa3 aR=>?_⟩;obtain⟨u,ap⟩:∃u,cs[a3]? =J u:=⟨_,Array.getElem?_eq_getElem N⟩;rw[LW] at h;have o:=h u (by rw[Array.mem_toList_iff];exact Array.mem_of_getElem? ap);cases u with
 |string s=>exact⟨s,by rw[cell_of_row _ _ _ _ _ _ (heap_alloc_new w _),Ls];exact ap,Zi⟩
 |_=>cases o
def acL (n:Nat) (w:L) (e:Ending) (w':L):Prop:=∃A c,e=.returned (G A n c)/\Dw w' w.heap.size A n/\n<=c/\c<=1000/\JK w.heap.size w w'
theorem acy(w:L):Calls Tryz.prog 104 #[] w (acL 25 w):=by
 go_in;go_wp2_with fail;go_ret;refine⟨_,_,D,?_,KD _,Z,?_⟩
 ·exact jD w _ _ _ D 25 D
 exact JY.alloc c _
theorem IE(s:ByteArray)(w:L):Calls Tryz.prog 89 #[H s] w (acC w):=by
 have e7:=A (acy w);go_in;go_wp2_with fail;refine e7.mono ?_;rintro a7 ce ⟨Y,a9,rfl,ag,d0,cR,cq⟩;have f:=A ag;have c6:=A cq;clear ag cq e7;go_wp2_with fail;go_loopw [7] (λa3 wr=>∃z:Nat,z<=25/\a3=C E z/\ce=wr) (λa3 _=>25-(intOf a3).toNat);case atStart=>exact⟨0,N,D,D⟩
 obtain⟨z,aS,rfl,rfl⟩:=hrel;by_cases bA:z < 25
 ·obtain⟨y,b5,rfl,-,aB⟩:=f.out;obtain⟨u,ap,-⟩:=aB z bA;have ct:(0:Int)<=(z:Int):=N;have c0:(z:Int) < 25:=N;clear aB;go_wp2_with fail
  ·go_ret;exact⟨_,D,c6.out⟩
  go_roundw;case rel=>first|exact⟨z+1,N,ZF,Yu⟩|((repeat apply KL);exact⟨⟨z+1,N,ZF,Yu⟩,D⟩)
  simp[intOf];omega
 have cr:(25:Int)<=(z:Int):=N;go_wp2_with fail;go_ret;exact⟨_,D,c6.out⟩
def agr (s:ByteArray) (w:L) (e:Ending) (w':L):Prop:=∃b,e=.returned (JM b)/\(b=true->1<=s.size/\s.size<=24)/\JK w.heap.size w w'
theorem name_any(s:ByteArray)(w:L)(ag:s.size<=4611686018427387904):Calls Tryz.prog 90 #[H s] w (agr s w):=by
 have e7:=A (λB=>IE s B);have dq:=A (λa9 B=>vM a9 B);have aQ:=A (λa9 B=>tY a9 B);go_in;by_cases o:s.size < 1
 ·have dS:(s.size:Int) < 1:=N;exact QT
 have dS:(1:Int)<=(s.size:Int):=N;by_cases a8:24 < s.size
 ·have dD:(24:Int) < (s.size:Int):=N;exact QT
 have dD:(s.size:Int)<=24:=N;have f:=A (show 1<=s.size/\s.size<=24 by omega);clear o a8;go_wp2_with fail;refine(dq _ _).mono ?_;rintro a7 aC ⟨ct,rfl,rfl⟩;cases ct with
 |false=>exact QT
 |true=>
  go_wp2_with fail;refine(e7 _).mono ?_;rintro a7 ce ⟨c0,rfl,cq⟩;have c6:=A cq;clear cq;cases c0 with
  |true=>go_wp2_with fail;go_ret;exact⟨_,D,λh=>ZC,c6.out⟩
  |false=>
   go_wp2_with fail;go_loopw [3] (λa3 wr=>∃z:Nat,z<=s.size/\a3=C E z/\ce=wr) (λa3 _=>s.size-(intOf a3).toNat);case atStart=>exact⟨0,Kw _,D,D⟩
   obtain⟨z,aS,rfl,rfl⟩:=hrel;by_cases bA:z < s.size
   ·have ct:(0:Int)<=(z:Int):=N;have c0:(z:Int) < (s.size:Int):=N;go_wp2_with fail;refine(dq _ _).mono ?_;rintro a7 b1 ⟨bv,rfl,rfl⟩;cases bv with
    |true=>exact PU
    |false=>
     go_wp2_with fail;refine(aQ _ _).mono ?_;rintro a7 b1 ⟨bo,rfl,rfl⟩;cases bo with
     |true=>exact PU
     |false=>
      go_wp2_with fail
      ·go_ret;exact⟨_,D,λh=>ZC,c6.out⟩
      skip;go_roundw;case rel=>first|exact⟨z+1,N,ZF,Yu⟩|((repeat apply KL);exact⟨⟨z+1,N,ZF,Yu⟩,D⟩)
      simp[intOf];omega
   have cr:(s.size:Int)<=(z:Int):=N;go_wp2_with fail;go_ret;exact⟨_,D,λ_=>f,c6.out⟩
variable{a:Int}
theorem ji:wfi a↔-9223372036854775808<=a/\a<=9223372036854775807:=by unfold wfi Lit.wf;simp[show IntKind.i64.min=-9223372036854775808 from D,show IntKind.i64.max=9223372036854775807 from D]
theorem eH:oU a↔0<=a/\a<=18446744073709551615:=by unfold oU Lit.wf;simp[show IntKind.u64.min=0 from D,show IntKind.u64.max=18446744073709551615 from D]
theorem aA(bw: -4611686018427387904<=a)(o:a<=4611686018427387904):wfi a:=ji.2 ⟨N,N⟩
theorem bP:wfi 0:=aA Z Z
theorem FQ{n:Nat}(h:n<=4611686018427387904):wfi (n:Int):=aA N N
theorem kR(n:Int):oU (IntKind.u64.wrap n):=eH.2 Zn
theorem wrap_in(bw: -9223372036854775808<=n)(o:n<=9223372036854775807):IntKind.i64.wrap n=n:=Zl
def agn (s:ByteArray) (a:Nat) (w:L) (e:Ending) (w':L):Prop:=∃n:Nat,e=.returned (C E n)/\a+n<=s.size/\w=w'
theorem Hf(s:ByteArray)(a:Nat)(b:Bool)(w:L)(aJ:a<=s.size)(ag:s.size<=4611686018427387904):Calls Tryz.prog 88 #[H s,C E a,JM b] w (agn s a w):=by
 have dq:=A (λa9 B=>vM a9 B);have aQ:=A (λa9 B=>tY a9 B);go_in;go_wp2_with fail;go_loopw [7] (λa3 wr=>∃z:Nat,a+z<=s.size/\a3=C E z/\w=wr) (λa3 _=>s.size-(intOf a3).toNat);case atStart=>exact⟨0,N,D,D⟩
 obtain⟨z,aS,rfl,rfl⟩:=hrel;have bN:IntKind.i64.wrap ((a:Int)+(z:Int))=((a+z:Nat):Int):=by rw[LP];omega
 by_cases bA:a+z < s.size
 ·have ct:(0:Int)<=((a+z:Nat):Int):=N;have c0:((a+z:Nat):Int) < (s.size:Int):=N;have cu:(0:Int)<=((a+z:Nat):Int):=N;go_wp2_with fail;refine(aQ _ _).mono ?_;rintro a7 aC ⟨ct,rfl,rfl⟩;cases ct with
  |true=>
   go_wp2_with fail;go_roundw;case rel=>exact⟨z+1,N,ZF,Yu⟩
   simp[intOf];omega
  |false=>
   cases b with
   |false=>go_wp2_with fail;go_ret;exact⟨z,D,aS,D⟩
   |true=>
    go_wp2_with fail;refine(dq _ _).mono ?_;rintro a7 aC ⟨ct,rfl,rfl⟩;cases ct with
    |true=>
     go_wp2_with fail;go_roundw;case rel=>exact⟨z+1,N,ZF,Yu⟩
     simp[intOf];omega
    |false=>
     go_wp2_with fail
     ·go_roundw;case rel=>exact⟨z+1,N,ZF,Yu⟩
      simp[intOf];omega
     go_ret;exact⟨z,D,aS,D⟩
 have cr:(s.size:Int)<=((a+z:Nat):Int):=N;go_wp2_with fail;go_ret;exact⟨z,D,aS,D⟩

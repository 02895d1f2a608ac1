import Derived.Test.YtcabmcfnjkeemaaGreatBM00
import Derived.Test.YtcabmcfnjkeemaaGreatB07
import Derived.Test.YtcabmcfnjkeemaaGreatRows
set_option maxRecDepth 100000
set_option maxHeartbeats 40000000
set_option linter.unusedVariables false
set_option linter.unusedSimpArgs false
namespace Go.Proofs.YtcabmcfnjkeemaaGreat
open Go.ChangeAt Go.ChangeShapes Go.Deep Go.RowKit Go.WideShapes
open Go renaming World->L,Value->O
open Go.IntKind renaming i64->E,u64->JL
open Go.Obj renaming cells->JO
open Go.RowKit renaming Hid->F,Below->JK
open Go.Value renaming int->C,slice->G,string->H,bool->JM
open Option renaming none->I,some->J
def afx (m:Int) (s:ByteArray):Prop:=0<=m/\m.toNat*10 ^ s.size<=18446744073709551616
variable{s:ByteArray}
theorem acY{m:Int}(h:afx m s)(aD:9 < m){t:ByteArray}(c7:t.size=s.size+1):afx (m / 10) t/\s.size<=19:=by
 obtain⟨o,a8⟩:=h;have bh:(m / 10).toNat*10<=m.toNat:=N;have ca:(m / 10).toNat*10 ^ (s.size+1)<=m.toNat*10 ^ s.size:=by rw[Nat.pow_succ,Nat.mul_comm (10 ^ s.size) 10,<-Nat.mul_assoc];exact Nat.mul_le_mul_right _ bh
 refine⟨⟨N,by rw[c7];omega⟩,?_⟩;rcases KT s.size 20 with h|h
 ·omega
 have bz:10 ^ 20<=10 ^ s.size:=Nat.pow_le_pow_right Z h;have c4:1*10 ^ 20<=m.toNat*10 ^ s.size:=Nat.mul_le_mul N bz;have de:=Ko c4 a8;exact absurd de Z
theorem abf(x:Int)(a9:Nat)(w:L):(convert 218 9 (G (J ⟨w.heap.size,0,I⟩) 1 a9)).run Tryz.prog (w.alloc (JO #[C .u8 x] 5))=.ok (H (strOfNums [x])) (w.alloc (JO #[C .u8 x] 5)):=by refine run_convert_bytes_arg _ _ _ Tryz.underlying218 Tryz.underlying5 _ 0 1 a9 [x] D (λa3 aR=>?_) _ Tryz.underlying9;have:a3=0:=N;subst this;exact cell_of_row _ _ _ _ _ _ (heap_alloc_new w _)
theorem sQ(x:Int)(s:ByteArray):(strOfNums [x]++s).size=s.size+1:=by rw[Ny];show 1+s.size=_;omega
def ag2 (w:L) (e:Ending) (w':L):Prop:=∃t:ByteArray,e=.returned (H t)/\t.size<=22/\JK w.heap.size w w'
theorem zn(n:Int)(w:L)(V:wfi n):Calls Tryz.prog 72 #[C E n] w (ag2 w):=by
 go_in;go_wp2_with fail;all_goals
  go_loopw [3,4] (λba bm wr=>∃(b9:ByteArray) (a0:Int),ba=H b9/\bm=C JL a0/\F (afx a0 b9/\b9.size<=20)/\(a0<=18446744073709551615/\0<=a0)/\F (JK w.heap.size w wr)) (λ_ bm _=>(intOf bm).toNat)
 case atStart|atStart=>refine⟨_,_,D,D,A ⟨⟨Zn,?_⟩,Z⟩,Zn,A JY⟩;show _*10 ^ 0<=_;rw[MZ];omega
 case round|round=>
  obtain⟨b9,a0,rfl,rfl,be,⟨aL,b0⟩,b7⟩:=hrel;have d8:=A (λaa a9 B=>abf aa a9 B);by_cases aD:9 < a0
  ·have f:=A (λ(aA:ByteArray) cv=>acY be.1 aD (t:=aA) cv);have ay:b9.size<=19:=(f (strOfNums [1]++b9) (sQ 1 b9)).2;have b3:(strOfNums [48+a0 % 10]).size=1:=D;have af:=d8.out (48+a0 % 10) 1 wr;have c6:=A (b7.alloc b7.size (JO #[C .u8 (48+a0 % 10)] 5));have b:=A (f (strOfNums [48+a0 % 10]++b9) (sQ _ b9)).1;have co:=A (show(strOfNums [48+a0 % 10]++b9).size<=20 by rw[sQ];omega);go_wp2_with fail;go_roundw;case rel=>
    first
    |exact⟨_,_,D,D,A ⟨b,co.out⟩,N,c6⟩
    |((repeat apply KL);exact⟨⟨_,_,D,D,A ⟨b,co.out⟩,N,c6⟩,D⟩)
   simp[intOf];omega
  have d:a0<=9:=N;have ay:b9.size<=20:=be.2;have b3:(strOfNums [48+a0]).size=1:=D;have af:=d8.out (48+a0) 1 wr;have c6:=A (b7.alloc b7.size (JO #[C .u8 (48+a0)] 5));go_wp2_with fail;go_ret;refine⟨_,D,?_,c6.out⟩;first
  |(rw[sQ];omega)
  |(rw[Ny,sQ];show 1+_<=_;omega)
def aen (w:L) (e:Ending) (w':L):Prop:=∃(n:Int) (b:Bool),e=.returned (.tuple #[C E n,JM b])/\wfi n/\JK w.heap.size w w'
theorem JE(s:ByteArray)(w:L)(ag:s.size<=4611686018427387904):Calls Tryz.prog 105 #[H s] w (aen w):=by
 have aQ:=A (λa9 B=>tY a9 B);have cB:=A (λM B h=>zn M B h);go_in;have j:(s.extract 1 s.size).size<=4611686018427387904:=by rw[NK];omega
 go_wp2_with fail;all_goals
  (try generalize s.extract 1 s.size=aI at*)
  (try(rename ((_:Int)== _)=true=>hz;clear hz))
  (try(rename ((_:Int)== _)=false=>hz;clear hz))
  go_loopw [5,6] (λM a3 wr=>∃(a0:Int) (z:Nat),M=C JL a0/\(0<=a0/\a0<=18446744073709551615)/\a3=C E z/\z<=4611686018427387904/\w=wr) (λ_ a3 _=>4611686018427387905-(intOf a3).toNat)
 case atStart|atStart|atStart=>exact⟨0,0,D,N,D,N,D⟩
 case round=>
  obtain⟨a0,z,rfl,⟨b0,aL⟩,rfl,aS,rfl⟩:=hrel;by_cases bA:z < aI.size
  ·have ct:(0:Int)<=(z:Int):=N;have c0:(z:Int) < (aI.size:Int):=N;go_wp2_with fail;refine(aQ _ _).mono ?_;rintro a7 aC ⟨ct,rfl,rfl⟩;cases ct with
   |false=>go_wp2_with fail;go_ret2;exact⟨_,_,D,aA Z Z,Ky _ _⟩
   |true=>exact Pg
  have cr:(aI.size:Int)<=(z:Int):=N;exact OG
 case round=>
  obtain⟨a0,z,rfl,⟨b0,aL⟩,rfl,aS,rfl⟩:=hrel;by_cases bA:z < s.size
  ·have ct:(0:Int)<=(z:Int):=N;have c0:(z:Int) < (s.size:Int):=N;go_wp2_with fail;refine(aQ _ _).mono ?_;rintro a7 aC ⟨ct,rfl,rfl⟩;cases ct with
   |false=>go_wp2_with fail;go_ret2;exact⟨_,_,D,aA Z Z,Ky _ _⟩
   |true=>exact Pg
  have cr:(s.size:Int)<=(z:Int):=N;exact OG
 obtain⟨a0,z,rfl,⟨b0,aL⟩,rfl,aS,rfl⟩:=hrel;have cr:(s.size:Int)<=(z:Int):=N;exact OG
variable{cs:Array O}{w:L}{g:Nat}{P:Program}{t:TypeId}
section
variable {fn:Func} {tmps:Array O} {s q r:Tmp} {ty:TypeId} {d:TypeDesc}
theorem au(h:fn.results=#[.cell s ty])(ai:tmps.getD s undef=.pointer (J ⟨g,0,I⟩))(ab:aj w g t cs)(ap:P.underlying ty=J d)(j:(match d with| .struct _| .array _ _=>true|_=>false)=true)(aR:(P.info? ty).map (·.size)=J cs.size): (results fn tmps).run P w=.ok (.agg cs) w:=by exact OX
theorem results_cell_tmp(h:fn.results=#[.cell s ty,.tmp q])(ai:tmps.getD s undef=.pointer (J ⟨g,0,I⟩))(ab:aj w g t cs)(ap:P.underlying ty=J d)(j:(match d with| .struct _| .array _ _=>true|_=>false)=true)(aR:(P.info? ty).map (·.size)=J cs.size): (results fn tmps).run P w=.ok (.tuple #[.agg cs,tmps.getD q undef]) w:=by exact OX
theorem dS(h:fn.results=#[.cell s ty,.tmp q,.tmp r])(ai:tmps.getD s undef=.pointer (J ⟨g,0,I⟩))(ab:aj w g t cs)(ap:P.underlying ty=J d)(j:(match d with| .struct _| .array _ _=>true|_=>false)=true)(aR:(P.info? ty).map (·.size)=J cs.size): (results fn tmps).run P w=.ok (.tuple #[.agg cs,tmps.getD q undef,tmps.getD r undef]) w:=by exact OX
end
structure aU (g:Nat) (W X:L):Prop where
 grown:W.grownBy X (J g)
 size:X.heap.size=W.heap.size
 below:∀(B:Nat) (w0:L),B<=g->JK B w0 W->JK B w0 X
 keep:∀(Q:Nat->Prop),(∀b,Q b->b≠g)->aF Q W X
 blk:∀(b:Nat) (t:TypeId) (cs:Array O),b≠g->aj W b t cs->aj X b t cs
 own:∀(B:Nat) (e:TypeId) (s:Nat) (v:O) (n:Nat) (xs:List O),v.ownBlock≠J g->W.ownsRow B e s v n xs->X.ownsRow B e s v n xs
theorem aU.refl(g:Nat)(W:L):aU g W W:=⟨Nj _ _,D,λ_ _ _ h=>h,λ_ _ _ _ _ h=>h,λ_ _ _ _ h=>h,λ_ _ _ _ _ _ _ h=>h⟩
theorem aU.one(W:L)(g i:Nat)(u:O):aU g W (W.setCell ⟨g,i,I⟩ u) where
 grown:=⟨D,D,D,XZ,λa0 _ ah=>La W ⟨g,i,I⟩ u a0 λa7=>ah ZG⟩
 size:=XZ
 below:=λb dq bW h=>h.setCell bW _
 keep:=λQ n=>aF.dN λy d=>n y d
 blk:=λy b9 bj bm h=>h.far (p:=⟨g,i,I⟩) bm u
 own:=λb a7 ba bc M ce bm h=>by
  refine⟨h.1,?_⟩
  rcases h.2 with o|⟨ag,r,k,af,bW,X,aS⟩
  ·exact .inl o
  refine .inr ⟨ag,r,k,af,bW,(La W ⟨g,i,I⟩ u ag (λa7=>?_)).trans X,aS⟩
  subst af
  exact bm (by simp[Value.ownBlock,a7])
variable{W X:L}
theorem aU.trans{V:L}(h:aU g W X)(k:aU g X V):aU g W V where
 grown:=h.grown.trans k.grown
 size:=k.size.trans h.size
 below:=λb dq bW d=>k.below b dq bW (h.below b dq bW d)
 keep:=λQ n=>(h.keep Q n).trans (k.keep Q n)
 blk:=λy b9 bj bm d=>k.blk y b9 bj bm (h.blk y b9 bj bm d)
 own:=λb a7 ba bc M ce bm d=>k.own b a7 ba bc M ce bm (h.own b a7 ba bc M ce bm d)
theorem aU.drew(h:aU g W X):aU g W X.drew where
 grown:=⟨h.grown.os,h.grown.tape,h.grown.output,h.grown.size,h.grown.block⟩
 size:=h.size
 below:=λb dq bW d=>(h.below b dq bW d).drew
 keep:=h.keep
 blk:=h.blk
 own:=h.own
def dA (g:Nat):Nat->List O->L->L
 |_,[],W=>W
 |i,u :: us,W=>dA g (i+1) us (W.setCell ⟨g,i,I⟩ u)
theorem kE:∀(ay b rest:List O) (W:L),aj W g t (b++rest).toArray->rest.length=ay.length->aj (dA g b.length ay W) g t (b++ay).toArray/\aU g W (dA g b.length ay W)
 | [],b,rest,W,h,a'=>by
  have:rest=[]:=MG a'
  subst this
  exact⟨h,aU.refl g W⟩
 |u :: ay,b,[],W,h,a'=>by simp at a'
 |u :: ay,b,z :: rest,W,h,a'=>by
  have o:=h.bJ b.length u
  rw[List.setIfInBounds_toArray,List.set_append_right _ _ c,Me,List.set_cons_zero] at o
  have a7:b++u :: rest=(b++[u])++rest:=ZH
  rw[a7] at o
  have a8:=kE ay (b++[u]) rest _ o YX
  rw[KC] at a8
  have bh:b++u :: ay=(b++[u])++ay:=ZH
  rw[bh]
  exact⟨a8.1,(aU.one W g b.length u).trans a8.2⟩
theorem set2(h:aj W g t cs)(ag:cs.size=2)(bJ bD:O): aj ((W.setCell ⟨g,0,I⟩ bJ).setCell ⟨g,1,I⟩ bD) g t #[bJ,bD]/\aU g W ((W.setCell ⟨g,0,I⟩ bJ).setCell ⟨g,1,I⟩ bD):=
 kE [bJ,bD] [] cs.toList W h Za
variable{a:Act}{R:Ending->L->Prop}{x:Exit}{b:Func}
theorem iJ{bJ bD:O}(h:aj W g t cs)(ag:cs.size=2)(aw:∀X,aj X g t #[bJ,bD]->aU g W X->bodyPost P b R x a X):bodyPost P b R x a ((W.setCell ⟨g,0,I⟩ bJ).setCell ⟨g,1,I⟩ bD):=
 aw _ (set2 h ag bJ bD).1 (set2 h ag bJ bD).2
theorem ab7(h:aj W g t cs)(ag:cs.size=3)(bJ bD bs:O): aj (((W.setCell ⟨g,0,I⟩ bJ).setCell ⟨g,1,I⟩ bD).setCell ⟨g,2,I⟩ bs) g t #[bJ,bD,bs]/\aU g W (((W.setCell ⟨g,0,I⟩ bJ).setCell ⟨g,1,I⟩ bD).setCell ⟨g,2,I⟩ bs):=
 kE [bJ,bD,bs] [] cs.toList W h Za
variable{bs:O}
theorem oK{bJ bD:O}(h:aj W g t cs)(ag:cs.size=3)(aw:∀X,aj X g t #[bJ,bD,bs]->aU g W X->bodyPost P b R x a X):bodyPost P b R x a (((W.setCell ⟨g,0,I⟩ bJ).setCell ⟨g,1,I⟩ bD).setCell ⟨g,2,I⟩ bs):=
 aw _ (ab7 h ag bJ bD bs).1 (ab7 h ag bJ bD bs).2
theorem agK(h:aj W g t cs)(ag:cs.size=4)(bJ bD bs e:O): aj ((((W.setCell ⟨g,0,I⟩ bJ).setCell ⟨g,1,I⟩ bD).setCell ⟨g,2,I⟩ bs).setCell ⟨g,3,I⟩ e) g t #[bJ,bD,bs,e]/\aU g W ((((W.setCell ⟨g,0,I⟩ bJ).setCell ⟨g,1,I⟩ bD).setCell ⟨g,2,I⟩ bs).setCell ⟨g,3,I⟩ e):=
 kE [bJ,bD,bs,e] [] cs.toList W h Za
variable{e:O}
theorem afs{bJ bD:O}(h:aj W g t cs)(ag:cs.size=4)(aw:∀X,aj X g t #[bJ,bD,bs,e]->aU g W X->bodyPost P b R x a X):bodyPost P b R x a ((((W.setCell ⟨g,0,I⟩ bJ).setCell ⟨g,1,I⟩ bD).setCell ⟨g,2,I⟩ bs).setCell ⟨g,3,I⟩ e):=
 aw _ (agK h ag bJ bD bs e).1 (agK h ag bJ bD bs e).2
theorem adY(h:aj W g t cs)(ag:cs.size=5)(bJ bD bs e i:O): aj (((((W.setCell ⟨g,0,I⟩ bJ).setCell ⟨g,1,I⟩ bD).setCell ⟨g,2,I⟩ bs).setCell ⟨g,3,I⟩ e).setCell ⟨g,4,I⟩ i) g t #[bJ,bD,bs,e,i]/\aU g W (((((W.setCell ⟨g,0,I⟩ bJ).setCell ⟨g,1,I⟩ bD).setCell ⟨g,2,I⟩ bs).setCell ⟨g,3,I⟩ e).setCell ⟨g,4,I⟩ i):=
 kE [bJ,bD,bs,e,i] [] cs.toList W h Za
variable{i:O}
theorem pJ{bJ bD:O}(h:aj W g t cs)(ag:cs.size=5)(aw:∀X,aj X g t #[bJ,bD,bs,e,i]->aU g W X->bodyPost P b R x a X):bodyPost P b R x a (((((W.setCell ⟨g,0,I⟩ bJ).setCell ⟨g,1,I⟩ bD).setCell ⟨g,2,I⟩ bs).setCell ⟨g,3,I⟩ e).setCell ⟨g,4,I⟩ i):=
 aw _ (adY h ag bJ bD bs e i).1 (adY h ag bJ bD bs e i).2
theorem afS{bJ bD:O}(h:aj W g t cs)(ag:cs.size=5)(aw:∀X,aj X g t #[bJ,bD,bs,e,i]->aU g W X->bodyPost P b R x a X):bodyPost P b R x a (((((W.setCell ⟨g,0,I⟩ bJ).setCell ⟨g,1,I⟩ bD).setCell ⟨g,2,I⟩ bs).setCell ⟨g,3,I⟩ e).setCell ⟨g,4,I⟩ i).drew:=
 aw _ (adY h ag bJ bD bs e i).1.drew (adY h ag bJ bD bs e i).2.drew
theorem adZ(h:aj W g t cs)(ag:cs.size=6)(bJ bD bs e i n:O): aj ((((((W.setCell ⟨g,0,I⟩ bJ).setCell ⟨g,1,I⟩ bD).setCell ⟨g,2,I⟩ bs).setCell ⟨g,3,I⟩ e).setCell ⟨g,4,I⟩ i).setCell ⟨g,5,I⟩ n) g t #[bJ,bD,bs,e,i,n]/\aU g W ((((((W.setCell ⟨g,0,I⟩ bJ).setCell ⟨g,1,I⟩ bD).setCell ⟨g,2,I⟩ bs).setCell ⟨g,3,I⟩ e).setCell ⟨g,4,I⟩ i).setCell ⟨g,5,I⟩ n):=
 kE [bJ,bD,bs,e,i,n] [] cs.toList W h Za
variable{n:O}
theorem Ib{bJ bD:O}(h:aj W g t cs)(ag:cs.size=6)(aw:∀X,aj X g t #[bJ,bD,bs,e,i,n]->aU g W X->bodyPost P b R x a X):bodyPost P b R x a ((((((W.setCell ⟨g,0,I⟩ bJ).setCell ⟨g,1,I⟩ bD).setCell ⟨g,2,I⟩ bs).setCell ⟨g,3,I⟩ e).setCell ⟨g,4,I⟩ i).setCell ⟨g,5,I⟩ n):=
 aw _ (adZ h ag bJ bD bs e i n).1 (adZ h ag bJ bD bs e i n).2
theorem afT{bJ bD:O}(h:aj W g t cs)(ag:cs.size=6)(aw:∀X,aj X g t #[bJ,bD,bs,e,i,n]->aU g W X->bodyPost P b R x a X):bodyPost P b R x a ((((((W.setCell ⟨g,0,I⟩ bJ).setCell ⟨g,1,I⟩ bD).setCell ⟨g,2,I⟩ bs).setCell ⟨g,3,I⟩ e).setCell ⟨g,4,I⟩ i).setCell ⟨g,5,I⟩ n).drew:=
 aw _ (adZ h ag bJ bD bs e i n).1.drew (adZ h ag bJ bD bs e i n).2.drew
theorem jQ(h:aj W g t cs)(ag:cs.size=7)(bJ bD bs e i n k:O): aj (((((((W.setCell ⟨g,0,I⟩ bJ).setCell ⟨g,1,I⟩ bD).setCell ⟨g,2,I⟩ bs).setCell ⟨g,3,I⟩ e).setCell ⟨g,4,I⟩ i).setCell ⟨g,5,I⟩ n).setCell ⟨g,6,I⟩ k) g t #[bJ,bD,bs,e,i,n,k]/\aU g W (((((((W.setCell ⟨g,0,I⟩ bJ).setCell ⟨g,1,I⟩ bD).setCell ⟨g,2,I⟩ bs).setCell ⟨g,3,I⟩ e).setCell ⟨g,4,I⟩ i).setCell ⟨g,5,I⟩ n).setCell ⟨g,6,I⟩ k):=
 kE [bJ,bD,bs,e,i,n,k] [] cs.toList W h Za
variable{k:O}
theorem post7{bJ bD:O}(h:aj W g t cs)(ag:cs.size=7)(aw:∀X,aj X g t #[bJ,bD,bs,e,i,n,k]->aU g W X->bodyPost P b R x a X):bodyPost P b R x a (((((((W.setCell ⟨g,0,I⟩ bJ).setCell ⟨g,1,I⟩ bD).setCell ⟨g,2,I⟩ bs).setCell ⟨g,3,I⟩ e).setCell ⟨g,4,I⟩ i).setCell ⟨g,5,I⟩ n).setCell ⟨g,6,I⟩ k):=
 aw _ (jQ h ag bJ bD bs e i n k).1 (jQ h ag bJ bD bs e i n k).2
theorem adK{bJ bD:O}(h:aj W g t cs)(ag:cs.size=7)(aw:∀X,aj X g t #[bJ,bD,bs,e,i,n,k]->aU g W X->bodyPost P b R x a X):bodyPost P b R x a (((((((W.setCell ⟨g,0,I⟩ bJ).setCell ⟨g,1,I⟩ bD).setCell ⟨g,2,I⟩ bs).setCell ⟨g,3,I⟩ e).setCell ⟨g,4,I⟩ i).setCell ⟨g,5,I⟩ n).setCell ⟨g,6,I⟩ k).drew:=
 aw _ (jQ h ag bJ bD bs e i n k).1.drew (jQ h ag bJ bD bs e i n k).2.drew
theorem BM(h:aj W g t cs)(ag:cs.size=8)(bJ bD bs e i n k l:O): aj ((((((((W.setCell ⟨g,0,I⟩ bJ).setCell ⟨g,1,I⟩ bD).setCell ⟨g,2,I⟩ bs).setCell ⟨g,3,I⟩ e).setCell ⟨g,4,I⟩ i).setCell ⟨g,5,I⟩ n).setCell ⟨g,6,I⟩ k).setCell ⟨g,7,I⟩ l) g t #[bJ,bD,bs,e,i,n,k,l]/\aU g W ((((((((W.setCell ⟨g,0,I⟩ bJ).setCell ⟨g,1,I⟩ bD).setCell ⟨g,2,I⟩ bs).setCell ⟨g,3,I⟩ e).setCell ⟨g,4,I⟩ i).setCell ⟨g,5,I⟩ n).setCell ⟨g,6,I⟩ k).setCell ⟨g,7,I⟩ l):=
 kE [bJ,bD,bs,e,i,n,k,l] [] cs.toList W h Za
theorem agJ{bJ bD l:O}(h:aj W g t cs)(ag:cs.size=8)(aw:∀X,aj X g t #[bJ,bD,bs,e,i,n,k,l]->aU g W X->bodyPost P b R x a X):bodyPost P b R x a ((((((((W.setCell ⟨g,0,I⟩ bJ).setCell ⟨g,1,I⟩ bD).setCell ⟨g,2,I⟩ bs).setCell ⟨g,3,I⟩ e).setCell ⟨g,4,I⟩ i).setCell ⟨g,5,I⟩ n).setCell ⟨g,6,I⟩ k).setCell ⟨g,7,I⟩ l):=
 aw _ (BM h ag bJ bD bs e i n k l).1 (BM h ag bJ bD bs e i n k l).2
structure dI where
 kind:Int
 text:ByteArray
 n:Int
 scale:Int
 at_:Int
def IY (x:dI):Prop:=wfi x.kind/\x.text.size<=4000/\wfi x.n/\wfi x.scale/\wfi x.at_
def tokA (x:dI):Array O:=#[C E x.kind,H x.text,C E x.n,C E x.scale,C E x.at_]
def acJ (s:ByteArray) (a:Nat) (w:L) (e:Ending) (w':L):Prop:=∃(x:dI) (m:Nat),e=.returned (.tuple #[.agg (tokA x),C E m])/\IY x/\a+m<=s.size/\(0 < m->1<=x.kind/\x.kind<=6)/\JK w.heap.size w w'
theorem Fb(s:ByteArray)(r j:Nat)(h:j < s.size):(bytesRow s r)[j]? =J (C .u8 (s[j].toNat:Int)):=by unfold bytesRow;have o:j < (s.data.map (λy=>Value.int .u8 (y.toNat:Int))).size:=Zh;rw[Array.getElem?_append_left o];rw[Array.getElem?_map,Array.getElem?_eq_getElem Zh];rfl
theorem Io(s:ByteArray)(a:Nat)(w:L)(aJ:a < s.size)(ag:s.size<=4000):Calls Tryz.prog 92 #[H s,C E a] w (acJ s a w):=by
 have bS:=A (λa B h=>Hf s a false B h N);have aX:=A (λb9 B h=>JE b9 B h);have d:=aj.new w 123 #[C E 0,H ⟨#[]⟩,C E 0,C E 0,C E 0];have aH:JK w.heap.size w (w.alloc (JO #[C E 0,H ⟨#[]⟩,C E 0,C E 0,C E 0] 123)):=JY.alloc c _;go_in;go_upto_region 1 with fail;obtain⟨an,bk⟩:∃an,an=w.alloc (JO #[C E 0,H ⟨#[]⟩,C E 0,C E 0,C E 0] 123):=⟨_,D⟩;rw[<-bk] at d aH⊢;clear bk;have b7:=A d;have cy:=A aH;have a5:=d.frozen 0;have a6:=d.frozen 1;have aq:=d.frozen 2;have aZ:=d.frozen 3;have aO:=d.frozen 4;obtain⟨al,am,ax,aW,T⟩:=jO d;clear d aH;go_wp2_with fail;refine(bS a _ N).mono ?_;rintro a7 ce ⟨M,rfl,V,rfl⟩;have ct:(a:Int)+(M:Int)<=(s.size:Int):=N;have c0:(s.size:Int)<=4000:=N;have cu:(0:Int)<=(a:Int):=N;have e1:(0:Int)<=(M:Int):=N;go_upto_region 4 with fail;have j:(s.extract a (a+M)).size=M:=by rw[NK];omega
 generalize s.extract a (a+M)=aI at*;go_cut [36] (λbc bn=>∃y,bc=JM y/\F (y=true->a+M < s.size)/\an=bn);case first=>
  by_cases bv:a+M < s.size
  ·have bo:(a:Int)+(M:Int) < (s.size:Int):=N;go_wp2_with fail;go_meet;exact⟨_,D,A (λ_=>bv),D⟩
  have bo:(s.size:Int)<=(a:Int)+(M:Int):=N;go_wp2_with fail;go_meet;exact⟨_,D,A (λh=>ZC),D⟩
 obtain⟨y,rfl,dl,rfl⟩:=hcut;go_upto_if 36 with fail;go_cut [8] (λbc bn=>∃bm:Nat,bc=C E bm/\F (bm=0\/a+M+1+bm<=s.size)/\an=bn);case first=>
  cases y with
  |false=>go_wp2_with fail;go_meet;exact⟨0,D,A (.inl rfl),D⟩
  |true=>have bv:=dl.out D;go_wp2_with fail;refine(bS (a+M+1) _ N).mono ?_;rintro a7 ce ⟨bm,rfl,bL,rfl⟩;go_wp2_with fail;go_meet;exact⟨bm,D,A (.inr bL),D⟩
 obtain⟨bm,rfl,bH,rfl⟩:=hcut;have b':(0:Int)<=(bm:Int):=N;have bZ:(bm:Int)<=4000:=by have:=bH.out;omega
 go_upto_region 6 with fail;go_cut [67] (λbc bn=>∃y,bc=JM y/\an=bn);case first=>
  by_cases bL:bm=0;all_goals
   first
   |(have co:((bm:Int)== 0)=true:=by simp[bL]
     have bI:(bm:Int)<=0:=N
     clear bL
     by_cases bv:1 < M
     ·
      have bo:(1:Int) < (M:Int):=N
      have c5:0 < aI.size:=N
      exact Qs
     have bo:(M:Int)<=1:=N
     go_wp2_with fail
     all_goals(go_meet;exact⟨_,D,D⟩))
   |(have co:((bm:Int)== 0)=false:=by simp[bL]
     have bI:(0:Int) < (bm:Int):=N
     clear bL
     by_cases bv:1 < M
     ·
      have bo:(1:Int) < (M:Int):=N
      have c5:0 < aI.size:=N
      exact Qs
     have bo:(M:Int)<=1:=N
     go_wp2_with fail
     all_goals(go_meet;exact⟨_,D,D⟩))
 obtain⟨aN,rfl,rfl⟩:=hcut;have b:∀X,aU w.heap.size an X->F (acJ s a w (.returned (.tuple #[.agg #[C E 0,H ⟨#[]⟩,C E 0,C E 0,C E 0],C E 0])) X):=λX az=>A ⟨⟨0,⟨#[]⟩,0,0,0⟩,0,D,⟨bP,Z,bP,bP,bP⟩,N,λh=>absurd h Z,az.below _ _ c cy.out⟩;cases aN with
 |true=>go_wp2_with fail;refine pJ b7 D λX az aE=>?_;refine Ue ?_;exact(b X aE).out
 |false=>
  by_cases bL:bm=0
  ·have co:((bm:Int)== 0)=true:=by simp[bL]
   clear bL;go_wp2_with fail;refine(aX aI _ N).mono ?_;rintro a7 b1 ⟨a2,c8,rfl,ak,c9⟩;have bV:=A ak;have cj:=A (b7.below c9 (aj.lt b7));have x:=A (cy.trans (c9.mono cy.size));clear ak c9;obtain⟨al,am,ax,aW,T⟩:=jO cj;have a5:=cj.frozen 0;have a6:=cj.frozen 1;have aq:=cj.frozen 2;have aZ:=cj.frozen 3;have aO:=cj.frozen 4;cases c8 with
   |false=>go_wp2_with fail;refine pJ cj D λX az aE=>?_;refine Ue ?_;exact⟨⟨0,⟨#[]⟩,0,0,0⟩,0,D,⟨bP,Z,bP,bP,bP⟩,N,λh=>absurd h Z,aE.below _ _ c x.out⟩
   |true=>go_wp2_with fail;refine pJ cj D λX az aE=>?_;refine Ue ?_;exact⟨⟨3,⟨#[]⟩,a2,0,0⟩,M,D,⟨aA (a:=3) Z Z,Kw _,bV,bP,bP⟩,V,λh=>⟨show(1:Int)<=3 by decide,show(3:Int)<=6 by decide⟩,aE.below _ _ c x.out⟩
  have co:((bm:Int)== 0)=false:=by simp[bL]
  have dy:=A (show a+M+1+bm<=s.size by have:=bH.out;omega);clear bL;have dS:(a:Int)+(M:Int)+1+(bm:Int)<=(s.size:Int):=by have:=dy.out;omega
  obtain⟨b9,c7⟩:∃b9,aI++s.extract (a+M+1) (a+M+1+bm)=b9:=⟨_,D⟩;have d8:F (b9.size<=4000):=A (by rw[<-c7,Ny,NK];omega);have e:=run_bytes_of_string (P:=Tryz.prog) an 9 218 5 b9 Tryz.underlying9 Tryz.underlying218 Tryz.underlying5;go_upto_region 15 with fail;clear e c7;obtain⟨df,a0⟩:∃df,df=(an.alloc (.cells (bytesRow b9 (grownCap an b9.size 0 5)) 5 ((bytesRow b9 (grownCap an b9.size 0 5)).size,(bytesRow b9 (grownCap an b9.size 0 5)).size+1))).drew:=⟨_,D⟩;have c6:=A (show aj df w.heap.size 123 #[C E 0,H ⟨#[]⟩,C E 0,C E 0,C E 0] by rw[a0];exact(b7.alloc _).drew);have k:=A (show JK w.heap.size w df by rw[a0];exact(cy.alloc cy.size _).drew);have eo:=A (show ∀a4,a4 < b9.size->∃a9,df.cell? ⟨an.heap.size,a4,I⟩=J (C .u8 a9) by intro a4 bK;rw[a0];exact⟨_,(cell_of_row (an.alloc _) _ _ _ _ _ (heap_alloc_new an _)).trans (Fb b9 _ a4 bK)⟩);rw[<-a0];clear a0 al am ax aW T a5 a6 aq aZ aO;have cU:b9.size<=grownCap an b9.size 0 5:=grownCap_ge _ _ _ _;generalize grownCap an b9.size 0 5=aQ at*;have ba:=A cU;clear cU;go_loopw [11,98] (λaa a3 wr=>∃(a2:Int) (z:Nat),aa=C E a2/\wfi a2/\a3=C E z/\z<=b9.size/\df=wr) (λ_ a3 _=>b9.size-(intOf a3).toNat);case atStart=>exact⟨0,0,D,bP,D,Kw _,D⟩
  obtain⟨a2,z,rfl,ak,rfl,aS,rfl⟩:=hrel;have bV:=A ak;clear ak;by_cases bA:z < b9.size
  ·obtain⟨a9,aw⟩:=eo.out z bA;have b3:(0:Int)<=(z:Int):=N;have bh:(z:Int) < (b9.size:Int):=N;have ca:(z:Int)<=4000:=Yj;go_wp2_with fail;go_roundw;case rel=>exact⟨_,z+1,D,MC _,ZF,N,Yu⟩
   simp[intOf];omega
  have cr:(b9.size:Int)<=(z:Int):=N;obtain⟨al,am,ax,aW,T⟩:=jO c6;have a5:=c6.frozen 0;have a6:=c6.frozen 1;have aq:=c6.frozen 2;have aZ:=c6.frozen 3;have aO:=c6.frozen 4;go_wp2_with fail;refine pJ c6 D λX az aE=>?_;refine Ue ?_;exact⟨⟨4,⟨#[]⟩,a2,bm,0⟩,M+1+bm,ZF,⟨aA (a:=4) Z Z,Kw _,bV,aA (by have:=b';show _<=(bm:Int);omega) (by show(bm:Int)<=_;omega),bP⟩,by have:=dy.out;omega,λh=>⟨show(1:Int)<=4 by decide,show(4:Int)<=6 by decide⟩,aE.below _ _ c k.out⟩
theorem tC{a:Nat}(aJ:a<=s.size)(h:JK w.heap.size w X):acJ s a w (.returned (.tuple #[.agg #[C E 0,H ⟨#[]⟩,C E 0,C E 0,C E 0],C E 0])) X:=
 ⟨⟨0,⟨#[]⟩,0,0,0⟩,0,D,⟨bP,Z,bP,bP,bP⟩,aJ,λh=>absurd h Z,h⟩
theorem xI{t:ByteArray}{a m:Nat}{k:Int}(ah:1<=k/\k<=6)(c7:t.size<=4000)(aJ:a+m<=s.size)(h:JK w.heap.size w X):acJ s a w (.returned (.tuple #[.agg #[C E k,H t,C E 0,C E 0,C E 0],C E m])) X:=
 ⟨⟨k,t,0,0,0⟩,m,D,⟨aA (by show _<=k;omega) (by show k<=_;omega),c7,bP,bP,bP⟩,aJ,λ_=>ah,h⟩
theorem one_any(s:ByteArray)(a:Nat)(w:L)(aJ:a < s.size)(ag:s.size<=4000):Calls Tryz.prog 60 #[H s,C E a] w (acJ s a w):=by
 have bS:=A (λa B h=>Hf s a true B h N);have e7:=A (λb9 B=>IE b9 B);have aX:=A (λb9 B h=>name_any b9 B h);have dq:=A (λa9 B=>vM a9 B);have aQ:=A (λa9 B=>tY a9 B);have cB:=A (λB=>Io s a B aJ ag);have d:=aj.new w 123 #[C E 0,H ⟨#[]⟩,C E 0,C E 0,C E 0];have aH:JK w.heap.size w (w.alloc (JO #[C E 0,H ⟨#[]⟩,C E 0,C E 0,C E 0] 123)):=JY.alloc c _;go_in;go_upto_region 1 with fail;obtain⟨an,bk⟩:∃an,an=w.alloc (JO #[C E 0,H ⟨#[]⟩,C E 0,C E 0,C E 0] 123):=⟨_,D⟩;rw[<-bk] at d aH⊢;clear bk;have b7:=A d;have cy:=A aH;clear d aH;have cu:(0:Int)<=(a:Int):=N;have ct:(a:Int) < (s.size:Int):=N;have c0:(s.size:Int)<=4000:=N;have du:=A aJ;have dA:=A ag;go_upto_region 2 with fail;generalize ((s[a].toNat:Nat):Int)=a9 at*;go_wp2_with fail;refine(dq a9 _).mono ?_;rintro a7 ce ⟨cX,rfl,rfl⟩;cases cX with
 |true=>
  go_wp2_with fail;refine(bS a _ (KI du)).mono ?_;rintro a7 ce ⟨M,rfl,V,rfl⟩;have e1:(a:Int)+(M:Int)<=(s.size:Int):=N;have bE:(0:Int)<=(M:Int):=N;go_upto_region 5 with fail;have d8:F ((s.extract a (a+M)).size<=4000):=A (by rw[NK];have:=dA.out;omega);generalize s.extract a (a+M)=aI at*;have cw:=A V;clear V;go_wp2_with fail;refine(e7 aI _).mono ?_;rintro a7 ce ⟨aN,rfl,cq⟩;have c6:=A (b7.below cq (aj.lt b7));have k:=A (cy.trans (cq.mono cy.size));clear cq;cases aN with
  |true=>obtain⟨al,am,ax,aW,T⟩:=jO c6;have a5:=c6.frozen 0;have a6:=c6.frozen 1;have aq:=c6.frozen 2;have aZ:=c6.frozen 3;have aO:=c6.frozen 4;go_wp2_with fail;refine pJ c6 D λX az aE=>?_;refine Ue ?_;exact xI Z d8 cw (aE.below _ _ c k)
  |false=>
   go_wp2_with fail;refine(aX aI _ Yj).mono ?_;rintro a7 b1 ⟨c2,rfl,-,c9⟩;have cj:=A (c6.below c9 (aj.lt c6));have x:=A (k.trans (c9.mono k.size));clear c9;obtain⟨al,am,ax,aW,T⟩:=jO cj;have a5:=cj.frozen 0;have a6:=cj.frozen 1;have aq:=cj.frozen 2;have aZ:=cj.frozen 3;have aO:=cj.frozen 4;cases c2 with
   |true=>go_wp2_with fail;refine pJ cj D λX az aE=>?_;refine Ue ?_;exact xI Z d8 cw (aE.below _ _ c x)
   |false=>exact Ph
 |false=>
  go_wp2_with fail;refine(aQ a9 _).mono ?_;rintro a7 ce ⟨cA,rfl,rfl⟩;cases cA with
  |true=>go_wp2_with fail;refine(cB _).mono ?_;rintro a7 ce ⟨aa,bm,rfl,ad,bL,ah,cq⟩;have c6:=A (b7.below cq (aj.lt b7));have k:=A (cy.trans (cq.mono cy.size));have q:=A (Kt ad (Kt bL ah));clear cq ad bL ah;obtain⟨al,am,ax,aW,T⟩:=jO c6;have a5:=c6.frozen 0;have a6:=c6.frozen 1;have aq:=c6.frozen 2;have aZ:=c6.frozen 3;have aO:=c6.frozen 4;unfold tokA;go_wp2_with fail;refine pJ c6 D λX az aE=>?_;refine Ue ?_;exact⟨aa,bm,D,q.1,q.2.1,q.2.2,aE.below _ _ c k.out⟩
  |false=>
   rcases co:(a9== 39) with _|_
   ·have cq:=jD an #[H ⟨#[33,61]⟩,H ⟨#[60,61]⟩,H ⟨#[62,61]⟩,H ⟨#[40]⟩,H ⟨#[41]⟩,H ⟨#[44]⟩,H ⟨#[46]⟩,H ⟨#[43]⟩,H ⟨#[45]⟩,H ⟨#[42]⟩,H ⟨#[47]⟩,H ⟨#[37]⟩,H ⟨#[61]⟩,H ⟨#[60]⟩,H ⟨#[62]⟩,H ⟨#[33]⟩,H ⟨#[124]⟩] 9 (0,0) D 17 D;go_upto_region 19 with fail;obtain⟨df,a0⟩:∃df,df=an.alloc (JO #[H ⟨#[33,61]⟩,H ⟨#[60,61]⟩,H ⟨#[62,61]⟩,H ⟨#[40]⟩,H ⟨#[41]⟩,H ⟨#[44]⟩,H ⟨#[46]⟩,H ⟨#[43]⟩,H ⟨#[45]⟩,H ⟨#[42]⟩,H ⟨#[47]⟩,H ⟨#[37]⟩,H ⟨#[61]⟩,H ⟨#[60]⟩,H ⟨#[62]⟩,H ⟨#[33]⟩,H ⟨#[124]⟩] 9):=⟨_,D⟩;have f:=A (show Dw df an.heap.size (J ⟨an.heap.size,0,I⟩) 17 by rw[a0];exact cq);have c6:=A (show aj df w.heap.size 123 #[C E 0,H ⟨#[]⟩,C E 0,C E 0,C E 0] by rw[a0];exact b7.alloc _);have k:=A (show JK w.heap.size w df by rw[a0];exact cy.alloc cy.size _);rw[<-a0];clear a0 cq;generalize an.heap.size=ae at*;obtain⟨al,am,ax,aW,T⟩:=jO c6;have a5:=c6.frozen 0;have a6:=c6.frozen 1;have aq:=c6.frozen 2;have aZ:=c6.frozen 3;have aO:=c6.frozen 4;go_loopw [87] (λa3 wr=>∃z:Nat,a3=C E z/\z<=17/\df=wr) (λa3 _=>17-(intOf a3).toNat);case atStart=>exact⟨0,D,Kw _,D⟩
    obtain⟨z,rfl,aS,rfl⟩:=hrel;by_cases bA:z < 17
    ·obtain⟨y,b5,cE,-,aB⟩:=f.out;injection cE with cE;injection cE with o a8;subst o a8;obtain⟨u,ap,aG⟩:=aB z bA;have dv:=A aG;clear aB aG;have ct:(0:Int)<=(z:Int):=N;have c0:(z:Int) < 17:=N;have b3:(u.size:Int)<=24:=by have:=dv.out;omega
     have bh:(0:Int)<=(u.size:Int):=N;rw[Ls] at ap;by_cases i:a+u.size<=s.size
     ·have ca:(a:Int)+(u.size:Int)<=(s.size:Int):=N;have bT:=A i;go_wp2_with fail
      ·refine pJ c6 D λX az aE=>?_;refine Ue ?_;exact xI Z (by have:=dv.out;omega) bT (aE.below _ _ c k)
      go_roundw;case rel=>
       first
       |exact⟨z+1,ZF,N,Yu⟩
       |((repeat apply KL);exact⟨⟨z+1,ZF,N,Yu⟩,D⟩)
      simp[intOf];omega
     have ca:(s.size:Int) < (a:Int)+(u.size:Int):=N;go_wp2_with fail;go_roundw;case rel=>
      first
      |exact⟨z+1,ZF,N,Yu⟩
      |((repeat apply KL);exact⟨⟨z+1,ZF,N,Yu⟩,D⟩)
     simp[intOf];omega
    have cr:(17:Int)<=(z:Int):=N;go_wp2_with fail;refine pJ c6 D λX az aE=>?_;refine Ue ?_;exact tC (KI du) (aE.below _ _ c k)
   go_wp2_with fail;refine(bS (a+1) _ (by have:=du.out;omega)).mono ?_;rintro a7 ce ⟨M,rfl,V,rfl⟩;have e1:(a:Int)+1+(M:Int)<=(s.size:Int):=N;have bE:(0:Int)<=(M:Int):=N;have cw:=A V;clear V;go_upto_region 15 with fail;have d8:F ((s.extract (a+1) (a+1+M)).size<=4000):=A (by rw[NK];have:=dA.out;omega);generalize s.extract (a+1) (a+1+M)=aI at*;go_wp2_with fail;refine(aX aI _ Yj).mono ?_;rintro a7 b1 ⟨c2,rfl,-,c9⟩;have cj:=A (b7.below c9 (aj.lt b7));have x:=A (cy.trans (c9.mono cy.size));clear c9;obtain⟨al,am,ax,aW,T⟩:=jO cj;have a5:=cj.frozen 0;have a6:=cj.frozen 1;have aq:=cj.frozen 2;have aZ:=cj.frozen 3;have aO:=cj.frozen 4;cases c2 with
   |false=>exact Ph
   |true=>
    by_cases cL:a+1+M < s.size
    ·have bI:(a:Int)+1+(M:Int) < (s.size:Int):=N;have b:=A cL;go_wp2_with fail;all_goals
      (refine pJ cj D λX az aE=>?_
       refine Ue ?_
       first
       |exact tC (KI du) (aE.below _ _ c x)
       |exact xI (m:=M+2) Z d8 (by have:=b.out;omega) (aE.below _ _ c x))
    have bI:(s.size:Int)<=(a:Int)+1+(M:Int):=N;exact Ph
namespace Wide
theorem weightsAll_mem{ae:Type}{e:TypeId}:∀{l:List (DataW ae)} {aI:DataW ae},aI∈l->∀n∈aI.weights P e,n∈DataW.weightsAll P e l
 |d' :: z,aI,j,n,V=>by
  simp only[DataW.weightsAll,List.mem_append]
  rcases Nh.1 j with rfl|h
  ·exact KH V
  exact Lm (weightsAll_mem h n V)
section
variable {H:Type} (enc:TypeId×O->H) (P:Program) (w:L) (base:Nat) (held:Bool)
def qY {α:Type} (e:TypeId) (F:Nat) (R:L->List O->α->Prop) (Z:α->Prop):Prop:=
 ∀(fuel:Nat) (cs:List O) (y:DataW H×List MemPlace),DataW.trod enc P w base (λ_=>true) held fuel e cs=J y->(∀p∈y.2,p.block < w.heap.size)->(∀n∈y.1.weights P e,n<=reachBytes)->cs.length=F/\∃x,R w cs x/\Z x
end
def RB:Nat:=140737488351232
def EC {α:Type} (by_:Nat) (Z:α->Prop) (xs:List α):Prop:=xs.length*by_<=140737488351232/\∀x∈xs,Z x
section
variable {H:Type} {enc:TypeId×O->H} {base:Nat} {held:Bool}
theorem sS{q:Type}{e:TypeId}{m k:Nat}{R:L->List O->q->Prop}{cr:q->Prop}(c7:P.underlying t=J (.slice e))(p:P.cellsOf e=m)(a0:P.bytesOf e=k)(hF:0 < m)(br:qY enc P w base held e m R cr): qY enc P w base held t 1 (λw cs l=>∃v,cs=[v]/\bU m R w v l) (EC k cr):=λj cs a2 h ai bB=>by
 rcases open_slice c7 h with⟨rfl,rfl⟩|⟨a,b,r,bm,M,g,s,rfl,d,a',bL,ay,rfl,aR⟩
 ·exact⟨D,[],⟨_,D,bU.nil m R w⟩,by simp[EC]⟩
 simp only[if_true] at ay
 subst ay
 rw[p] at aR ai
 have x:b*k<=140737488351232:=by
  have o:=bB _ (by simp only[DataW.weights,c7];exact MS)
  rw[a0] at o
  simp only[List.length_map,List.length_range,reachBytes] at o
  exact Ko (Nat.mul_le_mul_right _ N) o
 have z:∀a3,a3 < b->∀M∈(g a3).weights P e,M<=reachBytes:=λa3 eQ M V=>by
  refine bB M ?_
  simp only[DataW.weights,c7,List.mem_cons,List.mem_append]
  exact .inr (.inl (weightsAll_mem (LC.2 ⟨a3,MK.2 eQ,D⟩) M V))
 have n:∀a3,a3 < b->∃au:List O,au.length=m/\(∀a4 u,au[a4]? =J u->w.cell? ((a.add (a3*m)).add a4)=J u)/\∃aa,R w au aa/\cr aa:=λa3 eQ=>by
  obtain⟨au,aw,cJ⟩:=aR a3 N
  obtain⟨af,aa,ad,ag⟩:=br M au (g a3,s a3) cJ (λaT e6=>ai aT (NT _ (MX.2 ⟨a3,MK.2 N,e6⟩))) (z a3 eQ)
  obtain⟨_,_,c8⟩:=World.cells?_some aw
  refine⟨au,af,λa4 u ap=>?_,aa,ad,ag⟩
  have bK:a4 < m:=by have:=(KA.1 ap).1;omega
  rw[c8 a4 bK];exact ap
 rcases MB b with bw|bw
 ·subst bw
  refine⟨D,[],⟨_,D,J a,bm,D,Kw _,bL,λh=>absurd h ZH⟩,by simp[EC]⟩
 obtain⟨S,f3,W,al,_⟩:=n 0 N
 have f:a.spot=I:=by
  have ap:=Kr (show 0 < S.length by omega)
  have:=W 0 _ ap
  simpa [Addr.add] using World.cell?_spot this
 obtain⟨y,b5,i⟩:=a
 have f:i=I:=f
 subst f
 have aK:∀a3,∃aa,a3 < b->∃au:List O,au.length=m/\R w au aa/\(∀a4 u,au[a4]? =J u->w.cell? ⟨y,b5+a3*m+a4,I⟩=J u)/\cr aa:=λa3=>by
  by_cases eQ:a3 < b
  ·obtain⟨au,o,a8,aa,ac,b6⟩:=n a3 eQ
   exact⟨aa,λ_=>⟨au,o,ac,λa4 u ap=>by rw[<-Nk,<-Nk];exact a8 a4 u ap,b6⟩⟩
  exact⟨al,λh=>absurd h eQ⟩
 obtain⟨ae,ab⟩:=Classical.axiomOfChoice aK
 refine⟨D,(List.range b).map ae,⟨_,D,J ⟨y,b5,I⟩,bm,ZH,YX,bL,λ_=>⟨y,b5,D,λa3 aa ad=>?_⟩⟩,⟨by simpa using x,λaa ad=>?_⟩⟩
 ·rw[Le] at ad
  have eQ:a3 < b:=by
   by_cases X:a3 < b
   ·exact X
   rw[LY Zv] at ad;cases ad
  rw[NC eQ] at ad
  simp only[Option.map_some,Option.some.injEq] at ad
  subst ad
  obtain⟨au,o,a8,ac,_⟩:=ab a3 eQ
  exact⟨au,o,a8,ac⟩
 obtain⟨a3,eM,rfl⟩:=LC.1 ad
 obtain⟨_,_,_,_,b6⟩:=ab a3 (MK.1 eM)
 exact b6
theorem CJ{b:Array Field}{xs:List (DataW H×List MemPlace)}{z:DataW H×List MemPlace}{i:Nat}{f:Field}(c7:P.underlying t=J (.struct b))(bB:∀n∈(DataW.agg (xs.map (·.1))).weights P t,n<=reachBytes)(aH:b[i]? =J f)(ad:xs[i]? =J z):∀n∈z.1.weights P f.type,n<=reachBytes:=λn V=>by
 refine bB n ?_
 simp only[DataW.weights,c7]
 exact DataW.weights_mem_each (j:=i) (by rw[Le,NS,aH];rfl) (by rw[Le,ad];rfl) n V
theorem tH{b:Array Field}{j:Nat}{cs:List O}{a2:DataW H×List MemPlace}(c7:P.underlying t=J (.struct b))(d:oneCellFields P b=true)(p:P.cellsOf t=b.size)(h:DataW.trod enc P w base (λ_=>true) held j t cs=J a2): ∃(xs:List (DataW H×List MemPlace)) (n:Nat),a2=(.agg (xs.map (·.1)),xs.flatMap (·.2))/\cs.length=b.size/\xs.length=b.size/\∀(i:Nat) (f:Field),b[i]? =J f->∃(v:O) (z:DataW H×List MemPlace),cs[i]? =J v/\xs[i]? =J z/\DataW.trod enc P w base (λ_=>true) held n f.type [v]=J z:=by
 obtain⟨xs,n,_,ak,a',y,aH⟩:=DataW.trod_struct c7 h;rw[p] at a';refine⟨xs,n,ak,a',y,λi f aR=>?_⟩;obtain⟨br,ah⟩:=hone_of d i f aR;have fv:i < b.size:=(Nc.1 aR).1;have o:=aH i f aR;rw[br,ah] at o;have af:cs[i]? =J (cs[i]' N):=Kr N;have ad:xs[i]? =J (xs[i]' N):=Kr N;have e:(cs.drop i).take 1=[cs[i]' N]:=by rw[NI N];rfl
 rw[e] at o;exact⟨_,_,af,ad,o.trans ad⟩
end
def aal (x:iF):Prop:=EC 16 (λ_=>True) x.bars
def adM (x:fD):Prop:=EC 16 (λ_=>True) x.bars/\EC 40 aal x.ends
def kP (x:aW):Prop:=EC 32 (λ_=>True) x.inputs/\EC 16 (λ_=>True) x.consts/\EC 32 (λ_=>True) x.list
def adN (x:bF):Prop:=EC 8 (λ_=>True) x.keys/\EC 24 (EC 8 λ_=>True) x.kinds/\EC 96 adM x.states/\EC 88 kP x.codes
theorem Ed{q:Type}{l:List q}{a b:q}(a':l.length=2)(bw:l[0]? =J a)(o:l[1]? =J b):l=[a,b]:=by
 match l,a' with
 | [aa,a2],_=>simp at bw o;simp[bw,o]
section
variable {H:Type} {enc:TypeId×O->H} {base:Nat} {held:Bool}
theorem wW{xs:List (DataW H×List MemPlace)}{i:Nat}{z:DataW H×List MemPlace}(ad:xs[i]? =J z)(ai:∀p∈xs.flatMap (·.2),p.block < w.heap.size):∀p∈z.2,p.block < w.heap.size:=
 λp h=>ai p (MX.2 ⟨z,Kz ad,h⟩)
end
end Wide

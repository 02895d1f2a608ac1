import Derived.Test.YtcabmcfnjkeemaaGreatBM00
import Derived.Test.YtcabmcfnjkeemaaGreatB42
set_option maxRecDepth 100000
set_option maxHeartbeats 40000000
set_option linter.unusedVariables false
set_option linter.unusedSimpArgs false
namespace Go.Proofs.YtcabmcfnjkeemaaGreat
open Go.Deep Go.Maps Go.RowKit
open Go renaming World->L,Value->O
open Go.IntKind renaming i64->E
open Go.Obj renaming cells->JO
open Go.RowKit renaming Hid->F,Below->JK
open Go.Value renaming int->C,slice->G,bool->JM
open Option renaming none->I,some->J
def tu:aW:=⟨1,0,[⟨25,1,0,0⟩],[],[⟨50,0,0,0⟩,⟨52,0,0,0⟩]⟩
def mX (many:Bool):bF:=⟨3,[],[[]],0,1,1,[⟨-1,0,many,0,[],-1,0,[]⟩],[tu]⟩
theorem FI{q:Type}{m:Nat}{R:L->List O->q->Prop}{w:L}{b:Nat}{t:TypeId}{cs:Array O}{x:q}(h:aj w b t cs)(hF:cs.size=m)(f:R w cs.toList x):bU m R w (G (J ⟨b,0,I⟩) 1 1) [x]:=
 ⟨J ⟨b,0,I⟩,1,D,KD _,Z,λ_=>⟨b,0,D,λa3 a2 ak=>by
  match a3,ak with
  |0,ak=>
   simp at ak;subst ak
   refine⟨cs.toList,by simpa using hF,f,λa4 u ap=>?_⟩
   rw[show 0+0*m+a4=a4 by omega,h.cell a4,<-NS]
   exact ap⟩⟩
def afD (many:Bool) (w:L) (e:Ending) (w':L):Prop:=
 ∃vk vkk vs vc,e=.returned (.agg #[C E 3,vk,vkk,C E 0,C E 1,C E 1,vs,vc])/\jF w' (mX many) vk vkk vs vc/\JK w.heap.size w w'/\
  ∃g vi vl,vc=G (J ⟨g,0,I⟩) 1 1/\w.heap.size<=g/\aj w' g 55 #[C E 1,C E 0,vi,G I 0 0,vl]/\jm (λb=>w.heap.size<=b) w' [C E 1,C E 0,vi,G I 0 0,vl] tu
theorem ab9(many:Bool)(w:L):jF (((((((w.alloc (JO #[C E 3,G I 0 0,G (J ⟨w.heap.size+1+1+1+1,0,I⟩) 1 1,C E 0,C E 1,C E 1,G (J ⟨w.heap.size+1+1+1+1+1,0,I⟩) 1 1,G (J ⟨w.heap.size+1+1+1+1+1+1,0,I⟩) 1 1] 44)).alloc (JO #[C E 25,C E 1,C E 0,C E 0] 141)).alloc (JO #[C E 50,C E 0,C E 0,C E 0,C E 52,C E 0,C E 0,C E 0] 143)).alloc (JO #[C E 1,C E 0,G (J ⟨w.heap.size+1,0,I⟩) 1 1,G I 0 0,G (J ⟨w.heap.size+1+1,0,I⟩) 2 2] 55)).alloc (JO #[G I 0 0] 26)).alloc (JO #[C E (-1),C E 0,JM many,C E 0,G I 0 0,C E (-1),C E 0,G I 0 0] 91)).alloc (JO #[C E 1,C E 0,G (J ⟨w.heap.size+1,0,I⟩) 1 1,G I 0 0,G (J ⟨w.heap.size+1+1,0,I⟩) 2 2] 55)) (mX many) (G I 0 0) (G (J ⟨w.heap.size+1+1+1+1,0,I⟩) 1 1) (G (J ⟨w.heap.size+1+1+1+1+1,0,I⟩) 1 1) (G (J ⟨w.heap.size+1+1+1+1+1+1,0,I⟩) 1 1)/\JK w.heap.size w (((((((w.alloc (JO #[C E 3,G I 0 0,G (J ⟨w.heap.size+1+1+1+1,0,I⟩) 1 1,C E 0,C E 1,C E 1,G (J ⟨w.heap.size+1+1+1+1+1,0,I⟩) 1 1,G (J ⟨w.heap.size+1+1+1+1+1+1,0,I⟩) 1 1] 44)).alloc (JO #[C E 25,C E 1,C E 0,C E 0] 141)).alloc (JO #[C E 50,C E 0,C E 0,C E 0,C E 52,C E 0,C E 0,C E 0] 143)).alloc (JO #[C E 1,C E 0,G (J ⟨w.heap.size+1,0,I⟩) 1 1,G I 0 0,G (J ⟨w.heap.size+1+1,0,I⟩) 2 2] 55)).alloc (JO #[G I 0 0] 26)).alloc (JO #[C E (-1),C E 0,JM many,C E 0,G I 0 0,C E (-1),C E 0,G I 0 0] 91)).alloc (JO #[C E 1,C E 0,G (J ⟨w.heap.size+1,0,I⟩) 1 1,G I 0 0,G (J ⟨w.heap.size+1+1,0,I⟩) 2 2] 55))/\aj (((((((w.alloc (JO #[C E 3,G I 0 0,G (J ⟨w.heap.size+1+1+1+1,0,I⟩) 1 1,C E 0,C E 1,C E 1,G (J ⟨w.heap.size+1+1+1+1+1,0,I⟩) 1 1,G (J ⟨w.heap.size+1+1+1+1+1+1,0,I⟩) 1 1] 44)).alloc (JO #[C E 25,C E 1,C E 0,C E 0] 141)).alloc (JO #[C E 50,C E 0,C E 0,C E 0,C E 52,C E 0,C E 0,C E 0] 143)).alloc (JO #[C E 1,C E 0,G (J ⟨w.heap.size+1,0,I⟩) 1 1,G I 0 0,G (J ⟨w.heap.size+1+1,0,I⟩) 2 2] 55)).alloc (JO #[G I 0 0] 26)).alloc (JO #[C E (-1),C E 0,JM many,C E 0,G I 0 0,C E (-1),C E 0,G I 0 0] 91)).alloc (JO #[C E 1,C E 0,G (J ⟨w.heap.size+1,0,I⟩) 1 1,G I 0 0,G (J ⟨w.heap.size+1+1,0,I⟩) 2 2] 55)) (w.heap.size+1+1+1+1+1+1) 55 #[C E 1,C E 0,G (J ⟨w.heap.size+1,0,I⟩) 1 1,G I 0 0,G (J ⟨w.heap.size+1+1,0,I⟩) 2 2]/\jm (λb=>w.heap.size<=b) (((((((w.alloc (JO #[C E 3,G I 0 0,G (J ⟨w.heap.size+1+1+1+1,0,I⟩) 1 1,C E 0,C E 1,C E 1,G (J ⟨w.heap.size+1+1+1+1+1,0,I⟩) 1 1,G (J ⟨w.heap.size+1+1+1+1+1+1,0,I⟩) 1 1] 44)).alloc (JO #[C E 25,C E 1,C E 0,C E 0] 141)).alloc (JO #[C E 50,C E 0,C E 0,C E 0,C E 52,C E 0,C E 0,C E 0] 143)).alloc (JO #[C E 1,C E 0,G (J ⟨w.heap.size+1,0,I⟩) 1 1,G I 0 0,G (J ⟨w.heap.size+1+1,0,I⟩) 2 2] 55)).alloc (JO #[G I 0 0] 26)).alloc (JO #[C E (-1),C E 0,JM many,C E 0,G I 0 0,C E (-1),C E 0,G I 0 0] 91)).alloc (JO #[C E 1,C E 0,G (J ⟨w.heap.size+1,0,I⟩) 1 1,G I 0 0,G (J ⟨w.heap.size+1+1,0,I⟩) 2 2] 55)) [C E 1,C E 0,G (J ⟨w.heap.size+1,0,I⟩) 1 1,G I 0 0,G (J ⟨w.heap.size+1+1,0,I⟩) 2 2] tu:=by
 obtain⟨dq,bw⟩:∃dq,dq=w:=⟨_,D⟩;obtain⟨aC,o⟩:∃aC,aC=dq.alloc (JO #[C E 3,G I 0 0,G (J ⟨w.heap.size+1+1+1+1,0,I⟩) 1 1,C E 0,C E 1,C E 1,G (J ⟨w.heap.size+1+1+1+1+1,0,I⟩) 1 1,G (J ⟨w.heap.size+1+1+1+1+1+1,0,I⟩) 1 1] 44):=⟨_,D⟩;have c1:aC.heap.size=w.heap.size+1:=by rw[o,KE,bw]
 obtain⟨ce,a8⟩:∃ce,ce=aC.alloc (JO #[C E 25,C E 1,C E 0,C E 0] 141):=⟨_,D⟩;have bT:ce.heap.size=w.heap.size+1+1:=by rw[a8,KE,c1]
 obtain⟨b1,ac⟩:∃b1,b1=ce.alloc (JO #[C E 50,C E 0,C E 0,C E 0,C E 52,C E 0,C E 0,C E 0] 143):=⟨_,D⟩;have cB:b1.heap.size=w.heap.size+1+1+1:=by rw[ac,KE,bT]
 obtain⟨r,b6⟩:∃r,r=b1.alloc (JO #[C E 1,C E 0,G (J ⟨w.heap.size+1,0,I⟩) 1 1,G I 0 0,G (J ⟨w.heap.size+1+1,0,I⟩) 2 2] 55):=⟨_,D⟩;have dm:r.heap.size=w.heap.size+1+1+1+1:=by rw[b6,KE,cB]
 obtain⟨av,bz⟩:∃av,av=r.alloc (JO #[G I 0 0] 26):=⟨_,D⟩;have dG:av.heap.size=w.heap.size+1+1+1+1+1:=by rw[bz,KE,dm]
 obtain⟨bt,c4⟩:∃bt,bt=av.alloc (JO #[C E (-1),C E 0,JM many,C E 0,G I 0 0,C E (-1),C E 0,G I 0 0] 91):=⟨_,D⟩;have dH:bt.heap.size=w.heap.size+1+1+1+1+1+1:=by rw[c4,KE,dG]
 obtain⟨cU,de⟩:∃cU,cU=bt.alloc (JO #[C E 1,C E 0,G (J ⟨w.heap.size+1,0,I⟩) 1 1,G I 0 0,G (J ⟨w.heap.size+1+1,0,I⟩) 2 2] 55):=⟨_,D⟩;have f:cU.heap.size=w.heap.size+1+1+1+1+1+1+1:=by rw[de,KE,dH]
 have ct:aj cU (w.heap.size+1) 141 #[C E 25,C E 1,C E 0,C E 0]:=by have h:=aj.new aC 141 #[C E 25,C E 1,C E 0,C E 0];rw[<-a8,c1] at h;have cz:=h;have h:=h.alloc (JO #[C E 50,C E 0,C E 0,C E 0,C E 52,C E 0,C E 0,C E 0] 143);rw[<-ac] at h;have h:=RS;rw[<-b6] at h;have h:=h.alloc (JO #[G I 0 0] 26);rw[<-bz] at h;exact Oz
 have c0:aj cU (w.heap.size+1+1) 143 #[C E 50,C E 0,C E 0,C E 0,C E 52,C E 0,C E 0,C E 0]:=by have h:=aj.new ce 143 #[C E 50,C E 0,C E 0,C E 0,C E 52,C E 0,C E 0,C E 0];rw[<-ac,bT] at h;have cP:=h;have h:=RS;rw[<-b6] at h;have h:=h.alloc (JO #[G I 0 0] 26);rw[<-bz] at h;exact Oz
 have e1:aj cU (w.heap.size+1+1+1+1) 26 #[G I 0 0]:=by have h:=aj.new r 26 #[G I 0 0];rw[<-bz,dm] at h;have dd:=h;exact Oz
 have bE:aj cU (w.heap.size+1+1+1+1+1) 91 #[C E (-1),C E 0,JM many,C E 0,G I 0 0,C E (-1),C E 0,G I 0 0]:=by have h:=aj.new av 91 #[C E (-1),C E 0,JM many,C E 0,G I 0 0,C E (-1),C E 0,G I 0 0];rw[<-c4,dG] at h;have d9:=h;have h:=RS;rw[<-de] at h;exact h
 have aN:aj cU (w.heap.size+1+1+1+1+1+1) 55 #[C E 1,C E 0,G (J ⟨w.heap.size+1,0,I⟩) 1 1,G I 0 0,G (J ⟨w.heap.size+1+1,0,I⟩) 2 2]:=by have h:=aj.new bt 55 #[C E 1,C E 0,G (J ⟨w.heap.size+1,0,I⟩) 1 1,G I 0 0,G (J ⟨w.heap.size+1+1,0,I⟩) 2 2];rw[<-de,dH] at h;have dp:=h;exact h
 have a7:(((((((w.alloc (JO #[C E 3,G I 0 0,G (J ⟨w.heap.size+1+1+1+1,0,I⟩) 1 1,C E 0,C E 1,C E 1,G (J ⟨w.heap.size+1+1+1+1+1,0,I⟩) 1 1,G (J ⟨w.heap.size+1+1+1+1+1+1,0,I⟩) 1 1] 44)).alloc (JO #[C E 25,C E 1,C E 0,C E 0] 141)).alloc (JO #[C E 50,C E 0,C E 0,C E 0,C E 52,C E 0,C E 0,C E 0] 143)).alloc (JO #[C E 1,C E 0,G (J ⟨w.heap.size+1,0,I⟩) 1 1,G I 0 0,G (J ⟨w.heap.size+1+1,0,I⟩) 2 2] 55)).alloc (JO #[G I 0 0] 26)).alloc (JO #[C E (-1),C E 0,JM many,C E 0,G I 0 0,C E (-1),C E 0,G I 0 0] 91)).alloc (JO #[C E 1,C E 0,G (J ⟨w.heap.size+1,0,I⟩) 1 1,G I 0 0,G (J ⟨w.heap.size+1+1,0,I⟩) 2 2] 55))=cU:=by rw[de,c4,bz,b6,ac,a8,o,bw]
 rw[a7];have d:JK w.heap.size w cU:=by rw[<-a7];exact((((((JY.alloc c _).alloc ZH _).alloc Zv _).alloc Zv _).alloc Zv _).alloc Zv _).alloc Zv _
 clear a7;have cP:aX (λb=>w.heap.size<=b) 4 vC cU (G (J ⟨w.heap.size+1+1,0,I⟩) 2 2) tu.list:=by
  refine⟨J ⟨w.heap.size+1+1,0,I⟩,2,D,KD _,Z,λ_=>⟨w.heap.size+1+1,0,D,N,λa3 aa ad=>?_⟩⟩;match a3,ad with
  |0,ad=>
   have ad:J (⟨50,0,0,0⟩:mO)=J aa:=ad;injection ad with ad;subst ad;refine⟨[C E 50,C E 0,C E 0,C E 0],D,⟨D,D,D,D,D⟩,λa4 u ap=>?_⟩;have bK:a4 < 4:=(KA.1 ap).1;rw[show 0+0*4+a4=a4 by omega,c0.cell a4];match a4,bK,ap with
   |0,_,ap=>exact ap
   |1,_,ap=>exact ap
   |2,_,ap=>exact ap
   |3,_,ap=>exact ap
  |1,ad=>
   have ad:J (⟨52,0,0,0⟩:mO)=J aa:=ad;injection ad with ad;subst ad;refine⟨[C E 52,C E 0,C E 0,C E 0],D,⟨D,D,D,D,D⟩,λa4 u ap=>?_⟩;have bK:a4 < 4:=(KA.1 ap).1;rw[show 0+1*4+a4=a4+4 by omega,c0.cell (a4+4)];match a4,bK,ap with
   |0,_,ap=>exact ap
   |1,_,ap=>exact ap
   |2,_,ap=>exact ap
   |3,_,ap=>exact ap
  |a3+2,ad=>simp[tu] at ad
 have cz:aX (λb=>w.heap.size<=b) 4 uZ cU (G (J ⟨w.heap.size+1,0,I⟩) 1 1) tu.inputs:=by
  refine⟨J ⟨w.heap.size+1,0,I⟩,1,D,KD _,Z,λ_=>⟨w.heap.size+1,0,D,N,λa3 aa ad=>?_⟩⟩;match a3,ad with
  |0,ad=>have ad:J (⟨25,1,0,0⟩:gI)=J aa:=ad;injection ad with ad;subst ad;refine⟨[C E 25,C E 1,C E 0,C E 0],D,⟨D,D,D,D,D⟩,λa4 u ap=>?_⟩;rw[show 0+0*4+a4=a4 by omega,ct.cell a4,<-NS];exact ap
  |a3+1,ad=>simp[tu] at ad
 have e:jm (λb=>w.heap.size<=b) cU [C E 1,C E 0,G (J ⟨w.heap.size+1,0,I⟩) 1 1,G I 0 0,G (J ⟨w.heap.size+1+1,0,I⟩) 2 2] tu:=⟨_,_,_,D,cz,aX.nil _ _ _,cP,D,D⟩;exact⟨⟨bU.nil _ _ _,FI e1 D ⟨_,D,bU.nil _ _ _⟩,FI bE D ⟨_,_,D,bU.nil _ _ _,bU.nil _ _ _,D,D,D,D,D⟩,FI aN D e.out,D,D,D,D⟩,d,aN,e⟩
theorem EJ(many:Bool)(w:L):Calls Tryz.prog 14 #[JM many] w (afD many w):=by have f:=A (ab9 many w);go_in;go_wp2_with fail;exact Ku (v:=.agg #[C E 3,G I 0 0,G (J ⟨w.heap.size+1+1+1+1,0,I⟩) 1 1,C E 0,C E 1,C E 1,G (J ⟨w.heap.size+1+1+1+1+1,0,I⟩) 1 1,G (J ⟨w.heap.size+1+1+1+1+1+1,0,I⟩) 1 1]) (by simp[results,Tryz.results14,go_sem]) D ⟨_,_,_,_,D,f.1,f.2.1,_,_,_,D,N,f.2.2.1,f.2.2.2⟩
theorem acd:yK (mX true)=true:=Z
theorem ad7:yK (mX false)=false:=Z
theorem aar:(dQ (mX true).states 0).length=1:=Z
theorem aa9(w:L):Calls Tryz.prog 5 #[] w (wF w true):=by have aw:=A (λB=>EJ true B);have bk:=A (λB=>EJ false B);have aI:F (∀e1 ar a9 aY B,jF B (mX true) e1 ar a9 aY->Calls Tryz.prog 11 #[.agg #[C E 3,e1,ar,C E 0,C E 1,C E 1,a9,aY]] B (acK B true)):=A (λe1 ar a9 aY B h=>by have:=wC (mX true) e1 ar a9 aY B h;rw[acd] at this;exact this);have b:F (∀e1 ar a9 aY B,jF B (mX false) e1 ar a9 aY->Calls Tryz.prog 11 #[.agg #[C E 3,e1,ar,C E 0,C E 1,C E 1,a9,aY]] B (acK B false)):=A (λe1 ar a9 aY B h=>by have:=wC (mX false) e1 ar a9 aY B h;rw[ad7] at this;exact this);have e:F (∀e1 ar a9 aY B,jF B (mX true) e1 ar a9 aY->Calls Tryz.prog 15 #[.agg #[C E 3,e1,ar,C E 0,C E 1,C E 1,a9,aY],C E 0] B (Gf B (dQ (mX true).states 0))):=A (λe1 ar a9 aY B h=>Bg (mX true) e1 ar a9 aY Z 0 B h);go_in;go_wp2_with fail;refine(aw _).mono ?_;rintro a7 aC ⟨e1,ar,a9,aY,rfl,ad,ej,_⟩;have q:=A ad;have cZ:=A ej;clear ad ej;go_wp2_with fail;refine(aI.out _ _ _ _ _ q).mono ?_;rintro a7 ce ⟨rfl,cq⟩;have c6:=A (cZ.trans (cq.mono cZ.size));clear cq q cZ;go_wp2_with fail;refine(bk _).mono ?_;rintro a7 b1 ⟨e1,ar,a9,aY,rfl,ad,c9,_⟩;have q:=A ad;have cj:=A (c6.trans (c9.mono c6.size));clear ad c9 c6;go_wp2_with fail;refine(b.out _ _ _ _ _ q).mono ?_;rintro a7 r ⟨rfl,cG⟩;have cc:=A (cj.trans (cG.mono cj.size));clear cG q cj;go_wp2_with fail;refine(aw _).mono ?_;rintro a7 av ⟨e1,ar,a9,aY,rfl,ad,cO,_⟩;have q:=A ad;have dv:=A (cc.trans (cO.mono cc.size));clear ad cO cc;go_wp2_with fail;refine(e.out _ _ _ _ _ q).mono ?_;rintro a7 bt ⟨bc,rfl,br,dx⟩;obtain⟨cD,cX,rfl⟩:=aB br;have d3:=A (dv.trans (dx.mono dv.size));rw[aar];clear br dx q dv;go_wp2_with fail;go_ret;exact⟨D,d3.out⟩

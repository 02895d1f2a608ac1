import Derived.Test.YtcabmcfnjkeemaaGreatBM00
import Derived.Test.YtcabmcfnjkeemaaGreatB09
set_option maxRecDepth 100000
set_option maxHeartbeats 40000000
set_option linter.unusedVariables false
set_option linter.unusedSimpArgs false
namespace Go.Proofs.YtcabmcfnjkeemaaGreat
open Go.Deep Go.RowKit
open Go renaming World->L,Value->O
open Go.IntKind renaming i64->E
open Go.Obj renaming cells->JO
open Go.RowKit renaming Hid->F,Below->JK
open Go.Value renaming int->C,slice->G,string->H,bool->JM
open Option renaming none->I,some->J
theorem aaK:kH Tryz.prog 112 123 5 48:=kH.of (z:=.agg #[C E 0,H ⟨#[]⟩,C E 0,C E 0,C E 0]) Tryz.underlying112 U D Z
def agD (_:Nat->Prop) (_:L) (cs:List O) (x:dI):Prop:=cs=(tokA x).toList/\IY x
theorem yt:bZ agD:=λ_ _ _ _ _ _ h _ _=>h
def aeo (_:L) (cs:List O) (x:dI):Prop:=cs=(tokA x).toList/\IY x
theorem aaY(x:dI):∀u∈(tokA x).toList,u.oneCell'=true:=by intro u ap;simp only[tokA,List.mem_cons,List.not_mem_nil,or_false] at ap;rcases ap with rfl|rfl|rfl|rfl|rfl <;> rfl
def IX (l:List dI):Prop:=∃(init:List dI) (last:dI),l=init++[last]/\last.kind=0/\init.length<=4000/\∀x∈init,1<=x.kind/\x.kind<=6
def agz (w:L) (e:Ending) (w':L):Prop:=∃(v:O) (a ec:Int),e=.returned (.tuple #[v,C E a,C E ec])/\wfi a/\JK w.heap.size w w'/\(ec=0->∃l,IX l/\bU 5 aeo w' v l)
def af5 (w wr:L) (v:O) (r:Nat) (l:List dI) (css:List (List O)):Prop:=Acc w.heap.size 123 5 agD wr v l css/\l.length<=r/\∀x∈l,1<=x.kind/\x.kind<=6
theorem adX(s:ByteArray)(w:L):Calls Tryz.prog 31 #[H s] w (agz w):=by
 have M:=A (λa B h ag=>one_any s a B h ag);have aE:=A (λa9 B=>abb a9 B);go_in;by_cases o:4000 < s.size
 ·have dS:(4000:Int) < (s.size:Int):=N;go_wp2_with fail;refine Ku (results_tmp3 D _ _ _) D ?_;exact⟨_,_,_,D,bP,Ky _ _,λh=>absurd h Z⟩
 have dS:(s.size:Int)<=4000:=N;have dA:=A (show s.size<=4000 by omega);clear o;go_upto_region 5 with fail;go_wp2_with fail;go_loopw [5,6] (λbc a3 wr=>∃(z:Nat) (b:List dI) (cA:List (List O)),a3=C E z/\z<=s.size/\F (JK w.heap.size w wr)/\F (af5 w wr bc z b cA)) (λ_ a3 _=>s.size-(intOf a3).toNat);case atStart=>exact⟨0,[],[],D,Kw _,A JY,A ⟨Acc.nil _,KD _,λaa h=>ZC⟩⟩
 obtain⟨z,b,cA,rfl,aS,d8,t⟩:=hrel;obtain⟨cT,aw,rfl⟩:=aB t.1.1;go_wp2_with fail;go_loopw [6] (λa3 bn=>∃m:Nat,a3=C E m/\m<=s.size/\z<=m/\wr=bn) (λa3 _=>s.size-(intOf a3).toNat);case atStart=>exact⟨z,D,aS,KD _,D⟩
 obtain⟨m,rfl,a1,d6,rfl⟩:=hrel;have ct:(0:Int)<=(m:Int):=N;by_cases bA:m < s.size
 ·have c0:(m:Int) < (s.size:Int):=N;have cu:((m:Int)== (s.size:Int))=false:=Zv;go_wp2_with fail;refine(aE _ _).mono ?_;rintro a7 b1 ⟨ae,rfl,rfl⟩;cases ae with
  |true=>
   go_wp2_with fail;go_roundw;case rel=>
    first
    |exact⟨m+1,ZF,N,N,Yu⟩
    |((repeat apply KL);exact⟨⟨m+1,ZF,N,N,Yu⟩,D⟩)
   simp[intOf];omega
  |false=>
   go_wp2_with fail;refine(M m _ bA dA).mono ?_;rintro a7 b1 ⟨aa,bm,rfl,ad,bL,ah,c9⟩;have q:=A (Kt ad (Kt bL ah));have cj:=A c9;clear ad bL ah c9;unfold tokA;by_cases i:bm=0
   ·have e5:((bm:Int)== 0)=true:=by simp[i]
    clear i;go_wp2_with fail;refine Ku (results_tmp3 D _ _ _) D ?_;exact⟨_,_,_,D,FQ Yk,d8.trans ((cj.alloc cj.size _).mono d8.size),λh=>absurd h Z⟩
   have e5:((bm:Int)== 0)=false:=by simp[i]
   have d:=A i;clear i;go_upto_region 13 with fail;obtain⟨bf,a4⟩:∃bf,bf=b1.alloc (JO #[C E aa.kind,H aa.text,C E aa.n,C E aa.scale,C E (m:Int)] 123):=⟨_,D⟩;have cc:=A (show JK wr.heap.size wr bf by rw[a4];exact cj.alloc cj.size _);have b0:aj bf b1.heap.size 123 #[C E aa.kind,H aa.text,C E aa.n,C E aa.scale,C E (m:Int)]:=by rw[a4];exact aj.new _ _ _
   obtain⟨al,am,ax,aW,T⟩:=jO b0;rw[<-a4];clear a4 b0;have dB:=A (show b.length<=4000 by have o:=t.2.1;have a8:=dA.out;omega);have Y:=A (show IY ⟨aa.kind,aa.text,aa.n,aa.scale,(m:Int)⟩ from⟨q.1.1,q.1.2.1,q.1.2.2.1,q.1.2.2.2.1,FQ Yk⟩);have bE:(m:Int)+(bm:Int)<=(s.size:Int):=Yz;have aN:(0:Int)<=(bm:Int):=N;go_upto_region 14 with(at_builtin;refine jU aaK yt D _ _ D t.out.1 d8.out.size cc.out (cs:=(tokA ⟨aa.kind,aa.text,aa.n,aa.scale,(m:Int)⟩).toList) (x:=⟨aa.kind,aa.text,aa.n,aa.scale,(m:Int)⟩) D ⟨D,Y.out⟩ (aaY _) Yl WJ D D ?_;intro cl ch av aR d5;have e1:=A aR;have dU:=A d5;clear aR d5);clear al am ax aW T;go_wp2_with fail;go_roundw;have n:af5 w av (G cl (b.length+1) ch) (m+bm) (b++[⟨aa.kind,aa.text,aa.n,aa.scale,(m:Int)⟩]) (cA++[(tokA ⟨aa.kind,aa.text,aa.n,aa.scale,(m:Int)⟩).toList]):=by
    refine⟨e1,?_,λa2 ak=>?_⟩
    ·have o:=t.2.1;have a8:=d.out;rw[KC];simp;omega
    rcases KQ.1 ak with h|h
    ·exact t.2.2 a2 h
    rw[KG] at h;subst h;exact q.2.2 (Nat.pos_of_ne_zero d)
   have ec:=dU.below w.heap.size w c (Ko d8.size cc.size) (d8.trans (cc.mono d8.size));case rel=>
    first
    |exact⟨m+bm,_,_,ZF,q.2.1,A ec,A n⟩
    |((repeat apply KL);exact⟨⟨m+bm,_,_,ZF,q.2.1,A ec,A n⟩,D⟩)
   simp[intOf];have:=d.out;omega
 have c0:(s.size:Int)<=(m:Int):=N;have cu:((m:Int)== (s.size:Int))=true:=Zv;have dB:=A (show b.length<=4000 by have o:=t.2.1;have a8:=dA.out;omega);have Y:=A (show IY ⟨0,⟨#[]⟩,0,0,(m:Int)⟩ from⟨bP,Kw _,bP,bP,FQ Yk⟩);go_wp2_with (at_builtin;refine jU aaK yt D _ _ D t.out.1 d8.out.size JY (cs:=(tokA ⟨0,⟨#[]⟩,0,0,(m:Int)⟩).toList) (x:=⟨0,⟨#[]⟩,0,0,(m:Int)⟩) D ⟨D,Y.out⟩ (aaY _) Yl WJ D D ?_;intro cl ch b1 aR d5;have e1:=A aR;have dU:=A d5;clear aR d5);refine Ku (results_tmp3 D _ _ _) D ?_;refine⟨_,_,_,D,bP,dU.below w.heap.size w c d8.size d8,λ_=>⟨_,⟨b,⟨0,⟨#[]⟩,0,0,(m:Int)⟩,D,D,dB,t.2.2⟩,?_⟩⟩;have bz:=(e1.done yt).out (R':=aeo) λbj aa h=>h;exact bz
structure fV where
 i:Nat
 op:Int
 er:Int
 at_:Int
def cellsS (v:O) (S:fV) (rest:List O):List O:=v :: C E S.i :: C E S.op :: C E S.er :: C E S.at_ :: rest
structure eP (w:L) (g:Nat) (t:TypeId) (v:O) (toks:List dI) (S:fV) (rest:List O):Prop where
 blk:aj w g t (cellsS v S rest).toArray
 tok:aX (λb=>b < g) 5 aeo w v toks
 ok:IX toks
 idx:S.i < toks.length
variable{w w':L}{rest:List O}{toks:List dI}{g:Nat}{v:O}{t:TypeId}{S:fV}
theorem IX.len(h:IX toks):toks.length<=4001:=by obtain⟨a3,au,rfl,-,o,-⟩:=h;rw[KC];simp;omega
variable{i:Nat}
theorem IX.more(h:IX toks){x:dI}(ad:toks[i]? =J x)(ah:x.kind≠0):i+1 < toks.length:=by
 obtain⟨a3,au,rfl,a',o,a8⟩:=h;have aR:=(KA.1 ad).1;rw[KC] at aR⊢;simp at aR⊢;rcases KT i a3.length with ac|ac
 ·exact ac
 exfalso;rw[Lh ac] at ad;have:i-a3.length=0:=N;rw[this] at ad;simp at ad;subst ad;exact ah a'
theorem eP.grown(h:eP w g t v toks S rest)(ab:w.grownBy w' (J g))(d:aj w' g t (cellsS v S rest).toArray):eP w' g t v toks S rest:=
 ⟨d,h.tok.keep (aF.aS ab λy d=>Zv) (λ_ h=>h) λ_ _ h=>h,h.ok,h.idx⟩
theorem eP.below(h:eP w g t v toks S rest)(d:JK w.heap.size w w'):eP w' g t v toks S rest:=h.grown (aT d _) (h.blk.below d h.blk.lt)
theorem eP.cells(h:eP w g t v toks S rest):w.cell? ⟨g,0,I⟩=J v/\w.cell? ⟨g,1,I⟩=J (C E S.i)/\w.cell? ⟨g,2,I⟩=J (C E S.op)/\w.cell? ⟨g,3,I⟩=J (C E S.er)/\w.cell? ⟨g,4,I⟩=J (C E S.at_)/\w.frozen? ⟨g,0,I⟩=false/\w.frozen? ⟨g,1,I⟩=false/\w.frozen? ⟨g,2,I⟩=false/\w.frozen? ⟨g,3,I⟩=false/\w.frozen? ⟨g,4,I⟩=false:=
 ⟨h.blk.cell 0,h.blk.cell 1,h.blk.cell 2,h.blk.cell 3,h.blk.cell 4,h.blk.frozen 0,h.blk.frozen 1,h.blk.frozen 2,h.blk.frozen 3,h.blk.frozen 4⟩
theorem grownBy_set(w:L)(g i:Nat)(u:O):w.grownBy (w.setCell ⟨g,i,I⟩ u) (J g):=
 ⟨D,D,D,XZ,λa0 _ ah=>La w ⟨g,i,I⟩ u a0 λa7=>ah ZG⟩
variable{q:fV}
theorem eP.bJ(h:eP w g t v toks S rest){k:Nat}{u:O}(aR:q.i < toks.length)(aw:(cellsS v S rest).set k u=cellsS v q rest):eP (w.setCell ⟨g,k,I⟩ u) g t v toks q rest:=by have d:=h.blk.bJ k u;rw[List.setIfInBounds_toArray,aw] at d;have ab:=grownBy_set w g k u;exact⟨d,h.tok.keep (aF.aS ab λy d=>Zv) (λ_ h=>h) λ_ _ h=>h,h.ok,aR⟩
theorem eP.rH(h:eP w g t v toks S rest){n:Nat}(V:n < toks.length):eP (w.setCell ⟨g,1,I⟩ (C E n)) g t v toks {S with i:=n} rest:=h.bJ V D
theorem eP.qO(h:eP w g t v toks S rest)(n:Int):eP (w.setCell ⟨g,2,I⟩ (C E n)) g t v toks {S with op:=n} rest:=h.bJ h.idx D
theorem eP.afX(h:eP w g t v toks S rest)(n:Int):eP (w.setCell ⟨g,3,I⟩ (C E n)) g t v toks {S with er:=n} rest:=h.bJ h.idx D
theorem eP.afW(h:eP w g t v toks S rest)(n:Int):eP (w.setCell ⟨g,4,I⟩ (C E n)) g t v toks {S with at_:=n} rest:=h.bJ h.idx D
theorem eP.cur(h:eP w g t v toks S rest):∃(x:dI) (b off a9:Nat),toks[S.i]? =J x/\IY x/\v=G (J ⟨b,off,I⟩) toks.length a9/\toks.length<=a9/\a9<=maxLen/\w.cell? ⟨b,off+S.i*5,I⟩=J (C E x.kind)/\w.cell? ⟨b,off+S.i*5+1,I⟩=J (H x.text)/\w.cell? ⟨b,off+S.i*5+2,I⟩=J (C E x.n)/\w.cell? ⟨b,off+S.i*5+3,I⟩=J (C E x.scale)/\w.cell? ⟨b,off+S.i*5+4,I⟩=J (C E x.at_):=by obtain⟨Y,a9,af,o,a8,ac⟩:=h.tok;obtain⟨b,off,rfl,a1,aw⟩:=ac Yx;have ad:=Kr h.idx;obtain⟨bj,a',⟨cM,bN⟩,aB⟩:=aw S.i _ ad;subst cM;exact⟨_,b,off,a9,ad,bN,af,o,a8,aB 0 _ D,aB 1 _ D,aB 2 _ D,aB 3 _ D,aB 4 _ D⟩
def ahn (w:L) (toks:List dI) (i:Nat) (e:Ending) (w':L):Prop:=∃x,e=.returned (.agg (tokA x))/\toks[i]? =J x/\IY x/\JK w.heap.size w w'
theorem uM{b:List dI}(h:eP w g t v b S rest):Calls Tryz.prog 62 #[.pointer (J ⟨g,0,I⟩)] w (ahn w b S.i):=by obtain⟨an,bk⟩:∃an,an=w.alloc (JO #[C E 0,H ⟨#[]⟩,C E 0,C E 0,C E 0] 123):=⟨_,D⟩;have aC:=QY;have cZ:=A (show aj an w.heap.size 123 #[C E 0,H ⟨#[]⟩,C E 0,C E 0,C E 0] by rw[bk];exact aj.new _ _ _);have j:=h.below aC;have a':=h.blk.lt;clear h;obtain⟨aa,y,b5,a9,ad,bN,af,o,a8,b',bv,bo,bZ,c5⟩:=j.cur;obtain⟨b0,aL,ao,b2,bu,-,-,-,-,-⟩:=j.cells;have d:=j.idx;obtain⟨a3,e,cw,ar⟩:=S;simp only at*;subst af;have q:=A ad;have cY:=A bN;have ct:(0:Int)<=(a3:Int):=N;have c0:(a3:Int) < (b.length:Int):=N;obtain⟨al,am,ax,aW,T⟩:=jO cZ;have a5:=cZ.frozen 0;have a6:=cZ.frozen 1;have aq:=cZ.frozen 2;have aZ:=cZ.frozen 3;have aO:=cZ.frozen 4;clear ad bN j d;go_in;go_upto_region 1 with fail;rw[<-bk];clear bk;go_region;go_wp2_with fail;refine afS cZ D λX az aE=>?_;refine Ku (au D D az Tryz.underlying123 D D) D ?_;exact⟨aa,D,q,cY,aE.below _ _ c aC.out⟩
def IsP (w:L) (toks:List dI) (i:Nat) (e:Ending) (w':L):Prop:=∃b,e=.returned (JM b)/\(b=true->i+1 < toks.length)/\JK w.heap.size w w'
theorem oD(h:eP w g t v toks S rest)(s:ByteArray):Calls Tryz.prog 34 #[.pointer (J ⟨g,0,I⟩),H s] w (IsP w toks S.i):=by
 have cB:=A (uM h);have dr:=A h.ok;clear h;go_in;go_wp2_with fail;refine cB.mono ?_;rintro a7 aC ⟨aa,rfl,ad,bN,d⟩;unfold tokA;obtain⟨df,a0⟩:∃df,df=aC.alloc (JO #[C E aa.kind,H aa.text,C E aa.n,C E aa.scale,C E aa.at_] 123):=⟨_,D⟩;have k:=A (show JK w.heap.size w df by rw[a0];exact d.alloc d.size _);have c6:=SY;have q:=A ad;clear ad bN d;go_upto_region 2 with fail;rw[<-a0];clear a0;obtain⟨al,am,ax,aW,T⟩:=jO c6;by_cases ah:aa.kind=0
 ·have b3:(aa.kind== 1)=false:=by simp[ah]
  have bh:(aa.kind== 6)=false:=by simp[ah]
  clear ah;go_wp2_with fail;go_ret;exact⟨_,D,λh=>ZC,k.out⟩
 have bH:=A (dr.more q ah);clear ah;go_wp2_with fail;all_goals(go_ret;exact⟨_,D,λ_=>bH,k.out⟩)
structure bT (w:L) (g:Nat) (t:TypeId) (v:O) (toks:List dI) (S S':fV) (rest:List O) (w':L):Prop where
 st:eP w' g t v toks S' rest
 grown:w.grownBy w' (J g)
 le:S.i<=S'.i
theorem bT.refl(h:eP w g t v toks S rest):bT w g t v toks S S rest w:=⟨h,Nj _ _,KD _⟩
variable{e:L}
theorem bT.trans{b:fV}(h:bT w g t v toks S q rest w')(k:bT w' g t v toks q b rest e):bT w g t v toks S b rest e:=⟨k.st,h.grown.trans k.grown,Ko h.le k.le⟩
theorem bT.below(h:bT w g t v toks S q rest w')(d:JK w'.heap.size w' e):bT w g t v toks S q rest e:=⟨h.st.below d,h.grown.trans (aT d _),h.le⟩
theorem bT.of_below(h:eP w g t v toks S rest)(d:JK w.heap.size w w'):bT w g t v toks S S rest w':=(bT.refl h).below d
theorem vY(x:dI)(W:L):(Instr.field 123 (.agg #[C E x.kind,H x.text,C E x.n,C E x.scale,C E x.at_]) 4).run Tryz.prog W=.ok (C E x.at_) W:=U
def agc (w:L) (g:Nat) (t:TypeId) (v:O) (toks:List dI) (S:fV) (rest:List O) (e:Ending) (w':L):Prop:=e=.returned (.tuple #[])/\∃er at_,er≠0/\bT w g t v toks S {S with er:=er,at_:=at_} rest w'
theorem kK(h:eP w g t v toks S rest)(n:Int)(V:n≠0):Calls Tryz.prog 37 #[.pointer (J ⟨g,0,I⟩),C E n] w (agc w g t v toks S rest):=by
 have cB:=A (λB (h:eP B g t v toks S rest)=>uM h);have ae:=A h;obtain⟨b0,aL,ao,b2,bu,a5,a6,aq,aZ,aO⟩:=h.cells;have a':=h.blk.lt;have cw:=A V;clear h V;go_in;by_cases bS:S.er=0
 ·have b3:(S.er== 0)=true:=ZA;clear bS;go_upto_region 1 with fail;clear b0 aL ao b2 bu a5 a6 aq aZ aO;go_wp2_with fail;refine(cB _ ae.out).mono ?_;rintro a7 aC ⟨aa,rfl,ad,bN,d⟩;have aV:=A (ae.out.below d);obtain⟨b0,aL,ao,b2,bu,a5,a6,aq,aZ,aO⟩:=aV.cells;have b7:=A d;clear ad bN d;unfold tokA;have aH:=vY aa aC;go_wp2_with fail;go_end0;exact⟨D,n,aa.at_,cw,⟨(aV.afX n).afW aa.at_,((aT b7 _).trans (grownBy_set _ _ _ _)).trans (grownBy_set _ _ _ _),KD _⟩⟩
 have b3:(S.er== 0)=false:=ZA;have bC:=A bS;clear bS;go_wp2_with fail;go_end0;exact⟨D,S.er,S.at_,bC,bT.refl ae.out⟩
def afo (w:L) (g:Nat) (t:TypeId) (v:O) (toks:List dI) (S:fV) (rest:List O) (e:Ending) (w':L):Prop:=e=.returned (.tuple #[])/\∃S',bT w g t v toks S S' rest w'
theorem eP.idxs(h:eP w g t v toks S rest):(S.i:Int)+1<=4001:=by have o:=h.idx;have a8:=h.ok.len;omega
theorem qJ(h:eP w g t v toks S rest)(s:ByteArray):Calls Tryz.prog 32 #[.pointer (J ⟨g,0,I⟩),H s] w (afo w g t v toks S rest):=by
 have dj:=A (λB (h:eP B g t v toks S rest)=>oD h s);have db:=A (λB (h:eP B g t v toks S rest)=>kK h 13 Z);have ae:=A h;obtain⟨b0,aL,ao,b2,bu,a5,a6,aq,aZ,aO⟩:=h.cells;have dz:=h.idxs;have ct:(0:Int)<=(S.i:Int):=N;clear h;go_in;rcases bS:(S.er !=0) with _|_
 ·go_upto_region 1 with fail;clear b0 aL ao b2 bu a5 a6 aq aZ aO;go_wp2_with fail;refine(dj _ ae.out).mono ?_;rintro a7 aC ⟨y,rfl,m,d⟩;have aV:=A (ae.out.below d);have e:=A (bT.of_below ae.out d);have aP:=A m;clear d m;cases y with
  |false=>go_wp2_with fail;refine(db _ aV).mono ?_;rintro a7 ce ⟨rfl,cw,ar,-,ai⟩;go_wp2_with fail;go_end0;exact⟨D,_,e.out.trans ai⟩
  |true=>obtain⟨b0,aL,ao,b2,bu,a5,a6,aq,aZ,aO⟩:=aV.cells;go_wp2_with fail;go_end0;have ac:=aV.rH (n:=S.i+1) (aP Yu);exact⟨D,_,e.out.trans ⟨ac,grownBy_set _ _ _ _,Ld _⟩⟩
 go_wp2_with fail;go_end0;exact⟨D,S,bT.refl ae.out⟩
def agq (w:L) (g:Nat) (t:TypeId) (v:O) (toks:List dI) (S:fV) (rest:List O) (e:Ending) (w':L):Prop:=∃s,e=.returned (H s)/\s.size<=4000/\∃S',bT w g t v toks S S' rest w'
theorem Eu(h:eP w g t v toks S rest):Calls Tryz.prog 129 #[.pointer (J ⟨g,0,I⟩)] w (agq w g t v toks S rest):=by
 have cB:=A (λB (h:eP B g t v toks S rest)=>uM h);have db:=A (λB (h:eP B g t v toks S rest)=>kK h 13 Z);have ae:=A h;obtain⟨b0,aL,ao,b2,bu,a5,a6,aq,aZ,aO⟩:=h.cells;have dz:=h.idxs;have ct:(0:Int)<=(S.i:Int):=N;clear h;go_in;rcases bS:(S.er !=0) with _|_
 ·go_upto_region 3 with fail;clear b0 aL ao b2 bu a5 a6 aq aZ aO;go_wp2_with fail;refine(cB _ ae.out).mono ?_;rintro a7 aC ⟨aa,rfl,ad,bN,d⟩;unfold tokA;obtain⟨df,a0⟩:∃df,df=aC.alloc (JO #[C E aa.kind,H aa.text,C E aa.n,C E aa.scale,C E aa.at_] 123):=⟨_,D⟩;have k:=A (show JK w.heap.size w df by rw[a0];exact d.alloc d.size _);have c6:=SY;have bx:=A (ae.out.below k);have a':=A (bT.of_below ae.out k);have q:=A ad;have cY:=A bN;have bm:g < aC.heap.size:=Kv ae.out.blk.lt d.size;clear ad bN d;go_upto_region 4 with fail;rw[<-a0];clear a0;obtain⟨al,am,ax,aW,T⟩:=jO c6;by_cases ah:aa.kind=2
  ·have b3:(aa.kind !=2)=false:=by simp[ah]
   have bH:=A (ae.out.ok.more q N);clear ah;obtain⟨b0,aL,ao,b2,bu,a5,a6,aq,aZ,aO⟩:=bx.cells;have eQ:aC.heap.size≠g:=N;go_wp2_with fail;go_ret;have ac:=bx.rH (n:=S.i+1) bH;exact⟨_,D,cY.2.1,_,a'.out.trans ⟨ac,grownBy_set _ _ _ _,Ld _⟩⟩
  have b3:(aa.kind !=2)=true:=by simp[ah]
  clear ah;go_wp2_with fail;refine(db _ bx).mono ?_;rintro a7 ce ⟨rfl,cw,ar,-,ai⟩;go_wp2_with fail;go_ret;exact⟨_,D,Kw _,_,a'.out.trans ai⟩
 go_wp2_with fail;go_ret;exact⟨_,D,Kw _,S,bT.refl ae.out⟩
def ag3 (w:L) (g:Nat) (t:TypeId) (v:O) (toks:List dI) (S:fV) (rest:List O) (e:Ending) (w':L):Prop:=∃s a,e=.returned (.tuple #[H s,H a])/\s.size<=4000/\a.size<=4000/\∃S',bT w g t v toks S S' rest w'
theorem Bh(h:eP w g t v toks S rest):Calls Tryz.prog 118 #[.pointer (J ⟨g,0,I⟩)] w (ag3 w g t v toks S rest):=by
 have aX:=A (λB S (h:eP B g t v toks S rest)=>Eu h);have dj:=TA;have aQ:=A (λB S (h:eP B g t v toks S rest) ba=>qJ h ba);have ae:=A h;clear h;go_in;go_wp2_with fail;refine(aX _ _ ae.out).mono ?_;rintro a7 aC ⟨ba,rfl,ag,P,dL⟩;have e:=A dL;have f:=A ag;clear dL ag;go_wp2_with fail;refine(aQ _ _ e.out.st _).mono ?_;rintro a7 ce ⟨rfl,a2,W⟩;have a':=A (e.out.trans W);clear W;obtain⟨b0,aL,ao,b2,bu,a5,a6,aq,aZ,aO⟩:=a'.out.st.cells;have dz:=a'.out.st.idxs;have ct:(0:Int)<=(a2.i:Int):=N;rcases bS:(a2.er== 0) with _|_
 ·go_wp2_with fail;refine(aX _ _ a'.out.st).mono ?_;rintro a7 b1 ⟨a,rfl,aJ,ah,d⟩;have cy:=A aJ;have x:=A (a'.out.trans d);clear aJ d b0 aL ao b2 bu a5 a6 aq aZ aO;go_wp2_with fail;go_ret2;exact⟨_,_,D,f,cy,_,x.out⟩
 go_wp2_with fail;refine(dj _ _ a'.out.st _).mono ?_;rintro a7 b1 ⟨y,rfl,m,c9⟩;have x:=A (a'.out.below c9);have aP:=A m;clear c9 m b0 aL ao b2 bu a5 a6 aq aZ aO;cases y with
 |true=>obtain⟨b0,aL,ao,b2,bu,a5,a6,aq,aZ,aO⟩:=x.out.st.cells;go_wp2_with fail;go_ret2;have ac:=x.out.st.rH (n:=a2.i+1) (aP Yu);exact⟨_,_,D,f,Z,_,x.out.trans ⟨ac,grownBy_set _ _ _ _,Ld _⟩⟩
 |false=>go_wp2_with fail;refine(aX _ _ x.out.st).mono ?_;rintro a7 r ⟨a,rfl,aJ,ah,p⟩;have cy:=A aJ;have b:=A (x.out.trans p);clear aJ p;go_wp2_with fail;go_ret2;exact⟨_,_,D,f,cy,_,b.out⟩
def agu (w:L) (g:Nat) (t:TypeId) (v:O) (toks:List dI) (S:fV) (rest:List O) (e:Ending) (w':L):Prop:=∃a S',e=.returned (C E a)/\wfi a/\bT w g t v toks S S' rest w'/\S'.i=S.i+1
theorem Ey(h:eP w g t v toks S rest)(bL:S.i+1 < toks.length):Calls Tryz.prog 117 #[.pointer (J ⟨g,0,I⟩)] w (agu w g t v toks S rest):=by
 have cB:=A (λB S (h:eP B g t v toks S rest)=>uM h);have db:=A (λB S (h:eP B g t v toks S rest)=>kK h 14 Z);have ae:=A h;have dz:=h.idxs;have ct:(0:Int)<=(S.i:Int):=N;have bH:=A bL;clear h bL;go_in;go_wp2_with fail;refine(cB _ _ ae.out).mono ?_;rintro a7 aC ⟨aa,rfl,ad,bN,d⟩;have aH:=vY aa aC;have e:=A (bT.of_below ae.out d);have cY:=A bN;clear ad bN d;unfold tokA;go_upto_region 2 with fail;clear aH;obtain⟨b0,aL,ao,b2,bu,a5,a6,aq,aZ,aO⟩:=e.out.st.cells;have x:∀(B:L) (a2:fV) (M:Int),bT w g t v toks S a2 rest B->a2.i=S.i->agu w g t v toks S rest (.returned (C E aa.at_)) ((B.setCell ⟨g,2,I⟩ (C E M)).setCell ⟨g,1,I⟩ (C E ((S.i:Int)+1))):=λB a2 M ai aR=>⟨aa.at_,_,D,cY.2.2.2.2,⟨(ai.st.qO M).rH (n:=S.i+1) bH,(ai.grown.trans (grownBy_set _ _ _ _)).trans (grownBy_set _ _ _ _),Ld _⟩,D⟩;have cN:=A x;clear x;rcases br:(S.op== 30) with _|_
 ·go_wp2_with fail;go_ret;exact cN _ S _ e.out D
 go_upto_region 3 with fail;clear b0 aL ao b2 bu a5 a6 aq aZ aO;go_wp2_with fail;refine(db _ _ e.out.st).mono ?_;rintro a7 ce ⟨rfl,cw,ar,-,ai⟩;have a':=A (e.out.trans ai);clear ai;obtain⟨b0,aL,ao,b2,bu,a5,a6,aq,aZ,aO⟩:=a'.out.st.cells;go_wp2_with fail;go_ret;exact cN _ _ _ a'.out D
def Du (l:Int):Nat×Int:=if l=1 then(1,14) else if l=2 then(1,13) else if l=4 then(6,7) else if l=5 then(2,1) else if l=6 then(3,3) else(0,0)
def agA (l:Int) (w:L) (e:Ending) (w':L):Prop:=∃A c,e=.returned (.tuple #[G A (Du l).1 c,C E (Du l).2])/\(0 < (Du l).1->Dw w' w.heap.size A (Du l).1)/\(Du l).1<=c/\c<=1000/\JK w.heap.size w w'
theorem EI(l:Int)(w:L):Calls Tryz.prog 96 #[C E l] w (agA l w):=by
 go_in;by_cases o:l=1
 ·subst o;go_wp2_with fail;go_ret2;exact⟨_,_,D,λ_=>jD w #[H ⟨#[79,82]⟩] 9 (0,0) D 1 D,Z,Z,JY.alloc c _⟩
 have b3:(l== 1)=false:=by simp[o]
 by_cases a8:l=2
 ·subst a8;go_wp2_with fail;go_ret2;exact⟨_,_,D,λ_=>jD w #[H ⟨#[65,78,68]⟩] 9 (0,0) D 1 D,Z,Z,JY.alloc c _⟩
 have bh:(l== 2)=false:=by simp[a8]
 by_cases b6:l=4
 ·subst b6;go_wp2_with fail;go_ret2;exact⟨_,_,D,λ_=>jD w #[H ⟨#[61]⟩,H ⟨#[33,61]⟩,H ⟨#[60]⟩,H ⟨#[60,61]⟩,H ⟨#[62]⟩,H ⟨#[62,61]⟩] 9 (0,0) D 6 D,Z,Z,JY.alloc c _⟩
 have dc:(l== 4)=false:=by simp[b6]
 by_cases bz:l=5
 ·subst bz;go_wp2_with fail;go_ret2;exact⟨_,_,D,λ_=>jD w #[H ⟨#[43]⟩,H ⟨#[45]⟩] 9 (0,0) D 2 D,Z,Z,JY.alloc c _⟩
 have cY:(l== 5)=false:=by simp[bz]
 by_cases c4:l=6
 ·subst c4;go_wp2_with fail;go_ret2;exact⟨_,_,D,λ_=>jD w #[H ⟨#[42]⟩,H ⟨#[47]⟩,H ⟨#[37]⟩] 9 (0,0) D 3 D,Z,Z,JY.alloc c _⟩
 have S:(l== 6)=false:=by simp[c4]
 go_wp2_with fail;go_ret2;have ag:Du l=(0,0):=by unfold Du;simp[o,a8,b6,bz,c4]
 refine⟨I,0,by rw[ag];rfl,λh=>?_,by rw[ag];decide,Z,Ky _ _⟩;rw[ag] at h;exact absurd h Z
theorem Gi(w:L):Calls Tryz.prog 109 #[] w (acL 7 w):=by
 go_in;go_wp2_with fail;go_ret;refine⟨_,_,D,?_,KD _,Z,?_⟩
 ·exact jD w _ _ _ D 7 D
 exact JY.alloc c _
inductive pR:ED->Prop
 |mk (op:Int) (args:List ED) (n sc:Int) (name attr:ByteArray) (at_:Int):(op=13->args.length=2)->(∀a∈args,pR a)->pR (.mk op args n sc name attr at_)
structure qw (g b:Nat) (w w':L):Prop where
 os:w'.os=w.os
 tape:w'.tape=w.tape
 output:w'.output=w.output
 size:w.heap.size<=w'.heap.size
 block:∀k,k < w.heap.size->k≠g->k≠b->w'.heap[k]? =w.heap[k]?
theorem qw.refl(g b:Nat)(w:L):qw g b w w:=⟨D,D,D,KD _,λ_ _ _ _=>rfl⟩
variable{b:Nat}
theorem qw.trans(h:qw g b w w')(k:qw g b w' e):qw g b w e:=
 ⟨k.os.trans h.os,k.tape.trans h.tape,k.output.trans h.output,Ko h.size k.size,λa3 o a8 ac=>(k.block a3 (Kv o h.size) a8 ac).trans (h.block a3 o a8 ac)⟩
theorem qw.aS(h:w.grownBy w' (J g)):qw g b w w':=⟨h.os,h.tape,h.output,h.size,λa0 o a8 _=>h.block a0 o λa7=>a8 Zj⟩
theorem qw.dN(g b i:Nat)(w:L)(u:O):qw g b w (w.setCell ⟨b,i,I⟩ u):=⟨D,D,D,XZ,λa0 _ _ ac=>La w ⟨b,i,I⟩ u a0 ac⟩
theorem qw.grown{dq:L}(h:dq.grownBy w (J g))(k:qw g b w w')(d:dq.heap.size<=b):dq.grownBy w' (J g):=
 ⟨k.os.trans h.os,k.tape.trans h.tape,k.output.trans h.output,Ko h.size k.size,λa3 o a8=>(k.block a3 (Kv o h.size) (λa7=>a8 ZG) N).trans (h.block a3 o a8)⟩
theorem eP.mv(h:eP w g t v toks S rest)(k:qw g b w w')(d:g < b)(ah:aj w' g t (cellsS v S rest).toArray):eP w' g t v toks S rest:=
 ⟨ah,h.tok.keep (λaT u a1 ai=>(KJ (k.block aT.block (ay ai) N N)).trans ai) (λ_ h=>h) λ_ _ h=>h,h.ok,h.idx⟩
theorem eP.box(h:eP w g t v toks S rest)(d:g < b)(u:O):eP (w.setCell ⟨b,i,I⟩ u) g t v toks S rest:=
 h.mv (qw.dN g b i w u) d (h.blk.far (p:=⟨b,i,I⟩) (by show g≠b;omega) u)
theorem bT.box(h:bT w g t v toks S q rest w')(d:w.heap.size<=b)(ab:g < b)(u:O):bT w g t v toks S q rest (w'.setCell ⟨b,i,I⟩ u):=
 ⟨h.st.box ab u,qw.grown h.grown (qw.dN g b i w' u) d,h.le⟩
def Jb (op:Int) (nm at_:ByteArray) (a:Int):Array O:=#[C E op,G I 0 0,C E 0,C E 0,H nm,H at_,C E a]
theorem aK{bJ bD bs e i n k:O}(h:aj w g t #[bJ,bD,bs,e,i,n,k]): w.cell? ⟨g,0,I⟩=J bJ/\w.cell? ⟨g,1,I⟩=J bD/\w.cell? ⟨g,2,I⟩=J bs/\w.cell? ⟨g,3,I⟩=J e/\w.cell? ⟨g,4,I⟩=J i/\w.cell? ⟨g,5,I⟩=J n/\w.cell? ⟨g,6,I⟩=J k/\w.frozen? ⟨g,0,I⟩=false/\w.frozen? ⟨g,1,I⟩=false/\w.frozen? ⟨g,2,I⟩=false/\w.frozen? ⟨g,3,I⟩=false/\w.frozen? ⟨g,4,I⟩=false/\w.frozen? ⟨g,5,I⟩=false/\w.frozen? ⟨g,6,I⟩=false:=
 ⟨h.cell 0,h.cell 1,h.cell 2,h.cell 3,h.cell 4,h.cell 5,h.cell 6,h.frozen 0,h.frozen 1,h.frozen 2,h.frozen 3,h.frozen 4,h.frozen 5,h.frozen 6⟩
structure rJ (w:L) (g:Nat) (t:TypeId) (v:O) (toks:List dI) (S S':fV) (rest:List O) (b:Nat) (op:Int) (nm at_:ByteArray) (a:Int) (w':L):Prop where
 st:eP w' g t v toks S' rest
 le:S.i<=S'.i
 mv:qw g b w w'
 box:aj w' b 139 (Jb op nm at_ a)
 op:0<=op/\op<=31/\op≠13
 nm:nm.size<=4000/\at_.size<=4000
def agO (w:L) (g:Nat) (t:TypeId) (v:O) (toks:List dI) (S:fV) (rest:List O) (b:Nat) (a:Int) (e:Ending) (w':L):Prop:=e=.returned (.tuple #[])/\∃S' op nm at_,rJ w g t v toks S S' rest b op nm at_ a w'
variable{at_ nm:ByteArray}{a op:Int}{w1:L}{P:fV}
theorem rJ.out{a2:fV}{ce:L}(h:rJ w g t v toks S P rest b op nm at_ a w1)(d:b < w1.heap.size)(c6:g≠b)(k:bT w1 g t v toks P a2 rest ce):rJ w g t v toks S a2 rest b op nm at_ a ce:=
 ⟨k.st,Ko h.le k.le,h.mv.trans (qw.aS k.grown),h.box.grown k.grown Zv,h.op,h.nm⟩
theorem rJ.below{ce:L}(h:rJ w g t v toks S P rest b op nm at_ a w1)(c6:g≠b)(k:JK w1.heap.size w1 ce):rJ w g t v toks S P rest b op nm at_ a ce:=
 h.out h.box.lt c6 (bT.of_below h.st k)
theorem rJ.jd{k:Nat}{op':Int}{nm' at':ByteArray}{u:O}(h:rJ w g t v toks S P rest b op nm at_ a w1)(c6:g < b)(aw:(Jb op nm at_ a).setIfInBounds k u=Jb op' nm' at' a)(br:0<=op'/\op'<=31/\op'≠13)(V:nm'.size<=4000/\at'.size<=4000): rJ w g t v toks S P rest b op' nm' at' a (w1.setCell ⟨b,k,I⟩ u):=
 ⟨h.st.box c6 u,h.le,h.mv.trans (qw.dN g b k w1 u),Xm,br,V⟩
theorem rJ.rH{n:Nat}(h:rJ w g t v toks S P rest b op nm at_ a w1)(c6:g≠b)(V:n < toks.length)(ao:P.i<=n):rJ w g t v toks S {P with i:=n} rest b op nm at_ a (w1.setCell ⟨g,1,I⟩ (C E n)):=
 h.out h.box.lt c6 ⟨h.st.rH V,grownBy_set _ _ _ _,ao⟩
theorem Dn(h:eP w g t v toks S rest)(d:aj w b 139 (Jb 0 ⟨#[]⟩ ⟨#[]⟩ a))(c6:g < b):Calls Tryz.prog 119 #[.pointer (J ⟨g,0,I⟩),.pointer (J ⟨b,0,I⟩)] w (agO w g t v toks S rest b a):=by
 have bU:=A (λB=>Gi B);have dj:=TA;have aQ:=A (λB S (h:eP B g t v toks S rest) ba=>qJ h ba);have aX:=A (λB S (h:eP B g t v toks S rest)=>Eu h);have dq:=A (λB S (h:eP B g t v toks S rest)=>Bh h);have db:=A (λB S (h:eP B g t v toks S rest)=>kK h 13 Z);have bq:F (rJ w g t v toks S S rest b 0 ⟨#[]⟩ ⟨#[]⟩ a w):=A ⟨h,KD _,qw.refl _ _ _,d,N,Z⟩;have s:=A c6;have bm:g≠b:=N;have eQ:b≠g:=N;clear h d c6;go_in;go_wp2_with fail;refine(bU _).mono ?_;rintro a7 aC ⟨Y,a9,rfl,ag,d0,cR,ej⟩;obtain⟨bR,b8,rfl,cF,aB⟩:=ag;have f:=A aB;have ds:=A bq.st.blk.lt;have d8:=A bq.box.lt;have aV:=A (bq.below bm ej);have dX:F (bR < aC.heap.size/\bR≠g/\bR≠b):=A (by obtain⟨u,ap,-⟩:=aB 0 Z;have o:=ds.out;have a8:=d8.out;exact⟨ay ap,N,N⟩);clear ej aB bq cF;go_wp2_with fail;go_loopw [8] (λa3 wr=>∃(z:Nat) (q:fV) (e:Int) (cH ar:ByteArray),a3=C E z/\z<=7/\F (rJ w g t v toks S q rest b e cH ar a wr/\qw g b aC wr)) (λa3 _=>7-(intOf a3).toNat);case atStart=>exact⟨0,S,0,⟨#[]⟩,⟨#[]⟩,D,Kw _,A ⟨aV,qw.refl _ _ _⟩⟩
 obtain⟨z,P,e,cH,ar,rfl,aS,ci⟩:=hrel;obtain⟨al,am,ax,aW,T,bi,bM,a5,a6,aq,aZ,aO,be,bI⟩:=aK ci.1.box;have ct:(0:Int)<=(z:Int):=N;by_cases bA:z < 7
 ·have c0:(z:Int) < 7:=N;obtain⟨u,ap,aG⟩:=f.out z bA;have aM:wr.cell? ⟨bR,b8+z,I⟩=J (H u):=(KJ (ci.2.block bR dX.1 dX.2.1 dX.2.2)).trans ap;clear ap aG;rcases ah:(e== 0) with _|_
  ·go_wp2_with fail;go_roundw;case rel=>
    first
    |exact⟨z+1,P,e,cH,ar,ZF,N,ci⟩
    |((repeat apply KL);exact⟨⟨z+1,P,e,cH,ar,ZF,N,ci⟩,D⟩)
   simp[intOf];omega
  go_wp2_with fail;refine(dj _ _ ci.1.st _).mono ?_;rintro a7 ce ⟨d2,rfl,m,cq⟩;have n:=A (Kt (ci.1.below bm cq) (ci.2.trans (qw.aS (aT cq (J g)))));have aP:=A m;clear cq m al am ax aW T bi bM a5 a6 aq aZ aO be bI aM;cases d2 with
  |false=>
   go_wp2_with fail;go_roundw;case rel=>
    first
    |exact⟨z+1,P,e,cH,ar,ZF,N,n⟩
    |((repeat apply KL);exact⟨⟨z+1,P,e,cH,ar,ZF,N,n⟩,D⟩)
   simp[intOf];omega
  |true=>
   obtain⟨b0,aL,ao,b2,bu,R,bd,bO,bY,cd⟩:=n.1.st.cells;have cu:=n.1.st.idxs;have e1:(0:Int)<=(P.i:Int):=N;go_upto_region 5 with fail;have a4:=A (Kt (n.1.rH bm (aP Yu) (Ld _)) (n.2.trans (qw.aS (b:=b) (grownBy_set ce g 1 (C E ((P.i+1:Nat):Int))))));clear b0 aL ao b2 bu R bd bO bY cd cu e1;go_wp2_with fail;refine(aQ _ _ a4.1.st _).mono ?_;rintro a7 r ⟨rfl,b6,p⟩;have cS:=A (Kt (a4.1.out a4.1.box.lt bm p) (a4.2.trans (qw.aS p.grown)));clear p;obtain⟨al,am,ax,aW,T,bi,bM,a5,a6,aq,aZ,aO,be,bI⟩:=aK cS.1.box;go_upto_region 7 with fail;clear al am ax aW T bi bM a5 a6 aq aZ aO be bI;have bh:=A (Kt (cS.1.jd (k:=0) (u:=C E (25+(z:Int))) (op':=25+(z:Int)) s D N cS.1.nm) (cS.2.trans (qw.dN g b 0 r (C E (25+(z:Int))))));have x:∀(B:L) (W:fV) (cV bW:ByteArray),rJ w g t v toks S W rest b (25+(z:Int)) cV bW a B->qw g b aC B->∃(y:Nat) (q:fV) (e:Int) (cH ar:ByteArray),Value.int E ((z:Int)+1)=C E y/\y<=7/\F (rJ w g t v toks S q rest b e cH ar a B/\qw g b aC B):=λB W cV bW o a8=>⟨z+1,W,_,cV,bW,ZF,N,A ⟨o,a8⟩⟩;have cN:=A x;clear x;obtain⟨e8,M⟩:∃e8,e8=r.setCell ⟨b,0,I⟩ (C E (25+(z:Int))):=⟨_,D⟩;rw[<-M] at bh⊢;clear M;obtain⟨al,am,ax,aW,T,bi,bM,a5,a6,aq,aZ,aO,be,bI⟩:=aK bh.1.box;rcases bS:((z:Int)== 0) with _|_
   ·go_upto_region 9 with fail;clear al am ax aW T bi bM a5 a6 aq aZ aO be bI;go_wp2_with fail;refine(dq _ _ bh.1.st).mono ?_;rintro a7 bt ⟨i,aw,rfl,dE,d6,l,a0⟩;have j:=A (Kt (bh.1.out bh.1.box.lt bm a0) (bh.2.trans (qw.aS a0.grown)));have dA:=A (Kt dE d6);clear a0 dE d6;obtain⟨al,am,ax,aW,T,bi,bM,a5,a6,aq,aZ,aO,be,bI⟩:=aK j.1.box;go_upto_region 10 with fail;clear al am ax aW T bi bM a5 a6 aq aZ aO be bI;have bg:=A (Kt ((j.1.jd (k:=4) (u:=H i) (nm':=i) s D N ⟨dA.1,j.1.nm.2⟩).jd (k:=5) (u:=H aw) (at':=aw) s D N dA) ((j.2.trans (qw.dN g b 4 bt (H i))).trans (qw.dN g b 5 _ (H aw))));exact OO
   go_upto_region 8 with fail;clear al am ax aW T bi bM a5 a6 aq aZ aO be bI;go_wp2_with fail;refine(aX _ _ bh.1.st).mono ?_;rintro a7 bt ⟨i,rfl,dE,l,a0⟩;have j:=A (Kt (bh.1.out bh.1.box.lt bm a0) (bh.2.trans (qw.aS a0.grown)));have dA:=A dE;clear a0 dE;obtain⟨al,am,ax,aW,T,bi,bM,a5,a6,aq,aZ,aO,be,bI⟩:=aK j.1.box;go_upto_region 10 with fail;clear al am ax aW T bi bM a5 a6 aq aZ aO be bI;have bg:=A (Kt (j.1.jd (k:=4) (u:=H i) (nm':=i) s D N ⟨dA,j.1.nm.2⟩) (j.2.trans (qw.dN g b 4 bt (H i))));exact OO
 have c0:(7:Int)<=(z:Int):=N;rcases ah:(e== 0) with _|_
 ·go_wp2_with fail;go_end0;exact⟨D,P,e,cH,ar,ci.1⟩
 go_wp2_with fail;refine(db _ _ ci.1.st).mono ?_;rintro a7 ce ⟨rfl,cw,d3,-,ai⟩;have n:=A (ci.1.out ci.1.box.lt bm ai);go_wp2_with fail;go_end0;exact⟨D,_,e,cH,ar,n.out⟩

import Derived.Test.YtcabmcfnjkeemaaGreatBM00
import Derived.Test.YtcabmcfnjkeemaaGreatB13
set_option maxRecDepth 100000
set_option maxHeartbeats 40000000
set_option linter.unusedVariables false
set_option linter.unusedSimpArgs false
namespace Go.Proofs.YtcabmcfnjkeemaaGreat
open Go.Deep Go.RowKit
open Go renaming World->L,Value->O
open Go.IntKind renaming i64->E
open Go.Obj renaming cells->JO
open Go.RowKit renaming Hid->F,Below->JK
open Go.Value renaming int->C,slice->G,string->H,bool->JM
open Option renaming none->I,some->J
def agj (_:Nat->Prop) (_:L) (cs:List O) (x:nZ):Prop:=cs=(zh x).toList/\aem x
theorem uj:bZ agj:=λ_ _ _ _ _ _ h _ _=>h
def aa2 (_:L) (cs:List O) (x:nZ):Prop:=cs=(zh x).toList/\aem x
def xQ (Q:Nat->Prop) (w:L) (cs:List O) (l:List nZ):Prop:=∃v,cs=[v]/\aX Q 4 aa2 w v l
theorem eY:bZ xQ:=λQ b w aF bj aa h ah a1=>by
 obtain⟨bc,o,a8⟩:=h
 exact⟨bc,o,a8.keep ah a1 λ_ _ h=>h⟩
theorem aeQ(x:nZ):∀u∈(zh x).toList,u.oneCell'=true:=by intro u ap;simp only[zh,List.mem_cons,List.not_mem_nil,or_false] at ap;rcases ap with rfl|rfl|rfl|rfl <;> rfl
theorem ac1:kH Tryz.prog 133 178 4 48:=kH.of (z:=.agg #[C E 0,H ⟨#[]⟩,H ⟨#[]⟩,C E 0]) Tryz.underlying133 U D Z
theorem DJ:kH Tryz.prog 59 133 1 24:=kH.of (z:=G I 0 0) Tryz.underlying59 U D Z
def fG (vb vw:O) (st wi:Int) (key:ByteArray) (ka:Int):List O:=[vb,vw,C E st,C E wi,H key,C E ka]
structure QS (w0 W:L) (g:Nat) (v:O) (toks:List dI) (S:fV) (vb:O) (bs:List (List nZ)) (css:List (List O)) (vw:O) (st wi:Int) (key:ByteArray) (ka:Int):Prop where
 st:eP W g 119 v toks S (fG vb vw st wi key ka)
 acc:Acc (g+1) 133 1 xQ W vb bs css
 bel:JK g w0 W
variable{key:ByteArray}{ka st wi:Int}{W W' w w0:L}{rest:List O}{toks:List dI}{g:Nat}{v vb vw:O}{S S':fV}
section
variable {bs:List (List nZ)} {css:List (List O)}
theorem QS.more(h:QS w0 W g v toks S vb bs css vw st wi key ka)(k:bT W g 119 v toks S S' (fG vb vw st wi key ka) W'):QS w0 W' g v toks S' vb bs css vw st wi key ka:=
 ⟨k.st,h.acc.up eY (mZ.aS k.grown (KP _)),h.bel.grown k.grown (KI h.st.blk.lt) λa4 bK=>by injection bK with bK;omega⟩
theorem QS.below(h:QS w0 W g v toks S vb bs css vw st wi key ka)(k:JK W.heap.size W W'):QS w0 W' g v toks S vb bs css vw st wi key ka:=h.more (bT.of_below h.st k)
theorem eP.ad4{t:TypeId}{rest':List O}(h:eP w g t v toks S rest){k:Nat}{u:O}(aw:(cellsS v S rest).set k u=cellsS v S rest'):eP (w.setCell ⟨g,k,I⟩ u) g t v toks S rest':=by have d:=h.blk.bJ k u;rw[List.setIfInBounds_toArray,aw] at d;have ab:=grownBy_set w g k u;exact⟨d,h.tok.keep (aF.aS ab λy d=>Zv) (λ_ h=>h) λ_ _ h=>h,h.ok,h.idx⟩
def agS (w:L) (g:Nat) (v:O) (toks:List dI) (S:fV) (bs:List (List nZ)) (vw:O) (st wi:Int) (key:ByteArray) (ka:Int) (e:Ending) (w':L):Prop:=
 e=.returned (.tuple #[])/\∃(S':fV) (vb':O) (bs':List (List nZ)) (css':List (List O)),QS w w' g v toks S' vb' bs' css' vw st wi key ka/\S.i<=S'.i/\bs'.length=bs.length+1
structure BLp (w4 wr:L) (g:Nat) (v:O) (toks:List dI) (S3 S5:fV) (rest:List O) (vl:O) (items:List nZ) (css:List (List O)):Prop where
 out:bT w4 g 119 v toks S3 S5 rest wr
 acc:Acc w4.heap.size 178 4 agj wr vl items css
theorem BLp.more{r wr:L}{ah T l:fV}{aM:O}{b:List nZ}(h:BLp r wr g v toks ah T rest aM b css)(ab:g < r.heap.size)(k:bT wr g 119 v toks T l rest W'):BLp r W' g v toks ah l rest aM b css:=
 ⟨h.out.trans k,h.acc.up uj (mZ.aS k.grown ab)⟩
theorem zM(h:QS w w g v toks S vb bs css vw st wi key ka)(au:bs.length<=4001):Calls Tryz.prog 33 #[.pointer (J ⟨g,0,I⟩)] w (agS w g v toks S bs vw st wi key ka):=by
 have dj:=A (λB S (h:eP B g 119 v toks S (fG vb vw st wi key ka)) ba=>oD h ba);have db:=A (λB S (h:eP B g 119 v toks S (fG vb vw st wi key ka))=>kK h 2 Z);have aQ:=A (λB S (h:eP B g 119 v toks S (fG vb vw st wi key ka)) ba=>qJ h ba);have cB:=A (λB S M (h:eP B g 119 v toks S (fG vb vw st wi key ka))=>adp h M);obtain⟨cg,ck,rfl⟩:=aB h.acc.1;have bq:=A h;have e9:=A au;clear h au;go_in;go_upto_region 0 with fail;go_cut [23] from 3 to 23 (λz bn=>∃d2:Bool,z=JM d2/\F (QS w bn g v toks S (G cg bs.length ck) bs css vw st wi key ka));case first=>
  obtain⟨b0,aL,ao,b2,bu,R,bd,bO,bY,cd⟩:=bq.st.cells;rcases bS:(S.er== 0) with _|_
  ·go_wp2_with fail;go_meet;exact⟨_,D,bq⟩
  go_wp2_with fail;refine(dj _ _ bq.st _).mono ?_;rintro a7 ce ⟨c0,rfl,-,cq⟩;have bx:=A (bq.below cq);clear cq b0 aL ao b2 bu R bd bO bY cd;have aJ:=bx.st.blk.cell 5;change ce.cell? ⟨g,5,I⟩=J (G cg bs.length ck) at aJ;rcases c0 with _|_;all_goals(go_wp2_with fail;go_meet;exact⟨_,D,bx⟩)
 obtain⟨d2,rfl,aV⟩:=hcut;clear bq;go_upto_if 23 with fail;go_cut [] (λbn=>∃P:fV,F (QS w bn g v toks P (G cg bs.length ck) bs css vw st wi key ka/\S.i<=P.i));case first=>
  rcases d2 with _|_
  ·go_wp2_with fail;go_meet;exact⟨S,A ⟨aV,KD _⟩⟩
  go_wp2_with fail;refine(db _ _ aV.st).mono ?_;rintro a7 ce ⟨rfl,cw,ar,-,ai⟩;have bx:=A (aV.more ai);clear ai;go_wp2_with fail;go_meet;exact⟨_,A ⟨bx,KD _⟩⟩
 obtain⟨P,bx⟩:=hcut;clear aV;go_wp2_with fail;refine(aQ _ _ bx.1.st _).mono ?_;rintro a7 b1 ⟨rfl,a2,ai⟩;have bb:=A (show QS w b1 g v toks a2 (G cg bs.length ck) bs css vw st wi key ka/\S.i<=a2.i from⟨bx.1.more ai,Ko bx.2 ai.le⟩);clear ai;go_wp2_with fail;refine(aQ _ _ bb.1.st _).mono ?_;rintro a7 r ⟨rfl,ah,ai⟩;have bX:=A (show QS w r g v toks ah (G cg bs.length ck) bs css vw st wi key ka/\S.i<=ah.i from⟨bb.1.more ai,Ko bb.2 ai.le⟩);clear ai;have dA:=A bX.1.st.blk.lt;go_wp2_with fail;go_loopw [2] (λaM wr=>∃(T:fV) (b:List nZ) (f:List (List O)),F (BLp r wr g v toks ah T (fG (G cg bs.length ck) vw st wi key ka) aM b f/\b.length<=T.i)) (λ_ wr=>toks.length-iOf g wr);case atStart=>exact⟨ah,[],[],A ⟨⟨bT.refl bX.1.st,Acc.nil _⟩,Kw _⟩⟩
 obtain⟨T,b,f,ci⟩:=hrel;obtain⟨di,dq,rfl⟩:=aB ci.1.acc.1;obtain⟨b0,aL,ao,b2,bu,R,bd,bO,bY,cd⟩:=ci.1.out.st.cells;have dB:=A (show b.length<=4001 by have o:=ci.2;have a8:=ci.1.out.st.idx;have ac:=ci.1.out.st.ok.len;omega);rcases a6:(T.er== 0) with _|_
 ·go_upto_region 9 with fail;clear b0 aL ao b2 bu R bd bO bY cd;go_wp2_with fail;refine(aQ _ _ ci.1.out.st _).mono ?_;rintro a7 du ⟨rfl,a5,k⟩;have bC:=A (ci.1.more dA k);clear k;have aJ:du.cell? ⟨g,5,I⟩=J (G cg bs.length ck):=bC.out.out.st.blk.cell 5;have s:F (xQ (λy=>r.heap.size<=y/\y < du.heap.size) du [G di b.length dq] b):=A ⟨_,D,(bC.acc.done uj).keep (λ_ _ _ h=>h) (λ_ h=>h) λ_ _ h=>h⟩;go_upto_region 10 with fail;go_wp2_with (at_builtin;refine tV DJ eY D _ _ D bX.out.1.acc (Nat.succ_le_of_lt dA.out) (mZ.aS bC.out.out.grown (KP _)) (cs:=[G di b.length dq]) (x:=b) D s.out VY (by have:=e9.out;omega) WM D D ?_;intro cD cX bJ cN br;have V:=A cN;have e:=A br;have bm:J g≠(Value.slice cg bs.length ck).ownBlock:=(λa7=>by have:=br.ge g a7.symm;omega);have Y:bJ.cell? ⟨g,5,I⟩=J (G cg bs.length ck):=(bC.out.out.st.blk.grown br.grown bm).cell 5;have a1:=(bC.out.out.st.blk.grown br.grown bm).frozen 5;clear cN br bm);go_end0;have bm:J g≠(Value.slice cg bs.length ck).ownBlock:=λa7=>by have:=e.ge g a7.symm;omega
  have W:eP bJ g 119 v toks a5 (fG (G cg bs.length ck) vw st wi key ka):=⟨bC.out.out.st.blk.grown e.grown bm,bC.out.out.st.tok.keep (aF.aS e.grown λy d a7=>by have:=e.ge y a7.symm;omega) (λ_ h=>h) λ_ _ h=>h,bC.out.out.st.ok,bC.out.out.st.idx⟩;refine⟨D,a5,G cD (bs.length+1) cX,bs++[b],_,⟨W.ad4 D,V.up eY (mZ.aS (grownBy_set _ _ _ _) (KP _)),?_⟩,Ko bX.2 bC.out.out.le,ZH⟩;exact Qd
 go_upto_region 6 with fail;clear b0 aL ao b2 bu R bd bO bY cd;go_wp2_with fail;refine(cB _ _ b.length ci.1.out.st).mono ?_;rintro a7 bt ⟨aa,l,rfl,ad,a0⟩;have j:=A (ci.1.more dA a0);have q:=A ad;have e8:=A a0.le;clear ad a0;unfold zh;go_upto_region 7 with(at_builtin;refine tV ac1 uj D _ _ D j.out.acc j.out.out.grown.size (mZ.refl _ _) (cs:=(zh aa).toList) (x:=aa) D ⟨D,q.out⟩ (aeQ _) Yl WJ D D ?_;intro cl ch cU cN br;have t:=A cN;have b3:=A br;clear cN br);have bg:=A (show BLp r cU g v toks ah l (fG (G cg bs.length ck) vw st wi key ka) (G cl (b.length+1) ch) (b++[aa]) (f++[(zh aa).toList]) from⟨j.out.out.app b3 c dA,t.out⟩);go_cut [61] from 49 to 61 (λz bn=>∃d2:Bool,z=JM d2/\F (d2=false->l.i+1 < toks.length)/\F (BLp r bn g v toks ah l (fG (G cg bs.length ck) vw st wi key ka) (G cl (b.length+1) ch) (b++[aa]) (f++[(zh aa).toList])));case first=>
  obtain⟨b0,aL,ao,b2,bu,R,bd,bO,bY,cd⟩:=bg.out.out.st.cells;rcases al:(l.er !=0) with _|_
  ·go_wp2_with fail;refine(dj _ _ bg.out.out.st _).mono ?_;rintro a7 da ⟨bl,rfl,m,bj⟩;have aA:=A (bg.more dA (bT.of_below bg.out.out.st bj));have aP:=A m;clear bj m b0 aL ao b2 bu R bd bO bY cd;rcases bl with _|_
   ·go_wp2_with fail;go_meet;exact⟨_,D,A (λh=>ZC),aA⟩
   go_wp2_with fail;go_meet;exact⟨_,D,A (λ_=>aP Yu),aA⟩
  go_wp2_with fail;go_meet;exact⟨_,D,A (λh=>ZC),bg⟩
 obtain⟨d2,rfl,aP,aA⟩:=hcut;have a3:=A (show(b++[aa]).length=b.length+1 by simp);rcases d2 with _|_
 ·obtain⟨b0,aL,ao,b2,bu,R,bd,bO,bY,cd⟩:=aA.out.out.st.cells;have bl:=aA.out.out.st.idxs;have dN:(0:Int)<=(l.i:Int):=N;have bH:=A (aP Yu);go_wp2_with fail;have X:=A (show BLp r (wc.setCell ⟨g,1,I⟩ (C E ((l.i:Int)+1))) g v toks ah {l with i:=l.i+1} (fG (G cg bs.length ck) vw st wi key ka) (G cl (b.length+1) ch) (b++[aa]) (f++[(zh aa).toList])/\(b++[aa]).length<=l.i+1 from⟨aA.more dA ⟨aA.out.out.st.rH (n:=l.i+1) bH,grownBy_set _ _ _ _,Ld _⟩,by have o:=ci.2;have a8:=e8.out;rw[a3.out];omega⟩);go_roundw;case rel=>
   first
   |exact⟨_,_,_,X⟩
   |((repeat apply KL);exact⟨⟨_,_,_,X⟩,D⟩)
  rw[X.1.out.st.iOf,ci.1.out.st.iOf];have o:=e8.out;have a8:=bH.out;simp only;omega
 go_upto_region 9 with fail;skip;go_wp2_with fail;refine(aQ _ _ aA.out.out.st _).mono ?_;rintro a7 du ⟨rfl,a5,k⟩;have bC:=A (aA.more dA k);clear k;have aJ:du.cell? ⟨g,5,I⟩=J (G cg bs.length ck):=bC.out.out.st.blk.cell 5;have s:F (xQ (λy=>r.heap.size<=y/\y < du.heap.size) du [G cl (b.length+1) ch] (b++[aa])):=A ⟨_,D,(bC.acc.done uj).keep (λ_ _ _ h=>h) (λ_ h=>h) λ_ _ h=>h⟩;go_upto_region 10 with fail;go_wp2_with (at_builtin;refine tV DJ eY D _ _ D bX.out.1.acc (Nat.succ_le_of_lt dA.out) (mZ.aS bC.out.out.grown (KP _)) (cs:=[G cl (b.length+1) ch]) (x:=(b++[aa])) D s.out VY (by have:=e9.out;omega) WM D D ?_;intro cD cX bJ cN br;have V:=A cN;have e:=A br;have bm:J g≠(Value.slice cg bs.length ck).ownBlock:=(λa7=>by have:=br.ge g a7.symm;omega);have Y:bJ.cell? ⟨g,5,I⟩=J (G cg bs.length ck):=(bC.out.out.st.blk.grown br.grown bm).cell 5;have a1:=(bC.out.out.st.blk.grown br.grown bm).frozen 5;clear cN br bm);go_end0;have bm:J g≠(Value.slice cg bs.length ck).ownBlock:=λa7=>by have:=e.ge g a7.symm;omega
 have W:eP bJ g 119 v toks a5 (fG (G cg bs.length ck) vw st wi key ka):=⟨bC.out.out.st.blk.grown e.grown bm,bC.out.out.st.tok.keep (aF.aS e.grown λy d a7=>by have:=e.ge y a7.symm;omega) (λ_ h=>h) λ_ _ h=>h,bC.out.out.st.ok,bC.out.out.st.idx⟩;refine⟨D,a5,G cD (bs.length+1) cX,bs++[(b++[aa])],_,⟨W.ad4 D,V.up eY (mZ.aS (grownBy_set _ _ _ _) (KP _)),?_⟩,Ko bX.2 bC.out.out.le,ZH⟩;exact Qd
end
attribute [local go_sem ↓] Go.wp_at_zero Go.wp_at_succ
section
variable {bs:List (List nZ)} {css:List (List O)}
def EU (B:Nat) (W:L) (vw:O):Prop:=∃l:List ED,aX (λb=>B<=b/\b < W.heap.size) 7 (iD (λb=>B<=b/\b < W.heap.size)) W vw l/\(l.map aP).sum<=8003/\l.length<=8003
theorem EU.grown{B:Nat}(h:EU B W vw)(k:W.grownBy W' (J g))(ab:g < B):EU B W' vw:=by
 obtain⟨bP,o,a8⟩:=h;have ah:aF (λy=>B<=y/\y < W.heap.size) W W':=aF.aS k λy d=>by simp;omega
 have a1:∀y,(B<=y/\y < W.heap.size)->(B<=y/\y < W'.heap.size):=λy d=>⟨d.1,Kv d.2 k.size⟩;exact⟨bP,o.keep ah a1 λ_ _ h=>h.keep ah a1,a8⟩
theorem aeh(B:Nat)(W:L):EU B W (G I 0 0):=⟨[],aX.nil _ _ _,ZH,ZH⟩
theorem aC{K:Act->L->Prop}{a:Act}{Φ:L->Prop}(h:Φ W)(k:∀W',Φ W'->K a W'):K a W:=k W h
def agF (w:L) (g:Nat) (v:O) (toks:List dI) (S:fV) (vb:O) (bs:List (List nZ)) (css:List (List O)) (st wi:Int) (key:ByteArray) (ka:Int) (e:Ending) (w':L):Prop:=
 e=.returned (.tuple #[])/\∃(S':fV) (vw':O),QS w w' g v toks S' vb bs css vw' st wi key ka/\EU w.heap.size w' vw'
theorem acu(h:QS w w g v toks S vb bs css (G I 0 0) st wi key ka):Calls Tryz.prog 35 #[.pointer (J ⟨g,0,I⟩)] w (agF w g v toks S vb bs css st wi key ka):=by
 have dj:=A (λB S (h:eP B g 119 v toks S (fG vb (G I 0 0) st wi key ka)) ba=>oD h ba);have bq:=A h;have ds:=A h.st.blk.lt;have aE:=A (bT.refl h.st);have aJ:∀(B:L) (P:fV),bT w g 119 v toks S P (fG vb (G I 0 0) st wi key ka) B->agF w g v toks S vb bs css st wi key ka (.returned (.tuple #[])) B:=λB P ai=>⟨D,P,_,h.more ai,aeh _ _⟩;have ck:=A aJ;clear h aJ;go_in;obtain⟨b0,aL,ao,b2,bu,R,bd,bO,bY,cd⟩:=aE.out.st.cells;rcases bS:(S.er !=0) with _|_
 ·go_wp2_with fail;refine(dj _ _ aE.out.st _).mono ?_;rintro a7 ce ⟨c0,rfl,m,cq⟩;have a':=A (aE.out.below cq);have aP:=A m;clear cq m b0 aL ao b2 bu R bd bO bY cd;rcases c0 with _|_
  ·go_wp2_with fail;go_end0;exact ck _ _ a'.out
  obtain⟨b0,aL,ao,b2,bu,R,bd,bO,bY,cd⟩:=a'.out.st.cells;have bl:=a'.out.st.idxs;have dN:(0:Int)<=(S.i:Int):=N;go_upto_region 2 with fail;refine aI (Φ:=λB=>∃P,bT w g 119 v toks S P (fG vb (G I 0 0) st wi key ka) B) ⟨_,a'.out.trans ⟨a'.out.st.rH (n:=S.i+1) (aP Yu),grownBy_set _ _ _ _,Ld _⟩⟩ ?_;rintro dZ ⟨P,ac⟩;have x:=A ac;clear ac b0 aL ao b2 bu R bd bO bY cd bl dN a' aP;obtain⟨b4,bg⟩:∃b4,b4=World.drew dZ:=⟨_,D⟩;have q:=A (show bT w g 119 v toks S P (fG vb (G I 0 0) st wi key ka) b4 by rw[bg];exact x.out.below (JY.drew));have f:F (b4.cell? ⟨g,0,I⟩=J v/\b4.cell? ⟨g,1,I⟩=J (C E P.i)):=A ⟨q.out.st.blk.cell 0,q.out.st.blk.cell 1⟩;refine aG (λB=>B.cell? ⟨g,0,I⟩=J v/\B.cell? ⟨g,1,I⟩=J (C E P.i)) (λa4=>!([0,1,2,3,4,5,6,7,8,9,10,11,12,13,14,15,16,17,18,19,20]:List Nat).contains a4) U ?_;rw[<-bg];clear bg;refine tl 0 f ?_;refine tl 1 f ?_;refine tl 2 f ?_;refine tl 3 f ?_;refine tl 4 f ?_;refine tl 5 f ?_;refine tl 6 f ?_;refine tl 7 f ?_;refine tl 8 f ?_;refine tl 9 f ?_;refine bC (rs:=[10,16]) U ZH ?_;refine aN.cons D (λK j=>?_) ?_
  ·skip;go_simp;go_wp2_with (go_at_call 63;refine(Ij (q.out.st.tok.out λ_ _ h=>h) q.out.st.ok q.out.st.idx).mono ?_;rintro a7 b1 ⟨ak,bj,fw,d3,ap,rfl,a1,d,aT⟩);have t:=A (q.out.below d);have dr:=A aT;have cg:=A a1;have cx:=A d;clear a1 d aT;obtain⟨ca,c8,bD,dc,cV,bW,aw⟩:=ak;obtain⟨dg,rfl,⟨Y,a9,rfl,-⟩,-⟩:=cg.opened;have f:F (b1.cell? ⟨g,0,I⟩=J v/\b1.cell? ⟨g,1,I⟩=J (C E P.i)):=A ⟨t.out.st.blk.cell 0,t.out.st.blk.cell 1⟩;(refine j.out _ _ (λ_=>f) ?_;clear j K);refine tl 11 f ?_;refine tl 12 f ?_;refine tl 13 f ?_;refine tl 14 f ?_;refine tl 15 f ?_;refine t1 16 λK j=>?_;go_simp;obtain⟨X,bB⟩:∃B,B=b1.alloc (JO zE 139):=⟨_,D⟩;have aH:=A (show JK b1.heap.size b1 X by rw[bB];exact JY.alloc c _);obtain⟨b,M⟩:∃b,b=b1.heap.size:=⟨_,D⟩;have au:=A (show aj X b 139 zE by rw[bB,M];exact aj.new _ _ _);have ag:=A (t.out.below aH);have l:=A (show w.heap.size<=b by rw[M];exact t.out.grown.size);have cz:=A (show iD (λy=>w.heap.size<=y/\y≠b) X _ _ from cg.keep (aF.of_below aH λy d=>d.2) λy d=>by rw[M];have a8:=q.out.grown.size;omega);unfold zE at bB;rw[<-bB,<-M];clear bB M;have f:F (X.cell? ⟨g,0,I⟩=J v/\X.cell? ⟨g,1,I⟩=J (C E P.i)):=A ⟨ag.out.st.blk.cell 0,ag.out.st.blk.cell 1⟩;(refine j.out _ _ (λ_=>f) ?_;clear j K);exact NY
  refine aN.cons D (λK j=>?_) aN.nil;go_simp;obtain⟨df,bB⟩:∃B,B=b4.alloc (JO zE 139):=⟨_,D⟩;have aH:=A (show JK b4.heap.size b4 df by rw[bB];exact JY.alloc c _);obtain⟨b,M⟩:∃b,b=b4.heap.size:=⟨_,D⟩;have c6:=A (show aj df b 139 zE by rw[bB,M];exact aj.new _ _ _);have a':=A (q.out.below aH);have l:=A (show w.heap.size<=b by rw[M];exact q.out.grown.size);unfold zE at bB;rw[<-bB,<-M];clear bB M;have f:F (df.cell? ⟨g,0,I⟩=J v/\df.cell? ⟨g,1,I⟩=J (C E P.i)):=A ⟨a'.out.st.blk.cell 0,a'.out.st.blk.cell 1⟩;(refine j.out _ _ (λ_=>f) ?_;clear j K);refine t1 10 λK j=>?_;go_simp;go_wp2_with (go_at_call 63;refine(Ij (a'.out.st.tok.out λ_ _ h=>h) a'.out.st.ok a'.out.st.idx).mono ?_;rintro a7 X ⟨ak,bj,fw,d3,ap,rfl,a1,d,aT⟩);have t:=A (a'.out.below d);have dr:=A aT;have cg:=A a1;have cx:=A d;clear a1 d aT;obtain⟨ca,c8,bD,dc,cV,bW,aw⟩:=ak;obtain⟨dg,rfl,⟨Y,a9,rfl,-⟩,-⟩:=cg.opened;have au:=A (c6.below cx c6.lt);have cz:=A (cg.keep (λ_ _ _ h=>h) (Q':=λy=>w.heap.size<=y/\y≠b) λy d=>by have o:=c6.lt;have a8:=a'.out.grown.size;omega);have ag:=t;have f:F (X.cell? ⟨g,0,I⟩=J v/\X.cell? ⟨g,1,I⟩=J (C E P.i)):=A ⟨t.out.st.blk.cell 0,t.out.st.blk.cell 1⟩;(refine j.out _ _ (λ_=>f) ?_;clear j K);refine tl 11 f ?_;refine tl 12 f ?_;refine tl 13 f ?_;refine tl 14 f ?_;refine tl 15 f ?_;exact NY
 go_wp2_with fail;go_end0;exact ck _ _ aE.out
end
section
variable {st1:Int}
def QFP (w:L) (g:Nat) (t:TypeId) (v:O) (toks:List dI) (S:fV) (rest:List O) (e:Ending) (w':L):Prop:=e=.returned (.tuple #[])/\∃S',bT w g t v toks S S' rest w'/\S'.er≠0/\S'.i=S.i
theorem adL{t:TypeId}(h:eP w g t v toks S rest)(n:Int)(V:n≠0):Calls Tryz.prog 65 #[.pointer (J ⟨g,0,I⟩),C E n] w (QFP w g t v toks S rest):=by
 have db:=A (λB (h:eP B g t v toks S rest)=>kK h n V);have ae:=A h;obtain⟨b0,aL,ao,b2,bu,a5,a6,aq,aZ,aO⟩:=h.cells;clear h V;go_in;rcases bS:(S.er== 0) with _|_
 ·have bC:=A (show S.er≠0 by simpa using bS);go_wp2_with fail;go_end0;exact⟨D,S,bT.refl ae.out,bC,D⟩
 go_wp2_with fail;refine(db _ ae.out).mono ?_;rintro a7 ce ⟨rfl,cw,ar,bm,ai⟩;have aw:=A (Kt bm ai);clear bm ai;go_wp2_with fail;go_end0;exact⟨D,_,aw.2,aw.1,D⟩
structure xP (w:L) (g:Nat) (v:O) (toks:List dI) (S:fV) (vb vw:O) (st wi:Int) (key:ByteArray) (ka:Int) (W:L):Prop where
 st:eP W g 119 v toks S (fG vb vw st wi key ka)
 grown:w.grownBy W (J g)
theorem xP.more(h:xP w g v toks S vb vw st wi key ka W)(k:bT W g 119 v toks S S' (fG vb vw st wi key ka) W'):xP w g v toks S' vb vw st wi key ka W':=⟨k.st,h.grown.trans k.grown⟩
theorem xP.below(h:xP w g v toks S vb vw st wi key ka W)(k:JK W.heap.size W W'):xP w g v toks S vb vw st wi key ka W':=h.more (bT.of_below h.st k)
theorem xP.inc(h:xP w g v toks S vb vw st wi key ka W)(bL:S.i+1 < toks.length):xP w g v toks {S with i:=S.i+1} vb vw st wi key ka (W.setCell ⟨g,1,I⟩ (C E ((S.i:Int)+1))):=h.more ⟨h.st.rH (n:=S.i+1) bL,grownBy_set _ _ _ _,Ld _⟩
theorem xP.bJ{st' wi':Int}{key':ByteArray}{ka':Int}{k:Nat}{u:O}(h:xP w g v toks S vb vw st wi key ka W)(aw:(cellsS v S (fG vb vw st wi key ka)).set k u=cellsS v S (fG vb vw st' wi' key' ka')):xP w g v toks S vb vw st' wi' key' ka' (W.setCell ⟨g,k,I⟩ u):=⟨h.st.ad4 aw,h.grown.trans (grownBy_set _ _ _ _)⟩
def TlP (w:L) (g:Nat) (v:O) (toks:List dI) (vb vw:O) (e:Ending) (w':L):Prop:=
 e=.returned (.tuple #[])/\∃(S':fV) (st' wi':Int) (key':ByteArray) (ka':Int),xP w g v toks S' vb vw st' wi' key' ka' w'/\wfi st'/\wfi wi'/\key'.size<=4000/\wfi ka'
theorem aea(h:eP w g 119 v toks S (fG vb vw 0 0 ⟨#[]⟩ 0)):Calls Tryz.prog 36 #[.pointer (J ⟨g,0,I⟩)] w (TlP w g v toks vb vw):=by
 have dj:=A (λB S aw a1 e cc (h:eP B g 119 v toks S (fG vb vw aw a1 e cc)) ba=>oD h ba);have aQ:=A (λB S aw a1 e cc (h:eP B g 119 v toks S (fG vb vw aw a1 e cc)) ba=>qJ h ba);have db:=A (λB S aw a1 e cc M (h:eP B g 119 v toks S (fG vb vw aw a1 e cc)) V=>adL h M V);have aX:=A (λB S aw a1 e cc (h:eP B g 119 v toks S (fG vb vw aw a1 e cc))=>Ez h);have bq:=A (show xP w g v toks S vb vw 0 0 ⟨#[]⟩ 0 w from⟨h,Nj _ _⟩);have ds:=A h.blk.lt;clear h;go_in;go_wp2_with fail;refine(aQ _ _ _ _ _ _ bq.st _).mono ?_;rintro a7 aC ⟨rfl,P,ai⟩;have aV:=A (bq.more ai);clear ai bq;go_upto_region 2 with fail;obtain⟨df,a0⟩:∃df,df=aC.alloc (JO #[H ⟨#[83,84,82,73,67,84]⟩,H ⟨#[78,69,88,84]⟩,H ⟨#[65,78,89]⟩] 9):=⟨_,D⟩;have f:=A (show Dw df aC.heap.size (J ⟨aC.heap.size,0,I⟩) 3 by rw[a0];exact jD aC _ _ _ D 3 D);have bx:=A (show xP w g v toks P vb vw 0 0 ⟨#[]⟩ 0 df by rw[a0];exact aV.below (JY.alloc c _));have bc:=A aV.st.blk.lt;rw[<-a0];clear a0 aV;generalize aC.heap.size=bR at*;go_loopw [10] (λa3 wr=>∃(z:Nat) (a2:fV) (b:Int),a3=C E z/\z<=3/\F (xP w g v toks a2 vb vw b 0 ⟨#[]⟩ 0 wr)/\F (wfi b)/\F (df.grownBy wr (J g))) (λa3 _=>3-(intOf a3).toNat);case atStart=>exact⟨0,P,0,D,Kw _,bx,A bP,A (Nj _ _)⟩
 obtain⟨z,a2,b,rfl,aS,ci,cm,d⟩:=hrel;have ct:(0:Int)<=(z:Int):=N;by_cases bA:z < 3
 ·have c0:(z:Int) < 3:=N;obtain⟨aE,b8,cE,cF,aB⟩:=f.out;injection cE with cE;injection cE with b3 bh;obtain⟨u,ap,-⟩:=aB z bA;subst b3 bh;rw[Ls] at ap;have aM:wr.cell? ⟨bR,z,I⟩=J (H u):=(KJ (d.block bR (ay ap) (by have:=bc.out;simp;omega))).trans ap;clear ap aB cF;go_upto_region 4 with fail;clear aM;go_cut [35] from 15 to 35 (λp bn=>∃d2:Bool,p=JM d2/\F (d2=true->a2.i+1 < toks.length)/\F (xP w g v toks a2 vb vw b 0 ⟨#[]⟩ 0 bn)/\F (df.grownBy bn (J g)));case first=>
   obtain⟨b0,aL,ao,b2,bu,R,bd,bO,bY,cd⟩:=ci.st.cells;have aK:wr.cell? ⟨g,7,I⟩=J (C E b):=ci.st.blk.cell 7;rcases bS:(a2.er== 0) with _|_
   ·go_wp2_with fail;go_meet;exact⟨_,D,A (λh=>ZC),ci,d⟩
   rcases ag:(b== 0) with _|_
   ·go_wp2_with fail;go_meet;exact⟨_,D,A (λh=>ZC),ci,d⟩
   go_wp2_with fail;refine(dj _ _ _ _ _ _ ci.st _).mono ?_;rintro a7 r ⟨e1,rfl,m,cG⟩;have bX:=A (ci.below cG);have dA:=A (d.trans (aT cG (J g)));have aP:=A m;clear cG m b0 aL ao b2 bu R bd bO bY cd aK;go_wp2_with fail;go_meet;exact⟨_,D,aP,bX,dA⟩
  obtain⟨d2,rfl,aP,bX,dA⟩:=hcut;rcases d2 with _|_
  ·go_wp2_with fail;go_roundw;case rel=>
    first
    |exact⟨z+1,a2,b,ZF,N,bX,cm,dA⟩
    |((repeat apply KL);exact⟨⟨z+1,a2,b,ZF,N,bX,cm,dA⟩,D⟩)
   simp[intOf];omega
  have aK:wc.cell? ⟨g,7,I⟩=J (C E b):=bX.st.blk.cell 7;have b7:=bX.st.blk.frozen 7;go_upto_region 6 with fail;refine aI (Φ:=λB=>xP w g v toks a2 vb vw ((z:Int)+1) 0 ⟨#[]⟩ 0 B/\df.grownBy B (J g)) ⟨bX.bJ (k:=7) (st':=(z:Int)+1) D,dA.trans (grownBy_set _ _ _ _)⟩ ?_;intro e8 bz;have s:=A bz;clear bz aK b7;obtain⟨b0,aL,ao,b2,bu,R,bd,bO,bY,cd⟩:=s.1.st.cells;have bl:=s.1.st.idxs;have dN:(0:Int)<=(a2.i:Int):=N;have bs:=A (s.1.inc (aP Yu));have bQ:=A (s.2.trans (grownBy_set e8 g 1 (C E ((a2.i:Int)+1))));have an:=A (show wfi ((z:Int)+1) from aA N N);go_wp2_with fail;go_roundw;case rel=>
   first
   |exact⟨z+1,_,_,ZF,N,bs,an,bQ⟩
   |((repeat apply KL);exact⟨⟨z+1,_,_,ZF,N,bs,an,bQ⟩,D⟩)
  simp[intOf];omega
 have cr:(3:Int)<=(z:Int):=N;obtain⟨b1,dh⟩:∃b1,b1=wr:=⟨wr,D⟩;subst dh;clear f d;have aK:b1.cell? ⟨g,7,I⟩=J (C E b):=ci.st.blk.cell 7;go_upto_if 57 with fail;clear aK;go_cut [] (λbn=>∃ah:fV,F (xP w g v toks ah vb vw b 0 ⟨#[]⟩ 0 bn));case first=>
  rcases ag:(b== 0) with _|_
  ·go_wp2_with fail;go_meet;exact⟨a2,ci⟩
  go_wp2_with fail;refine(db _ _ _ _ _ _ 13 ci.st Z).mono ?_;rintro a7 r ⟨rfl,ah,ai,-,-⟩;have bX:=A (ci.more ai);clear ai;go_wp2_with fail;go_meet;exact⟨ah,bX⟩
 obtain⟨ah,bb⟩:=hcut;clear ci;go_wp2_with fail;refine(aQ _ _ _ _ _ _ bb.st _).mono ?_;rintro a7 r ⟨rfl,b6,ai⟩;have bX:=A (bb.more ai);clear ai bb;go_upto_region 11 with fail;obtain⟨aa,y,b5,a9,ad,bN,af,o,a8,b',bv,bo,bZ,c5⟩:=bX.st.cur;have q:=A (Kt ad bN);subst af;unfold maxLen at a8;have dz:=bX.st.idxs;have e1:(0:Int)<=(b6.i:Int):=N;have bE:(b6.i:Int) < (toks.length:Int):=by have:=bX.st.idx;omega
 obtain⟨b0,aL,ao,b2,bu,R,bd,bO,bY,cd⟩:=bX.st.cells;clear ad bN;go_cut [85] (λp bn=>∃(d2:Bool) (nq:Nat),p=JM d2/\F (d2=false->b6.er=0->aa.kind=3)/\bn=r.drewN nq);case first=>
  refine MO U U ?_;repeat (any_goals(first|go_big_quiet_step (fail)|quiet_step (fail)|(refine MP (λK j=>?_);go_simp;split <;> (refine j _ ?_;clear j K))))
  all_goals(refine MQ ?_;intro _ ab;obtain⟨nq,b4⟩:=ab;subst b4)
  all_goals go_wp2_with fail
  all_goals(go_meet;refine⟨_,_,D,A ?_,D⟩;first|(intro h;cases h;done)|(intro h X;contradiction)|(intro h X;simpa using h))
 obtain⟨d2,nq,rfl,e3,aG⟩:=hcut;have s:=A (show xP w g (G (J ⟨y,b5,I⟩) toks.length a9) toks b6 vb vw b 0 ⟨#[]⟩ 0 wc by rw[aG];exact bX.below (below_drewN JY _));clear aG b0 aL ao b2 bu R bd bO bY cd b' bv bo bZ c5 bX;go_upto_if 85 with fail;go_cut [] (λbn=>∃T:fV,F (xP w g (G (J ⟨y,b5,I⟩) toks.length a9) toks T vb vw b 0 ⟨#[]⟩ 0 bn/\T.i=b6.i/\(T.er=0->aa.kind=3)));case first=>
  rcases d2 with _|_
  ·go_wp2_with fail;go_meet;exact⟨b6,A ⟨s,D,e3 Yu⟩⟩
  go_wp2_with fail;refine(db _ _ _ _ _ _ 13 s.st Z).mono ?_;rintro a7 bt ⟨rfl,l,ai,aF,i⟩;have bs:=A (Kt (s.more ai) (Kt aF i));clear ai aF i;go_wp2_with fail;go_meet;exact⟨l,A ⟨bs.1,bs.2.2,λh=>absurd h bs.2.1⟩⟩
 obtain⟨T,bs⟩:=hcut;go_upto_region 13 with fail;have au:=A (yH bs.1.st q.1);have t:T.i=b6.i:=bs.2.1;obtain⟨b0,aL,ao,b2,bu,R,bd,bO,bY,cd⟩:=bs.1.st.cells;rw[t] at aL;have aH:=A t;clear t;obtain⟨b',bv,bo,bZ,c5⟩:=au.out;obtain⟨bt,ar⟩:∃bt,bt=wc:=⟨wc,D⟩;subst ar;clear s e3;go_cut [109] (λp bn=>∃(d2:Bool) (nq:Nat),p=JM d2/\bn=bt.drewN nq);case first=>exact Pm
 obtain⟨d2,nq,rfl,aG⟩:=hcut;have cJ:=A (show xP w g (G (J ⟨y,b5,I⟩) toks.length a9) toks T vb vw b 0 ⟨#[]⟩ 0 wc by rw[aG];exact bs.1.below (below_drewN JY _));have n:=A (Kt bs.2.1 bs.2.2);clear aG b0 aL ao b2 bu R bd bO bY cd b' bv bo bZ c5 bs au;go_upto_if 109 with fail;go_cut [] (λbn=>∃l:fV,F (xP w g (G (J ⟨y,b5,I⟩) toks.length a9) toks l vb vw b 0 ⟨#[]⟩ 0 bn/\l.i=b6.i/\(l.er=0->aa.kind=3)));case first=>
  rcases d2 with _|_
  ·go_wp2_with fail;go_meet;exact⟨T,A ⟨cJ,n.1,n.2⟩⟩
  go_wp2_with fail;refine(db _ _ _ _ _ _ 1 cJ.st Z).mono ?_;rintro a7 da ⟨rfl,ak,ai,aF,i⟩;have bL:=A (Kt (cJ.more ai) (Kt aF (i.trans n.1)));clear ai aF i;go_wp2_with fail;go_meet;exact⟨ak,A ⟨bL.1,bL.2.2,λh=>absurd h bL.2.1⟩⟩
 obtain⟨l,bL⟩:=hcut;clear cJ n;obtain⟨b0,aL,ao,b2,bu,R,bd,bO,bY,cd⟩:=bL.1.st.cells;rw[bL.2.1] at aL;obtain⟨b',bv,bo,bZ,c5⟩:=yH bL.1.st q.1;rcases al:(l.er !=0) with _|_
 ·have cP:=A (show l.er=0 by simpa using al);have bH:=A (show l.i+1 < toks.length by rw[bL.2.1];exact bL.1.st.ok.more q.1 (by rw[bL.2.2 cP.out];decide));have aZ:wc.cell? ⟨g,8,I⟩=J (C E 0):=bL.1.st.blk.cell 8;have cb:=bL.1.st.blk.frozen 8;go_upto_region 16 with fail;go_region;go_upto_region 17 with fail;refine aI (Φ:=xP w g (G (J ⟨y,b5,I⟩) toks.length a9) toks l vb vw b aa.n ⟨#[]⟩ 0) ((bL.1.bJ (k:=8) (wi':=aa.n) D).below (JY.drew)) ?_;intro cX aD;have bp:=A aD;clear aD b0 aL ao b2 bu R bd bO bY cd b' bv bo bZ c5 aZ cb;obtain⟨b0,aL,ao,b2,bu,R,bd,bO,bY,cd⟩:=bp.st.cells;have aN:=bp.st.idxs;have c2:(0:Int)<=(l.i:Int):=N;go_upto_region 18 with fail;refine aI (Φ:=λB=>∃W,xP w g (G (J ⟨y,b5,I⟩) toks.length a9) toks W vb vw b aa.n ⟨#[]⟩ 0 B) ⟨_,bp.inc bH.out⟩ ?_;rintro e6 ⟨W,cL⟩;have c9:=A cL;clear cL b0 aL ao b2 bu R bd bO bY cd aN c2;go_wp2_with fail;refine(dj _ _ _ _ _ _ c9.st _).mono ?_;rintro a7 bJ ⟨az,rfl,m,av⟩;have cC:=A (c9.below av);have aP:=A m;clear m av;rcases az with _|_
  ·go_wp2_with fail;go_end0;exact⟨D,W,b,aa.n,⟨#[]⟩,0,cC,cm,q.2.2.2.1,Kw _,bP⟩
  obtain⟨b0,aL,ao,b2,bu,R,bd,bO,bY,cd⟩:=cC.st.cells;have aN:=cC.st.idxs;have c2:(0:Int)<=(W.i:Int):=N;go_upto_region 20 with fail;refine aI (Φ:=λB=>∃ak,xP w g (G (J ⟨y,b5,I⟩) toks.length a9) toks ak vb vw b aa.n ⟨#[]⟩ 0 B) ⟨_,cC.inc (aP Yu)⟩ ?_;rintro aO ⟨ak,ep⟩;have cv:=A ep;clear ep b0 aL ao b2 bu R bd bO bY cd aN c2;go_wp2_with fail;refine(aQ _ _ _ _ _ _ cv.st _).mono ?_;rintro a7 bG ⟨rfl,x,ai⟩;have bB:=A (cv.more ai);clear ai;obtain⟨ax,aY,de,ch,a4,eb,bm,am,a6,b',bv,bo,bZ,c5⟩:=bB.st.cur;injection bm with bm _ el;injection bm with bm;injection bm with b3 bh;subst b3 bh el;have aq:=A eb;clear a4 eb am a6;obtain⟨b0,aL,ao,b2,bu,R,bd,bO,bY,cd⟩:=bB.st.cells;have ac:bG.cell? ⟨g,10,I⟩=J (C E 0):=bB.st.blk.cell 10;have aj:=bB.st.blk.frozen 10;have aN:(0:Int)<=(x.i:Int):=N;have c2:(x.i:Int) < (toks.length:Int):=by have:=bB.st.idx;omega
  go_upto_region 21 with fail;go_region;go_upto_region 22 with fail;refine aI (Φ:=xP w g (G (J ⟨y,b5,I⟩) toks.length a9) toks x vb vw b aa.n ⟨#[]⟩ ax.at_) ((bB.bJ (k:=10) (ka':=ax.at_) D).below (JY.drew)) ?_;intro aJ dE;have d4:=A dE;clear dE b0 aL ao b2 bu R bd bO bY cd b' bv bo bZ c5 ac aj aN c2;go_wp2_with fail;refine(aX _ _ _ _ _ _ d4.st).mono ?_;rintro a7 bV ⟨cH,rfl,Y,a5,ai⟩;have d1:=A (d4.more ai);have ae:=A Y;clear Y ai;have dt:bV.cell? ⟨g,9,I⟩=J (H ⟨#[]⟩):=d1.st.blk.cell 9;have bj:=d1.st.blk.frozen 9;go_wp2_with fail;go_end0;exact⟨D,a5,b,aa.n,cH,ax.at_,d1.bJ (k:=9) (key':=cH) D,cm,q.2.2.2.1,ae,aq.2.2.2.2⟩
 go_wp2_with fail;go_end0;exact⟨D,l,b,0,⟨#[]⟩,0,bL.1,cm,bP,Kw _,bP⟩
end

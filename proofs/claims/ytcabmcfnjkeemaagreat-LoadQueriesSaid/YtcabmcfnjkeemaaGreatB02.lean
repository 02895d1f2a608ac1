import Derived.Test.YtcabmcfnjkeemaaGreatBM00
import Derived.Test.YtcabmcfnjkeemaaGreatB01
set_option maxRecDepth 100000
set_option maxHeartbeats 40000000
set_option linter.unusedVariables false
set_option linter.unusedSimpArgs false
namespace Go.Proofs.YtcabmcfnjkeemaaGreat
open Go.Deep Go.RowKit
open Go renaming World->L,Value->O
open Go.IntKind renaming i64->E,u64->JL
open Go.Obj renaming cells->JO
open Go.RowKit renaming Hid->F,Below->JK
open Go.Value renaming int->C,slice->G,bool->JM
open Option renaming none->I,some->J
def jf (T:bF) (k:Int):Bool:=decide (0<=k) && decide (k < (T.kinds.length:Int))
def je (T:bF) (l:List jg):Bool:=l.all λb=>jf T b.ty
def wF (w:L) (b:Bool) (e:Ending) (w':L):Prop:=e=.returned (JM b)/\JK w.heap.size w w'
variable{w:L}{v:O}
theorem yF{l:List jg}(h:bU 2 jR w v l){i:Nat}{x:jg}(ad:l[i]? =J x): ∃b off a9,v=G (J ⟨b,off,I⟩) l.length a9/\l.length<=a9/\a9<=maxLen/\w.cell? ⟨b,off+i*2,I⟩=J (C E x.ty)/\w.cell? ⟨b,off+i*2+1,I⟩=J (C E x.gd)/\wfi x.ty/\wfi x.gd:=by exact PS
theorem yI(T:bF)(vk ar vs aY:O)(w:L)(h:jF w T vk ar vs aY)(k:Int): Calls Tryz.prog 53 #[.agg #[C E T.strategy,vk,ar,C E T.syms,C E T.runs,C E T.cells,vs,aY],C E k] w (wF w (jf T k)):=by
 obtain⟨bO,bZ,rfl,c3,aQ⟩:=h.kinds.slice;have W:=SC;unfold maxLen at aQ;clear h;unfold jf;by_cases bw:0<=k
 ·by_cases o:k < (T.kinds.length:Int)
  ·rw[KU bw,KU o];go_in;go_wp2_with fail;go_ret;exact⟨D,W.out _⟩
  rw[KU bw,KR o];have a8:(T.kinds.length:Int)<=k:=N;go_in;go_wp2_with fail;go_ret;exact⟨D,W.out _⟩
 rw[KR bw];have a8:k < 0:=N;go_in;go_wp2_with fail;go_ret;exact⟨D,W.out _⟩
theorem EL(T:bF)(vk ar vs aY:O)(w:L)(h:jF w T vk ar vs aY)(v:O)(l:List jg)(a':bU 2 jR w v l): Calls Tryz.prog 54 #[.agg #[C E T.strategy,vk,ar,C E T.syms,C E T.runs,C E T.cells,vs,aY],v] w (wF w (je T l)):=by
 obtain⟨Y,a9,rfl,d0,cR⟩:=a'.slice;have q:=RV;have dh:=A (λB (d:JK w.heap.size w B)=>jW (bW.of_below d) a');have W:=SC;have an:=A (aj.new w 44 #[C E T.strategy,vk,ar,C E T.syms,C E T.runs,C E T.cells,vs,aY]);unfold maxLen at cR;have cU:(0:Int)<=(l.length:Int):=N;clear h a';go_in;go_wp2_with fail;go_loopw [9] (λa3 wr=>∃z:Nat,z<=l.length/\a3=C E z/\F (je T (l.take z)=true)/\JK (w.heap.size+1) (w.alloc (JO #[C E T.strategy,vk,ar,C E T.syms,C E T.runs,C E T.cells,vs,aY] 44)) wr) (λa3 _=>l.length-(intOf a3).toNat);case atStart=>exact⟨0,Kw _,D,A (by simp[je]),Ky _ _⟩
 obtain⟨z,aS,rfl,g,d⟩:=hrel;have c4:=A ((W.out _).trans (d.mono N));have aU:w.heap.size+1<=wr.heap.size:=by have:=d.size;simpa using this
 have a4:w.heap.size < wr.heap.size:=aU;by_cases bA:z < l.length
 ·obtain⟨a2,ak⟩:∃a2,l[z]? =J a2:=⟨_,Kr bA⟩;obtain⟨y,b5,bG,af,_,_,cF,cz,_⟩:=yF (dh wr c4.out) ak;injection af with cH bm cK;subst cH;have ct:(0:Int)<=(z:Int):=N;have c0:(z:Int) < (l.length:Int):=N;have b:=an.out.below d N;have b0:=b.cell 0;have aL:=b.cell 1;have ao:=b.cell 2;have b2:=b.cell 3;have bu:=b.cell 4;have aJ:=b.cell 5;have bV:=b.cell 6;have aK:=b.cell 7;have cZ:=A (λbl=>d.alloc aU bl);have cB:=A (λbl=>yI T vk ar vs aY (wr.alloc bl) ((q wr c4.out).below ((Ky wr.heap.size wr).alloc c bl)) a2.ty);have d8:je T (l.take (z+1))=jf T a2.ty:=by
   have a7:l[z]=a2:=by rw[Kr bA] at ak;injection ak
   unfold je at g⊢;rw[ML bA,LK,g.out,a7];simp
  have cN:jf T a2.ty=false->je T l=false:=λaH=>by rw[aH] at d8;unfold je at d8⊢;rw[MV] at d8⊢;obtain⟨aA,cv,cD⟩:=d8;exact⟨aA,Nl cv,cD⟩
  obtain⟨au,ch⟩:∃au,jf T a2.ty=au:=⟨_,D⟩;rw[ch] at cB d8 cN;have d8:=A d8;have cN:=A cN;clear bm cK ak b ch g d;go_wp2_with fail;refine(cB _).mono ?_;rintro a7 b1 ⟨rfl,c9⟩;rw[KE] at c9;have cj:=A ((cZ _).trans (c9.mono N));clear c9 cB b0 aL ao b2 bu aJ bV aK cF cz;cases au with
  |true=>
   go_wp2_with fail;go_roundw;case rel=>first|exact⟨z+1,N,ZF,d8,cj.out⟩|((repeat apply KL);exact⟨⟨z+1,N,ZF,d8,cj.out⟩,D⟩)
   simp[intOf];omega
  |false=>have aZ:=A (cN D);clear cN d8;go_wp2_with fail;go_ret;exact⟨by rw[aZ.out];rfl,(W.out _).trans (cj.mono N)⟩
 have cr:(l.length:Int)<=(z:Int):=N;have j:z=l.length:=N;have f:je T l=true:=by have:=g.out;rw[j,LQ] at this;exact this
 have f:=A f;clear g d j;go_wp2_with fail;go_ret;exact⟨by rw[f.out];rfl,c4.out⟩
def aX {α:Type} (Q:Nat->Prop) (F:Nat) (R:L->List O->α->Prop) (w:L) (v:O) (xs:List α):Prop:=
 ∃(A:Option Addr) (c:Nat),v=G A xs.length c/\xs.length<=c/\c<=maxLen/\
  (0 < xs.length->∃b off,A=J ⟨b,off,I⟩/\Q b/\∀(i:Nat) (x:α),xs[i]? =J x->∃cs:List O,cs.length=F/\R w cs x/\∀(j:Nat) (u:O),cs[j]? =J u->w.cell? ⟨b,off+i*F+j,I⟩=J u)
def qm (Q:Nat->Prop) (w:L) (cs:List O) (l:List Int):Prop:=∃v,cs=[v]/\aX Q 1 fF w v l
def lT (Q:Nat->Prop) (w:L) (cs:List O) (x:iF):Prop:=∃v,cs=[C E x.br,C E x.cl,v]/\aX Q 2 jR w v x.bars/\wfi x.br/\wfi x.cl
def vF (Q:Nat->Prop) (w:L) (cs:List O) (x:fD):Prop:=
 ∃vb ve,cs=[C E x.par,C E x.ty,JM x.many,C E x.win,vb,C E x.leave,C E x.guard,ve]/\aX Q 2 jR w vb x.bars/\aX Q 3 (lT Q) w ve x.ends/\wfi x.par/\wfi x.ty/\wfi x.win/\wfi x.leave/\wfi x.guard
def jm (Q:Nat->Prop) (w:L) (cs:List O) (x:aW):Prop:=
 ∃vi vc vl,cs=[C E x.regs,C E x.slots,vi,vc,vl]/\aX Q 4 uZ w vi x.inputs/\aX Q 2 rU w vc x.consts/\aX Q 4 vC w vl x.list/\wfi x.regs/\wfi x.slots
def aF (Q:Nat->Prop) (w w':L):Prop:=∀(p:Addr) (u:O),Q p.block->w.cell? p=J u->w'.cell? p=J u
variable{w':L}{cs:List O}{q:Type}{xs:List q}{R R':L->List O->q->Prop}{B m:Nat}
section
variable {Q Q':Nat->Prop}
theorem aX.keep(h:aX Q m R w v xs)(ah:aF Q w w')(n:∀b,Q b->Q' b)(f:∀cs x,R w cs x->R' w' cs x):aX Q' m R' w' v xs:=by obtain⟨Y,a9,af,o,a8,ac⟩:=h;refine⟨Y,a9,af,o,a8,λV=>?_⟩;obtain⟨b,b5,cE,a1,aw⟩:=ac V;refine⟨b,b5,cE,n b a1,λa3 x ad=>?_⟩;obtain⟨cs,a',aS,cM⟩:=aw a3 x ad;exact⟨cs,a',f cs x aS,λa4 u ap=>ah _ _ a1 (cM a4 u ap)⟩
theorem qm.keep{x:List Int}(h:qm Q w cs x)(ah:aF Q w w')(n:∀b,Q b->Q' b):qm Q' w' cs x:=by obtain⟨bc,o,a8⟩:=h;exact⟨bc,o,a8.keep ah n λ_ _ h=>h⟩
theorem lT.keep{x:iF}(h:lT Q w cs x)(ah:aF Q w w')(n:∀b,Q b->Q' b):lT Q' w' cs x:=by obtain⟨bc,o,a8,ac⟩:=h;exact⟨bc,o,a8.keep ah n λ_ _ h=>h,ac⟩
theorem vF.keep{x:fD}(h:vF Q w cs x)(ah:aF Q w w')(n:∀b,Q b->Q' b):vF Q' w' cs x:=by obtain⟨cn,aO,o,a8,ac,b6⟩:=h;exact⟨cn,aO,o,a8.keep ah n λ_ _ h=>h,ac.keep ah n λ_ _ h=>h.keep ah n,b6⟩
theorem jm.keep{x:aW}(h:jm Q w cs x)(ah:aF Q w w')(n:∀b,Q b->Q' b):jm Q' w' cs x:=by obtain⟨em,aY,aM,o,a8,ac,b6,bz⟩:=h;exact⟨em,aY,aM,o,a8.keep ah n λ_ _ h=>h,ac.keep ah n λ_ _ h=>h,b6.keep ah n λ_ _ h=>h,bz⟩
theorem aX.out(h:aX Q m R w v xs)(f:∀cs x,R w cs x->R' w cs x):bU m R' w v xs:=by obtain⟨Y,a9,af,o,a8,ac⟩:=h;refine⟨Y,a9,af,o,a8,λV=>?_⟩;obtain⟨y,b5,cE,a1,aw⟩:=ac V;refine⟨y,b5,cE,λa3 x ad=>?_⟩;obtain⟨cs,a',aS,cM⟩:=aw a3 x ad;exact⟨cs,a',f cs x aS,cM⟩
theorem qm.out{x:List Int}(h:qm Q w cs x):wH w cs x:=by obtain⟨bc,o,a8⟩:=h;exact⟨bc,o,a8.out λ_ _ h=>h⟩
theorem lT.out{x:iF}(h:lT Q w cs x):wK w cs x:=by obtain⟨bc,o,a8,ac⟩:=h;exact⟨bc,o,a8.out λ_ _ h=>h,ac⟩
theorem vF.out{x:fD}(h:vF Q w cs x):Gg w cs x:=by obtain⟨cn,aO,o,a8,ac,b6⟩:=h;exact⟨cn,aO,o,a8.out λ_ _ h=>h,ac.out λ_ _ h=>h.out,b6⟩
theorem jm.out{x:aW}(h:jm Q w cs x):wG w cs x:=by obtain⟨em,aY,aM,o,a8,ac,b6,bz⟩:=h;exact⟨em,aY,aM,o,a8.out λ_ _ h=>h,ac.out λ_ _ h=>h,b6.out λ_ _ h=>h,bz⟩
theorem aX.nil(m:Nat)(R:L->List O->q->Prop)(w:L):aX Q m R w (G I 0 0) []:=⟨I,0,D,KD _,Z,λh=>absurd h ZH⟩
theorem aF.of_below(h:JK B w w')(n:∀b,Q b->b < B):aF Q w w':=λaT u a1 ai=>(h.cell (n _ a1)).trans ai
theorem aF.aS{e:Option Nat}(h:w.grownBy w' e)(n:∀b,Q b->J b≠e):aF Q w w':=λaT u a1 ai=>(KJ (h.block aT.block (ay ai) (n _ a1))).trans ai
theorem aF.dN{a:Addr}(n:∀b,Q b->b≠a.block):aF Q w (w.setCell a v):=λaT u a1 ai=>(LJ w a aT v (λa7=>n _ a1 ZG)).trans ai
theorem aF.trans{e:L}(h:aF Q w w')(k:aF Q w' e):aF Q w e:=λaT u a1 ai=>k aT u a1 (h aT u a1 ai)
end
def eF {α:Type} (F:Nat) (R:L->List O->α->Prop) (w:L) (css:List (List O)) (xs:List α):Prop:=
 css.length=xs.length/\∀(i:Nat) (x:α),xs[i]? =J x->∃cs,css[i]? =J cs/\cs.length=F/\R w cs x
theorem eF.nil(m:Nat)(R:L->List O->q->Prop)(w:L):eF m R w [] []:=⟨D,λa3 aa ad=>by simp at ad⟩
variable{css:List (List O)}
theorem eF.snoc(h:eF m R w css xs){x:q}(a':cs.length=m)(ad:R w cs x):eF m R w (css++[cs]) (xs++[x]):=by
 refine⟨by simp[h.1],λa3 a2 ak=>?_⟩;rcases KT a3 xs.length with aR|aR
 ·rw[KW aR] at ak;obtain⟨a9,o,a8⟩:=h.2 a3 a2 ak;exact⟨a9,VZ,a8⟩
 rw[Lh aR] at ak;have e5:a3-xs.length=0:=by
  rcases MB (a3-xs.length) with bw|bw
  ·exact bw
  rw[LY Zv] at ak;cases ak
 rw[e5] at ak;simp at ak;subst ak;exact⟨cs,by rw[Lh YK,h.1,e5];rfl,a',ad⟩
theorem eF.keep(h:eF m R w css xs)(f:∀cs x,R w cs x->R' w' cs x):eF m R' w' css xs:=
 ⟨h.1,λa3 x ad=>by obtain⟨cs,o,a8,ac⟩:=h.2 a3 x ad;exact⟨cs,o,a8,f _ _ ac⟩⟩
theorem wU:∀{css:List (List O)},(∀cs∈css,cs.length=m)->css.flatten.length=css.length*m
 | [],_=>by simp
 |c :: css,h=>by
  have o:=wU (css:=css) (λcs aw=>h cs (Md _ aw))
  have a8:=h c ZH
  rw[Np,KC,o,a8,MI,Nat.succ_mul]
  omega
theorem flat_get:∀{css:List (List O)} {i:Nat} {cs:List O},(∀cs∈css,cs.length=m)->css[i]? =J cs->∀(j:Nat) (u:O),cs[j]? =J u->css.flatten[i*m+j]? =J u
 | [],i,cs,_,aR=>by simp at aR
 |c :: css,0,cs,h,aR=>λj u ap=>by
  simp at aR;subst aR
  have bK:=(KA.1 ap).1
  rw[Np,Nat.zero_mul,Ls,KW bK]
  exact ap
 |c :: css,i+1,cs,h,aR=>λj u ap=>by
  have a8:=h c ZH
  rw[NQ] at aR
  have ac:=flat_get (css:=css) (λcs aw=>h cs (Md _ aw)) aR j u ap
  rw[Np,Lh (by rw[a8,Nat.succ_mul];omega),a8,show(i+1)*m+j-m=i*m+j by rw[Nat.succ_mul];omega]
  exact ac
theorem eF.each(h:eF m R w css xs):∀cs∈css,cs.length=m:=by intro cs aw;obtain⟨a3,aR,rfl⟩:=MW aw;have ad:xs[a3]? =J (xs[a3]' YE):=Kr _;obtain⟨a9,o,a8,_⟩:=h.2 a3 _ ad;rw[Kr aR] at o;injection o with o;rw[o];exact a8
variable{e:TypeId}
theorem bQ{Q:Nat->Prop}{base:Nat}(aH:eF m R w css xs)(br:w.ownsRow base e m v xs.length css.flatten)(n:∀g,v.ownBlock=J g->base<=g->g < w.heap.size->Q g)(b:0 < xs.length\/True):aX Q m R w v xs:=by
 rcases MB xs.length with bw|bw
 ·have ad:xs=[]:=MG bw;subst ad;obtain⟨Y,a9,rfl⟩:=aB br;exact⟨Y,a9,D,(qK br).1,(qK br).2,λh=>absurd h ZH⟩
 obtain⟨g,r,rfl,d,bA,a',aW,aw,_⟩:=yx br bw;refine⟨J ⟨g,0,I⟩,r,D,a',aW,λ_=>⟨g,0,D,n g D d bA,λa3 aa ad=>?_⟩⟩;obtain⟨bj,o,a8,ac⟩:=aH.2 a3 aa ad;refine⟨bj,a8,ac,λa4 u ap=>?_⟩;rw[Ls];exact aw _ u (flat_get aH.each o a4 u ap)
theorem fZ(h:bU m R w v xs): ∃(css:List (List O)) (Y:Option Addr) (a9:Nat),v=G Y xs.length a9/\xs.length<=a9/\a9<=maxLen/\eF m R w css xs/\(0 < m->Reads w w.heap.size m Y xs.length css.flatten):=by
 obtain⟨Y,a9,af,o,a8,ac⟩:=h;rcases MB xs.length with bw|bw
 ·have ad:xs=[]:=MG bw;subst ad;exact⟨[],Y,a9,af,o,a8,eF.nil _ _ _,λ_=>⟨ZH,λh=>absurd h ZH⟩⟩
 obtain⟨y,b5,cE,aw⟩:=ac bw;have aK:∀a3,∃bj:List O,a3 < xs.length->bj.length=m/\(∀aa,xs[a3]? =J aa->R w bj aa)/\∀a4 u,bj[a4]? =J u->w.cell? ⟨y,b5+a3*m+a4,I⟩=J u:=λa3=>by
  by_cases aR:a3 < xs.length
  ·obtain⟨bj,b6,bz,c4⟩:=aw a3 _ (Kr aR);exact⟨bj,λ_=>⟨b6,λaa ad=>Vt,c4⟩⟩
  exact⟨[],λh=>absurd h aR⟩
 obtain⟨ae,ab⟩:=Classical.axiomOfChoice aK;have e:∀a3,a3 < xs.length->((List.range xs.length).map ae)[a3]? =J (ae a3):=λa3 aR=>by rw[Le,NC aR];rfl
 have hF:eF m R w ((List.range xs.length).map ae) xs:=⟨ZH,λa3 aa ad=>by have aR:=(KA.1 ad).1;exact⟨ae a3,e a3 aR,(ab a3 aR).1,(ab a3 aR).2.1 aa ad⟩⟩;refine⟨(List.range xs.length).map ae,Y,a9,af,o,a8,hF,λb=>⟨by rw[wU hF.each,hF.1],λ_=>⟨⟨y,b5,I⟩,cE,?_,λa0 u ap=>?_⟩⟩⟩
 ·obtain⟨cz,cP,d1⟩:=ab 0 bw;have ap:=Kr (show 0 < (ae 0).length by omega);have aD:=ay (d1 0 _ ap);exact aD
 have ah:=(KA.1 ap).1;rw[wU hF.each,hF.1] at ah;have aR:a0 / m < xs.length:=Nat.div_lt_of_lt_mul (by rw[Nat.mul_comm];exact ah);obtain⟨cz,cP,d1⟩:=ab (a0 / m) aR;have bK:a0 % m < (ae (a0 / m)).length:=by rw[cz];exact Nat.mod_lt _ b
 have b3:=flat_get hF.each (e _ aR) (a0 % m) _ (Kr bK);have bh:a0 / m*m+a0 % m=a0:=by rw[Nat.mul_comm];exact Nat.div_add_mod a0 m
 rw[bh,ap] at b3;injection b3 with b3;have ca:=d1 (a0 % m) _ (Kr bK);rw[<-b3,Nat.add_assoc,bh] at ca;rw[Nk];exact ca
theorem adh:(Tryz.prog.info? 141).map (λi=>(i.zero,i.size,i.bytes))=J (J (.agg #[C E 0,C E 0,C E 0,C E 0]),4,32):=U
theorem adl:(Tryz.prog.info? 148).map (λi=>(i.zero,i.size,i.bytes))=J (J (.agg #[C E 0,C JL 0]),2,16):=U
theorem adi:(Tryz.prog.info? 143).map (λi=>(i.zero,i.size,i.bytes))=J (J (.agg #[C E 0,C E 0,C E 0,C E 0]),4,32):=U
theorem lX(h:eF m R w css xs)(o:∀cs x,R w cs x->∀u∈cs,u.oneCell'=true):∀u∈css.flatten,u.oneCell'=true:=by intro u ap;obtain⟨cs,aw,ap⟩:=List.mem_flatten.1 ap;obtain⟨a3,aR,rfl⟩:=MW aw;have ad:xs[a3]? =J (xs[a3]' YE):=Kr _;obtain⟨a9,a8,_,b6⟩:=h.2 a3 _ ad;rw[Kr aR] at a8;injection a8 with a8;rw[<-a8] at b6;exact o _ _ b6 u ap
theorem aaU{x:Int}(h:fF w cs x):∀u∈cs,u.oneCell'=true:=by intro u ap;rw[h.1] at ap;simp at ap;subst ap;rfl
theorem Hw{x:jg}(h:jR w cs x):∀u∈cs,u.oneCell'=true:=by intro u ap;rw[h.1] at ap;simp at ap;rcases ap with rfl|rfl <;> rfl
theorem ae6{x:gI}(h:uZ w cs x):∀u∈cs,u.oneCell'=true:=by intro u ap;rw[h.1] at ap;simp at ap;rcases ap with rfl|rfl|rfl|rfl <;> rfl
theorem ae8{x:dP}(h:rU w cs x):∀u∈cs,u.oneCell'=true:=by intro u ap;rw[h.1] at ap;simp at ap;rcases ap with rfl|rfl <;> rfl
theorem ae7{x:mO}(h:vC w cs x):∀u∈cs,u.oneCell'=true:=by intro u ap;rw[h.1] at ap;simp at ap;rcases ap with rfl|rfl|rfl|rfl <;> rfl
variable{g:Nat}
theorem jO{t:TypeId}{bJ bD bs e i:O}(h:aj w g t #[bJ,bD,bs,e,i]): w.cell? ⟨g,0,I⟩=J bJ/\w.cell? ⟨g,1,I⟩=J bD/\w.cell? ⟨g,2,I⟩=J bs/\w.cell? ⟨g,3,I⟩=J e/\w.cell? ⟨g,4,I⟩=J i:=
 ⟨h.cell 0,h.cell 1,h.cell 2,h.cell 3,h.cell 4⟩
theorem gY{base:Nat}{s n:Nat}{xs:List O}(h:w.ownsRow base e s v n xs){a:Addr}(aJ:a.block < base)(u:O):(w.setCell a u).ownsRow base e s v n xs:=by
 refine⟨h.1,?_⟩;rcases h.2 with o|⟨ae,r,k,af,d,X,aS⟩
 ·exact .inl o
 exact .inr ⟨ae,r,k,af,d,(La w a u ae N).trans X,aS⟩
def afG (w:L) (x:aW) (e:Ending) (w':L):Prop:=
 ∃vi vc vl,e=.returned (.agg #[C E x.regs,C E x.slots,vi,vc,vl])/\jm (λb=>w.heap.size<=b/\b < w'.heap.size) w' [C E x.regs,C E x.slots,vi,vc,vl] x/\JK w.heap.size w w'
theorem acp(x:aW)(w:L)(vi aY aM:O)(aR:bU 4 uZ w vi x.inputs)(af:bU 2 rU w aY x.consts)(a':bU 4 vC w aM x.list)(bN:wfi x.regs/\wfi x.slots)(o:x.inputs.length*32<=140737488351232)(a8:x.consts.length*16<=140737488351232)(ac:x.list.length*32<=140737488351232): Calls Tryz.prog 52 #[.agg #[C E x.regs,C E x.slots,vi,aY,aM]] w (afG w x):=by
 obtain⟨dL,dY,ch,rfl,f0,eM,m,eK⟩:=fZ aR;obtain⟨aw,cT,bS,rfl,cH,bm,n,az⟩:=fZ af;obtain⟨dq,di,bB,rfl,ef,dC,P,e6⟩:=fZ a';have r:=A (eK Z);have aH:=A (az Z);have dN:=A (e6 Z);have s:=A (lX m λ_ _ h=>ae6 h);have t:=A (lX n λ_ _ h=>ae8 h);have bK:=A (lX P λ_ _ h=>ae7 h);obtain⟨ea,dV,cD,d6,cq⟩:=MH adh;obtain⟨fm,dW,eP,ee,cG⟩:=MH adl;obtain⟨dT,eR,eS,a4,cO⟩:=MH adi;obtain⟨aC,bx⟩:∃aC,aC=(w.alloc (JO #[C E x.regs,C E x.slots,G dY x.inputs.length ch,G cT x.consts.length bS,G di x.list.length bB] 55)).alloc (JO #[C E 0,C E 0,G I 0 0,G I 0 0,G I 0 0] 55):=⟨_,D⟩;have b6:JK w.heap.size w aC:=Vs;have an:aj aC w.heap.size 55 #[C E x.regs,C E x.slots,G dY x.inputs.length ch,G cT x.consts.length bS,G di x.list.length bB]:=Wx;have e7:aj aC (w.heap.size+1) 55 #[C E 0,C E 0,G I 0 0,G I 0 0,G I 0 0]:=by rw[bx];have:=aj.new (w.alloc (JO #[C E x.regs,C E x.slots,G dY x.inputs.length ch,G cT x.consts.length bS,G di x.list.length bB] 55)) 55 #[C E 0,C E 0,G I 0 0,G I 0 0,G I 0 0];rw[KE] at this;exact this
 have dE:aC.heap.size=w.heap.size+2:=Zo;have cZ:=A b6;have b4:=A an;have au:=A e7;have dP:=A dE;have cI:=A (r.below b6);clear aR af a' eK az e6 b6 an e7 dE;go_in;go_upto_region 1 with fail;try rw[<-bx]
 clear bx;have i:=cZ;have cv:=au;have dt:F (w.heap.size+2<=aC.heap.size):=A (by rw[dP.out];exact KD _);obtain⟨b0,aL,ao,b2,bu⟩:=jO b4;go_upto_region 2 with(at_builtin;refine aV _ D _ _ 51 D aC.heap.size 141 ea _ 4 32 Tryz.underlying51 dV cD d6 cq D N (G I 0 0) 0 [] D (Mc _ _ _ _) w.heap.size dY x.inputs.length ch dL.flatten D cI.out s.out Ya N c ?_;intro bX dG br ab _;simp only[Nat.zero_add,List.nil_append] at br;obtain⟨W,cQ,rfl⟩:=aB br;have d2:=A br;have bb:=A ab;clear br ab b0 aL ao b2 bu;have g:=A (b4.out.grown bb.out XU);obtain⟨b0,aL,ao,b2,bu⟩:=jO g.out;have c':=g.out.frozen 2);clear b0 aL ao b2 bu c';obtain⟨c1,ag⟩:∃c1,c1=dG.setCell ⟨w.heap.size,2,I⟩ (G W x.inputs.length cQ):=⟨_,D⟩;rw[<-ag];have dw:F (aj c1 w.heap.size 55 #[C E x.regs,C E x.slots,G W x.inputs.length cQ,G cT x.consts.length bS,G di x.list.length bB]):=A (by rw[ag];exact g.bJ 2 _);have cS:F (aC.heap.size<=c1.heap.size/\JK w.heap.size w c1/\aF (λy=>w.heap.size+1<=y/\y < aC.heap.size) aC c1/\c1.ownsRow aC.heap.size 141 4 (G W x.inputs.length cQ) x.inputs.length dL.flatten):=A (by
  have ay:c1.heap.size=dG.heap.size:=Xk;refine⟨by rw[ay];exact bb.size,?_,?_,?_⟩
  ·rw[ag];exact(i.grown bb i.size (λae a7=>Xn)).setCell c _
  ·rw[ag];exact(aF.aS bb (λy _=>XU)).trans (aF.dN (λy d=>YQ))
  rw[ag];exact gY d2 (by have:=dt.out;simp only;omega) _)
 have b1:=A cS.2.1;have bL:F (w.heap.size+2<=c1.heap.size):=A (Ko dt cS.1);have fi:=A (show aj c1 (w.heap.size+1) 55 #[C E 0,C E 0,G I 0 0,G I 0 0,G I 0 0] by rw[ag];exact(cv.grown bb XU).far (p:=⟨w.heap.size,2,I⟩) ZH _);have l:=A (aH.below b1);clear ag;obtain⟨b0,aL,ao,b2,bu⟩:=jO dw;go_upto_region 3 with(at_builtin;refine aV _ D _ _ 52 D c1.heap.size 148 fm _ 2 16 Tryz.underlying52 dW eP ee cG D N (G I 0 0) 0 [] D (Mc _ _ _ _) w.heap.size cT x.consts.length bS aw.flatten D l.out t.out Ya N c ?_;intro bX cC br ab _;simp only[Nat.zero_add,List.nil_append] at br;obtain⟨b6,cJ,rfl⟩:=aB br;have ba:=A br;have bc:=A ab;clear br ab b0 aL ao b2 bu;have j:=A (dw.out.grown bc.out XU);obtain⟨b0,aL,ao,b2,bu⟩:=jO j.out;have c':=j.out.frozen 3);clear b0 aL ao b2 bu c';obtain⟨bT,ag⟩:∃bT,bT=cC.setCell ⟨w.heap.size,3,I⟩ (G b6 x.consts.length cJ):=⟨_,D⟩;rw[<-ag];have eb:F (aj bT w.heap.size 55 #[C E x.regs,C E x.slots,G W x.inputs.length cQ,G b6 x.consts.length cJ,G di x.list.length bB]):=A (by rw[ag];exact j.bJ 3 _);have bs:F (c1.heap.size<=bT.heap.size/\JK w.heap.size w bT/\aF (λy=>w.heap.size+1<=y/\y < c1.heap.size) c1 bT/\bT.ownsRow c1.heap.size 148 2 (G b6 x.consts.length cJ) x.consts.length aw.flatten):=A (by
  have ay:bT.heap.size=cC.heap.size:=Xk;refine⟨by rw[ay];exact bc.size,?_,?_,?_⟩
  ·rw[ag];exact(b1.grown bc b1.size (λae a7=>Xn)).setCell c _
  ·rw[ag];exact(aF.aS bc (λy _=>XU)).trans (aF.dN (λy d=>YQ))
  rw[ag];exact gY ba (by have:=bL.out;simp only;omega) _)
 have ej:=A bs.2.1;have dg:F (w.heap.size+2<=bT.heap.size):=A (Ko bL bs.1);have ec:=A (show aj bT (w.heap.size+1) 55 #[C E 0,C E 0,G I 0 0,G I 0 0,G I 0 0] by rw[ag];exact(fi.grown bc XU).far (p:=⟨w.heap.size,3,I⟩) ZH _);have z:=A (dN.below ej);clear ag;obtain⟨b0,aL,ao,b2,bu⟩:=jO eb;go_upto_region 4 with(at_builtin;refine aV _ D _ _ 53 D bT.heap.size 143 dT _ 4 32 Tryz.underlying53 eR eS a4 cO D N (G I 0 0) 0 [] D (Mc _ _ _ _) w.heap.size di x.list.length bB dq.flatten D z.out bK.out Ya N c ?_;intro bX d4 br ab _;simp only[Nat.zero_add,List.nil_append] at br;obtain⟨b,db,rfl⟩:=aB br;have bn:=A br;have a3:=A ab;clear br ab b0 aL ao b2 bu;have k:=A (eb.out.grown a3.out XU);obtain⟨b0,aL,ao,b2,bu⟩:=jO k.out;have c':=k.out.frozen 4);clear b0 aL ao b2 bu c';obtain⟨cB,ag⟩:∃cB,cB=d4.setCell ⟨w.heap.size,4,I⟩ (G b x.list.length db):=⟨_,D⟩;rw[<-ag];have f:F (aj cB w.heap.size 55 #[C E x.regs,C E x.slots,G W x.inputs.length cQ,G b6 x.consts.length cJ,G b x.list.length db]):=A (by rw[ag];exact k.bJ 4 _);have bE:F (bT.heap.size<=cB.heap.size/\JK w.heap.size w cB/\aF (λy=>w.heap.size+1<=y/\y < bT.heap.size) bT cB/\cB.ownsRow bT.heap.size 143 4 (G b x.list.length db) x.list.length dq.flatten):=A (by
  have ay:cB.heap.size=d4.heap.size:=Xk;refine⟨by rw[ay];exact a3.size,?_,?_,?_⟩
  ·rw[ag];exact(ej.grown a3 ej.size (λae a7=>Xn)).setCell c _
  ·rw[ag];exact(aF.aS a3 (λy _=>XU)).trans (aF.dN (λy d=>YQ))
  rw[ag];exact gY bn (by have:=dg.out;simp only;omega) _)
 have e2:=A bE.2.1;have cE:F (w.heap.size+2<=cB.heap.size):=A (Ko dg bE.1);have ak:=A (show aj cB (w.heap.size+1) 55 #[C E 0,C E 0,G I 0 0,G I 0 0,G I 0 0] by rw[ag];exact(ec.grown a3 XU).far (p:=⟨w.heap.size,4,I⟩) ZH _);clear ag;have e:F (aj cB (w.heap.size+1) 55 #[C E 0,C E 0,G I 0 0,G I 0 0,G I 0 0]):=A ak;obtain⟨b0,aL,ao,b2,bu⟩:=jO f;obtain⟨a5,a6,aq,aZ,aO⟩:=jO e;have R:=e.frozen 0;have bd:=e.frozen 1;have bO:=e.frozen 2;have bY:=e.frozen 3;have cd:=e.frozen 4;go_wp2_with fail;clear b0 aL ao b2 bu a5 a6 aq aZ aO R bd bO bY cd;have V:=A (((((e.bJ 0 (C E x.regs)).bJ 1 (C E x.slots)).bJ 2 (G W x.inputs.length cQ)).bJ 3 (G b6 x.consts.length cJ)).bJ 4 (G b x.list.length db));obtain⟨e8,M⟩:∃e8,e8=((((cB.setCell ⟨w.heap.size+1,0,I⟩ (C E x.regs)).setCell ⟨w.heap.size+1,1,I⟩ (C E x.slots)).setCell ⟨w.heap.size+1,2,I⟩ (G W x.inputs.length cQ)).setCell ⟨w.heap.size+1,3,I⟩ (G b6 x.consts.length cJ)).setCell ⟨w.heap.size+1,4,I⟩ (G b x.list.length db):=⟨_,D⟩;rw[<-M] at V⊢;have dx:aF (λy=>w.heap.size+2<=y) cB e8:=by rw[M];refine((((aF.dN (λy d=>?_)).trans (aF.dN (λy d=>?_))).trans (aF.dN (λy d=>?_))).trans (aF.dN (λy d=>?_))).trans (aF.dN (λy d=>?_)) <;> (simp only;omega)
 have eT:JK w.heap.size w e8:=by rw[M];exact((((e2.setCell ZH _).setCell ZH _).setCell ZH _).setCell ZH _).setCell ZH _
 have ay:e8.heap.size=cB.heap.size:=by rw[M];simp[World.setCell]
 have T:=dP.out;have t1:=cS.out;have d5:=bs.out;have b8:=bE.out;have q:aF (λy=>w.heap.size+2<=y/\y < bT.heap.size) bT e8:=λaT u a1 ai=>dx aT u N (b8.2.2.1 aT u N ai);have B:aF (λy=>w.heap.size+2<=y/\y < c1.heap.size) c1 e8:=λaT u a1 ai=>q aT u N (d5.2.2.1 aT u N ai);have cz:aX (λy=>w.heap.size+2<=y/\y < c1.heap.size) 4 uZ c1 (G W x.inputs.length cQ) x.inputs:=bQ (m.keep λ_ _ h=>h) t1.2.2.2 (λae _ o a8=>N) (.inr trivial);have cP:aX (λy=>w.heap.size+2<=y/\y < bT.heap.size) 2 rU bT (G b6 x.consts.length cJ) x.consts:=bQ (n.keep λ_ _ h=>h) d5.2.2.2 (λae _ o a8=>N) (.inr trivial);have d1:aX (λy=>w.heap.size+2<=y/\y < cB.heap.size) 4 vC cB (G b x.list.length db) x.list:=bQ (P.keep λ_ _ h=>h) b8.2.2.2 (λae _ o a8=>N) (.inr trivial);have S:jm (λy=>w.heap.size<=y/\y < e8.heap.size) e8 [C E x.regs,C E x.slots,G W x.inputs.length cQ,G b6 x.consts.length cJ,G b x.list.length db] x:=⟨_,_,_,D,cz.keep B (λy d=>N) λ_ _ h=>h,cP.keep q (λy d=>N) λ_ _ h=>h,d1.keep (λaT u a1 ai=>dx aT u N ai) (λy d=>N) λ_ _ h=>h,bN⟩;have cM:=V.cell 0;have ci:=V.cell 1;have cw:=V.cell 2;have dm:=V.cell 3;have dz:=V.cell 4;exact Ku (v:=.agg #[C E x.regs,C E x.slots,G W x.inputs.length cQ,G b6 x.consts.length cJ,G b x.list.length db]) (by simp[results,Tryz.results52,go_sem,cM,ci,cw,dm,dz]) D ⟨_,_,_,D,S,eT⟩
def QA (B:Nat) (v:O) (w:L) (b:Nat):Prop:=B<=b/\b < w.heap.size/\J b≠v.ownBlock
section
variable {α:Type} {F:Nat} {R:(Nat->Prop)->L->List O->α->Prop} {w2 w3:L} {v':O} {xs:List α}
theorem own_below(h:w.ownsRow B e F v xs.length css.flatten)(d:JK w.heap.size w w'):w'.ownsRow B e F v xs.length css.flatten:=by
 refine⟨h.1,?_⟩;rcases h.2 with o|⟨ae,r,k,af,bW,X,aS⟩
 ·exact .inl o
 have bA:ae < w.heap.size:=(Nc.1 X).1;exact .inr ⟨ae,r,k,af,bW,(d.block ae bA).trans X,aS⟩
theorem aQ{n s:Nat}{aC:List O}(h:w.ownsRow B e s v n aC)(ab:v.ownBlock=J g):g < w.heap.size/\B<=g:=by
 rcases h.2 with⟨rfl,_⟩|⟨ag,r,k,rfl,bW,X,aS⟩
 ·simp[Value.ownBlock] at ab
 have:ag=g:=WX;subst this;exact⟨(Nc.1 X).1,bW⟩
end
def bZ {α:Type} (R:(Nat->Prop)->L->List O->α->Prop):Prop:=∀(Q Q':Nat->Prop) (w w':L) (cs:List O) (x:α),R Q w cs x->aF Q w w'->(∀b,Q b->Q' b)->R Q' w' cs x
def Acc {α:Type} (B:Nat) (e:TypeId) (F:Nat) (R:(Nat->Prop)->L->List O->α->Prop) (w:L) (v:O) (xs:List α) (css:List (List O)):Prop:=
 w.ownsRow B e F v xs.length css.flatten/\eF F (R (QA B v w)) w css xs
section
variable {α:Type} {F:Nat} {R:(Nat->Prop)->L->List O->α->Prop} {w2 w3:L} {v':O} {xs:List α}
theorem Acc.nil(w:L):Acc B e F R w (G I 0 0) [] []:=⟨Mc _ _ _ _,eF.nil _ _ _⟩
theorem Acc.below(f:bZ R)(h:Acc B e F R w v xs css)(d:JK w.heap.size w w'):Acc B e F R w' v xs css:=by refine⟨own_below h.1 d,h.2.keep λbj aa ad=>f _ _ _ _ _ _ ad (aF.of_below d λy a1=>a1.2.1) λy a1=>⟨a1.1,Kv a1.2.1 d.size,a1.2.2⟩⟩
theorem Acc.step(f:bZ R)(h:Acc B e F R w v xs css)(j:B<=w.heap.size)(d:JK w.heap.size w w2){x:α}(a':cs.length=F)(ad:R (λb=>w.heap.size<=b/\b < w2.heap.size) w2 cs x)(br:w3.ownsRow B e F v' (xs.length+1) (css.flatten++cs))(ab:w2.grownBy w3 v.ownBlock)(c8:v'.ownBlock=v.ownBlock\/v'.ownBlock=J w2.heap.size):Acc B e F R w3 v' (xs++[x]) (css++[cs]):=by
 have i:∀ae,v.ownBlock=J ae->ae < w.heap.size:=λae ab=>(aQ h.1 ab).1;have bm:∀b,J b≠v.ownBlock->b < w2.heap.size->J b≠v'.ownBlock:=λb o a8=>by exact PO
 refine⟨?_,eF.snoc ?_ a' ?_⟩
 ·rw[KC,MN];simpa using br
 ·refine h.2.keep λcs x ad=>f _ _ _ _ _ _ ad ?_ λb a1=>⟨a1.1,Kv a1.2.1 (Ko d.size ab.size),bm b a1.2.2 (Kv a1.2.1 d.size)⟩;exact(aF.of_below d λb a1=>a1.2.1).trans (aF.aS ab λb a1=>a1.2.2)
 exact PX
theorem Acc.done(h:Acc B e F R w v xs css)(f:bZ R):aX (λb=>B<=b/\b < w.heap.size) F (R (λb=>B<=b/\b < w.heap.size)) w v xs:=by refine bQ (h.2.keep λbj aa ad=>f _ _ _ _ _ _ ad (λaT u _ ai=>ai) λb a1=>⟨a1.1,a1.2.1⟩) h.1 (λae _ o a8=>⟨o,a8⟩) (.inr trivial)
theorem Acc.apart(h:Acc B e F R w v xs css)(f:bZ R):aX (λb=>B<=b/\b < w.heap.size/\J b=v.ownBlock) F (R (QA B v w)) w v xs:=
 bQ h.2 h.1 (λae ab o a8=>⟨o,a8,ab.symm⟩) (.inr trivial)
end
theorem oH:bZ qm:=λQ b w aF bj aa h ah a1=>h.keep ah a1
theorem AL:bZ lT:=λQ b w aF bj aa h ah a1=>h.keep ah a1
theorem DZ:bZ vF:=λQ b w aF bj aa h ah a1=>h.keep ah a1
theorem Jt:bZ jm:=λQ b w aF bj aa h ah a1=>h.keep ah a1
theorem nD{t:TypeId}{bJ bD bs e i n k l:O}(h:aj w g t #[bJ,bD,bs,e,i,n,k,l]): w.cell? ⟨g,0,I⟩=J bJ/\w.cell? ⟨g,1,I⟩=J bD/\w.cell? ⟨g,2,I⟩=J bs/\w.cell? ⟨g,3,I⟩=J e/\w.cell? ⟨g,4,I⟩=J i/\w.cell? ⟨g,5,I⟩=J n/\w.cell? ⟨g,6,I⟩=J k/\w.cell? ⟨g,7,I⟩=J l:=
 ⟨h.cell 0,h.cell 1,h.cell 2,h.cell 3,h.cell 4,h.cell 5,h.cell 6,h.cell 7⟩
def uP (T:bF) (i:Nat) (x:fD):Bool:=decide (-1<=x.par) && decide (x.par < (i:Int)) && jf T x.ty && decide (0<=x.win) && decide (x.win<=1152921504606846976) && decide ((dQ T.states i).length<=8)
def rowB (T:bF) (x:fD):Bool:=(!(decide (x.par=-1)) || (decide (x.bars.length=0) && decide (x.leave=-1))) && je T x.bars
def oL (T:bF) (e:iF):Bool:=decide (0<=e.br) && decide (e.br < 4) && je T e.bars
def rowT (T:bF) (i:Nat) (x:fD):Bool:=uP T i x && rowB T x && x.ends.all (oL T)
theorem afc(T:bF)(vk ar vs aY:O)(w:L)(h:jF w T vk ar vs aY)(V:T.states.length<=1500000000000)(i:Nat)(x:fD)(ad:T.states[i]? =J x): Calls Tryz.prog 28 #[.agg #[C E T.strategy,vk,ar,C E T.syms,C E T.runs,C E T.cells,vs,aY],C E i] w (wF w (rowT T i x)):=by
 have aR:i < T.states.length:=(KA.1 ad).1;obtain⟨y,b5,bG,cn,aO,af,d0,cR,cF,cz,cP,d1,dd,d9,dp,dB,bo,al,_⟩:=sZ h.states ad;subst af;obtain⟨ds,co,rfl,bg,aI⟩:=bo.slice;obtain⟨dq,cL,rfl,bM,d3⟩:=al.slice;unfold maxLen at cR aI d3;have et:=ay cF;have ct:(0:Int)<=(i:Int):=N;have c0:(i:Int) < (T.states.length:Int):=N;have q:=RV;have e6:=A (λB (d:JK w.heap.size w B)=>jW (bW.of_below d) bo);have e4:=A (λB (d:JK w.heap.size w B)=>rE (bW.of_below d) al);obtain⟨aC,bx⟩:∃aC,aC=(w.alloc (JO #[C E T.strategy,vk,ar,C E T.syms,C E T.runs,C E T.cells,G (J ⟨y,b5,I⟩) T.states.length bG,aY] 44)).alloc (JO #[C E x.par,C E x.ty,JM x.many,C E x.win,G ds x.bars.length co,C E x.leave,C E x.guard,G dq x.ends.length cL] 91):=⟨_,D⟩;have W:JK w.heap.size w aC:=Vs;have dE:aC.heap.size=w.heap.size+2:=Zo;have p:aj aC w.heap.size 44 #[C E T.strategy,vk,ar,C E T.syms,C E T.runs,C E T.cells,G (J ⟨y,b5,I⟩) T.states.length bG,aY]:=Wx;have aa:aj aC (w.heap.size+1) 91 #[C E x.par,C E x.ty,JM x.many,C E x.win,G ds x.bars.length co,C E x.leave,C E x.guard,G dq x.ends.length cL]:=by rw[bx];have:=aj.new (w.alloc (JO #[C E T.strategy,vk,ar,C E T.syms,C E T.runs,C E T.cells,G (J ⟨y,b5,I⟩) T.states.length bG,aY] 44)) 91 #[C E x.par,C E x.ty,JM x.many,C E x.win,G ds x.bars.length co,C E x.leave,C E x.guard,G dq x.ends.length cL];rw[KE] at this;exact this
 have W:=A W;have p:=A p;have aa:=A aa;have dP:=A dE;clear h ad bo al dE;go_in;go_upto_region 2 with fail;rw[<-bx];clear bx;go_cut [45] from 13 to 45 (λa9 bn=>a9=JM (!uP T i x)/\JK aC.heap.size aC bn);case first=>
  have r:=p.out;have s:=aa.out;have dE:=dP.out;obtain⟨cp,cf,cb,c7,b9,cM,cm,k⟩:=nD s;obtain⟨b0,aL,ao,b2,bu,aJ,bV,aK⟩:=nD r;have cB:=A (yI T vk ar _ aY aC (q aC W.out) x.ty);have ci:=A (Kt r s);have f:=A dE;clear cF cz cP d1 dd d9 dp dB r s dE;by_cases o:x.par < -1
  ·have a7:uP T i x=false:=by unfold uP;rw[KR (show ¬ -1<=x.par by omega)];simp
   exact Qo
  by_cases a8:(i:Int)<=x.par
  ·have a7:uP T i x=false:=by unfold uP;rw[KR (show ¬x.par < (i:Int) by omega)];simp
   exact Qo
  go_wp2_with fail;refine cB.mono ?_;rintro a7 ce ⟨rfl,cq⟩;have e:=ci.1.below cq (by have:=f.out;omega);have l:=ci.2.below cq (by have:=f.out;omega);have d6:=cq.size;have ck:=q.out ce (W.out.trans (cq.mono W.out.size));have n:=A (Kt e l);have c6:=A cq;have ef:=A (Bg T vk ar _ aY V i ce ck);obtain⟨au,ch⟩:∃au,jf T x.ty=au:=⟨_,D⟩;rw[ch];have b8:=A ch;clear cB ch cq cp cf cb c7 b9 cM cm k b0 aL ao b2 bu aJ bV aK d6 ck;cases au with
  |false=>
   have a7:uP T i x=false:=by unfold uP;rw[b8.out];simp
   clear e l;go_wp2_with fail;go_meet;exact⟨Zq,c6.out⟩
  |true=>
   obtain⟨cp,cf,cb,c7,b9,cM,cm,k⟩:=nD l;obtain⟨b0,aL,ao,b2,bu,aJ,bV,aK⟩:=nD e;clear e l;by_cases b6:x.win < 0
   ·have a7:uP T i x=false:=by unfold uP;rw[KR (show ¬0<=x.win by omega)];simp
    go_wp2_with fail;go_meet;exact⟨Zq,c6.out⟩
   by_cases bz:1152921504606846976 < x.win
   ·have a7:uP T i x=false:=by unfold uP;rw[KR (show ¬x.win<=1152921504606846976 by omega)];simp
    go_wp2_with fail;go_meet;exact⟨Zq,c6.out⟩
   go_wp2_with fail;refine ef.mono ?_;rintro a7 b1 ⟨bc,rfl,br,c9⟩;obtain⟨cD,cX,rfl⟩:=aB br;have cj:=A (c6.trans (c9.mono c6.size));obtain⟨cd,P⟩:∃cd,(dQ T.states i).length=cd:=⟨_,D⟩;have bh:uP T i x=decide (cd<=8):=by unfold uP;rw[b8.out,P,KU (show-1<=x.par by omega),KU (show x.par < (i:Int) by omega),KU (show 0<=x.win by omega),KU (show x.win<=1152921504606846976 by omega)];simp
   rw[P];have a1:=A bh;clear br c9 ef P bh cp cf cb c7 b9 cM cm k b0 aL ao b2 bu aJ bV aK;by_cases c4:8 < cd
   ·have a5:(8:Int) < (cd:Int):=N;go_wp2_with fail;go_meet;exact⟨by rw[a1.out,KR (show ¬cd<=8 by omega)];first|rfl|(congr 1;simp;omega),cj.out⟩
   have a5:(cd:Int)<=8:=N;go_wp2_with fail;go_meet;exact⟨by rw[a1.out,KU (show cd<=8 by omega)];first|rfl|(congr 1;simp;omega),cj.out⟩
 obtain⟨rfl,bY⟩:=hcut;have b4:=A (W.out.trans (bY.mono W.out.size));have dE:=dP.out;have bp:=bY.size;have e:=p.out.below bY N;have l:=aa.out.below bY N;obtain⟨R,j⟩:∃R,uP T i x=R:=⟨_,D⟩;have eb:=A j;rw[j];clear j cF cz cP d1 dd d9 dp dB;cases R with
 |false=>
  have a7:rowT T i x=false:=by unfold rowT;rw[eb.out];rfl
  clear e l;go_wp2_with fail;go_ret;exact⟨by first|rfl|(rw[a7];rfl),b4.out⟩
 |true=>
  have bs:=A (Kt e l);go_upto_region 4 with fail;clear e l;go_cut [66] from 46 to 66 (λa9 t=>a9=JM (!rowB T x)/\JK wc.heap.size wc t);case first=>
   obtain⟨cp,cf,cb,c7,b9,cM,cm,k⟩:=nD bs.2;obtain⟨b0,aL,ao,b2,bu,aJ,bV,aK⟩:=nD bs.1;have cB:=A (EL T vk ar _ aY wc (q wc b4) _ x.bars (e6 wc b4));by_cases o:x.par=-1
   ·rw[o] at cp;have aV:=A o;clear o;by_cases a8:0 < x.bars.length
    ·have a7:rowB T x=false:=by unfold rowB;rw[aV.out,KU D,KR (show ¬x.bars.length=0 by omega)];rfl
     have a6:(0:Int) < (x.bars.length:Int):=N;exact Qo
    by_cases ac:x.leave=-1
    ·rw[ac] at cM;have bb:=A ac;clear ac;go_wp2_with fail;refine cB.mono ?_;rintro a7 ce ⟨rfl,cq⟩;obtain⟨au,ch⟩:∃au,je T x.bars=au:=⟨_,D⟩;rw[ch];have ca:F (rowB T x=au):=A (by unfold rowB;rw[ch];rw[aV.out,bb.out,KU (show x.bars.length=0 by omega)];cases au <;> rfl);exact PG
    have ab:(x.leave !=-1)=true:=by rw[bne_iff_ne];exact ac
    have a7:rowB T x=false:=by unfold rowB;rw[aV.out,KR ac];simp
    clear ac;exact Qo
   have am:(x.par== -1)=false:=by rw[NR];exact o
   go_wp2_with fail;refine cB.mono ?_;rintro a7 ce ⟨rfl,cq⟩;obtain⟨au,ch⟩:∃au,je T x.bars=au:=⟨_,D⟩;rw[ch];have ca:F (rowB T x=au):=A (by unfold rowB;rw[ch];rw[KR o];cases au <;> rfl);exact PG
  obtain⟨rfl,a0⟩:=hcut;have b:=A (b4.trans (a0.mono b4.size));have ax:=bs.1.below a0 N;have m:=bs.2.below a0 N;have Y:=a0.size;obtain⟨M,a3⟩:∃M,wc=M:=⟨_,D⟩;rw[a3] at b ax m Y⊢;obtain⟨X,bD⟩:∃X,rowB T x=X:=⟨_,D⟩;have cQ:=A bD;rw[bD];have eu:w.heap.size+2<=M.heap.size:=N;clear bD a0 a3 bY dE bp bs p aa dP Y;cases X with
  |false=>
   have a7:rowT T i x=false:=by unfold rowT;rw[eb.out,cQ.out];rfl
   clear ax m;go_wp2_with fail;go_ret;exact⟨by first|rfl|(rw[a7];rfl),b.out⟩
  |true=>
   have k:=m.cell 7;have bd:=A ax;have v:(0:Int)<=(x.ends.length:Int):=N;clear ax m;go_wp2_with fail;go_loopw [70] (λba wr=>∃z:Nat,z<=x.ends.length/\ba=C E z/\F ((x.ends.take z).all (oL T)=true)/\F (JK M.heap.size M wr)) (λba _=>x.ends.length-(intOf ba).toNat);case atStart=>exact⟨0,Kw _,D,A ZH,A JY⟩
   clear k;obtain⟨z,aS,rfl,g,d⟩:=hrel;have aU:=d.out.size;have a4:w.heap.size < wr.heap.size:=N;have bC:=A (b.trans (d.out.mono b.size));by_cases bA:z < x.ends.length
   ·obtain⟨aA,cv⟩:∃aA,x.ends[z]? =J aA:=⟨_,Kr bA⟩;obtain⟨c2,eU,bI,cg,af,_,_,cl,t1,d5,bj,_⟩:=EO (e4 wr bC) cv;injection af with cH bm cK;subst cH;obtain⟨cT,cX,rfl,cs,bi⟩:=bj.slice;unfold maxLen at bi;have dS:(0:Int)<=(z:Int):=N;have dD:(z:Int) < (x.ends.length:Int):=N;obtain⟨b0,aL,ao,b2,bu,aJ,bV,aK⟩:=nD (bd.below d.out N);have cZ:=A (λbl=>d.out.alloc aU bl);have d8:(x.ends.take (z+1)).all (oL T)=oL T aA:=by
     have a7:x.ends[z]=aA:=by rw[Kr bA] at cv;injection cv
     rw[ML bA,LK,g.out,a7];simp
    have cN:oL T aA=false->rowT T i x=false:=λaH=>by
     rw[aH] at d8;have aD:x.ends.all (oL T)=false:=by rw[MV] at d8⊢;obtain⟨a2,ak,e0⟩:=d8;exact⟨a2,Nl ak,e0⟩
     unfold rowT;rw[aD];simp
    have d8:=A d8;have cN:=A cN;have cB:=A (λbl=>EL T vk ar _ aY (wr.alloc bl) ((q wr bC).below ((Ky wr.heap.size wr).alloc c bl)) _ aA.bars (jW (bW.of_below ((Ky wr.heap.size wr).alloc c bl)) bj));clear cv bm cK bj g d;by_cases cC:aA.br < 0
    ·have a7:rowT T i x=false:=cN.out (by unfold oL;rw[KR (show ¬0<=aA.br by omega)];rfl);exact QG
    by_cases d4:4<=aA.br
    ·have a7:rowT T i x=false:=cN.out (by unfold oL;rw[KR (show ¬aA.br < 4 by omega)];simp);exact QG
    go_wp2_with fail;refine(cB _).mono ?_;rintro a7 b1 ⟨rfl,c9⟩;rw[KE] at c9;have cj:=A ((cZ _).trans (c9.mono N));obtain⟨au,ch⟩:∃au,je T aA.bars=au:=⟨_,D⟩;have S:oL T aA=au:=by unfold oL;rw[ch,KU (show 0<=aA.br by omega),KU (show aA.br < 4 by omega)];rfl
    rw[ch];have bs:=A (d8.trans S);have aZ:F (au=false->rowT T i x=false):=A (λh=>cN (S.trans h));clear c9 cB b0 aL ao b2 bu aJ bV aK cl t1 d5 ch S d8 cN;cases au with
    |true=>
     clear aZ;go_wp2_with fail;go_roundw;case rel=>first|exact⟨z+1,N,ZF,bs,cj⟩|((repeat apply KL);exact⟨⟨z+1,N,ZF,bs,cj⟩,D⟩)
     simp[intOf];omega
    |false=>have a7:=A (aZ D);clear aZ bs;go_wp2_with fail;go_ret;exact⟨Xh,b.trans (cj.mono N)⟩
   have cr:(x.ends.length:Int)<=(z:Int):=N;have j:z=x.ends.length:=N;have a7:rowT T i x=true:=by have aD:=g.out;rw[j,LQ] at aD;unfold rowT;rw[eb.out,cQ.out,aD];rfl
   have a7:=A a7;clear g d j;go_wp2_with fail;go_ret;exact⟨Xh,bC.out⟩

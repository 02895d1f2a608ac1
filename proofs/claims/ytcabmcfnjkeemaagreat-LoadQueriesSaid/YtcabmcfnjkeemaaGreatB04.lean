import Derived.Test.YtcabmcfnjkeemaaGreatBM00
import Derived.Test.YtcabmcfnjkeemaaGreatB03
set_option maxRecDepth 100000
set_option maxHeartbeats 40000000
set_option linter.unusedVariables false
set_option linter.unusedSimpArgs false
namespace Go.Proofs.YtcabmcfnjkeemaaGreat
open Go.Deep Go.Maps Go.RowKit
open Go renaming World->L,Value->O
open Go.IntKind renaming i64->E,u64->JL
open Go.Obj renaming cells->JO
open Go.RowKit renaming Hid->F,Below->JK
open Go.Value renaming int->C,slice->G,string->H,bool->JM
open Option renaming none->I,some->J
variable{w:L}
theorem afJ{g:Nat}{t:TypeId}{bJ bD:O}(h:aj w g t #[bJ,bD]): w.cell? ⟨g,0,I⟩=J bJ/\w.cell? ⟨g,1,I⟩=J bD:=
 ⟨h.cell 0,h.cell 1⟩
variable{i:Nat}{v:O}
theorem GU{l:List gI}(h:bU 4 uZ w v l){x:gI}(ad:l[i]? =J x): ∃b off a9,v=G (J ⟨b,off,I⟩) l.length a9/\l.length<=a9/\a9<=maxLen/\w.cell? ⟨b,off+i*4,I⟩=J (C E x.op)/\w.cell? ⟨b,off+i*4+1,I⟩=J (C E x.kind)/\w.cell? ⟨b,off+i*4+2,I⟩=J (C E x.pos)/\w.cell? ⟨b,off+i*4+3,I⟩=J (C E x.attr)/\wfi x.op/\wfi x.kind/\wfi x.pos/\wfi x.attr:=by exact QM
theorem oO{l:List dP}(h:bU 2 rU w v l){x:dP}(ad:l[i]? =J x): ∃b off a9,v=G (J ⟨b,off,I⟩) l.length a9/\l.length<=a9/\a9<=maxLen/\w.cell? ⟨b,off+i*2,I⟩=J (C E x.kind)/\w.cell? ⟨b,off+i*2+1,I⟩=J (C JL x.bits)/\wfi x.kind/\oU x.bits:=by exact PS
theorem adn{l:List mO}(h:bU 4 vC w v l){x:mO}(ad:l[i]? =J x): ∃b off a9,v=G (J ⟨b,off,I⟩) l.length a9/\l.length<=a9/\a9<=maxLen/\w.cell? ⟨b,off+i*4,I⟩=J (C E x.op)/\w.cell? ⟨b,off+i*4+1,I⟩=J (C E x.dst)/\w.cell? ⟨b,off+i*4+2,I⟩=J (C E x.a)/\w.cell? ⟨b,off+i*4+3,I⟩=J (C E x.b)/\wfi x.op/\wfi x.dst/\wfi x.a/\wfi x.b:=by exact QM
def Gu (c:aW):Bool:=decide (1<=c.regs) && decide (c.regs<=1024) && decide (0<=c.slots) && decide (c.slots<=256) && decide (1<=c.list.length) && decide (c.list.length<=1024)
def kQ (v:dP):Bool:=decide ((dG v).kind=v.kind) && decide ((dG v).bits=v.bits)
def iQ (nr ns ni nc:Int) (len:Nat):Nat->List Int->List Int->List mO->Bool
 |_,_,_,[]=>true
 |i,R,S,x :: xs=>mW R S nr ns ni nc x && (decide (x.op=52)== decide (i+1=len)) && (if x.op=53 then iQ nr ns ni nc len (i+1) R (jH x.a S) xs else if x.op=52 then iQ nr ns ni nc len (i+1) R S xs else iQ nr ns ni nc len (i+1) (jH x.dst R) S xs)
theorem Jo{p cS ch c6:Int}{b r:Nat}{R S:List Int}{l:List mO}{x:mO}(ad:l[r]? =J x):iQ p cS ch c6 b r R S (l.drop r)=(mW R S p cS ch c6 x && (decide (x.op=52)== decide (r+1=b)) && (if x.op=53 then iQ p cS ch c6 b (r+1) R (jH x.a S) (l.drop (r+1)) else if x.op=52 then iQ p cS ch c6 b (r+1) R S (l.drop (r+1)) else iQ p cS ch c6 b (r+1) (jH x.dst R) S (l.drop (r+1)))):=by
 have aS:=(KA.1 ad).1;have a7:l.drop r=x :: l.drop (r+1):=by rw[NI aS];rw[Kr aS] at ad;injection ad with ad;rw[ad]
 rw[a7];rfl
def lY (c:aW):Bool:=Gu c && c.inputs.all dY && c.consts.all kQ && iQ c.regs c.slots c.inputs.length c.consts.length c.list.length 0 [] [] c.list
theorem zl{q:Type}{f:q->Bool}{l:List q}{n:Nat}{x:q}(ad:l[n]? =J x)(aH:f x=false):l.all f=false:=by rw[MV];exact⟨x,Kz ad,by rw[aH];simp⟩
def rX (c:aW) (vi vc vl:O) (H:Nat) (w4 w:L) (n:Nat) (R S:List Int):Prop:=
 JK H w4 w/\iw w H n R/\iw w (H+1) n S/\aj w (H+1+1) 168 #[C E c.regs,C E c.slots,vi,vc,vl,.map (J H),.map (J (H+1))]
section
variable {c:aW} {vi vc vl:O} {H:Nat} {w4 w':L} {n:Nat} {R S:List Int}
theorem rX.below(h:rX c vi vc vl H w4 w n R S)(d:JK w.heap.size w w'):rX c vi vc vl H w4 w' n R S:=
 ⟨h.1.trans (d.mono XO),h.2.1.below d h.2.1.lt,h.2.2.1.below d h.2.2.1.lt,h.2.2.2.below d h.2.2.2.lt⟩
theorem rX.drew(h:rX c vi vc vl H w4 w n R S):rX c vi vc vl H w4 w.drew n R S:=
 ⟨⟨h.1.os,h.1.tape,h.1.output,h.1.size,h.1.block⟩,h.2.1.drewN 1,h.2.2.1.drewN 1,h.2.2.2⟩
theorem rX.next(h:rX c vi vc vl H w4 w n R S):rX c vi vc vl H w4 w (n+1) R S:=⟨h.1,h.2.1.mono (Ld n),h.2.2.1.mono (Ld n),h.2.2.2⟩
theorem rX.slot(h:rX c vi vc vl H w4 w n R S){k:Int}(ah:wfi k)(V:n < maxLen): ∃w',(Instr.mapUpdate 108 (.map (J (H+1))) (C E k) (JM true)).run Tryz.prog w=.ok () w'/\rX c vi vc vl H w4 w' (n+1) R (jH k S):=by obtain⟨w',aS,ag,ab⟩:=h.2.2.1.store ah V;exact⟨w',aS,h.1.grown ab XO (λae a7=>Xi),(h.2.1.kept ab ZH).mono (Ld n),ag,h.2.2.2.grown ab (λa7=>Xi)⟩
theorem rX.reg(h:rX c vi vc vl H w4 w n R S){k:Int}(ah:wfi k)(V:n < maxLen): ∃w',(Instr.mapUpdate 108 (.map (J H)) (C E k) (JM true)).run Tryz.prog w=.ok () w'/\rX c vi vc vl H w4 w' (n+1) (jH k R) S:=by obtain⟨w',aS,ag,ab⟩:=h.2.1.store ah V;exact⟨w',aS,h.1.grown ab XO (λae a7=>Xi),ag,(h.2.2.1.kept ab ZH).mono (Ld n),h.2.2.2.grown ab (λa7=>Xi)⟩
end
theorem ade(a9:aW)(w:L)(vi aY aM:O)(aR:bU 4 uZ w vi a9.inputs)(af:bU 2 rU w aY a9.consts)(a':bU 4 vC w aM a9.list): Calls Tryz.prog 29 #[.agg #[C E a9.regs,C E a9.slots,vi,aY,aM]] w (wF w (lY a9)):=by
 obtain⟨dw,bv,rfl,f0,eM⟩:=aR.slice;obtain⟨bq,bo,rfl,aH,aI⟩:=af.slice;obtain⟨bO,bZ,rfl,ef,dC⟩:=a'.slice;unfold maxLen at eM aI dC;have co:=A (λB (d:JK w.heap.size w B)=>qF (bW.of_below d) aR);have b:=A (λB (d:JK w.heap.size w B)=>ug (bW.of_below d) af);have dh:=A (λB (d:JK w.heap.size w B)=>uf (bW.of_below d) a');obtain⟨aC,bx⟩:∃aC,aC=w.alloc (JO #[C E a9.regs,C E a9.slots,G dw a9.inputs.length bv,G bq a9.consts.length bo,G bO a9.list.length bZ] 55):=⟨_,D⟩;have W:JK w.heap.size w aC:=VO;have dE:aC.heap.size=w.heap.size+1:=Zo;have p:aj aC w.heap.size 55 #[C E a9.regs,C E a9.slots,G dw a9.inputs.length bv,G bq a9.consts.length bo,G bO a9.list.length bZ]:=Xt;have W:=A W;have p:=A p;have dP:=A dE;clear aR af a' dE;go_in;go_upto_region 1 with fail;rw[<-bx];clear bx;go_cut [39] from 10 to 39 (λy bn=>y=JM (!Gu a9)/\bn=aC);case first=>obtain⟨b0,aL,ao,b2,bu⟩:=jO p.out;go_wp2_with fail;all_goals(go_meet;refine⟨?_,D⟩;congr 1;rw[LG];unfold Gu;simp only[Bool.or_eq_true,Bool.and_eq_true,Bool.not_eq_true',Bool.and_eq_false_iff,decide_eq_true_eq,decide_eq_false_iff_not,true_iff,false_iff];omega)
 obtain⟨rfl,aG⟩:=hcut;subst aG;obtain⟨V,a0⟩:∃V,Gu a9=V:=⟨_,D⟩;have cw:=A a0;rw[a0];clear a0;cases V with
 |false=>
  have a7:lY a9=false:=by unfold lY;rw[cw.out];rfl
  have a7:=A a7;go_wp2_with fail;go_ret;exact⟨Xh,W.out⟩
 |true=>
  obtain⟨b0,aL,ao,b2,bu⟩:=jO p.out;have cq:(0:Int)<=(a9.inputs.length:Int):=N;go_wp2_with fail;clear b0 aL ao b2 bu;go_loopw [43] (λba wr=>∃z:Nat,z<=a9.inputs.length/\ba=C E z/\F (JK wc.heap.size wc wr)/\F ((a9.inputs.take z).all dY=true)) (λba _=>a9.inputs.length-(intOf ba).toNat);case atStart=>exact⟨0,Kw _,D,A JY,A ZH⟩
  obtain⟨z,aS,rfl,d,cv⟩:=hrel;have dE:=dP.out;have aU:=d.out.size;have cY:=A (W.out.trans (d.out.mono W.out.size));by_cases bA:z < a9.inputs.length
  ·obtain⟨aa,ad⟩:∃aa,a9.inputs[z]? =J aa:=⟨_,Kr bA⟩;obtain⟨bE,aE,bG,bp,_,_,cF,cz,cP,d1,_⟩:=GU (co wr cY) ad;injection bp with cH bm cK;subst cH;have ct:(0:Int)<=(z:Int):=N;have c0:(z:Int) < (a9.inputs.length:Int):=N;have cZ:=A (λbl=>d.out.alloc aU bl);have cm:=A (rY (f:=dY) ad cv.out);have R:F (dY aa=false->lY a9=false):=A (λh=>VP);have cB:=A (λB=>abz aa B);obtain⟨au,ch⟩:∃au,dY aa=au:=⟨_,D⟩;rw[ch] at cB cm R;clear ad bm cK ch cv d;go_wp2_with fail;refine(cB _).mono ?_;rintro a7 b1 ⟨rfl,c9⟩;rw[KE] at c9;have cj:=A ((cZ _).trans (c9.mono N));clear c9 cB cF cz cP d1;cases au with
   |true=>
    have a7:=A (cm D);clear cm R;go_wp2_with fail;go_roundw;case rel=>first|exact⟨z+1,N,ZF,cj,a7⟩|((repeat apply KL);exact⟨⟨z+1,N,ZF,cj,a7⟩,D⟩)
    simp[intOf];omega
   |false=>have a7:=A (R D);clear cm R;go_wp2_with fail;go_ret;exact⟨Xh,W.out.trans (cj.mono N)⟩
  have cr:(a9.inputs.length:Int)<=(z:Int):=N;have ai:F (a9.inputs.all dY=true):=A VQ;obtain⟨b0,aL,ao,b2,bu⟩:=jO (p.out.below d.out N);have cT:(0:Int)<=(a9.consts.length:Int):=N;clear cv;go_wp2_with fail;go_loopw [54] (λba wr=>∃z:Nat,z<=a9.consts.length/\ba=C E z/\F (JK wc.heap.size wc wr)/\F ((a9.consts.take z).all kQ=true)) (λba _=>a9.consts.length-(intOf ba).toNat);case atStart=>exact⟨0,Kw _,D,A d.out,A ZH⟩
  clear b0 aL ao b2 bu d cY aU;rename_i aP _;obtain⟨cb,fg,rfl,d,cv⟩:=hrel;have aU:=d.out.size;have cY:=A (W.out.trans (d.out.mono W.out.size));by_cases b5:cb < a9.consts.length
  ·obtain⟨aa,ad⟩:∃aa,a9.consts[cb]? =J aa:=⟨_,Kr b5⟩;obtain⟨bE,aE,bG,bp,_,_,cF,cz,_,aw⟩:=oO (b wr cY) ad;injection bp with cH bm cK;subst cH;have ct:(0:Int)<=(cb:Int):=N;have c0:(cb:Int) < (a9.consts.length:Int):=N;have cZ:=A (λbl=>d.out.alloc aU bl);have cm:=A (rY (f:=kQ) ad cv.out);have R:F (kQ aa=false->lY a9=false):=A (λh=>VP);have cB:=A (λB=>clean_any aa B aw);clear ad bm cK cv d;go_upto_region 12 with fail;obtain⟨ce,eb⟩:∃ce,ce=wr.alloc (JO #[C E aa.kind,C JL aa.bits] 148):=⟨_,D⟩;have T:aj ce wr.heap.size 148 #[C E aa.kind,C JL aa.bits]:=by rw[eb];exact aj.new wr _ _
   have c6:=A (cZ (JO #[C E aa.kind,C JL aa.bits] 148));have d6:ce.heap.size=wr.heap.size+1:=by rw[eb];simp
   rw[<-eb] at c6⊢;have T:=A T;have ei:=A d6;clear eb cF cz cZ d6;go_cut [61] from 58 to 61 (λy bn=>y=JM (!kQ aa)/\JK ce.heap.size ce bn);case first=>
    obtain⟨a5,a6⟩:=afJ T.out;obtain⟨c5,ck,ah⟩:∃c5 ck,dG aa=⟨c5,ck⟩:=⟨_,_,D⟩;have eV:F (kQ aa=(decide (c5=aa.kind) && decide (ck=aa.bits))):=A (by unfold kQ;rw[ah]);have aJ:F (∀B:L,Calls Tryz.prog 56 #[.agg #[C E aa.kind,C JL aa.bits]] B (aer B ⟨c5,ck⟩)):=A (λB=>by rw[<-ah];exact cB B);clear ah;rcases b3:(c5== aa.kind) with _|_ <;> rcases bh:(ck== aa.bits) with _|_;all_goals(
     go_region_with ((go_at_call 56;refine(aJ _).mono ?_;rintro a7 b1 ⟨rfl,c9⟩;have cG:JK ce.heap.size ce b1:=⟨c9.os,c9.tape,c9.output,c9.size,c9.block⟩;have cc:=A cG;clear c9 cG;have a5:=(T.out.below cc Yr).cell 0;have a6:=(T.out.below cc Yr).cell 1))
     all_goals go_wp2_with fail
     all_goals(go_meet;refine⟨?_,⟨cc.os,cc.tape,cc.output,cc.size,cc.block⟩⟩;clear cc a5 a6;simp only[beq_iff_eq,beq_eq_false_iff_ne,ne_eq] at b3 bh;congr 1;rw[eV.out];simp[b3,bh]))
   obtain⟨rfl,bY⟩:=hcut;have b4:=A (c6.trans (bY.mono Yr));obtain⟨ak,aA⟩:∃ak,kQ aa=ak:=⟨_,D⟩;rw[aA] at cm R⊢;clear aA bY c6;cases ak with
   |true=>
    have a7:=A (cm D);clear cm R;go_wp2_with fail;go_roundw;case rel=>first|exact⟨cb+1,N,ZF,b4,a7⟩|((repeat apply KL);exact⟨⟨cb+1,N,ZF,b4,a7⟩,D⟩)
    simp[intOf];omega
   |false=>have a7:=A (R D);clear cm R;go_wp2_with fail;go_ret;exact⟨Xh,W.out.trans (b4.mono N)⟩
  have eW:(a9.consts.length:Int)<=(cb:Int):=N;have aK:F (a9.consts.all kQ=true):=A VQ;have e:=p.out.below d.out N;obtain⟨b0,aL,ao,b2,bu⟩:=jO e;have cg:(0:Int)<=(a9.list.length:Int):=N;have ax:=A e;have ay:=λb9 w=>@run_makeMap Tryz.prog b9 w;have aQ:wr.heap.size>=w.heap.size+1:=N;clear cv e;go_upto_region 16 with fail;clear ay;obtain⟨ae,m⟩:∃ae,wr.heap.size=ae:=⟨_,D⟩;obtain⟨r,aN⟩:∃r,r=((wr.alloc (.map #[] 0)).alloc (.map #[] 0)).alloc (JO #[C E a9.regs,C E a9.slots,G dw a9.inputs.length bv,G bq a9.consts.length bo,G bO a9.list.length bZ,.map (J wr.heap.size),.map (J (wr.heap.size+1))] 168):=⟨_,D⟩;have a1:iw r ae 0 []:=by rw[aN,<-m];exact((iw.made wr).alloc _).alloc _
  have aB:iw r (ae+1) 0 []:=by rw[aN,<-m];have:=(iw.made (wr.alloc (.map #[] 0))).alloc (JO #[C E a9.regs,C E a9.slots,G dw a9.inputs.length bv,G bq a9.consts.length bo,G bO a9.list.length bZ,.map (J wr.heap.size),.map (J (wr.heap.size+1))] 168);rw[KE] at this;exact this
  have a2:aj r (ae+1+1) 168 #[C E a9.regs,C E a9.slots,G dw a9.inputs.length bv,G bq a9.consts.length bo,G bO a9.list.length bZ,.map (J ae),.map (J (ae+1))]:=by rw[aN,<-m];have:=aj.new ((wr.alloc (.map #[] 0)).alloc (.map #[] 0)) 168 #[C E a9.regs,C E a9.slots,G dw a9.inputs.length bv,G bq a9.consts.length bo,G bO a9.list.length bZ,.map (J wr.heap.size),.map (J (wr.heap.size+1))];rw[KE,KE] at this;exact this
  have x:JK ae wr r:=by rw[aN,<-m];exact(((Ky _ wr).alloc c _).alloc ZH _).alloc Zv _
  rw[m] at aQ;have ee:r.heap.size=ae+3:=by rw[aN];simp[m]
  have al:F (rX a9 (G dw a9.inputs.length bv) (G bq a9.consts.length bo) (G bO a9.list.length bZ) ae r r 0 [] []):=A ⟨Ky _ _,a1,aB,a2⟩;have n:=A (cY.trans (x.mono N));obtain⟨b0,aL,ao,b2,bu⟩:=jO (ax.out.below x N);have a8:=A (ax.out.below x N);have eh:=A ee;obtain⟨S,am⟩:∃S,iQ a9.regs a9.slots a9.inputs.length a9.consts.length a9.list.length 0 [] [] a9.list=S:=⟨_,D⟩;have dV:=A am;have s:F (lY a9=S):=A (by unfold lY;rw[cw.out,ai.out,aK.out,am];rfl);try rw[<-aN]
  rw[m];clear aN a1 aB a2 x ee am m d cY;go_wp2_with fail;go_loopw [71] (λba bn=>∃(z:Nat) (i t:List Int),z<=a9.list.length/\ba=C E z/\F (rX a9 (G dw a9.inputs.length bv) (G bq a9.consts.length bo) (G bO a9.list.length bZ) ae r bn z i t)/\F (iQ a9.regs a9.slots a9.inputs.length a9.consts.length a9.list.length z i t (a9.list.drop z)=S)) (λba _=>a9.list.length-(intOf ba).toNat);case atStart=>exact⟨0,[],[],Kw _,D,al,A dV.out⟩
  clear b0 aL ao b2 bu;obtain⟨c7,i,t,fd,rfl,bL,ab⟩:=hrel;have bH:=bL.out;have aU:=bH.1.size;have ee:=eh.out;have cY:=A (n.trans (bH.1.mono N));by_cases c8:c7 < a9.list.length
  ·obtain⟨aa,ad⟩:∃aa,a9.list[c7]? =J aa:=⟨_,Kr c8⟩;obtain⟨bE,aE,bG,bp,_,_,cF,cz,cP,d1,g,M,v,aF⟩:=adn (dh wr cY) ad;injection bp with cH bm cK;subst cH;have ct:(0:Int)<=(c7:Int):=N;have c0:(c7:Int) < (a9.list.length:Int):=N;obtain⟨av,ac⟩:∃av,av=wr.alloc (JO #[C E aa.op,C E aa.dst,C E aa.a,C E aa.b] 143):=⟨_,D⟩;have an:aj av wr.heap.size 143 #[C E aa.op,C E aa.dst,C E aa.a,C E aa.b]:=by rw[ac];exact aj.new wr _ _
   have q:=bH.below (w':=av) Xp;have a4:av.heap.size=wr.heap.size+1:=by rw[ac];simp
   have cB:=A (ab2 aa av (ae+1+1) ae c7 (ae+1) c7 i t a9.regs a9.slots _ _ _ _ _ _ _ q.2.2.2 q.2.1 q.2.2.1 ⟨f0,Ya⟩ ⟨aH,Ya⟩ v aF);have dj:=A ((Jo ad).symm.trans ab.out);have an:=A an;have q:=A q;have ar:=A a4;have ag:=A (Kt M v);have aT:=A (a8.out.below bH.1 N);clear ad bm cK bL bH a4 ab g M v aF;go_upto_region 19 with fail;rw[<-ac];clear ac cF cz cP d1;obtain⟨a5,a6,aq,aZ⟩:=blk4 an.out;go_wp2_with fail;refine cB.mono ?_;rintro a7 bt ⟨rfl,dx⟩;have o:=q.out.below dx;have ap:=an.out.below dx (by have:=ar.out;omega);have az:=A (n.trans (o.1.mono N));obtain⟨X,bD⟩:∃X,mW i t a9.regs a9.slots a9.inputs.length a9.consts.length aa=X:=⟨_,D⟩;rw[bD] at dj⊢;have aO:=A (a8.out.below o.1 N);have o:=A o;have ap:=A ap;clear dx bD a5 a6 aq aZ cB q an bu b0 aL ao b2;cases X with
   |false=>
    have a7:lY a9=false:=by rw[s.out,<-dj.out];rfl
    have a7:=A a7;clear dj;exact Qx
   |true=>
    obtain⟨a5,a6,aq,aZ⟩:=blk4 ap.out;obtain⟨b0,aL,ao,b2,bu⟩:=jO aO.out;rcases b3:(aa.op== 52) with _|_ <;> rcases bh:((c7:Int)== (a9.list.length:Int)-1) with _|_
    ·have j:¬aa.op=52:=Zb;have di:¬c7+1=a9.list.length:=by(have:¬(c7:Int)=(a9.list.length:Int)-1:=Zc);omega
     have a3:F ((if aa.op=53 then iQ a9.regs a9.slots a9.inputs.length a9.consts.length a9.list.length (c7+1) i (jH aa.a t) (a9.list.drop (c7+1)) else iQ a9.regs a9.slots a9.inputs.length a9.consts.length a9.list.length (c7+1) (jH aa.dst i) t (a9.list.drop (c7+1)))=S):=A (by have aD:=dj.out;rw[KR j,KR di,JZ j] at aD;simpa using aD);have ca:(aa.op !=52)=true:=by rw[bne_iff_ne];exact j
     clear dj j di;rcases dc:(aa.op== 53) with _|_
     ·have dI:=A (show iQ a9.regs a9.slots a9.inputs.length a9.consts.length a9.list.length (c7+1) (jH aa.dst i) t (a9.list.drop (c7+1))=S by have aD:=a3.out;rw[JZ (by simpa using dc)] at aD;exact aD);clear a3;obtain⟨cQ,cJ,db,dr,da,P,de⟩:=afK o.out.2.2.2;go_upto_region 24 with fail;obtain⟨cU,l,Y⟩:=o.out.drew.reg (k:=aa.dst) ag.1 Ya;have d':=A Y;clear Y;go_still_tail 6,U;go_wp2_with fail;go_roundw;case rel=>first|exact⟨c7+1,jH aa.dst i,t,N,ZF,d',dI⟩|((repeat apply KL);exact⟨⟨c7+1,jH aa.dst i,t,N,ZF,d',dI⟩,D⟩)
      simp[intOf];omega
     have dI:=A (show iQ a9.regs a9.slots a9.inputs.length a9.consts.length a9.list.length (c7+1) i (jH aa.a t) (a9.list.drop (c7+1))=S by have aD:=a3.out;rw[Kq (by simpa using dc)] at aD;exact aD);clear a3;obtain⟨cQ,cJ,db,dr,da,P,de⟩:=afK o.out.2.2.2;obtain⟨cU,l,Y⟩:=o.out.drew.slot (k:=aa.a) ag.2 Ya;have d':=A Y;clear Y;go_upto_region 22 with fail;go_still_tail 6,U;go_wp2_with fail;go_roundw;case rel=>first|exact⟨c7+1,i,jH aa.a t,N,ZF,d',dI⟩|((repeat apply KL);exact⟨⟨c7+1,i,jH aa.a t,N,ZF,d',dI⟩,D⟩)
     simp[intOf];omega
    ·have j:¬aa.op=52:=Zb;have di:c7+1=a9.list.length:=by(have:(c7:Int)=(a9.list.length:Int)-1:=Zc);omega
     have a7:lY a9=false:=by rw[s.out,<-dj.out,KR j,KU di];rfl
     have a7:=A a7;clear dj j di;exact Qx
    ·have j:aa.op=52:=Zb;have di:¬c7+1=a9.list.length:=by(have:¬(c7:Int)=(a9.list.length:Int)-1:=Zc);omega
     have a7:lY a9=false:=by rw[s.out,<-dj.out,KU j,KR di];rfl
     have a7:=A a7;clear dj j di;exact Qx
    have j:aa.op=52:=Zb;have di:c7+1=a9.list.length:=by(have:(c7:Int)=(a9.list.length:Int)-1:=Zc);omega
    have ca:(aa.op !=52)=false:=by simp[j]
    have dc:(aa.op== 53)=false:=by simp[j]
    have dI:=A (show iQ a9.regs a9.slots a9.inputs.length a9.consts.length a9.list.length (c7+1) i t (a9.list.drop (c7+1))=S by have aD:=dj.out;rw[KU j,KU di,JZ (by rw[j];decide),Kq j] at aD;simpa using aD);have d':=A o.out.next;clear dj j di;go_wp2_with fail;go_roundw;case rel=>first|exact⟨c7+1,i,t,N,ZF,d',dI⟩|((repeat apply KL);exact⟨⟨c7+1,i,t,N,ZF,d',dI⟩,D⟩)
    simp[intOf];omega
  have f9:(a9.list.length:Int)<=(c7:Int):=N;have a7:lY a9=true:=by have aD:=ab.out;rw[List.drop_of_length_le N] at aD;rw[s.out,<-aD];rfl
  have a7:=A a7;clear ab bL bH;exact OT

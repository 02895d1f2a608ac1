import Derived.Test.YtcabmcfnjkeemaaGreatBM00
import Derived.Test.YtcabmcfnjkeemaaGreatB02
set_option maxRecDepth 100000
set_option maxHeartbeats 40000000
set_option linter.unusedVariables false
set_option linter.unusedSimpArgs false
namespace Go.Proofs.YtcabmcfnjkeemaaGreat
open Go.Deep Go.Maps Go.RowKit
open Go renaming World->L,Value->O
open Go.IntKind renaming i64->E,u64->JL
open Go.Obj renaming cells->JO
open Go.RowKit renaming Hid->F,Below->JK
open Go.Value renaming int->C,slice->G,bool->JM
open Option renaming none->I,some->J
variable{a:Int}
theorem Hq{b:Int}(h:(a !=b)=true):a≠b:=bne_iff_ne.1 h
theorem Eh{b:Int}(h:(a !=b)=false):a=b:=by
 by_cases a7:a=b
 ·exact a7
 rw[bne_iff_ne.2 a7] at h;cases h
variable{w:L}{v:O}
theorem DU{l:List (List Int)}(h:bU 1 wH w v l){i:Nat}{x:List Int}(ad:l[i]? =J x): ∃b off a9 u,v=G (J ⟨b,off,I⟩) l.length a9/\l.length<=a9/\a9<=maxLen/\w.cell? ⟨b,off+i,I⟩=J u/\bU 1 fF w u x:=by exact QK
variable{l:List Int}
theorem Am(h:bU 1 fF w v l){i:Nat}{x:Int}(ad:l[i]? =J x): ∃b off a9,v=G (J ⟨b,off,I⟩) l.length a9/\l.length<=a9/\a9<=maxLen/\w.cell? ⟨b,off+i,I⟩=J (C E x)/\wfi x:=by obtain⟨b,off,a9,af,o,a8,aR,bj,a',⟨rfl,bN⟩,aw⟩:=h.get ad;exact⟨b,off,a9,af,o,a8,by have:=aw 0 _ D;simpa using this,bN⟩
def Ah (T:bF):Bool:=decide (1<=T.strategy) && decide (T.strategy<=3) && decide (T.kinds.length<=16) && decide (0<=T.syms) && decide (T.syms<=64) && decide (T.codes.length<=1024) && decide (T.states.length<=32)
def sK (n:Int):Bool:=decide (1<=n) && decide (n<=100000)
def keysB (T:bF):Bool:=decide (T.keys.length=0) || decide (T.keys.length=T.kinds.length)
def sH (T:bF) (i:Nat) (l:List Int):Bool:=
 decide (l.length<=8) && (decide (T.keys.length=0) || (decide (-1<=T.keys.getD i 0) && decide (T.keys.getD i 0 < (l.length:Int)))) && l.all λk=>decide (1<=k) && decide (k<=4)
def mQ (T:bF) (n:Nat):Bool:=(List.range n).all λi=>sH T i (T.kinds.getD i [])
def kM (T:bF):Bool:=Ah T && sK T.runs && sK T.cells && keysB T && mQ T T.kinds.length
variable{r:Nat}
theorem Jv{T:bF}(ab:T.kinds[r]? =J l)(h:mQ T r=true):mQ T (r+1)=sH T r l:=by
 unfold mQ at h⊢;rw[Nu,LK,h];have a7:T.kinds.getD r []=l:=by rw[Ll,ab];rfl
 rw[List.all_cons,List.all_nil,a7,Bool.true_and,Bool.and_true]
theorem abG{T:bF}(ab:T.kinds[r]? =J l)(aS:r < T.kinds.length)(h:sH T r l=false):kM T=false:=by
 have a7:T.kinds.getD r []=l:=by rw[Ll,ab];rfl
 have aD:mQ T T.kinds.length=false:=by unfold mQ;rw[MV];exact⟨r,by rw[MK];exact aS,by rw[a7,h];simp⟩
 unfold kM;rw[aD,Bool.and_false]
def uT (T:bF) (r:Nat) (l:List Int):Bool:=decide (l.length<=8) && (decide (T.keys.length=0) || (decide (-1<=T.keys.getD r 0) && decide (T.keys.getD r 0 < (l.length:Int))))
def kOk (k:Int):Bool:=decide (1<=k) && decide (k<=4)
theorem aeW{T:bF}(h:uT T r l=false):sH T r l=false:=by unfold sH;unfold uT at h;rw[h,Bool.false_and]
variable{k:Int}{n:Nat}
theorem aeX{T:bF}(ah:l[n]? =J k)(h:kOk k=false):sH T r l=false:=by
 have aD:l.all kOk=false:=by rw[MV];exact⟨k,Kz ah,by rw[h];simp⟩
 unfold sH;show(_ && _ && l.all kOk)=false;rw[aD,Bool.and_false]
theorem aeY{T:bF}(h:uT T r l=true)(a8:l.all kOk=true):sH T r l=true:=by unfold sH;unfold uT at h;show(_ && _ && l.all kOk)=true;rw[h,a8];rfl
theorem rY{q:Type}{f:q->Bool}{l:List q}{x:q}(ad:l[n]? =J x)(h:(l.take n).all f=true)(aH:f x=true):(l.take (n+1)).all f=true:=by rw[MJ,ad,LK,h];simp[aH]
theorem aeT{T:bF}(h:keysB T=true)(bw:¬T.keys.length=0)(aS:r < T.kinds.length):r < T.keys.length:=by unfold keysB at h;simp only[decide_eq_true_eq,Bool.or_eq_true] at h;omega
theorem aeU{T:bF}(bw:T.keys.length=0):uT T r l=decide ((l.length:Int)<=8):=by unfold uT;rw[KU bw,Bool.true_or,Bool.and_true,LG];simp only[decide_eq_true_eq];omega
theorem aeV{T:bF}(bw:¬T.keys.length=0)(ah:T.keys[r]? =J k):uT T r l=(decide ((l.length:Int)<=8) && decide (-1<=k) && decide (k < (l.length:Int))):=by
 have a7:T.keys.getD r 0=k:=by rw[Ll,ah];rfl
 unfold uT;rw[KR bw,Bool.false_or,a7,LG];simp only[decide_eq_true_eq,Bool.and_eq_true];omega
def afn (T:bF) (r:Nat):Prop:=(1<=r->sK T.runs=true)/\(2<=r->sK T.cells=true)
theorem adf(T:bF)(vk ar vs aY:O)(w:L)(h:jF w T vk ar vs aY): Calls Tryz.prog 27 #[.agg #[C E T.strategy,vk,ar,C E T.syms,C E T.runs,C E T.cells,vs,aY]] w (wF w (kM T)):=by
 obtain⟨Y,a9,rfl,d0,cR⟩:=h.states.slice;obtain⟨bq,bo,rfl,c4,b7⟩:=h.codes.slice;obtain⟨bO,bZ,rfl,c3,aQ⟩:=h.kinds.slice;obtain⟨aW,c5,rfl,bg,aI⟩:=h.keys.slice;unfold maxLen at cR b7 aQ aI;have q:=RV;obtain⟨aC,bx⟩:∃aC,aC=w.alloc (JO #[C E T.strategy,G aW T.keys.length c5,G bO T.kinds.length bZ,C E T.syms,C E T.runs,C E T.cells,G Y T.states.length a9,G bq T.codes.length bo] 44):=⟨_,D⟩;have W:JK w.heap.size w aC:=VO;have dE:aC.heap.size=w.heap.size+1:=Zo;have p:aj aC w.heap.size 44 #[C E T.strategy,G aW T.keys.length c5,G bO T.kinds.length bZ,C E T.syms,C E T.runs,C E T.cells,G Y T.states.length a9,G bq T.codes.length bo]:=Xt;have W:=A W;have p:=A p;have dP:=A dE;have c8:=h.ok;clear h dE;go_in;go_upto_region 1 with fail;rw[<-bx];clear bx;go_cut [44] from 9 to 44 (λy bn=>y=JM (!Ah T)/\bn=aC);case first=>obtain⟨b0,aL,ao,b2,bu,aJ,bV,aK⟩:=nD p.out;go_wp2_with fail;all_goals(go_meet;refine⟨?_,D⟩;congr 1;rw[LG];unfold Ah;simp;omega)
 obtain⟨rfl,aG⟩:=hcut;subst aG;obtain⟨V,a0⟩:∃V,Ah T=V:=⟨_,D⟩;have cw:=A a0;rw[a0];clear a0;have dE:=dP.out;obtain⟨b0,aL,ao,b2,bu,aJ,bV,aK⟩:=nD p.out;cases V with
 |false=>
  have a7:kM T=false:=by unfold kM;rw[cw.out];rfl
  have a7:=A a7;go_wp2_with fail;go_ret;exact⟨Xh,W.out⟩
 |true=>
  have t:=A (aj.new wc 3 #[C E T.runs,C E T.cells]);have b6:=A (W.out.alloc W.out.size (JO #[C E T.runs,C E T.cells] 3));have dy:=A dE;have e:=A (p.out.alloc (JO #[C E T.runs,C E T.cells] 3));obtain⟨ce,eb⟩:∃ce,ce=wc.alloc (JO #[C E T.runs,C E T.cells] 3):=⟨_,D⟩;clear dE;go_upto_region 4 with fail;rw[<-eb] at t b6 e⊢;clear eb b0 aL ao b2 bu aJ bV aK;go_loopw [51] (λba wr=>∃z:Nat,z<=2/\ba=C E z/\wr=ce/\afn T z) (λba _=>2-(intOf ba).toNat);case atStart=>exact⟨0,Kw _,D,D,λh=>absurd h N,λh=>absurd h N⟩
  obtain⟨z,aS,rfl,rfl,a'⟩:=hrel;by_cases bA:z < 2
  ·have a1:(z:Int) < 2:=N;have dz:(0:Int)<=(z:Int):=N;obtain⟨dn,aw,v,s⟩:∃dn,wr.cell? ⟨wc.heap.size,z,I⟩=J (C E dn)/\(sK dn=true->afn T (z+1))/\(sK dn=false->kM T=false):=by
    rcases MB z with bw|bw
    ·subst bw;refine⟨T.runs,t.out.cell 0,λh=>⟨λ_=>h,λh=>absurd h N⟩,λh=>by unfold kM;rw[h];simp⟩
    have o:z=1:=N;subst o;refine⟨T.cells,t.out.cell 1,λh=>⟨λ_=>a'.1 N,λ_=>h⟩,λh=>by unfold kM;rw[h];simp⟩
   have am:=A v;have j:=A s;clear v s a';by_cases cC:dn < 1
   ·have a7:=A (j (by unfold sK;rw[KR (show ¬1<=dn by omega)];rfl));clear am j;go_wp2_with fail;go_ret;exact⟨Xh,b6.out⟩
   by_cases d4:100000 < dn
   ·have a7:=A (j (by unfold sK;rw[KR (show ¬dn<=100000 by omega)];simp));clear am j;go_wp2_with fail;go_ret;exact⟨Xh,b6.out⟩
   have a7:=A (am (by unfold sK;rw[KU (show 1<=dn by omega),KU (show dn<=100000 by omega)];rfl));clear am j;go_wp2_with fail;go_roundw;case rel=>first|exact⟨z+1,N,ZF,D,a7.out⟩|exact⟨z+1,N,ZF,True.intro,a7.out⟩|((repeat apply KL);exact⟨⟨z+1,N,ZF,D,a7.out⟩,D⟩)
   simp[intOf];omega
  have cr:(2:Int)<=(z:Int):=N;have dh:=A (Kt (a'.1 N) (a'.2 N));clear a';have cY:=A (b6.out);have eY:w.heap.size < wr.heap.size:=by have:=e.out.lt;exact this
  go_upto_region 9 with fail;go_cut [74] from 62 to 74 (λy bn=>y=JM (!keysB T)/\bn=wr);case first=>
   obtain⟨b0,aL,ao,b2,bu,aJ,bV,aK⟩:=nD e.out;rcases ej:((T.keys.length:Int) !=0) with _|_
   ·have a7:keysB T=true:=by have:=Eh ej;unfold keysB;simp only[decide_eq_true_eq,Bool.or_eq_true];omega
    exact Qv
   rcases cq:((T.keys.length:Int) !=(T.kinds.length:Int)) with _|_
   ·have a7:keysB T=true:=by have:=Eh cq;unfold keysB;simp only[decide_eq_true_eq,Bool.or_eq_true];omega
    exact Qv
   have a7:keysB T=false:=by have:=Hq ej;have:=Hq cq;unfold keysB;simp only[decide_eq_false_iff_not,Bool.or_eq_false_iff];omega
   exact Qv
  obtain⟨rfl,aG⟩:=hcut;subst aG;obtain⟨dR,en⟩:∃dR,keysB T=dR:=⟨_,D⟩;have dA:=A en;rw[en];clear en;cases dR with
  |false=>
   have a7:kM T=false:=by unfold kM;rw[dA.out];simp
   have a7:=A a7;exact OT
  |true=>
   obtain⟨b0,aL,ao,b2,bu,aJ,bV,aK⟩:=nD e.out;have dn:(0:Int)<=(T.kinds.length:Int):=N;go_wp2_with fail;go_loopw [78] (λba bn=>∃z:Nat,z<=T.kinds.length/\ba=C E z/\bn=wc/\F (mQ T z=true)) (λba _=>T.kinds.length-(intOf ba).toNat);case atStart=>exact⟨0,Kw _,D,D,A (by simp[mQ])⟩
   obtain⟨z,aS,rfl,rfl,a'⟩:=hrel;by_cases bA:z < T.kinds.length
   ·obtain⟨bP,ae⟩:∃bP,T.kinds[z]? =J bP:=⟨_,Kr bA⟩;have X:=q.out _ cY;obtain⟨bE,aE,bG,fX,af,_,_,cF,bs⟩:=DU X.kinds ae;injection af with cH bm cK;subst cH;obtain⟨ds,co,rfl,bM,d3⟩:=bs.slice;unfold maxLen at d3;have ct:(0:Int)<=(z:Int):=N;have c0:(z:Int) < (T.kinds.length:Int):=N;have av:=A bs;have c2:=A (Jv ae a'.out);have m:=A (abG ae bA);have P:=A X.keys;clear bs ae bm cK a' X;go_upto_region 14 with fail;go_cut [109] from 83 to 109 (λy bn=>y=JM (!uT T z bP)/\bn=wr);case first=>
     by_cases cv:T.keys.length=0
     ·have g:(T.keys.length:Int)<=0:=N;have cy:=A (aeU (T:=T) (r:=z) (l:=bP) cv);clear cv;go_wp2_with fail;all_goals(go_meet;refine⟨?_,D⟩;rw[cy.out];congr 1;rw[LG];simp;try omega)
     have er:=aeT dA cv bA;obtain⟨b,i⟩:∃b,T.keys[z]? =J b:=⟨_,Kr er⟩;obtain⟨aN,b',cL,af,_,_,dT,_⟩:=Am P i;injection af with cH bm cK;subst cH;have cy:=A (aeV (l:=bP) cv i);have g:(0:Int) < (T.keys.length:Int):=N;have cu:(z:Int) < (T.keys.length:Int):=N;clear cv i bm cK;go_wp2_with fail;all_goals(go_meet;refine⟨?_,D⟩;rw[cy.out];congr 1;rw[LG];simp;try omega)
    obtain⟨rfl,aG⟩:=hcut;subst aG;obtain⟨cc,ad⟩:∃cc,uT T z bP=cc:=⟨_,D⟩;have n:=A ad;rw[ad];clear ad;cases cc with
    |false=>have a7:=A (m (aeW n));exact OT
    |true=>
     have bB:(0:Int)<=(bP.length:Int):=N;go_wp2_with fail;go_loopw [112] (λba bn=>∃M:Nat,M<=bP.length/\ba=C E M/\bn=wc/\F ((bP.take M).all kOk=true)) (λba _=>bP.length-(intOf ba).toNat);case atStart=>exact⟨0,Kw _,D,D,A ZH⟩
     obtain⟨M,V,rfl,rfl,a2⟩:=hrel;by_cases eJ:M < bP.length
     ·obtain⟨b,i⟩:∃b,bP[M]? =J b:=⟨_,Kr eJ⟩;obtain⟨bl,S,bI,af,_,_,dT,_⟩:=Am av i;injection af with cH bm cK;subst cH;have cu:(0:Int)<=(M:Int):=N;have e1:(M:Int) < (bP.length:Int):=N;have cm:=A (rY (f:=kOk) i a2.out);have R:=A (λh=>m (aeX i h));clear i bm cK a2;rcases br:kOk b with _|_
      ·have a7:=A (R br);have k:b < 1\/4 < b:=WC;clear br cm R;rcases k with o|o
       ·exact OT
       have a8:1<=b:=N;exact OT
      have a7:=A (cm br);have o:1<=b:=WC;have a8:b<=4:=WC;clear br cm R;go_wp2_with fail;go_roundw;case rel=>first|exact⟨M+1,N,ZF,D,a7⟩|exact⟨M+1,N,ZF,True.intro,a7⟩|((repeat apply KL);first|exact⟨⟨M+1,N,ZF,D,a7⟩,D⟩|exact⟨⟨M+1,N,ZF,True.intro,a7⟩,D⟩)
      simp[intOf];omega
     have cr:(bP.length:Int)<=(M:Int):=N;have a7:F (mQ T (z+1)=true):=A (by have aD:=a2.out;rw[KN N] at aD;rw[c2.out];exact aeY n aD);clear a2;go_wp2_with fail;go_roundw;case rel=>first|exact⟨z+1,N,ZF,D,a7⟩|exact⟨z+1,N,ZF,True.intro,a7⟩|((repeat apply KL);first|exact⟨⟨z+1,N,ZF,D,a7⟩,D⟩|exact⟨⟨z+1,N,ZF,True.intro,a7⟩,D⟩)
     simp[intOf];omega
   have cr:(T.kinds.length:Int)<=(z:Int):=N;have x:z=T.kinds.length:=N;have a7:kM T=true:=by have aD:=a'.out;rw[x] at aD;unfold kM;rw[cw.out,dh.1,dh.2,dA.out,aD];rfl
   have a7:=A a7;clear x a';exact OT
theorem nM{k:IntKind}{b:Int}(h:a=b):Ending.returned (C k a)=.returned (C k b):=by rw[h]
theorem dL{a b:Bool}(h:a=b):Ending.returned (JM a)=.returned (JM b):=by rw[h]
theorem tN(h:oU a):0<=a/\a<=18446744073709551615:=by unfold oU at h;simp only[Lit.wf,Bool.and_eq_true,decide_eq_true_eq] at h;exact h
def canon (a:Int):Int:=if 9218868437227405312 < a % 9223372036854775808 then 9221120237041090560 else a
theorem acW(a:Int)(h:0<=a):0<=canon a:=by unfold canon;split <;> omega
theorem acV(a:Int)(h:a<=18446744073709551615):canon a<=18446744073709551615:=by unfold canon;split <;> omega
theorem yP(a:Int)(bw:0<=a)(o:a<=18446744073709551615):bits BinOp.andNot IntKind.u64 a 9223372036854775808=a % 9223372036854775808:=by rw[u64_andNot a 9223372036854775808 bw N Z Z];have:a.toNat &&& (18446744073709551615-(9223372036854775808:Int).toNat)=a.toNat % 2 ^ 63:=NG a.toNat 63;rw[this];omega
theorem acM(a:Int)(bw:0<=a)(o:a<=18446744073709551615):bits BinOp.and IntKind.u64 a 4503599627370495=a % 4503599627370496:=by rw[u64_and a 4503599627370495 bw N Z Z];have:a.toNat &&& (4503599627370495:Int).toNat=a.toNat % 2 ^ 52:=NG a.toNat 52;rw[this];omega
theorem aeu(a:Int)(bw:0<=a)(o:a<=18446744073709551615):bits BinOp.and IntKind.u64 (a / 4503599627370496) 2047=a / 4503599627370496 % 2048:=by rw[u64_and _ 2047 N N Z Z];have:(a / 4503599627370496).toNat &&& (2047:Int).toNat=(a / 4503599627370496).toNat % 2 ^ 11:=NG _ 11;rw[this];omega
def mY (a:Int):Bool:=decide (9218868437227405312 < a % 9223372036854775808)
theorem Dz(h:mY a=true):canon a=9221120237041090560:=by unfold canon;unfold mY at h;rw[Kq Zh]
theorem xX(h:mY a=false):canon a=a:=by unfold canon;unfold mY at h;rw[JZ Zh]
theorem ado(h:9218868437227405312 < bits BinOp.andNot IntKind.u64 a 9223372036854775808)(bw:0<=a)(o:a<=18446744073709551615):mY a=true:=by rw[yP a bw o] at h;unfold mY;simpa using h
theorem abR(h:bits BinOp.andNot IntKind.u64 a 9223372036854775808<=9218868437227405312)(bw:0<=a)(o:a<=18446744073709551615):mY a=false:=by rw[yP a bw o] at h;unfold mY;simpa using h
theorem abB(bw:0<=a)(o:a<=18446744073709551615):mY a=((bits BinOp.and IntKind.u64 (a / 4503599627370496) 2047== 2047) && (bits BinOp.and IntKind.u64 a 4503599627370495 !=0)):=by rw[aeu a bw o,acM a bw o,LG];unfold mY;simp;omega
theorem abg(a:Int)(w:L)(bw:0<=a)(o:a<=18446744073709551615): Calls Tryz.prog 85 #[C JL a] w λe w'=>e=.returned (C JL (canon a))/\w=w':=by
 go_in;go_wp2
 ·go_ret;exact⟨nM (Dz (ado (by assumption) bw o)).symm,D⟩
 go_ret;exact⟨nM (xX (abR (by assumption) bw o)).symm,D⟩
theorem yg(a:Int)(w:L)(bw:0<=a)(o:a<=18446744073709551615): Calls Tryz.prog 127 #[C JL a] w λe w'=>e=.returned (JM (mY a))/\w=w':=by
 have h:=A (abB bw o);by_cases bv:(bits BinOp.and IntKind.u64 (a / 4503599627370496) 2047== 2047)=true;all_goals
  go_in
  go_wp2
  go_ret
  exact⟨dL (by rw[h.out];simp[bv]),D⟩
theorem DV(a:Int)(w:L)(bw:0<=a)(o:a<=18446744073709551615)(h:mY a=true): Calls Tryz.prog 127 #[C JL a] w λe w'=>e=.returned (JM true)/\w=w':=
 (yg a w bw o).mono λ_ _ ⟨bS,bN⟩=>⟨bS.trans (dL h),bN⟩
theorem GV(a:Int)(w:L)(bw:0<=a)(o:a<=18446744073709551615)(h:mY a=false): Calls Tryz.prog 127 #[C JL a] w λe w'=>e=.returned (JM false)/\w=w':=
 (yg a w bw o).mono λ_ _ ⟨bS,bN⟩=>⟨bS.trans (dL h),bN⟩
theorem jB(a:Int)(w:L)(bw:0<=a)(o:a<=18446744073709551615): Calls Tryz.prog 121 #[C JL a] w λe w'=>e=.returned (C JL (canon a))/\w=w':=by
 cases V:mY a
 ·have ae:=A V;clear V;go_in;go_wp2_with (go_at_call 127;refine(GV _ _ N N ae.out).mono ?_;rintro e w' ⟨rfl,rfl⟩);go_ret;exact⟨nM (xX ae.out).symm,D⟩
 have ae:=A V;clear V;go_in;go_wp2_with (go_at_call 127;refine(DV _ _ N N ae.out).mono ?_;rintro e w' ⟨rfl,rfl⟩);go_ret;exact⟨nM (Dz ae.out).symm,D⟩
def dG (x:dP):dP:=if x.kind=1 then x else if(x.kind=2/\x.bits < 2)\/(x.kind=3/\x.bits < 64) then x else if x.kind=4 then⟨4,canon x.bits⟩ else⟨0,0⟩
def aer (w:L) (x:dP) (e:Ending) (w':L):Prop:=e=.returned (.agg #[C E x.kind,C JL x.bits])/\JK w.heap.size w w'
theorem clean_any(x:dP)(w:L)(d:oU x.bits): Calls Tryz.prog 56 #[.agg #[C E x.kind,C JL x.bits]] w (aer w (dG x)):=by
 obtain⟨a0,y⟩:=x;obtain⟨bw,o⟩:=tN d;have W:=SV;obtain⟨cT,d2,aw⟩:∃cT d2,dG ⟨a0,y⟩=⟨cT,d2⟩:=⟨_,_,D⟩;have cH:=A aw;rw[aw];clear aw;by_cases bv:a0=1
 ·have b3:(a0== 1)=true:=Ze;have a7:F (cT=a0/\d2=y):=A Vp;clear bv;exact Pv
 have b3:(a0== 1)=false:=Ze;by_cases bo:(a0=2/\y < 2)\/(a0=3/\y < 64)
 ·have a7:F (cT=a0/\d2=y):=A Vo;rcases bo with⟨bo,bZ⟩|⟨bo,bZ⟩
  ·have bh:(a0== 2)=true:=Zd;clear bv bo;exact Pv
  have bh:(a0== 2)=false:=Zv;have ca:(a0== 3)=true:=Zd;clear bv bo;exact Pv
 by_cases c5:a0=4
 ·have a7:F (cT=4/\d2=canon y):=A Vm;have bh:(a0== 2)=false:=Zv;have ca:(a0== 3)=false:=Zv;have dc:(a0== 4)=true:=Zf;have bU:=A (λB=>abg y B bw o);clear bv bo c5;go_in;go_wp2_with fail;refine(bU _).mono ?_;rintro cA cK ⟨rfl,rfl⟩;go_wp2_with fail;exact Ku (v:=.agg #[C E 4,C JL (canon y)]) (by simp[results,Tryz.results56,go_sem]) D ⟨by rw[a7.out.1,a7.out.2],W.out _ _⟩
 have a7:F (cT=0/\d2=0):=A Vl;have dc:(a0== 4)=false:=Zf;rcases bh:(a0== 2) with _|_
 ·rcases ca:(a0== 3) with _|_
  ·clear bv bo c5;exact Po
  have bG:64<=y:=by(have:a0=3:=Zg);omega
  clear bv bo c5;exact Po
 have co:a0=2:=Zc;have ca:(a0== 3)=false:=Zv;have bG:2<=y:=N;clear bv bo c5 co;exact Po
theorem vU(x:dP)(w:L)(d:oU x.bits): Calls Tryz.prog 112 #[.agg #[C E x.kind,C JL x.bits]] w (aer w (dG x)):=by
 obtain⟨a0,y⟩:=x;obtain⟨bw,o⟩:=tN d;have W:=SV;obtain⟨cT,d2,aw⟩:∃cT d2,dG ⟨a0,y⟩=⟨cT,d2⟩:=⟨_,_,D⟩;have cH:=A aw;rw[aw];clear aw;by_cases bv:a0=1
 ·have b3:(a0== 1)=true:=Ze;have a7:F (cT=a0/\d2=y):=A Vp;clear bv;exact Pq
 have b3:(a0== 1)=false:=Ze;by_cases bo:(a0=2/\y < 2)\/(a0=3/\y < 64)
 ·have a7:F (cT=a0/\d2=y):=A Vo;rcases bo with⟨bo,bZ⟩|⟨bo,bZ⟩
  ·have bh:(a0== 2)=true:=Zd;have c5:y<=1:=N;clear bv bo bZ;exact Pq
  have bh:(a0== 2)=false:=Zv;have ca:(a0== 3)=true:=Zd;have c5:y<=63:=N;clear bv bo bZ;exact Pq
 by_cases c5:a0=4
 ·have a7:F (cT=4/\d2=canon y):=A Vm;have bh:(a0== 2)=false:=Zv;have ca:(a0== 3)=false:=Zv;have dc:(a0== 4)=true:=Zf;have bU:=A (λB=>jB y B bw o);clear bv bo c5;go_in;go_wp2_with fail;refine(bU _).mono ?_;rintro cA cK ⟨rfl,rfl⟩;go_wp2_with fail;exact Ku (v:=.agg #[C E 4,C JL (canon y)]) (by simp[results,Tryz.results112,go_sem]) D ⟨by rw[a7.out.1,a7.out.2],W.out _ _⟩
 have a7:F (cT=0/\d2=0):=A Vl;have dc:(a0== 4)=false:=Zf;rcases bh:(a0== 2) with _|_
 ·rcases ca:(a0== 3) with _|_
  ·clear bv bo c5;exact Pn
  have bG:64<=y:=by(have:a0=3:=Zg);omega
  clear bv bo c5;exact Pn
 have co:a0=2:=Zc;have ca:(a0== 3)=false:=Zv;have bG:2<=y:=N;clear bv bo c5 co;exact Pn
def AP (op:Int):Bool:=decide (op=41) || decide (op=42) || (decide (25<=op) && decide (op<=31))
def dY (x:gI):Bool:=
 AP x.op && decide (1<=x.kind) && decide (x.kind<=4) && decide (0<=x.pos) && decide (x.pos<=7) && decide (-1<=x.attr) && decide (x.attr<=7) && (!decide (x.op=41) || decide (x.pos=0)) && (!decide (x.op=25) || decide (x.attr=0))
theorem abz(x:gI)(w:L):Calls Tryz.prog 55 #[.agg #[C E x.op,C E x.kind,C E x.pos,C E x.attr]] w (wF w (dY x)):=by have W:=SC;go_in;go_wp2_with fail;all_goals(go_ret;exact⟨dL (by rw[LG];unfold dY AP;(try simp only[beq_iff_eq,beq_eq_false_iff_ne,ne_eq] at*);simp;try omega),W.out _⟩)
theorem Fh:Keyed Tryz.prog 3:=int_keyed Tryz.underlying3
theorem acz(w:L):(zeroValue 4).run Tryz.prog w=.ok (JM false) w:=U
def iw (w:L) (b n:Nat) (S:List Int):Prop:=
 ∃D:DataW Unit,w.ownsMap Tryz.prog 3 (plainElem Tryz.prog 4) b n D/\Maps.size D=S.length/\(∀k,wfi k->has D (.int .i64 k)=decide (k∈S)/\D.atKey (.int .i64 k) (.lit (.bool false))=.lit (.bool (decide (k∈S))))
def jH (k:Int) (S:List Int):List Int:=if k∈S then S else k :: S
theorem qI(k j:Int)(S:List Int):j∈jH k S↔j=k\/j∈S:=by
 unfold jH;split
 ·constructor
  ·exact .inr
  rintro(rfl|h) <;> assumption
 simp
theorem Bj{P:Program}{e:TypeId}(bS:P.underlying e=J .bool){z:DataW Unit×List MemPlace}(h:plainElem P e v=J z):∃x,v=.bool x/\z=(.lit (.bool x),[]):=by
 unfold plainElem at h;simp only[bS] at h;cases v with
 |bool x=>simp at h;exact⟨x,D,h.symm⟩
 |_=>simp at h
theorem iw.made(w:L):iw (w.alloc (.map #[] 0)) w.heap.size 0 []:=
 ⟨.map [],World.ownsMap_made _ _ _ _,D,λa0 ah=>⟨by simp[has_eq],D⟩⟩
variable{S:List Int}{b:Nat}
theorem iw.lt(h:iw w b n S):b < w.heap.size:=by obtain⟨g,o,_⟩:=h;exact o.lt
theorem iw.mono{bD:Nat}(h:iw w b n S)(V:n<=bD):iw w b bD S:=by obtain⟨g,o,a8⟩:=h;exact⟨g,o.mono V,a8⟩
theorem iw.kept{w':L}{e:Option Nat}(h:iw w b n S)(ab:w.grownBy w' e)(bm:J b≠e):iw w' b n S:=by obtain⟨g,o,a8⟩:=h;exact⟨g,o.kept ab bm,a8⟩
theorem iw.below{w':L}{B:Nat}(h:iw w b n S)(d:JK B w w')(bW:b < B):iw w' b n S:=by obtain⟨g,⟨f,e,X,o⟩,a8⟩:=h;exact⟨g,⟨f,e,(d.block b bW).trans X,o⟩,a8⟩
theorem iw.alloc(h:iw w b n S)(bl:Obj):iw (w.alloc bl) b n S:=by obtain⟨g,o,a8⟩:=h;exact⟨g,o.alloc bl,a8⟩
theorem iw.drewN(h:iw w b n S)(k:Nat):iw (w.drewN k) b n S:=by obtain⟨g,⟨f,e,X,o⟩,a8⟩:=h;exact⟨g,⟨f,e,X,o⟩,a8⟩
theorem iw.look(h:iw w b n S)(ah:wfi k):(Instr.lookup 108 (.map (J b)) (.int .i64 k) false).run Tryz.prog w=.ok (.bool (decide (k∈S))) w:=by obtain⟨g,o,a8,ac⟩:=h;obtain⟨bc,ba,l,af⟩:=o.lookup Fh Tryz.underlying108 (acz w) (plainElem_bool Tryz.underlying4 false) (keyOf_int_mk Tryz.underlying3 ah);obtain⟨aa,rfl,ad⟩:=Bj Tryz.underlying4 af;have ad:g.atKey (.int .i64 k) (.lit (.bool false))=.lit (.bool aa):=congrArg Prod.fst ad;have b6:=(ac k ah).2.symm.trans ad;simp only[DataW.lit.injEq,Lit.bool.injEq] at b6;exact l.trans (by rw[b6])
theorem iw.len(h:iw w b n S)(bF:TypeId):(Builtin.len_ #[108] bF #[.map (J b)]).run Tryz.prog w=.ok (C E S.length) w:=by obtain⟨g,o,a8,ac⟩:=h;have:=o.len Tryz.underlying108 bF;rw[a8] at this;exact this
theorem iw.store(h:iw w b n S)(ah:wfi k)(V:n < maxLen): ∃w',(Instr.mapUpdate 108 (.map (J b)) (.int .i64 k) (.bool true)).run Tryz.prog w=.ok () w'/\iw w' b (n+1) (jH k S)/\w.grownBy w' (J b):=by
 obtain⟨g,o,a8,ac⟩:=h;have e:keyOf Tryz.prog 3 (.int .i64 k)=J (.int .i64 k):=keyOf_int_mk Tryz.underlying3 ah;have d:=o.tidy Fh;obtain⟨w',l,br,ab⟩:=o.update Fh Tryz.underlying108 V e (plainElem_bool Tryz.underlying4 true);refine⟨w',l,⟨_,br,?_,λa4 bK=>?_⟩,ab⟩
 ·rw[size_put d,(ac k ah).1];unfold jH;by_cases bL:k∈S
  ·rw[KU bL,Kq bL,Kq D,a8]
  rw[KR bL,JZ bL,JZ ZH,a8];rfl
 have e2:WideAt.IsKeyLit (.int .i64 k):=Fh.key e;by_cases p:a4=k
 ·subst p;have bL:a4∈jH a4 S:=(qI a4 a4 S).2 (.inl rfl);rw[KU bL];exact⟨has_put_same d.isMap e2 _,atKey_put_same d.isMap e2 _ _⟩
 have bm:Lit.int .i64 a4≠ .int .i64 k:=λh=>by injection h;exact p (by assumption)
 rw[has_put_other bm,atKey_put_other bm];have bL:decide (a4∈jH k S)=decide (a4∈S):=by rw[LG,NH,NH,qI];exact⟨λh=>h.resolve_left p,.inr⟩
 rw[bL];exact ac a4 bK
def yV (nr:Int) (x:mO):Bool:=decide (0<=x.dst) && decide (x.dst < nr)
def sW (wr ra rb sa:Bool) (ns ni nc:Int) (x:mO):Bool:=
 if x.op=50 then wr && decide (x.b=0) && decide (0<=x.a) && decide (x.a < ni)
 else if x.op=51 then wr && decide (x.b=0) && decide (0<=x.a) && decide (x.a < nc)
 else if x.op=53 then decide (x.dst=0) && decide (0<=x.a) && decide (x.a < ns) && rb
 else if x.op=54 then wr && decide (x.b=0) && sa
 else if x.op=52 then decide (x.dst=0) && decide (x.b=0) && ra
 else if x.op=6\/(15<=x.op/\x.op<=17) then wr && decide (x.b=0) && ra
 else decide (1<=x.op) && decide (x.op<=14) && wr && ra && rb
def mW (R S:List Int) (nr ns ni nc:Int) (x:mO):Bool:=sW (yV nr x) (decide (x.a∈R)) (decide (x.b∈R)) (decide (x.a∈S)) ns ni nc x
theorem afK{g:Nat}{t:TypeId}{bJ bD bs e i n k:O}(h:aj w g t #[bJ,bD,bs,e,i,n,k]): w.cell? ⟨g,0,I⟩=J bJ/\w.cell? ⟨g,1,I⟩=J bD/\w.cell? ⟨g,2,I⟩=J bs/\w.cell? ⟨g,3,I⟩=J e/\w.cell? ⟨g,4,I⟩=J i/\w.cell? ⟨g,5,I⟩=J n/\w.cell? ⟨g,6,I⟩=J k:=
 ⟨h.cell 0,h.cell 1,h.cell 2,h.cell 3,h.cell 4,h.cell 5,h.cell 6⟩
theorem blk4{g:Nat}{t:TypeId}{bJ bD bs e:O}(h:aj w g t #[bJ,bD,bs,e]): w.cell? ⟨g,0,I⟩=J bJ/\w.cell? ⟨g,1,I⟩=J bD/\w.cell? ⟨g,2,I⟩=J bs/\w.cell? ⟨g,3,I⟩=J e:=
 ⟨h.cell 0,h.cell 1,h.cell 2,h.cell 3⟩
theorem ab2(x:mO)(w:L)(g e o h q:Nat)(R S:List Int)(p cS:Int)(bq bO:Option Addr)(cT bo cg bZ:Nat)(aM:O)(bW:aj w g 168 #[C E p,C E cS,G bq cT bo,G bO cg bZ,aM,.map (J e),.map (J h)])(f:iw w e o R)(aE:iw w h q S)(a8:cT<=bo/\bo<=maxLen)(ac:cg<=bZ/\bZ<=maxLen)(v:wfi x.a)(aQ:wfi x.b): Calls Tryz.prog 57 #[.pointer (J ⟨g,0,I⟩),.agg #[C E x.op,C E x.dst,C E x.a,C E x.b]] w (wF w (mW R S p cS cT cg x)):=by
 obtain⟨ba,cG⟩:=a8;obtain⟨s,r⟩:=ac;unfold maxLen at cG r;obtain⟨aC,bx⟩:∃aC,aC=w.alloc (JO #[C E x.op,C E x.dst,C E x.a,C E x.b] 143):=⟨_,D⟩;have an:aj aC w.heap.size 143 #[C E x.op,C E x.dst,C E x.a,C E x.b]:=Xt;have d:=bW.alloc (JO #[C E x.op,C E x.dst,C E x.a,C E x.b] 143);rw[<-bx] at d;have cZ:F (JK w.heap.size w aC):=A VO;have ae:=bW.lt;have i:=λM=>((f.alloc (JO #[C E x.op,C E x.dst,C E x.a,C E x.b] 143)).drewN M).look v;have k:=λM=>((f.alloc (JO #[C E x.op,C E x.dst,C E x.a,C E x.b] 143)).drewN M).look aQ;have l:=λM=>((aE.alloc (JO #[C E x.op,C E x.dst,C E x.a,C E x.b] 143)).drewN M).look v;rw[<-bx] at i k l;unfold mW;obtain⟨m,cQ⟩:∃m,decide (x.a∈R)=m:=⟨_,D⟩;obtain⟨X,bD⟩:∃X,decide (x.b∈R)=X:=⟨_,D⟩;obtain⟨b,n⟩:∃b,decide (x.a∈S)=b:=⟨_,D⟩;rw[cQ] at i⊢;rw[bD] at k⊢;rw[n] at l⊢;clear cQ bD n;obtain⟨wr,aU⟩:∃wr,yV p x=wr:=⟨_,D⟩;have bP:=A aU;rw[aU];clear aU;obtain⟨b0,aL,ao,b2,bu,aJ,bV⟩:=afK d;obtain⟨al,am,ax,aW⟩:=blk4 an;clear d an bW f aE;go_in;go_upto_region 1 with fail;rw[<-bx];clear bx;go_cut [5] from 6 to 18 (λy bn=>y=JM wr/\∃M,bn=aC.drewN M);case first=>
  refine MO U U ?_;repeat (any_goals(first|go_big_quiet_step (fail)|quiet_step (fail)|(refine MP (λK j=>?_);go_simp;split <;> (refine j _ ?_;clear j K))))
  all_goals(refine MQ ?_;intro _ ab;obtain⟨nq,b4⟩:=ab;subst b4)
  all_goals go_wp2_with fail
  all_goals(go_meet;refine⟨?_,_,D⟩;rw[<-bP.out];congr 1;rw[LG];unfold yV;simp;try omega)
 obtain⟨rfl,M,rfl⟩:=hcut;clear bP;cases wr;all_goals go_wp2_with fail
 all_goals(
  refine MO U U ?_
  repeat (any_goals(first|go_big_quiet_step (fail)|quiet_step (fail)|(refine MP (λK j=>?_);go_simp;split <;> (refine j _ ?_;clear j K))))
  all_goals(refine MQ ?_;intro _ ab;obtain⟨nq,b4⟩:=ab;subst b4)
  all_goals go_wp2_with fail
  all_goals(go_ret;refine⟨dL ?_,by first|exact below_drewN cZ _|exact below_drewN (below_drewN cZ _) _⟩;(try simp only[beq_iff_eq,beq_eq_false_iff_ne,bne_iff_ne,ne_eq] at*);rw[LG];unfold sW;first|(simp[*];done)|(simp[*];omega)|(simp[*];split <;> omega)))

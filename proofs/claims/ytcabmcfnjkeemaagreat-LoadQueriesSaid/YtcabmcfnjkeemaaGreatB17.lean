import Derived.Test.YtcabmcfnjkeemaaGreatBM00
import Derived.Test.YtcabmcfnjkeemaaGreatB16
set_option maxRecDepth 100000
set_option maxHeartbeats 40000000
set_option linter.unusedVariables false
set_option linter.unusedSimpArgs false
namespace Go.Proofs.YtcabmcfnjkeemaaGreat
open Go.Deep Go.RowKit
open Go renaming World->L,Value->O
open Go.IntKind renaming i64->E
open Go.Obj renaming cells->JO
open Go.RowKit renaming Hid->F,Below->JK
open Go.Value renaming int->C,slice->G,string->H,bool->JM
open Option renaming none->I,some->J
attribute [local go_sem ↓] Go.wp_at_zero Go.wp_at_succ
theorem Iy(a:ByteArray):(a.toList== [84,73,77,69])=decide (a=oM):=by have h:=mD a oM;rw[show oM.toList=[84,73,77,69] by rw[ByteArray.toList_eq];rfl] at h;exact h
def kF (S:SchD) (its:List dJ) (op:Int) (name attr:ByteArray):Int:=if op=25\/attr=oM then 1 else fH S (cO its name).kind (dK S (cO its name).kind attr)
variable{S:SchD}
theorem Ju(br:iM S)(t a:Int):0<=fH S t a/\fH S t a<=4:=by
 unfold fH jS;split
 ·split
  ·omega
  rename_i bP a';split
  ·omega
  split
  ·omega
  rename_i o a8;have bL:=Kz a';unfold aZ at bL;obtain⟨e,c7,rfl⟩:=LC.1 bL;rw[Ll];cases a1:(e.2.map λaG=>aG.2)[a.toNat]? with
  |none=>simp
  |some a0=>obtain⟨aG,aH,rfl⟩:=LC.1 (Kz a1);have:=br.kinds _ c7 _ aH;simp only[Option.getD_some];omega
 omega
theorem adt(br:iM S)(its:List dJ)(op:Int)(name attr:ByteArray):0<=kF S its op name attr/\kF S its op name attr<=4:=by
 unfold kF;split
 ·omega
 exact Ju br _ _
def okF (S:SchD) (its:List dJ) (op:Int) (name attr:ByteArray):Prop:=(iO its name).isSome=true/\¬(¬(op=25\/attr=oM)/\dK S (cO its name).kind attr < 0)
variable{its:List dJ}
theorem ac8{op:Int}{name attr:ByteArray}(h:okF S its op name attr)(ah:¬((24 < op/\(cO its name).form≠2)\/((28<=op/\op<=30)/\kF S its op name attr≠1/\kF S its op name attr≠4)\/(op=31/\kF S its op name attr≠4))): jP S its op name attr=J (kF S its op name attr):=by
 obtain⟨o,a8⟩:=h;obtain⟨a2,ak⟩:=Option.isSome_iff_exists.1 o;have a7:cO its name=a2:=by unfold cO;rw[ak];rfl
 unfold jP;rw[ak];unfold kF at ah⊢;rw[a7] at ah a8⊢;simp only;rw[JZ a8,JZ ah]
structure FdB (Q:Nat->Prop) (W:L) (b3 g:Nat) (At:Option Addr) (ct:Nat) (As:Option Addr) (cs:Nat) (vi:O) (S:SchD) (its:List dJ) (er ea:Int) (bl yl:Array O) (X:L):Prop where
 bel:JK W.heap.size W X
 ble:W.heap.size < b3
 box:aj X W.heap.size 139 bl
 it:aj X b3 193 yl
 st:kV Q g (G At S.types.length ct) (G As S.syms.length cs) vi S its er ea X
variable{d3 er:Int}{W:L}{g:Nat}{Q:Nat->Prop}{vi:O}
theorem FdB.more{cu:Nat}{bR:Option Addr}{l:Nat}{c3:Option Addr}{cs:Nat}{ae b:Array O}{X V:L}(h:FdB Q W cu g bR l c3 cs vi S its er d3 ae b X)(d:JK X.heap.size X V):FdB Q W cu g bR l c3 cs vi S its er d3 ae b V:=
 ⟨h.bel.trans (d.mono h.bel.size),h.ble,h.box.below d h.box.lt,h.it.below d h.it.lt,h.st.below d⟩
theorem FdB.drew{cu:Nat}{bR:Option Addr}{l:Nat}{c3:Option Addr}{cs:Nat}{ae b:Array O}{X:L}(h:FdB Q W cu g bR l c3 cs vi S its er d3 ae b X):FdB Q W cu g bR l c3 cs vi S its er d3 ae b X.drew:=h.more (JY.drew)
def FdP (Q:Nat->Prop) (g:Nat) (vt vs vi:O) (S:SchD) (its:List dJ) (er op:Int) (name attr:ByteArray) (W:L) (e:Ending) (W':L):Prop:=
 ∃k er' at',e=.returned (C E k)/\wfi k/\W.grownBy W' (J g)/\kV Q g vt vs vi S its er' at' W'/\(er'=0->er=0/\jP S its op name attr=J k)
theorem Jy{vt vs:O}(h:kV Q g vt vs vi S its er d3 W){cs':List O}{op n sc at_:Int}{name attr:ByteArray}{args:List ED}(ad:iD Q W cs' (.mk op args n sc name attr at_)): Calls Tryz.prog 99 #[.pointer (J ⟨g,0,I⟩),.agg cs'.toArray] W (FdP Q g vt vs vi S its er op name attr W):=by
 obtain⟨bR,l,rfl,-,-⟩:=h.Dt.out.types.slice;obtain⟨c3,bj,rfl,-,-⟩:=h.Dt.out.syms.slice;obtain⟨dg,rfl,ag,bN⟩:=ad.opened;obtain⟨Y,a9,rfl,-⟩:=ag;have ae:=A h;have y:=A (adt h.ok its op name attr);have db:=A (λX (h:kV Q g (G bR S.types.length l) (G c3 S.syms.length bj) vi S its er d3 X)=>uw h name);have q:=A (λX (h:kV Q g (G bR S.types.length l) (G c3 S.syms.length bj) vi S its er d3 X) n V=>iZ h n at_ V);have bU:=A (λX (h:kV Q g (G bR S.types.length l) (G c3 S.syms.length bj) vi S its er d3 X) b9=>kD h.Dt.out h.ok b9 attr);have eN:=A (λX (h:kV Q g (G bR S.types.length l) (G c3 S.syms.length bj) vi S its er d3 X) b9 a=>uI h.Dt.out h.ok b9 a);obtain⟨an,bk⟩:∃an,an=W.alloc (JO #[C E op,G Y args.length a9,C E n,C E sc,H name,H attr,C E at_] 139):=⟨_,D⟩;have aC:=A (show JK W.heap.size W an by rw[bk];exact JY.alloc c _);have cZ:=A (show aj an W.heap.size 139 #[C E op,G Y args.length a9,C E n,C E sc,H name,H attr,C E at_] by rw[bk];exact aj.new _ _ _);clear h bN ad;go_in;go_upto_region 1 with fail;rw[<-bk];clear bk;obtain⟨al,am,ax,aW,T,bi,bM,a5,a6,aq,aZ,aO,be,bI⟩:=aK cZ;go_wp2_with fail;refine(db _ (ae.out.below aC)).mono ?_;rintro a7 b1 ⟨rfl,c9⟩;have bb:=A c9;obtain⟨bh,ea⟩:∃bh,bh=cO its name:=⟨_,D⟩;obtain⟨k,p⟩:∃k,k=(iO its name).isSome:=⟨_,D⟩;rw[<-ea,<-p];have ev:=A ea;have z:=A p;clear c9 al am ax aW T bi bM a5 a6 aq aZ aO be bI ea p;obtain⟨cH,dx,dk,bx,i,ah⟩:=bh;unfold itA;dsimp only;go_upto_region 2 with fail;have cy:=Ti;refine aI (Φ:=λX=>FdB Q W b1.heap.size g bR l c3 bj vi S its er d3 #[C E op,G Y args.length a9,C E n,C E sc,H name,H attr,C E at_] #[H cH,C E dx,C E dk,C E bx,C E i,C E ah] X) ⟨(aC.trans (bb.mono aC.size)).trans (cy.mono (Ko aC.size bb.size)),Kv cZ.lt bb.size,(cZ.below bb cZ.lt).below cy (Kv cZ.lt bb.size),aj.new _ _ _,((ae.out.below aC).below bb).below cy.out⟩ ?_;intro bf b6;have bX:=A b6;clear b6 cy;obtain⟨b0,aL,ao,b2,bu,dG,cC,d4,du,dH⟩:=bX.st.cells;obtain⟨al,am,ax,aW,T,bi,bM,a5,a6,aq,aZ,aO,be,bI⟩:=aK bX.box;obtain⟨R,bd,bO,bY,cd,cj,cF,cz,cP,d1,dd,d9⟩:=fK bX.it;have eG:=Iy attr;obtain⟨b,ei⟩:∃b,b=decide (attr=oM):=⟨_,D⟩;rw[<-ei] at eG;have a1:=A ei;clear ei;have dr:F (okF S its op name attr↔k=true/\((op=25\/b=true)\/0<=dK S ah attr)):=A (by
  unfold okF;rw[<-z.out,<-ev.out,a1.out];simp only[decide_eq_true_eq];refine and_congr Iff.rfl ⟨λh=>?_,λh=>?_⟩
  ·rcases Decidable.em (op=25\/attr=oM) with o|o
   ·exact .inl o
   exact .inr (Int.not_lt.1 λa8=>h ⟨o,a8⟩)
  rintro⟨o,a8⟩;rcases h with h|h
  ·exact o h
  omega)
 have m:F (kF S its op name attr=if op=25\/b=true then 1 else fH S ah (dK S ah attr)):=A (by unfold kF;rw[<-ev.out,a1.out];simp only[decide_eq_true_eq]);go_upto_region 3 with fail;go_cut [23] from 16 to 23 (λbc bn=>∃cx:Bool,bc=JM cx/\F (cx=(!(op== 25) && !b))/\bf=bn);case first=>
  have f7:(attr.toList !=[84,73,77,69])=!b:=by unfold bne;rw[eG]
  have e6:(op !=25)=!(op== 25):=D;rcases aa:(op== 25) with _|_;all_goals rcases b with _|_
  all_goals rw[aa] at e6
  all_goals simp only[Bool.not_true,Bool.not_false] at f7 e6
  all_goals(go_wp2_with fail;go_meet;exact⟨_,D,A (by rw[aa];rfl),D⟩)
 case rest=>
 obtain⟨cx,rfl,dQ,rfl⟩:=hcut;go_upto_if 23 with fail;go_cut [6,7] from 24 to 45 (λbl a0 bn=>∃c8:Bool,bl=JM c8/\a0=C E (kF S its op name attr)/\F (c8=true->okF S its op name attr)/\F (FdB Q W b1.heap.size g bR l c3 bj vi S its er d3 #[C E op,G Y args.length a9,C E n,C E sc,H name,H attr,C E at_] #[H cH,C E dx,C E dk,C E bx,C E i,C E ah] bn));case first=>
  rcases cx with _|_
  ·have e:op=25\/b=true:=by
    have el:=dQ.out;rcases aa:(op== 25) with _|_
    ·rw[aa] at el;rcases b with _|_
     ·cases el
     exact .inr rfl
    exact .inl (by simpa using aa)
   have r:=A e;have d7:F (kF S its op name attr=1):=A (by rw[m.out,Kq e]);clear e;go_wp2_with fail;go_meet;exact⟨k,D,by rw[d7.out],A (λh=>dr.2 ⟨h,.inl r.out⟩),bX⟩
  have e:¬(op=25\/b=true):=by
   have el:=dQ.out;rintro(o|o)
   ·rw[o] at el;simp at el
   rw[o] at el;simp at el
  have r:=A e;have d7:F (kF S its op name attr=fH S ah (dK S ah attr)):=A (by rw[m.out,JZ e]);clear e;go_upto_region 4 with fail;obtain⟨b4,bg⟩:∃b4,b4=World.drew bf:=⟨_,D⟩;have bV:=A (show FdB Q W b1.heap.size g bR l c3 bj vi S its er d3 #[C E op,G Y args.length a9,C E n,C E sc,H name,H attr,C E at_] #[H cH,C E dx,C E dk,C E bx,C E i,C E ah] b4 by rw[bg];exact bX.drew);have f:=RH;clear b0 aL ao b2 bu dG cC d4 du dH al am ax aW T bi bM a5 a6 aq aZ aO be bI R bd bO bY cd cj cF cz cP d1 dd d9;refine aG (λX=>X.cell? ⟨g,0,I⟩=J (G bR S.types.length l)/\X.cell? ⟨g,1,I⟩=J (G c3 S.syms.length bj)/\X.cell? ⟨b1.heap.size,5,I⟩=J (C E ah)/\X.cell? ⟨W.heap.size,5,I⟩=J (H attr)) (λa4=>!([0,1,2,3,4,5,6,7,8,9]:List Nat).contains a4) U ?_;rw[<-bg];clear bg;refine tl 0 f ?_;refine tl 1 f ?_;refine tl 2 f ?_;refine tl 3 f ?_;refine tl 4 f ?_;refine tl 5 f ?_;refine tl 6 f ?_;refine tl 7 f ?_;refine t1 8 λK j=>?_;go_simp;go_wp2_with (go_at_call 77;refine(bU _ bV.st _).mono ?_;rintro a7 av ⟨rfl,d⟩);have s:=A (bV.more d);have f:=A (show av.cell? ⟨g,0,I⟩=J (G bR S.types.length l)/\av.cell? ⟨g,1,I⟩=J (G c3 S.syms.length bj)/\av.cell? ⟨b1.heap.size,5,I⟩=J (C E ah)/\av.cell? ⟨W.heap.size,5,I⟩=J (H attr) from⟨s.st.cells.1,s.st.cells.2.1,s.it.cell 5,s.box.cell 5⟩);clear d;(refine j.out _ _ (λ_=>f) ?_;clear j K);refine tl 9 f ?_;refine td ?_;try simp only[Exit.then]
  go_simp;go_upto_region 5 with fail;go_cut [6] from 33 to 37 (λbc bn=>∃c8:Bool,bc=JM c8/\F (c8=true->k=true/\0<=dK S ah attr)/\av=bn);case first=>
   rcases k with _|_
   ·exact PE
   by_cases bw:0<=dK S ah attr
   ·go_wp2_with fail;go_meet;exact⟨_,D,A (λh=>⟨ZE,bw⟩),D⟩
   go_wp2_with fail;go_meet;exact⟨_,D,A (λh=>by first|cases h|(exfalso;have:=Lu h;omega)),D⟩
  case rest=>
  obtain⟨c8,rfl,t,rfl⟩:=hcut;go_upto_region 6 with fail;obtain⟨b4,bg⟩:∃b4,b4=World.drew av:=⟨_,D⟩;have bV:=A (show FdB Q W b1.heap.size g bR l c3 bj vi S its er d3 #[C E op,G Y args.length a9,C E n,C E sc,H name,H attr,C E at_] #[H cH,C E dx,C E dk,C E bx,C E i,C E ah] b4 by rw[bg];exact s.drew);have f:=RH;refine aG (λX=>X.cell? ⟨g,0,I⟩=J (G bR S.types.length l)/\X.cell? ⟨g,1,I⟩=J (G c3 S.syms.length bj)/\X.cell? ⟨b1.heap.size,5,I⟩=J (C E ah)/\X.cell? ⟨W.heap.size,5,I⟩=J (H attr)) (λa4=>!([0,1,2,3,4,5,6,7,8]:List Nat).contains a4) U ?_;rw[<-bg];clear bg;refine tl 0 f ?_;refine tl 1 f ?_;refine tl 2 f ?_;refine tl 3 f ?_;refine tl 4 f ?_;refine tl 5 f ?_;refine tl 6 f ?_;refine t1 7 λK j=>?_;go_simp;go_wp2_with (go_at_call 76;refine(eN _ bV.st _ _).mono ?_;rintro a7 bt ⟨rfl,d⟩);have bs:=A (bV.more d);have f:=A (show bt.cell? ⟨g,0,I⟩=J (G bR S.types.length l)/\bt.cell? ⟨g,1,I⟩=J (G c3 S.syms.length bj)/\bt.cell? ⟨b1.heap.size,5,I⟩=J (C E ah)/\bt.cell? ⟨W.heap.size,5,I⟩=J (H attr) from⟨bs.st.cells.1,bs.st.cells.2.1,bs.it.cell 5,bs.box.cell 5⟩);clear d;(refine j.out _ _ (λ_=>f) ?_;clear j K);refine tl 8 f ?_;refine td ?_;try simp only[Exit.then]
  go_wp2_with fail;go_meet;exact⟨c8,D,by rw[d7.out],A (λh=>dr.2 ⟨(t h).1,.inr (t h).2⟩),bs⟩
 case rest=>
 obtain⟨c8,rfl,rfl,c6,s⟩:=hcut;obtain⟨cT,cp⟩:∃cT,cT=kF S its op name attr:=⟨_,D⟩;rw[<-cp];have cn:=A cp;have e9:=y.out;rw[<-cp] at e9;obtain⟨M,P⟩:=e9;have aJ:=A (aA (a:=cT) N N);clear cp b0 aL ao b2 bu dG cC d4 du dH al am ax aW T bi bM a5 a6 aq aZ aO be bI R bd bO bY cd cj cF cz cP d1 dd d9;obtain⟨al,am,ax,aW,T,bi,bM,a5,a6,aq,aZ,aO,be,bI⟩:=aK s.box;obtain⟨R,bd,bO,bY,cd,cj,cF,cz,cP,d1,dd,d9⟩:=fK s.it;rcases c8 with _|_
 ·go_wp2_with fail;refine(q _ s.st 10 Z).mono ?_;rintro a7 cU ⟨br,ee,rfl,bm,ab,cf⟩;have d6:=A bm;have dE:=A ab;have cQ:=A cf;clear bm ab cf al am ax aW T bi bM a5 a6 aq aZ aO be bI R bd bO bY cd cj cF cz cP d1 dd d9;go_wp2_with fail;go_ret;exact⟨0,br,ee,D,bP,(aT s.bel _).trans dE,cQ,λh=>absurd h d6.out⟩
 have B:=A (c6 ZE);go_upto_region 10 with fail;go_cut [86] from 52 to 86 (λbc bn=>∃cx:Bool,bc=JM cx/\F (cx=false->¬((24 < op/\i≠2)\/((28<=op/\op<=30)/\cT≠1/\cT≠4)\/(op=31/\cT≠4)))/\wc=bn);case first=>
  rcases cw:(i== 2) with _|_;all_goals rcases aL:(cT== 1) with _|_
  all_goals rcases bu:(cT== 4) with _|_
  all_goals rcases a2:(op== 31) with _|_
  all_goals(have v:(i !=2)=!(i== 2):=D)
  all_goals(have aX:(cT !=1)=!(cT== 1):=D)
  all_goals(have x:(cT !=4)=!(cT== 4):=D)
  all_goals rw[cw] at v
  all_goals rw[aL] at aX
  all_goals rw[bu] at x
  all_goals simp only[Bool.not_true,Bool.not_false] at v aX x
  all_goals go_wp2_with fail
  all_goals(go_meet;exact⟨_,D,A (λh=>by first|exact absurd h Z|(simp only[beq_iff_eq,beq_eq_false_iff_ne,bne_iff_ne,bne_eq_false_iff_eq,ne_eq,decide_eq_false_iff_not] at*;omega)),D⟩)
 case rest=>
 obtain⟨cx,rfl,dQ,rfl⟩:=hcut;rcases cx with _|_;rotate_left
 ·go_wp2_with fail;refine(q _ s.st 11 Z).mono ?_;rintro a7 cU ⟨br,ee,rfl,bm,ab,cf⟩;have d6:=A bm;have dE:=A ab;have cQ:=A cf;clear bm ab cf al am ax aW T bi bM a5 a6 aq aZ aO be bI R bd bO bY cd cj cF cz cP d1 dd d9;go_wp2_with fail;go_ret;exact⟨cT,br,ee,D,aJ,(aT s.bel _).trans dE,cQ,λh=>absurd h d6.out⟩
 go_wp2_with fail;go_ret;refine⟨cT,er,d3,D,aJ,aT s.bel _,s.st,λh=>⟨h,?_⟩⟩;rw[cn.out];refine ac8 B.out ?_;have aD:=dQ.out ZE;rw[<-ev.out,<-cn.out];exact aD
def ag7 (w:L) (e:Ending) (w':L):Prop:=∃k:Int,e=.returned (C E k)/\wfi k/\JK w.heap.size w w'
theorem yc{w:L}{v:O}{l:List Int}(h:bU 1 fF w v l){i:Nat}{x:Int}(ad:l[i]? =J x): ∃b off a9,v=G (J ⟨b,off,I⟩) l.length a9/\l.length<=a9/\a9<=maxLen/\w.cell? ⟨b,off+i,I⟩=J (C E x)/\wfi x:=by obtain⟨b,off,a9,af,o,a8,aR,bj,a',⟨rfl,bN⟩,aw⟩:=h.get ad;have:=aw 0 _ D;rw[Nat.mul_one,Na] at this;exact⟨b,off,a9,af,o,a8,this,bN⟩
theorem BA(op:Int){w:L}{v:O}{l:List Int}(h:bU 1 fF w v l):Calls Tryz.prog 100 #[C E op,v] w (ag7 w):=by
 match l,h with
 | [],h=>obtain⟨Y,a9,rfl,d0,cR⟩:=h.slice;have dt:=A (aA (a:=0) Z Z);exact Qy
 | [a],h=>obtain⟨y,b5,a9,rfl,d0,cR,b0,g⟩:=yc h (i:=0) D;have ag:=A g;have dt:=A (λa0 bw o=>aA (a:=a0) bw o);unfold maxLen at cR;simp only[List.length_cons,List.length_nil,Nat.zero_add] at d0;rw[Na] at b0;clear h g;go_in;go_wp2_with fail;all_goals(go_ret;exact⟨_,D,by first|exact ag|exact dt _ Z Z,Ky _ _⟩)
 | [a,aY],h=>
  obtain⟨y,b5,a9,rfl,d0,cR,b0,g⟩:=yc h (i:=0) D;obtain⟨c0,c5,bo,af,-,-,aL,-⟩:=yc h (i:=1) D;injection af with af _ cS;injection af with af;injection af with b3 bh;subst b3 bh cS;have ag:=A g;have dt:=A (λa0 bw o=>aA (a:=a0) bw o);unfold maxLen at cR;simp only[List.length_cons,List.length_nil,Nat.zero_add] at d0;rw[Na] at b0;clear h g;go_in;go_upto_region 10 with fail;rcases e:(a !=aY) with _|_;rotate_left
  ·go_quiet (fail);go_wp2_with fail;go_ret;exact⟨_,D,dt _ Z Z,below_drewN JY _⟩
  go_quiet (fail);go_wp2_with fail;all_goals(go_ret;exact⟨_,D,by first|exact ag|exact dt _ Z Z,below_drewN JY _⟩)
 |a :: aY :: ch :: l,h=>obtain⟨Y,a9,rfl,d0,cR⟩:=h.slice;have dt:=A (aA (a:=0) Z Z);have cq:(((a :: aY :: ch :: l).length:Int)== 1)=false:=Zv;have cT:(((a :: aY :: ch :: l).length:Int) !=2)=true:=Zv;generalize (a :: aY :: ch :: l).length=dn at*;exact Qy
def PtP (w:L) (e:Ending) (w':L):Prop:=∃t:ByteArray,e=.returned (H t)/\t.size<=100/\JK w.heap.size w w'
variable{T:Nat}
theorem Iu{r:Nat}(h:T*10 ^ (14-r)<=100000000000000)(aS:r < 14):T*10*10 ^ (14-(r+1))<=100000000000000:=by
 rw[show 14-r=(14-(r+1))+1 by omega,Nat.pow_succ] at h;calc T*10*10 ^ (14-(r+1))=T*(10 ^ (14-(r+1))*10):=by rw[Nat.mul_assoc,Nat.mul_comm 10]
  _<=_:=h
theorem af0{r:Nat}(h:T*10 ^ (14-r)<=100000000000000):T<=100000000000000:=by
 have o:1<=10 ^ (14-r):=Nat.pow_pos Z;calc T=T*1:=(Nat.mul_one T).symm
  _<=T*10 ^ (14-r):=Nat.mul_le_mul_left T o
  _<=_:=h
theorem aeg{n:Int}(o:1<=T)(a8:T<=100000000000000):wfi (n.tmod T):=by
 have h:(n.tmod T).natAbs < T:=by rw[Int.natAbs_tmod];exact Nat.mod_lt _ (by rw[Int.natAbs_natCast];omega)
 exact aA N N
def strLen:O->Nat
 | H s=>s.size
 |_=>0
theorem Ew(n sc:Int)(w:L)(V:wfi n)(ag:1<=sc/\sc<=14):Calls Tryz.prog 108 #[C E n,C E sc] w (PtP w):=by
 have aQ:=A (λbm B h=>zn bm B h);have cw:=A (ji.1 V);obtain⟨c1,bT⟩:=ag;clear V;go_in;go_wp2_with fail;go_loopw [5,6] (λb9 a3 wr=>∃(k z:Nat),b9=C E k/\a3=C E z/\(z:Int)<=sc/\1<=k/\F (k*10 ^ (14-z)<=100000000000000)/\w=wr) (λ_ a3 _=>14-(intOf a3).toNat);case atStart=>exact⟨1,0,D,D,N,Z,A Z,D⟩
 obtain⟨k,z,rfl,rfl,aS,b6,d8,rfl⟩:=hrel;have ct:(0:Int)<=(z:Int):=N;have e3:=A (af0 d8);have bE:(1:Int)<=(k:Int):=N;have aN:(k:Int)<=100000000000000:=by have:=e3.out;omega
 by_cases bA:(z:Int) < sc
 ·have c0:(z:Int)<=13:=N;go_wp2_with fail;go_roundw;case rel=>
   first
   |exact⟨k*10,z+1,ZF,ZF,N,N,A (Iu d8 N),Yu⟩
   |((repeat apply KL);exact⟨⟨k*10,z+1,ZF,ZF,N,N,A (Iu d8 N),Yu⟩,D⟩)
  simp[intOf];omega
 have cr:sc<=(z:Int):=N;have c2:((k:Int)== 0)=false:=Zv;go_wp2_with fail;refine(aQ _ _ (aeg b6 e3)).mono ?_;rintro a7 ce ⟨c',rfl,b,cq⟩;have bY:=A b;have c6:=A cq;have cS:=A b6;clear b cq;go_wp2_with fail;go_loopw [7] (λaI wr=>∃b9:ByteArray,aI=H b9/\F (b9.size<=22)/\ce=wr) (λaI _=>14-strLen aI);case atStart=>exact⟨c',D,bY,D⟩
 obtain⟨b9,rfl,bs,rfl⟩:=hrel;have e5:(b9.size:Int)<=22:=by have:=bs.out;omega
 have d:b9.size<=22:=bs.out;have b3:(0:Int)<=(b9.size:Int):=N;by_cases b5:(b9.size:Int) < sc
 ·have ei:=A (show((⟨#[48]⟩:ByteArray)++b9).size=1+b9.size by rw[Ny];rfl);have bC:=A (show b9.size<=13 by omega);go_wp2_with fail;go_roundw;case rel=>
   first
   |exact⟨_,D,A VI,Yu⟩
   |((repeat apply KL);exact⟨⟨_,D,A VI,Yu⟩,D⟩)
  simp only[strLen];have o:=ei.out;have a8:=bC.out;rw[o];omega
 have eW:sc<=(b9.size:Int):=N;go_wp2_with fail;refine(aQ _ _ (MC _)).mono ?_;rintro a7 b1 ⟨dD,rfl,e,c9⟩;have cj:=A (c6.trans (c9.mono c6.size));clear c9;have bh:(dD++(⟨#[46]⟩:ByteArray)).size=dD.size+1:=by rw[Ny];rfl
 have dA:=A (show((dD++(⟨#[46]⟩:ByteArray))++b9).size<=100 by rw[Ny,bh];omega);go_wp2_with fail;go_ret;exact⟨_,D,dA,cj.out⟩

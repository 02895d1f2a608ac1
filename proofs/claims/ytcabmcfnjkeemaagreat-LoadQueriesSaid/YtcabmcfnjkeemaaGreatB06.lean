import Derived.Test.YtcabmcfnjkeemaaGreatBM00
import Derived.Test.YtcabmcfnjkeemaaGreatB05
set_option maxRecDepth 100000
set_option maxHeartbeats 40000000
set_option linter.unusedVariables false
set_option linter.unusedSimpArgs false
namespace Go.Proofs.YtcabmcfnjkeemaaGreat
open Go.RowKit
open Option renaming some->J
structure rM where
 ty:Int
 gd:List ND
structure rP where
 br:Int
 cl:List ND
 bars:List rM
structure jV where
 par:Int
 ty:Int
 many:Bool
 win:Int
 bars:List rM
 leaves:List ND
 guards:List ND
 ends:List rP
structure ER where
 strategy:Int
 keys:List Int
 states:List jV
def dR (cs:List aW) (l:List ND):Int×List aW:=match l with
 | []=>(-1,cs)
 |_=>(cs.length,cs++[codeOf l])
def iU (st:List jg×List aW) (b:rM):List jg×List aW:=(st.1++[⟨b.ty,(dR st.2 b.gd).1⟩],(dR st.2 b.gd).2)
def dU (cs:List aW) (bs:List rM):List jg×List aW:=bs.foldl iU ([],cs)
def mV (st:List iF×List aW) (e:rP):List iF×List aW:=(st.1++[⟨e.br,(dR st.2 e.cl).1,(dU (dR st.2 e.cl).2 e.bars).1⟩],(dU (dR st.2 e.cl).2 e.bars).2)
def yT (cs:List aW) (es:List rP):List iF×List aW:=es.foldl mV ([],cs)
def gU (cs:List aW) (s:jV):Int×List aW:=dR (dU cs s.bars).2 s.leaves
def iC (cs:List aW) (s:jV):Int×List aW:=dR (gU cs s).2 s.guards
def uO (cs:List aW) (s:jV):fD×List aW:=
 (⟨s.par,s.ty,s.many,s.win,(dU cs s.bars).1,(gU cs s).1,(iC cs s).1,(yT (iC cs s).2 s.ends).1⟩,(yT (iC cs s).2 s.ends).2)
def pU (st:List fD×List aW) (s:jV):List fD×List aW:=(st.1++[(uO st.2 s).1],(uO st.2 s).2)
def bI (l:List jV):List fD×List aW:=l.foldl pU ([],[])
def dF (a:ER) (kinds:List (List Int)) (syms runs cells:Int):bF:=⟨a.strategy,a.keys,kinds,syms,runs,cells,(bI a.states).1,(bI a.states).2⟩
structure zk (T:bF) (cs cs':List aW) (us:List mP):Prop where
 pre:∃new,cs'=cs++new/\∀c∈new,∃P l,l≠[]/\c=codeOf l/\∀n∈l,jZ P n=true
 use:∀u∈us,u.code=-1\/∃(k:Nat) (c:aW),u.code=k/\cs'[k]? =J c/\c.inputs.all (iL T u.path u.one u.many u.asked)=true
 told:∀k,cs.length<=k->k < cs'.length->∃u∈us,u.code=(k:Int)
 len:cs'.length<=cs.length+us.length
theorem zk.nil(T:bF)(cs:List aW):zk T cs cs []:=⟨⟨[],ZH,ZH⟩,ZH,λa0 o a8=>N,ZH⟩
variable{T:bF}
theorem zk.app{a b a9:List aW}{ay vs:List mP}(h:zk T a b ay)(k:zk T b a9 vs):zk T a a9 (ay++vs):=by
 obtain⟨cq,b3,v⟩:=h.pre;obtain⟨cT,bh,c2⟩:=k.pre;refine⟨⟨cq++cT,by rw[bh,b3,LM],λa9 aw=>?_⟩,λu ap=>?_,λm o a8=>?_,?_⟩
 ·rcases KQ.1 aw with h|h
  ·exact v a9 h
  exact c2 a9 h
 ·rcases KQ.1 ap with o|o
  ·rcases h.use u o with a8|⟨m,a9,a8,ac,b6⟩
   ·exact .inl a8
   refine .inr ⟨m,a9,a8,?_,b6⟩;rw[bh,KW (KA.1 ac).1];exact ac
  exact k.use u o
 ·rcases KT m b.length with ac|ac
  ·obtain⟨u,b6,bz⟩:=h.told m o ac;exact⟨u,List.mem_append_left _ b6,bz⟩
  obtain⟨u,b6,bz⟩:=k.told m ac a8;exact⟨u,NT _ b6,bz⟩
 have o:=h.len;have a8:=k.len;rw[KC];omega
theorem zk.perm{a b:List aW}{ay vs:List mP}(h:zk T a b ay)(bL:∀u,u∈ay↔u∈vs)(a':ay.length=vs.length):zk T a b vs:=
 ⟨h.pre,λu ap=>h.use u ((bL u).2 ap),λa0 o a8=>by obtain⟨u,ac,b6⟩:=h.told a0 o a8;exact⟨u,(bL u).1 ac,b6⟩,by rw[<-a'];exact h.len⟩
variable{P:gI->Bool}
theorem Gv{l:List ND}(a':l≠[])(h:∀n∈l,jZ P n=true):(codeOf l).inputs.all P=true:=by have i:=(Il a' h).inp;rw[LW] at i⊢;intro aa ad;have:=i aa ad;rw[LH] at this;exact this.2
theorem wZ(T:bF)(cs:List aW)(l:List ND)(u:mP)(ap:u.code=(dR cs l).1)(h:∀n∈l,jZ (iL T u.path u.one u.many u.asked) n=true):zk T cs (dR cs l).2 [u]:=by
 cases l with
 |nil=>
  refine⟨⟨[],by simp[dR],ZH⟩,λbc af=>?_,λa0 o a8=>?_,by simp[dR]⟩
  ·rw[KG] at af;subst af;exact .inl ap
  simp only[dR] at a8;omega
 |cons n l=>
  refine⟨⟨[codeOf (n :: l)],D,λa9 aw=>?_⟩,λbc af=>?_,λa0 o a8=>?_,by simp[dR]⟩
  ·rw[KG] at aw;exact⟨_,n :: l,ZH,aw,h⟩
  ·rw[KG] at af;subst af;exact .inr ⟨cs.length,codeOf (n :: l),ap,by simp[dR],Gv ZH h⟩
  simp only[dR,List.length_append,List.length_cons,List.length_nil] at a8;refine⟨u,ZH,?_⟩;rw[ap];simp only[dR];omega
def Gm (T:bF) (p:List Int) (b:rM):Prop:=jf T b.ty=true/\∀n∈b.gd,jZ (iL T p p.length p.length b.ty) n=true
theorem abJ(T:bF)(p:List Int):∀(P:List rM) (aw:List jg×List aW) (cs:List aW),(∀b∈P,Gm T p b)->zk T cs aw.2 (aw.1.map (bK p))->je T aw.1=true->zk T cs (P.foldl iU aw).2 ((P.foldl iU aw).1.map (bK p))/\je T (P.foldl iU aw).1=true/\(P.foldl iU aw).1.length=aw.1.length+P.length:=by
 intro P;induction P with
 |nil=>intro aw cs _ h a0;exact⟨h,a0,D⟩
 |cons b P bf=>
  intro aw cs d h a0;have ej:=d b ZH;have o:zk T cs (iU aw b).2 ((iU aw b).1.map (bK p)):=by unfold iU;rw[KX];exact h.app (wZ T aw.2 b.gd (bK p ⟨b.ty,(dR aw.2 b.gd).1⟩) D ej.2)
  have a8:je T (iU aw b).1=true:=by unfold iU je at*;rw[LK,a0];simp[ej.1]
  obtain⟨ac,b6,bz⟩:=bf (iU aw b) cs (λaa ad=>d aa Zz) o a8;refine⟨ac,b6,?_⟩;rw[LU,bz];unfold iU;simp;omega
theorem He(T:bF)(p:List Int)(P:List rM)(cs:List aW)(h:∀b∈P,Gm T p b):zk T cs (dU cs P).2 ((dU cs P).1.map (bK p))/\je T (dU cs P).1=true/\(dU cs P).1.length=P.length:=by have o:=abJ T p P ([],cs) cs h (zk.nil T cs) D;exact⟨o.1,o.2.1,by have:=o.2.2;simpa [dU] using this⟩
def endOk (T:bF) (p:List Int) (e:rP):Prop:=(0<=e.br/\e.br < 4)/\e.bars.length<=8/\(∀n∈e.cl,jZ (iL T p p.length p.length (-1)) n=true)/\∀b∈e.bars,Gm T p b
theorem ae1(T:bF)(p:List Int):∀(f:List rP) (aw:List iF×List aW) (cs:List aW),(∀e∈f,endOk T p e)->zk T cs aw.2 (aw.1.flatMap (eu p))->aw.1.all (oL T)=true->zk T cs (f.foldl mV aw).2 ((f.foldl mV aw).1.flatMap (eu p))/\(f.foldl mV aw).1.all (oL T)=true/\((f.foldl mV aw).1.flatMap (eu p)).length<=(aw.1.flatMap (eu p)).length+9*f.length:=by
 intro f;induction f with
 |nil=>intro aw cs _ h a0;exact⟨h,a0,ZH⟩
 |cons e f bf=>
  intro aw cs bS h a0;obtain⟨b3,bh,ca,dc⟩:=bS e ZH;obtain⟨ct,c0,cu⟩:=He T p e.bars (dR aw.2 e.cl).2 dc;have o:zk T cs (mV aw e).2 ((mV aw e).1.flatMap (eu p)):=by unfold mV;rw[Nv];have a8:=(wZ T aw.2 e.cl ⟨(dR aw.2 e.cl).1,p,p.length,p.length,-1⟩ D ca).app ct;have ac:=h.app a8;simpa [eu] using ac
  have a8:(mV aw e).1.all (oL T)=true:=by unfold mV;rw[LK,a0];simp[oL,c0,b3.1,b3.2]
  have c4:((mV aw e).1.flatMap (eu p)).length<=(aw.1.flatMap (eu p)).length+9:=by unfold mV;rw[Nv,KC];simp[eu,cu];omega
  obtain⟨ac,b6,bz⟩:=bf (mV aw e) cs (λaa ad=>bS aa Zz) o a8;refine⟨ac,b6,?_⟩;rw[LU,MI];omega
theorem adx(T:bF)(p:List Int)(f:List rP)(cs:List aW)(h:∀e∈f,endOk T p e):zk T cs (yT cs f).2 ((yT cs f).1.flatMap (eu p))/\(yT cs f).1.all (oL T)=true/\((yT cs f).1.flatMap (eu p)).length<=9*f.length:=by have o:=ae1 T p f ([],cs) cs h (zk.nil T cs) D;exact⟨o.1,o.2.1,by have:=o.2.2;simpa [yT] using this⟩
structure afE (T:bF) (i:Nat) (s:jV):Prop where
 par: -1<=s.par/\s.par < (i:Int)
 ty:jf T s.ty=true
 win:0<=s.win/\s.win<=1152921504606846976
 deep:(dQ T.states i).length<=8
 first:s.par=-1->s.bars=[]/\s.leaves=[]
 AX:s.bars.length<=8
 bars:∀b∈s.bars,Gm T (dQ T.states s.par) b
 leaves:∀n∈s.leaves,jZ (iL T (dQ T.states s.par) (dQ T.states s.par).length (dQ T.states s.par).length (-1)) n=true
 guards:∀n∈s.guards,jZ (iL T (dQ T.states i) ((dQ T.states i).length-1) (dQ T.states i).length s.ty) n=true
 Ei:s.ends.length<=1
 ends:∀e∈s.ends,endOk T (dQ T.states i) e
variable{i:Nat}{s:jV}
theorem ae2(h:afE T i s)(cs:List aW):zk T cs (uO cs s).2 (jh T i (uO cs s).1)/\rowT T i (uO cs s).1=true/\(jh T i (uO cs s).1).length<=19:=by
 obtain⟨ct,c0,cu⟩:=He T _ s.bars cs h.bars;have cX:=wZ T (dU cs s.bars).2 s.leaves ⟨(gU cs s).1,dQ T.states s.par,(dQ T.states s.par).length,(dQ T.states s.par).length,-1⟩ D h.leaves;have cC:=wZ T (gU cs s).2 s.guards ⟨(iC cs s).1,dQ T.states i,(dQ T.states i).length-1,(dQ T.states i).length,s.ty⟩ D h.guards;obtain⟨b3,bh,ca⟩:=adx T _ s.ends (iC cs s).2 h.ends;have o:=((ct.app cX).app cC).app b3;have V:=h.Ei;have d:=h.AX;refine⟨o.perm (λu=>?_) ?_,?_,?_⟩
 ·simp only[jh,fP,uO,List.mem_append,List.mem_cons,List.not_mem_nil,or_false];constructor
  ·exact QV
  exact QV
 ·simp only[jh,fP,uO,List.length_append,List.length_cons,List.length_nil];omega
 ·unfold rowT uP rowB uO;simp only[h.ty,c0,bh,h.par.1,h.par.2,h.win.1,h.win.2,h.deep,decide_true,Bool.and_true,Bool.true_and];by_cases ai:s.par=-1
  ·obtain⟨ci,cw⟩:=h.first ai;have dm:(dU cs s.bars).1.length=0:=by rw[cu,ci];rfl
   have dz:(gU cs s).1=-1:=by unfold gU;rw[cw];rfl
   simp[dm,dz]
  simp[ai]
 simp only[jh,fP,uO,List.length_append,List.length_cons,List.length_nil,List.length_map] at ca⊢;omega
variable{n:Nat}
theorem mF(l:List jV)(h:l[n]? =J s):bI (l.take (n+1))=pU (bI (l.take n)) s:=by unfold bI;rw[take_one h,MR];rfl
theorem vX:∀(l:List jV) (aw:List fD×List aW),(l.foldl pU aw).1.length=aw.1.length+l.length:=by
 intro l;induction l with
 |nil=>intro aw;rfl
 |cons ba l bf=>intro aw;rw[LU,bf];unfold pU;simp;omega
theorem ach:∀(l:List jV) (aw:List fD×List aW) (i:Nat),i < aw.1.length->(l.foldl pU aw).1[i]? =aw.1[i]?:=by
 intro l;induction l with
 |nil=>intro aw i _;rfl
 |cons ba l bf=>intro aw i aR;rw[LU,bf _ i (by unfold pU;simp;omega)];unfold pU;rw[KW aR]
theorem adS(l:List jV)(h:l[n]? =J s):(bI l).1[n]? =J (uO (bI (l.take n)).2 s).1:=by
 have V:=(KA.1 h).1;have a7:l=l.take (n+1)++l.drop (n+1):=(Nq _ _).symm;have a':(bI (l.take n)).1.length=n:=by unfold bI;rw[vX,Lc];simp;omega
 have o:(bI l).1[n]? =(bI (l.take (n+1))).1[n]?:=by
  conv=>lhs;rw[a7]
  unfold bI;rw[MR];exact ach _ _ _ (by rw[vX,Lc];simp;omega)
 rw[o,mF l h];unfold pU;rw[Lh N,a'];simp
structure acA (a:ER) (T:bF):Prop where
 strategy:1<=a.strategy/\a.strategy<=3
 count:a.states.length<=32
 st:∀i s,a.states[i]? =J s->afE T i s
theorem abQ{k:Int}{S:List Int}(h:S.Nodup):(jH k S).Nodup:=by
 unfold jH;split
 ·exact h
 next ah=>exact Nr.2 ⟨ah,h⟩
theorem IB(ay:List mP):∀S:List Int,S.Nodup->(iq ay S).Nodup:=by
 induction ay with
 |nil=>intro S h;exact h
 |cons u ay bf=>
  intro S h;refine bf _ ?_;show(lq u.code S).Nodup;unfold lq;split
  ·exact h
  exact abQ h
theorem IC(ay:List mP):∀S:List Int,(-1:Int)∉S->(-1:Int)∉iq ay S:=by
 induction ay with
 |nil=>intro S h;exact h
 |cons u ay bf=>
  intro S h;refine bf _ ?_;show(-1:Int)∉lq u.code S;unfold lq;split
  ·exact h
  next V=>
  rw[qI];rintro(o|o)
  ·exact V o.symm
  exact h o
theorem EP(ay:List mP):∀(S:List Int) (k:Int),k≠-1->(k∈iq ay S↔k∈S\/∃u∈ay,u.code=k):=by
 induction ay with
 |nil=>intro S k _;simp[iq]
 |cons u ay bf=>
  intro S k ah;have o:=bf (lq u.code S) k ah;have a7:iq (u :: ay) S=iq ay (lq u.code S):=D;rw[a7,o];have a8:k∈lq u.code S↔k=u.code\/k∈S:=by
   unfold lq;split
   ·next h=>
    constructor
    ·exact .inr
    rintro(ac|ac)
    ·omega
    exact ac
   exact qI _ _ _
  rw[a8];simp only[List.mem_cons,exists_eq_or_imp];constructor
  ·rintro((h|h)|h)
   ·exact .inr (.inl h.symm)
   ·exact .inl h
   exact .inr (.inr h)
  rintro(h|h|h)
  ·exact .inl (.inr h)
  ·exact .inl (.inl h.symm)
  exact .inr h
theorem adE:∀(n:Nat) (l:List Int),(∀k:Nat,k < n->(k:Int)∈l)->n<=l.length:=by
 intro n;induction n with
 |zero=>intro l _;exact Kw _
 |succ n bf=>intro l h;have o:=h n (KP _);have a8:=bf (l.erase (n:Int)) (λk ah=>(List.mem_erase_of_ne N).2 (h k N));have ac:=List.length_erase_of_mem o;have b6:0 < l.length:=List.length_pos_of_mem o;omega
variable{kinds:List (List Int)}
theorem ae0{a:ER}{syms runs cells:Int}(h:acA a (dF a kinds syms runs cells)):∀n,n<=a.states.length->zk (dF a kinds syms runs cells) [] (bI (a.states.take n)).2 (gV (dF a kinds syms runs cells) n)/\uV (dF a kinds syms runs cells) n=true/\(gV (dF a kinds syms runs cells) n).length<=19*n:=by
 intro n;induction n with
 |zero=>intro _;exact⟨zk.nil _ _,D,by simp[gV]⟩
 |succ n bf=>intro V;obtain⟨e9,ea,fa⟩:=bf N;obtain⟨ba,ag⟩:∃ba,a.states[n]? =J ba:=⟨_,Kr N⟩;have aS:(dF a kinds syms runs cells).states[n]? =J (uO (bI (a.states.take n)).2 ba).1:=adS a.states ag;obtain⟨cf,cb,c7⟩:=ae2 (h.st n ba ag) (bI (a.states.take n)).2;rw[yJ aS,mF a.states ag,EH aS ea,KC];exact⟨e9.app cf,cb,N⟩
theorem acU{a:ER}{syms runs cells:Int}(h:acA a (dF a kinds syms runs cells))(ah:kinds.length<=16)(ag:0<=syms/\syms<=64)(aS:sK runs=true)(aw:sK cells=true)(b:keysB (dF a kinds syms runs cells)=true)(n:mQ (dF a kinds syms runs cells) kinds.length=true)(bN:∀a9∈(dF a kinds syms runs cells).codes,a9.regs<=16/\a9.list.length<=1024):yK (dF a kinds syms runs cells)=true:=by
 have af:(dF a kinds syms runs cells).states.length=a.states.length:=by show(bI a.states).1.length=_;unfold bI;rw[vX];simp
 obtain⟨cX,cA,d⟩:=ae0 h a.states.length c;rw[LQ] at cX;have cX:zk (dF a kinds syms runs cells) [] (dF a kinds syms runs cells).codes (gV (dF a kinds syms runs cells) a.states.length):=cX;have e:uX (dF a kinds syms runs cells)=gV (dF a kinds syms runs cells) a.states.length:=by unfold uX;rw[af]
 rw[<-e] at cX d;have p:=h.count;obtain⟨f,g,i⟩:=cX.pre;rw[List.nil_append] at g;have cU:=cX.len;rw[NJ] at cU;have j:(dF a kinds syms runs cells).codes.all qC=true:=by rw[LW];intro a9 aw;obtain⟨aJ,bP,cz,cP,d1⟩:=i a9 (by rw[<-g];exact aw);have o:=bN a9 aw;rw[cP] at o⊢;exact(abh cz d1 o.1 o.2).1
 have k:(uX (dF a kinds syms runs cells)).all (jE (dF a kinds syms runs cells))=true:=by
  rw[LW];intro u ap;unfold jE wQ;rcases cX.use u ap with o|⟨a0,a9,o,a8,ac⟩
  ·rw[o];rfl
  rw[o,KU (show(0:Int)<=(a0:Int) by omega),LX,a8];simp only[ac];simp
 have l:(iq (uX (dF a kinds syms runs cells)) []).length=(dF a kinds syms runs cells).codes.length:=by
  refine Nat.le_antisymm (Ej _ _ (IB _ [] List.nodup_nil) λa4 bK=>?_) (adE _ _ λa0 d'=>?_)
  ·have m:a4≠-1:=λa7=>by subst a7;exact IC _ _ (λh=>ZC) bK
   rcases(EP _ _ a4 m).1 bK with o|⟨u,o,a8⟩
   ·cases o
   rcases cX.use u o with ac|⟨a0,a9,ac,b6,_⟩
   ·omega
   have:=(KA.1 b6).1;omega
  obtain⟨u,o,a8⟩:=cX.told a0 (Kw _) d';exact(EP _ _ _ N).2 (.inr ⟨u,o,a8⟩)
 unfold yK kM Ah;rw[af,cA,j,k,l,b];have b3:(dF a kinds syms runs cells).kinds=kinds:=D;have bh:(dF a kinds syms runs cells).strategy=a.strategy:=D;have ca:(dF a kinds syms runs cells).syms=syms:=D;have dc:(dF a kinds syms runs cells).runs=runs:=D;have cY:(dF a kinds syms runs cells).cells=cells:=D;rw[b3,bh,ca,dc,cY,n,aS,aw];have o:=h.strategy;simp;omega
structure aO where
 form:Int
 ty:Int
 guards:List ND
 closes:List ND
structure dB where
 id:Int
 win:Int
 parts:List aO
structure bD where
 strategy:Int
 keys:List Int
 branches:List dB
def kT:aO:=⟨0,0,[],[]⟩
def dZ (ps:List aO) (i:Nat):Bool:=match ps[i]? with
 |some q=>!decide (q.form=3)
 |none=>false
def dH (ps:List aO) (n:Nat):List Nat:=(List.range n).filter (dZ ps)
def dh (ps:List aO):List Nat:=dH ps ps.length
def eX (ps:List aO) (a b:Nat):List rM:=((ps.take b).drop a).map λq=>⟨q.ty,q.guards⟩
def jl (b:dB) (n:Nat) (ix:List Nat) (k:Nat):jV:=
 ⟨if k=0 then-1 else((n+k:Nat):Int)-1,(b.parts.getD (ix.getD k 0) kT).ty,decide ((b.parts.getD (ix.getD k 0) kT).form=2),b.win,
  if k=0 then [] else eX b.parts (ix.getD (k-1) 0+1) (ix.getD k 0),if k=0 then [] else(b.parts.getD (ix.getD (k-1) 0) kT).closes,(b.parts.getD (ix.getD k 0) kT).guards,
  if k+1=ix.length then [⟨b.id,(b.parts.getD (ix.getD k 0) kT).closes,eX b.parts (ix.getD k 0+1) b.parts.length⟩] else []⟩
def rZ (n:Nat) (b:dB):List jV:=(List.range (dh b.parts).length).map (jl b n (dh b.parts))
def fJ (l:List jV) (b:dB):List jV:=l++rZ l.length b
def iy (bs:List dB):List jV:=bs.foldl fJ []
def jq (p:bD):ER:=⟨p.strategy,p.keys,iy p.branches⟩
def jS (kinds:List (List Int)) (k a:Int):Int:=
 if 0<=k then match kinds[k.toNat]? with
  |none=>0
  |some l=>if a < -1\/(l.length:Int)<=a then 0 else if a=-1 then 1 else l.getD a.toNat 0
 else 0
def ada (kinds:List (List Int)) (ty:Int) (many:Bool) (x:gI):Bool:=
 if many=decide (x.op=42) then false
 else if x.op=25 then decide (x.kind=1)
 else if jS kinds ty x.attr=0\/jS kinds ty x.attr≠x.kind then false
 else if x.op=31 then decide (jS kinds ty x.attr=4)
 else if 28<=x.op/\x.op<=30 then decide (jS kinds ty x.attr=1) || decide (jS kinds ty x.attr=4)
 else true
def nH (kinds:List (List Int)) (sk:List (Int×Bool)) (one many asked:Int) (x:gI):Bool:=
 if x.op=41 then !decide (jS kinds asked x.attr=0) && decide (jS kinds asked x.attr=x.kind)
 else if(if x.op=42 then one else many)<=x.pos then false
 else match sk[x.pos.toNat]? with
  |none=>false
  |some y=>ada kinds y.1 y.2 x
def vW (ps:List aO):List (Int×Bool):=(dh ps).map λi=>((ps.getD i kT).ty,decide ((ps.getD i kT).form=2))
structure xU (kinds:List (List Int)) (ps:List aO) (i:Nat) (q:aO):Prop where
 ty:0<=q.ty/\q.ty < (kinds.length:Int)
 not:q.form=3->∀n∈q.guards,jZ (nH kinds (vW ps) (dH ps i).length (dH ps i).length q.ty) n=true
 guards:q.form≠3->∀n∈q.guards,jZ (nH kinds (vW ps) (dH ps i).length ((dH ps i).length+1:Nat) q.ty) n=true
 closes:q.form≠3->∀n∈q.closes,jZ (nH kinds (vW ps) ((dH ps i).length+1:Nat) ((dH ps i).length+1:Nat) (-1)) n=true
structure qj (kinds:List (List Int)) (b:dB):Prop where
 id:0<=b.id/\b.id < 4
 win:0<=b.win/\b.win<=1152921504606846976
 len:b.parts.length<=8
 part:∀i q,b.parts[i]? =J q->xU kinds b.parts i q
structure acF (kinds:List (List Int)) (p:bD):Prop where
 strategy:1<=p.strategy/\p.strategy<=3
 count:p.branches.length<=4
 br:∀b∈p.branches,qj kinds b
theorem oJ{Q:gI->Bool}(h:∀x,dY x=true->P x=true->Q x=true):∀n,jZ P n=true->jZ Q n=true
 | .mk e j q bK bF b8,aT=>by
  rw[jZ.eq_def] at aT⊢
  simp only at aT⊢
  by_cases g:e=40
  ·rw[Kq g] at aT⊢;exact aT
  rw[JZ g] at aT⊢
  match b8,aT with
  | [],aT=>
   simp only[Bool.and_eq_true] at aT⊢
   exact⟨aT.1,h _ aT.1 aT.2⟩
  | [a],aT=>
   simp only[Bool.and_eq_true] at aT⊢
   exact⟨aT.1,oJ h a aT.2⟩
  | [a,y],aT=>
   simp only[Bool.and_eq_true] at aT⊢
   exact⟨⟨aT.1.1,oJ h a aT.1.2⟩,oJ h y aT.2⟩
  |_ :: _ :: _ :: _,aT=>cases aT
theorem Bf{rs:List fD}{x:fD}(ad:rs[n]? =J x):dQ rs (n:Int)=if 0<=x.par/\x.par < (n:Int) then dQ rs x.par++[(n:Int)] else [(n:Int)]:=by
 have V:=(KA.1 ad).1;unfold dQ;obtain⟨bm,bL⟩:∃bm,rs.length=bm+1:=⟨rs.length-1,N⟩;have a7:gq rs (bm+1) (n:Int)=if 0<=x.par/\x.par < (n:Int) then gq rs bm x.par++[(n:Int)] else [(n:Int)]:=by simp only[gq,uG,ad]
 rw[bL,a7];split
 ·next h=>rw[aae rs bm (bm+1) x.par N N]
 rfl
theorem aaf{rs:List fD}{K:Nat}(h:∀k,k < K->∃x,rs[n+k]? =J x/\x.par=if k=0 then-1 else((n+k:Nat):Int)-1):∀k,k < K->dQ rs ((n+k:Nat):Int)=(List.range (k+1)).map λj=>((n+j:Nat):Int):=by
 intro k;induction k with
 |zero=>intro ah;obtain⟨x,ad,ai⟩:=h 0 ah;rw[Bf ad,Kq D] at*;rw[ai,JZ N];simp
 |succ k bf=>
  intro ah;obtain⟨x,ad,ai⟩:=h (k+1) ah;have a7:=Bf ad;rw[JZ N] at ai;have W:x.par=((n+k:Nat):Int):=N;rw[W,Kq ⟨N,N⟩,bf N] at a7;rw[a7];conv=>rhs;rw[Nu,KX]
  rfl
variable{b:List (Int×Bool)}
theorem wS(fP:∀(k:Nat) (a2:Int×Bool),b[k]? =J a2->∃s,T.states[n+k]? =J s/\s.ty=a2.1/\s.many=a2.2){m:Nat}{one many t:Int}(o:one<=(m:Int))(a8:many<=(m:Int))(x:gI)(aR:dY x=true)(aH:nH T.kinds b one many t x=true):iL T ((List.range m).map λj=>((n+j:Nat):Int)) one many t x=true:=by
 have aJ:∀k a,jS T.kinds k a=gy T k a:=λ_ _=>rfl;unfold dY at aR;simp only[Bool.and_eq_true,decide_eq_true_eq] at aR;have cZ:0<=x.pos:=aR.1.1.1.1.1.2;unfold nH at aH;unfold iL;by_cases bv:x.op=41
 ·rw[Kq bv] at aH⊢;exact aH
 rw[JZ bv] at aH⊢;have bL:(if x.op=42 then one else many)<=(m:Int):=by split <;> assumption
 by_cases bo:(if x.op=42 then one else many)<=x.pos
 ·rw[Kq bo] at aH;cases aH
 rw[JZ bo] at aH⊢;cases ak:b[x.pos.toNat]? with
 |none=>rw[ak] at aH;cases aH
 |some a2=>
  rw[ak] at aH;obtain⟨s,ag,b3,bh⟩:=fP _ _ ak;have ca:((List.range m).map λj=>((n+j:Nat):Int)).getD x.pos.toNat 0=((n+x.pos.toNat:Nat):Int):=by rw[Ll,Le,NC N];rfl
  rw[ca,uG,ag];simp only at aH⊢;unfold adR;unfold ada at aH;rw[b3,bh];exact aH
theorem gW(ps:List aO)(n:Nat):dH ps (n+1)=dH ps n++(if dZ ps n then [n] else []):=by unfold dH;rw[Nu,List.filter_append];congr 1;simp only[List.filter_cons,List.filter_nil]
theorem mg(ps:List aO)(n:Nat):(dH ps n).length<=n:=by unfold dH;have:=List.length_filter_le (dZ ps) (List.range n);simpa using this
theorem jI(ps:List aO):∀(n k at_:Nat),(dH ps n)[k]? =J at_->at_ < n/\dZ ps at_=true/\(dH ps at_).length=k:=by
 intro n;induction n with
 |zero=>intro k a h;simp[dH] at h
 |succ n bf=>
  intro k a h;rw[gW] at h;rcases KT k (dH ps n).length with ah|ah
  ·rw[KW ah] at h;obtain⟨o,a8,ac⟩:=bf k a h;exact⟨N,a8,ac⟩
  rw[Lh ah] at h;by_cases a':dZ ps n=true
  ·rw[Kq a'] at h;have bw:k-(dH ps n).length=0:=by
    rcases MB (k-(dH ps n).length) with o|o
    ·exact o
    rw[LY Zv] at h;cases h
   rw[bw] at h;simp at h;subst h;exact⟨N,a',N⟩
  rw[JZ a'] at h;simp at h
theorem GK(ps:List aO){a b:Nat}(h:(dH ps b).length=(dH ps a).length):∀i,a<=i->i < b->dZ ps i=false/\(dH ps i).length=(dH ps a).length:=by
 have e:∀i a4,i<=a4->(dH ps i).length<=(dH ps a4).length:=by
  intro i a4 m;induction a4 with
  |zero=>(have:i=0:=N);subst this;exact KD _
  |succ a4 bf=>
   rcases KT i (a4+1) with o|o
   ·have a8:=bf N;rw[gW,KC];omega
   have:i=a4+1:=N;subst this;exact KD _
 intro i aR d;have o:=e a i aR;have a8:=e (i+1) b d;have ac:=e i (i+1) N;refine⟨?_,N⟩;cases a':dZ ps i with
 |false=>rfl
 |true=>rw[gW,Kq a',KC] at a8;simp at a8;omega
variable{ps:List aO}
theorem Ee(h:dZ ps i=true):∃q,ps[i]? =J q/\q.form≠3/\ps.getD i kT=q:=by
 unfold dZ at h;cases a1:ps[i]? with
 |none=>rw[a1] at h;cases h
 |some q=>rw[a1] at h;exact⟨q,D,Zh,by rw[Ll,a1];rfl⟩
theorem acP{a b:Nat}{x:rM}(h:x∈eX ps a b):∃i q,a<=i/\i < b/\ps[i]? =J q/\x=⟨q.ty,q.guards⟩:=by unfold eX at h;obtain⟨q,a1,rfl⟩:=LC.1 h;obtain⟨a4,bK⟩:=Nw a1;rw[List.getElem?_drop] at bK;have o:=(KA.1 bK).1;rw[Lc] at o;rw[List.getElem?_take,Kq N] at bK;exact⟨a+a4,q,N,N,bK,D⟩
theorem zL(ps:List aO)(a b:Nat):(eX ps a b).length<=ps.length:=by unfold eX;rw[KZ,List.length_drop,Lc];omega
theorem ady{q:aO}(h:dZ ps i=false)(a1:ps[i]? =J q):q.form=3:=by unfold dZ at h;rw[a1] at h;simpa using h
theorem abd{b:dB}(d:qj T.kinds b)(v:∀k,k < (dh b.parts).length->∃x,T.states[n+k]? =J x/\x.par=(jl b n (dh b.parts) k).par/\x.ty=(jl b n (dh b.parts) k).ty/\x.many=(jl b n (dh b.parts) k).many): ∀k,k < (dh b.parts).length->afE T (n+k) (jl b n (dh b.parts) k):=by
 have y:=aaf (rs:=T.states) (n:=n) (K:=(dh b.parts).length) (λk ah=>by obtain⟨x,o,a8,_⟩:=v k ah;exact⟨x,o,a8⟩);have j:(dh b.parts).length<=8:=Ko (mg _ _) d.len;have f:∀(k:Nat) (a2:Int×Bool),(vW b.parts)[k]? =J a2->∃ba,T.states[n+k]? =J ba/\ba.ty=a2.1/\ba.many=a2.2:=by
  intro k a2 ak;unfold vW at ak;rw[Le] at ak;cases eq:(dh b.parts)[k]? with
  |none=>rw[eq] at ak;cases ak
  |some a3=>
   rw[eq] at ak;simp only[Option.map_some,Option.some.injEq] at ak;obtain⟨x,o,a8,ac,b6⟩:=v k (KA.1 eq).1;have a7:(dh b.parts).getD k 0=a3:=by rw[Ll,eq];rfl
   refine⟨x,o,?_,?_⟩
   ·rw[ac,<-ak];simp only[jl,a7]
   rw[b6,<-ak];simp only[jl,a7]
 intro k ah;obtain⟨ar,c8⟩:∃a,(dh b.parts)[k]? =J a:=⟨_,Kr ah⟩;have g:(dh b.parts).getD k 0=ar:=by rw[Ll,c8];rfl
 obtain⟨bD,bs,e⟩:=jI _ _ _ _ c8;obtain⟨m,a1,aE,i⟩:=Ee bs;have ai:=d.part ar m a1;have q:=y k ah;have l:(dQ T.states ((n+k:Nat):Int)).length=k+1:=by rw[q];simp
 have z:∀(bm s aR:Nat),(dH b.parts s).length=bm->(dH b.parts aR).length=bm->∀x∈eX b.parts s aR,Gm T ((List.range bm).map λa4=>((n+a4:Nat):Int)) x:=by intro bm s aR b3 bh x ad;obtain⟨a3,P,o,a8,ac,rfl⟩:=acP ad;obtain⟨b6,bz⟩:=GK b.parts (bh.trans b3.symm) a3 o a8;have b1:=d.part a3 P ac;refine⟨by unfold jf;simp[b1.ty.1,b1.ty.2],λdT V=>?_⟩;have c4:=b1.not (ady b6 ac) dT V;rw[bz,b3] at c4;refine oJ (λa2 aa e0=>?_) dT c4;rw[KZ,List.length_range];exact wS f (Lp _) (Lp _) a2 aa e0
 have al:∀a7∈(jl b n (dh b.parts) k).ends,endOk T (dQ T.states ((n+k:Nat):Int)) a7:=by
  intro a7 bS;simp only[jl,g,i] at bS;split at bS
  ·next ew=>
   rw[KG] at bS;subst bS;refine⟨d.id,Ko (zL _ _ _) d.len,λdT V=>?_,?_⟩
   ·have c4:=ai.closes aE dT V;rw[e] at c4;rw[l,q];exact oJ (λa2 aa e0=>wS f (Lp _) (Lp _) a2 aa e0) dT c4
   rw[q];refine z (k+1) _ _ ?_ ?_
   ·rw[gW,Kq bs,KC,e];rfl
   show(dh b.parts).length=k+1;omega
  cases bS
 have B:∀dT∈(jl b n (dh b.parts) k).guards,jZ (iL T (dQ T.states ((n+k:Nat):Int)) ((dQ T.states ((n+k:Nat):Int)).length-1) (dQ T.states ((n+k:Nat):Int)).length (jl b n (dh b.parts) k).ty) dT=true:=by
  intro dT V;simp only[jl,g,i] at V⊢;have c4:=ai.guards aE dT V;rw[e] at c4;rw[l,q];refine oJ (λa2 aa e0=>wS f ?_ (Lp _) a2 aa ?_) dT c4
  ·omega
  have a7:(((k+1:Nat):Int)-1)=(k:Int):=N;rw[a7];exact e0
 rcases MB k with bw|bw
 ·subst bw;refine⟨by simp only[jl,if_pos];omega,Vw,d.win,by rw[l];omega,λ_=>⟨D,D⟩,by simp[jl],λx ad=>by simp[jl] at ad,λx ad=>by simp[jl] at ad,B,by simp only[jl];split <;> simp,al⟩
 obtain⟨bJ,ds⟩:∃a,(dh b.parts)[k-1]? =J a:=⟨_,Kr N⟩;have M:(dh b.parts).getD (k-1) 0=bJ:=by rw[Ll,ds];rfl
 obtain⟨ct,c0,cu⟩:=jI _ _ _ _ ds;obtain⟨cF,t,R,S⟩:=Ee c0;have fF:=d.part bJ cF t;have r:(jl b n (dh b.parts) k).par=((n+(k-1):Nat):Int):=by simp only[jl];rw[JZ N];omega
 have p:=y (k-1) N;rw[show k-1+1=k by omega] at p;have W:(dQ T.states ((n+(k-1):Nat):Int)).length=k:=by rw[p];simp
 refine⟨by rw[r];omega,Vw,d.win,by rw[l];omega,λh=>by rw[r] at h;omega,?_,?_,?_,B,by simp only[jl];split <;> simp,al⟩
 ·simp only[jl];rw[JZ N];exact Ko (zL _ _ _) d.len
 ·rw[r,p];simp only[jl];rw[JZ N,M,g];refine z k _ _ ?_ e;rw[gW,Kq c0,KC,cu];simp;omega
 rw[r,W,p];intro dT V;simp only[jl] at V;rw[JZ N,M,S] at V;have c4:=fF.closes R dT V;rw[cu,show k-1+1=k by omega] at c4;exact oJ (λa2 aa e0=>wS f (Lp _) (Lp _) a2 aa e0) dT c4
theorem wO(n:Nat)(b:dB):(rZ n b).length=(dh b.parts).length:=by unfold rZ;simp
theorem Gs(n:Nat)(b:dB){k:Nat}(ah:k < (dh b.parts).length):(rZ n b)[k]? =J (jl b n (dh b.parts) k):=by unfold rZ;rw[Le,NC ah];rfl
theorem aa7:∀(P:List dB) (l:List jV) (i:Nat),i < l.length->(P.foldl fJ l)[i]? =l[i]?:=by
 intro P;induction P with
 |nil=>intro l i _;rfl
 |cons y P bf=>intro l i aR;rw[LU,bf _ i (by unfold fJ;rw[KC];omega)];unfold fJ;rw[KW aR]
theorem aaG:∀(P:List dB) (l:List jV) (i:Nat) (s:jV),l.length<=i->(P.foldl fJ l)[i]? =J s->∃b∈P,∃n k,i=n+k/\k < (dh b.parts).length/\s=jl b n (dh b.parts) k/\∀cW,cW < (dh b.parts).length->(P.foldl fJ l)[n+cW]? =J (jl b n (dh b.parts) cW):=by
 intro P;induction P with
 |nil=>intro l i s aR h;rw[List.foldl_nil,LY aR] at h;cases h
 |cons b P bf=>
  intro l i s aR h;rw[LU] at h;have af:(fJ l b).length=l.length+(dh b.parts).length:=by unfold fJ;rw[KC,wO]
  have a2:∀cW,cW < (dh b.parts).length->((b :: P).foldl fJ l)[l.length+cW]? =J (jl b l.length (dh b.parts) cW):=by intro cW bQ;rw[LU,aa7 _ _ _ (by rw[af];omega)];unfold fJ;rw[Lh N,Nat.add_sub_cancel_left];exact Gs _ _ bQ
  rcases KT i (fJ l b).length with o|o
  ·have a8:=a2 (i-l.length) N;rw[show l.length+(i-l.length)=i by omega,LU,h] at a8;injection a8 with a8;exact⟨b,ZH,l.length,i-l.length,N,N,a8,a2⟩
  obtain⟨aY,e,n,k,b3,bh,ca,dc⟩:=bf _ i s o h;exact⟨aY,by simp[e],n,k,b3,bh,ca,dc⟩
theorem zK:∀(P:List dB) (l:List jV),(∀b∈P,b.parts.length<=8)->(P.foldl fJ l).length<=l.length+8*P.length:=by
 intro P;induction P with
 |nil=>intro l _;simp
 |cons b P bf=>
  intro l h;have o:=bf (fJ l b) (λaa ad=>h aa Zz);have a8:(fJ l b).length<=l.length+8:=by unfold fJ;rw[KC,wO];have ac:=mg b.parts b.parts.length;have b6:=h b ZH;unfold dh;omega
  rw[LU,MI];omega
theorem Et{p:bD}(h:acF kinds p)(syms runs cells:Int):acA (jq p) (dF (jq p) kinds syms runs cells):=by have a':=zK p.branches [] (λy d=>(h.br y d).len);have aw:=h.count;refine⟨h.strategy,by show(iy p.branches).length<=32;unfold iy;simp at a';omega,λa3 ba ag=>?_⟩;have l:(p.branches.foldl fJ [])[a3]? =J ba:=ag;obtain⟨y,d,M,a0,rfl,ah,rfl,a2⟩:=aaG p.branches [] a3 ba (Kw _) l;refine abd (T:=dF (jq p) kinds syms runs cells) (h.br y d) (λcW bQ=>?_) a0 ah;have o:=adS (jq p).states (n:=M+cW) (a2 cW bQ);exact⟨_,o,D,D,D⟩
def kJ (n n':ND):Prop:=∀P,jZ P n=true->jZ P n'=true
theorem kJ.refl(n:ND):kJ n n:=λ_ h=>h
def eG (l l':List ND):Prop:=∀n'∈l',∃n∈l,kJ n n'
theorem eG.ok{l s:List ND}(h:eG l s)(k:∀n∈l,jZ P n=true):∀n∈s,jZ P n=true:=λn V=>by
 obtain⟨bm,o,a8⟩:=h n V
 exact a8 P (k bm o)
theorem eG.refl(l:List ND):eG l l:=λM V=>⟨M,V,kJ.refl M⟩
inductive gQ:List aO->List aO->Prop
 |nil:gQ [] []
 |drop {q:aO} {ps ps':List aO}:q.form=3->gQ ps ps'->gQ (q :: ps) ps'
 |keep {q q':aO} {ps ps':List aO}:q'.form=q.form->q'.ty=q.ty->eG q.guards q'.guards->eG q.closes q'.closes->gQ ps ps'->gQ (q :: ps) (q' :: ps')
theorem gQ.refl:∀ps:List aO,gQ ps ps
 | []=>.nil
 |q :: ps=>.keep D D (eG.refl _) (eG.refl _) (gQ.refl ps)
def xq (q:aO):Bool:=!decide (q.form=3)
def skL (ps:List aO):List (Int×Bool):=(ps.filter xq).map λq=>(q.ty,decide (q.form=2))
structure afp (kinds:List (List Int)) (sk:List (Int×Bool)) (k:Nat) (q:aO):Prop where
 ty:0<=q.ty/\q.ty < (kinds.length:Int)
 not:q.form=3->∀n∈q.guards,jZ (nH kinds sk k k q.ty) n=true
 guards:q.form≠3->∀n∈q.guards,jZ (nH kinds sk k (k+1:Nat) q.ty) n=true
 closes:q.form≠3->∀n∈q.closes,jZ (nH kinds sk (k+1:Nat) (k+1:Nat) (-1)) n=true
def zB (kinds:List (List Int)) (sk:List (Int×Bool)):Nat->List aO->Prop
 |_,[]=>True
 |k,q :: ps=>afp kinds sk k q/\zB kinds sk (if q.form=3 then k else k+1) ps
variable{e:List aO}
theorem abW(h:gQ ps e):skL e=skL ps:=by
 induction h with
 |nil=>rfl
 |drop o _ bf=>unfold skL at*;rw[bf];simp[xq,o]
 | @keep m f ps e o a8 _ _ _ bf=>
  unfold skL at*;by_cases ac:m.form=3
  ·have b6:f.form=3:=o.trans ac;simp[xq,ac,b6] at bf⊢;exact bf
  have b6:¬f.form=3:=by rw[o];exact ac
  simp[xq,ac,b6,o,a8] at bf⊢;exact bf
theorem aac(h:gQ ps e):e.length<=ps.length:=by
 induction h with
 |nil=>exact KD _
 |drop _ _ bf=>rw[MI];omega
 |keep _ _ _ _ _ bf=>rw[MI,MI];omega
theorem abV(h:gQ ps e):∀k,zB kinds b k ps->zB kinds b k e:=by
 induction h with
 |nil=>intro k _;trivial
 |drop o _ bf=>intro k ah;have:=ah.2;rw[Kq o] at this;exact bf k this
 |keep o a8 ac b6 _ bf=>intro k ah;obtain⟨a1,aS⟩:=ah;refine⟨⟨by rw[a8];exact a1.ty,λh=>ac.ok (by rw[a8];exact a1.not (o.symm.trans h)),λh=>ac.ok (by rw[a8];exact a1.guards (by rw[<-o];exact h)),λh=>b6.ok (a1.closes (by rw[<-o];exact h))⟩,?_⟩;rw[o];exact bf _ aS
theorem GN(ps:List aO):∀n,n<=ps.length->(dH ps n).length=((ps.take n).filter xq).length:=by
 intro n;induction n with
 |zero=>intro _;rfl
 |succ n bf=>intro V;obtain⟨m,a1⟩:∃m,ps[n]? =J m:=⟨_,Kr N⟩;rw[gW,KC,bf N,take_one a1,List.filter_append,KC];congr 1;unfold dZ;rw[a1];by_cases ac:m.form=3 <;> simp[xq,ac]
theorem ab8(ps:List aO):∀n,n<=ps.length->(dH ps n).map (λi=>((ps.getD i kT).ty,decide ((ps.getD i kT).form=2)))=((ps.take n).filter xq).map λq=>(q.ty,decide (q.form=2)):=by
 intro n;induction n with
 |zero=>intro _;rfl
 |succ n bf=>
  intro V;obtain⟨q,a1⟩:∃q,ps[n]? =J q:=⟨_,Kr N⟩;have a7:ps.getD n kT=q:=by rw[Ll,a1];rfl
  rw[gW,KX,bf N,take_one a1,List.filter_append,KX];congr 1;unfold dZ;rw[a1];by_cases ac:q.form=3
  ·simp[xq,ac]
  simp[xq,ac,a1]
theorem afh(ps:List aO):vW ps=skL ps:=by have h:=ab8 ps ps.length c;rw[LQ] at h;exact h
theorem abU:∀(ps:List aO) (k:Nat),zB kinds b k ps↔∀i q,ps[i]? =J q->afp kinds b (k+((ps.take i).filter xq).length) q:=by
 intro ps;induction ps with
 |nil=>intro k;exact⟨λ_ i q h=>Zw,λ_=>trivial⟩
 |cons aT ps bf=>
  intro k;have a7:∀i,k+(((aT :: ps).take (i+1)).filter xq).length=(if aT.form=3 then k else k+1)+((ps.take i).filter xq).length:=by
   intro i;rw[List.take_succ_cons];by_cases ac:aT.form=3
   ·simp[xq,ac]
   simp[xq,ac];omega
  constructor
  ·rintro⟨o,a8⟩ i q a1;cases i with
   |zero=>simp at a1;subst a1;simpa using o
   |succ i=>rw[a7 i];exact(bf _).1 a8 i q (by simpa using a1)
  intro h;refine⟨by simpa using h 0 aT D,(bf _).2 λi q a1=>?_⟩;rw[<-a7 i];exact h (i+1) q (by simpa using a1)
theorem Gq:(∀i q,ps[i]? =J q->xU kinds ps i q)↔zB kinds (skL ps) 0 ps:=by
 rw[abU,<-afh];constructor
 ·intro h i q a1;have o:=h i q a1;have aR:=(KA.1 a1).1;rw[Ls,<-GN ps i N];exact⟨o.ty,o.not,o.guards,o.closes⟩
 intro h i q a1;have o:=h i q a1;have aR:=(KA.1 a1).1;rw[Ls,<-GN ps i N] at o;exact⟨o.ty,o.not,o.guards,o.closes⟩
theorem qj.pass{b aY:dB}(h:qj kinds b)(aR:aY.id=b.id)(bN:0<=aY.win/\aY.win<=1152921504606846976)(ai:gQ b.parts aY.parts):qj kinds aY:=by refine⟨by rw[aR];exact h.id,bN,Ko (aac ai) h.len,Gq.2 ?_⟩;rw[abW ai];exact abV ai 0 (Gq.1 h.part)
theorem qj.set{b:dB}(h:qj kinds b){q f:aO}(a1:b.parts[i]? =J q)(aH:f.form=q.form)(c7:f.ty=q.ty)(V:xU kinds b.parts i f):qj kinds {b with parts:=b.parts.set i f}:=by
 have aR:=(KA.1 a1).1;have a':∀a4,dZ (b.parts.set i f) a4=dZ b.parts a4:=by
  intro a4;unfold dZ;rw[KO];by_cases m:i=a4
  ·subst m;rw[Kq D,Kq aR,a1];simp only;rw[aH]
  rw[JZ m]
 have ad:∀M,dH (b.parts.set i f) M=dH b.parts M:=by intro M;unfold dH;congr 1;funext a4;exact a' a4
 have ag:vW (b.parts.set i f)=vW b.parts:=by
  unfold vW dh;rw[Lj,ad];refine List.map_congr_left λa4 bK=>?_;rw[Ll,Ll,KO];by_cases m:i=a4
  ·subst m;rw[Kq D,Kq aR,a1];show(f.ty,decide (f.form=2))=(q.ty,decide (q.form=2));rw[aH,c7]
  rw[JZ m]
 refine⟨h.id,h.win,by show(b.parts.set i f).length<=8;rw[Lj];exact h.len,λa4 z aS=>?_⟩;have aS:(b.parts.set i f)[a4]? =J z:=aS;rw[KO] at aS;have d:∀(z:aO),xU kinds b.parts a4 z->xU kinds (b.parts.set i f) a4 z:=λz aS=>⟨aS.ty,by rw[ag,ad];exact aS.not,by rw[ag,ad];exact aS.guards,by rw[ag,ad];exact aS.closes⟩;by_cases m:i=a4
 ·subst m;rw[Kq D,Kq aR] at aS;injection aS with aS;subst aS;exact d _ V
 rw[JZ m] at aS;exact d z (h.part a4 z aS)

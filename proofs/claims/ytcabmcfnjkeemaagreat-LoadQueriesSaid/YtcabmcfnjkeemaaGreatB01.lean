import Derived.Test.YtcabmcfnjkeemaaGreatBM00
import Derived.Test.YtcabmcfnjkeemaaGreatProg
set_option maxRecDepth 100000
set_option maxHeartbeats 40000000
set_option linter.unusedVariables false
set_option linter.unusedSimpArgs false
namespace Go.Proofs.YtcabmcfnjkeemaaGreat
open Go Go.ChangeAt Go.ChangeShapes Go.Deep Go.RowKit Go.WideShapes
open Go renaming World->L,Value->O
open Go.IntKind renaming i64->E,u64->JL
open Go.Obj renaming cells->JO
open Go.RowKit renaming Hid->F,Below->JK
open Go.Value renaming int->C,slice->G,bool->JM
open Option renaming none->I,some->J
variable{ops:Array Oper}{Q:Exit->Act->L->Prop}{S:L->Prop}{ex:Nat->Bool}{P:Program}{md:Region.Mode}
def Till (P:Program) (md:Region.Mode) (ops:Array Oper) (Q:Exit->Act->L->Prop) (S:L->Prop) (ex:Nat->Bool):Nat->Array Bool->Act->L->Prop
 |0,listed,a,w=>Region.ready md ops listed=[]/\Q .normal a w
 |f+1,listed,a,w=>(Region.ready md ops listed=[]->Q .normal a w)/\
  ∀j∈Region.ready md ops listed,wpOp P ops Q j (λa' w'=>(ex j=false->S w')/\Till P md ops Q S ex f (listed.setIfInBounds j true) a' w') a w
theorem Iw:∀(f:Nat) (g:Array Bool) (a:Act) (w:L),Till P md ops Q S ex f g a w->wpAny P md ops Q f g a w
 |0,_,_,_,h=>h
 |f+1,_,_,_,h=>⟨h.1,λa4 bK=>wpOp_mono (λaw aF j=>Iw f _ aw aF j.2) (h.2 a4 bK)⟩
def tK (md:Region.Mode) (ops:Array Oper) (ex:Nat->Bool) (listed:Array Bool) (i:Nat):Bool:=
 (List.range ops.size).all λj=>j== i || listed.getD j true || !ex j || (match ops[j]? with|some o=>o.after.any (λe=>Region.binds md e && e.on== i)|none=>true)
variable{g:Array Bool}{i j:Nat}{bl:Oper}
theorem aef(h:tK md ops ex g i=true)(br:ops[j]? =J bl)(l:j≠i)(s:g.getD j true=false)(bS:ex j=true):∃e∈bl.after,Region.binds md e=true/\e.on=i:=by unfold tK at h;rw[LW] at h;have o:=h j (MK.2 (Nc.1 br).1);simp only[br,bS,s,Bool.not_true,Bool.or_false,Bool.or_eq_true,beq_iff_eq,l,false_or] at o;obtain⟨e,bL,a8⟩:=Array.any_eq_true'.1 o;rw[LH,beq_iff_eq] at a8;exact⟨e,bL,a8.1,a8.2⟩
theorem acs(h:tK md ops ex g i=true):tK md ops ex (g.setIfInBounds j true) i=true:=by
 unfold tK at h⊢;rw[LW] at h⊢;intro a0 ah;have o:=h a0 ah;by_cases p:j=a0
 ·subst p;by_cases a':j < g.size
  ·simp[a']
  rw[Array.setIfInBounds_eq_of_size_le N];exact o
 rw[getD_set_ne true p];exact o
theorem Em(aR:i∈Region.ready md ops g)(bK:j∈Region.ready md ops g)(br:ops[j]? =J bl):∀e∈bl.after,Region.binds md e=true->e.on≠i:=by
 intro e bS d B;obtain⟨_,b,k,a2⟩:=mem_ready.1 bK;rw[br] at k;injection k with k;subst k;have o:=a2 e bS d;have bw:=(mem_ready.1 aR).1;rw[B] at o;by_cases a':i < g.size
 ·simp[a'] at bw o;rw[bw] at o;cases o
 simp[a'] at o
variable{v:O}
theorem aav{k:Oper}(aR:ops[i]? =J k)(t:∀(j:Nat) (bl:Oper) cs b,ops[j]? =J bl->bl.op≠ .select cs b)(n:∀a9 a w,Q (.panic a9) (a.put k.dst v) w->Q (.panic a9) a w):∀(f:Nat) (g:Array Bool) (a:Act) (w:L),(∀j m,ops[j]? =J m->j≠i->g.getD j true=false->(∀e∈m.after,Region.binds md e=true->e.on≠i)->k.apart ops m=true)->tK md ops ex g i=true->i∈Region.ready md ops g->YieldsIf P ops S k v a->S w->Till P md ops Q S ex f (g.setIfInBounds i true) (a.put k.dst v) w->Till P md ops Q S ex (f+1) g a w:=by
 intro f;induction f with
 |zero=>
  intro g a w _ _ aS ak aE ae;refine⟨λh=>XQ,λj bK=>?_⟩;by_cases l:j=i
  ·subst l;exact ak.wpOp aR aE ⟨λ_=>aE,ae⟩
  have o:=ready_mono bK l;rw[ae.1] at o;cases o
 |succ f bf=>
  intro g a w x M aS ak aE ae;refine⟨λh=>XQ,λj bK=>?_⟩;by_cases l:j=i
  ·subst l;exact ak.wpOp aR aE ⟨λ_=>aE,ae⟩
  obtain⟨s,m,q,_⟩:=mem_ready.1 bK;have z:=Em aS bK q;have R:ex j=false:=by
   cases ad:ex j with
   |false=>rfl
   |true=>obtain⟨e,bS,d,B⟩:=aef M q l s ad;exact absurd B (z e bS d)
  have a8:=Tf;refine wpOp_mono (λaw aF ac=>⟨ac.2.1,bf _ aw aF (λa0 c8 ah W y r=>x a0 c8 ah W ?_ r) (acs M) (ready_mono aS (Ne.symm l)) ac.1 (ac.2.1 R) ?_⟩) a8
  ·by_cases p:j=a0
   ·subst p;exact s
   rw[getD_set_ne true p] at y;exact y
  rw[Array.setIfInBounds_comm _ _ l];exact ac.2.2
variable{a:Act}{w:L}{f:Nat}
theorem aJ{k:Oper}(aR:ops[i]? =J k)(ag:Region.noSelect ops=true)(aH:Region.free md ops g i=true)(aS:(Region.ready md ops g).contains i=true)(bN:tK md ops ex g i=true)(n:∀a9 a w,Q (.panic a9) (a.put k.dst v) w->Q (.panic a9) a w)(ak:YieldsIf P ops S k v a)(aE:S w)(h:Till P md ops Q S ex f (g.setIfInBounds i true) (a.put k.dst v) w):Till P md ops Q S ex (f+1) g a w:=
 aav aR (Region.noSelect_spec ag) n f g a w (Region.free_spec aR aH) bN (by simpa using aS) ak aE h
theorem aaw{k:Oper}(aR:ops[i]? =J k)(aK:ex i=true)(t:∀(j:Nat) (bl:Oper) cs b,ops[j]? =J bl->bl.op≠ .select cs b)(n:∀a9 a w,Q (.panic a9) (a.put k.dst v) w->Q (.panic a9) a w):∀(f:Nat) (g:Array Bool) (a:Act) (w:L),(∀j m,ops[j]? =J m->j≠i->g.getD j true=false->(∀e∈m.after,Region.binds md e=true->e.on≠i)->k.apart ops m=true)->i∈Region.ready md ops g->YieldsIf P ops (λ_=>True) k v a->Till P md ops Q S ex f (g.setIfInBounds i true) (a.put k.dst v) w->Till P md ops Q S ex (f+1) g a w:=by
 intro f;induction f with
 |zero=>
  intro g a w _ aS ak ae;refine⟨λh=>XQ,λj bK=>?_⟩;by_cases l:j=i
  ·subst l;exact ak.wpOp aR trivial ⟨λh=>(by rw[aK] at h;cases h),ae⟩
  have o:=ready_mono bK l;rw[ae.1] at o;cases o
 |succ f bf=>
  intro g a w x aS ak ae;refine⟨λh=>XQ,λj bK=>?_⟩;by_cases l:j=i
  ·subst l;exact ak.wpOp aR trivial ⟨λh=>(by rw[aK] at h;cases h),ae⟩
  obtain⟨s,m,q,_⟩:=mem_ready.1 bK;have z:=Em aS bK q;have a8:=Tf;refine wpOp_mono (λaw aF ac=>⟨ac.2.1,bf _ aw aF (λa0 c8 ah W y r=>x a0 c8 ah W ?_ r) (ready_mono aS (Ne.symm l)) ac.1 ?_⟩) a8
  ·by_cases p:j=a0
   ·subst p;exact s
   rw[getD_set_ne true p] at y;exact y
  rw[Array.setIfInBounds_comm _ _ l];exact ac.2.2
theorem acj{k:Oper}(aR:ops[i]? =J k)(ag:Region.noSelect ops=true)(aH:Region.free md ops g i=true)(aS:(Region.ready md ops g).contains i=true)(aK:ex i=true)(n:∀a9 a w,Q (.panic a9) (a.put k.dst v) w->Q (.panic a9) a w)(ak:YieldsIf P ops (λ_=>True) k v a)(h:Till P md ops Q S ex f (g.setIfInBounds i true) (a.put k.dst v) w):Till P md ops Q S ex (f+1) g a w:=
 aaw aR aK (Region.noSelect_spec ag) n f g a w (Region.free_spec aR aH) (by simpa using aS) ak h
def aN (P:Program) (md:Region.Mode) (ops:Array Oper) (Q:Exit->Act->L->Prop) (S:L->Prop) (ex:Nat->Bool) (f:Nat) (listed:Array Bool) (a:Act) (w:L) (rs:List Nat):Prop:=
 ∀j∈rs,wpOp P ops Q j (λa' w'=>(ex j=false->S w')/\Till P md ops Q S ex f (listed.setIfInBounds j true) a' w') a w
theorem aN.nil:aN P md ops Q S ex f g a w []:=λ_ h=>by cases h
theorem aN.cons{rs:List Nat}(br:ops[i]? =J bl)(h:∀b:Act->L->Prop,Shut (∀a w,(ex i=false->S w)->Till P md ops Q S ex f (g.setIfInBounds i true) a w->b a w)->if Region.wanted bl (yielded ops a.tmps)=true then Oper.wp P bl a w b Q else b (a.put bl.dst undef) w)(ag:aN P md ops Q S ex f g a w rs):aN P md ops Q S ex f g a w (i :: rs):=λa4 bK=>by
 rcases Nh.1 bK with rfl|bK
 ·exact wpOp_step br (λb j=>h b (λa w o a8=>j a w ⟨o,a8⟩))
 exact ag a4 bK
theorem bC{rs:List Nat}(aS:Region.ready md ops g=rs)(bm:rs≠[])(h:aN P md ops Q S ex f g a w rs):Till P md ops Q S ex (f+1) g a w:=
 ⟨λbw=>absurd (aS▸bw) bm,λa4 bK=>h a4 (aS▸bK)⟩
theorem aci(aS:Region.ready md ops g=[])(h:Q .normal a w):∀f,Till P md ops Q S ex f g a w
 |0=>⟨aS,h⟩
 |f+1=>⟨λ_=>h,λa4 bK=>by rw[aS] at bK;cases bK⟩
theorem aG{id:Nat}(S:L->Prop)(ak:Nat->Bool)(bL:P.follows .mixedOrders=true)(h:Till P .any ops Q S ak ops.size (Array.replicate ops.size false) a w.drew):(Code.region id ops true).wp P Q a w:=
 wp_region_any bL (Iw _ _ _ _ h)
section
variable {oi:Oper} {listed:Array Bool}
theorem tp(i:Nat)(h:Till P md ops Q S ex f (listed.setIfInBounds i true) (a.put oi.dst v) w)(aR:ops[i]? =J oi:=by rfl)(ag:Region.noSelect ops=true:=by kernel_rfl)(aH:Region.free md ops listed i=true:=by kernel_rfl)(aS:(Region.ready md ops listed).contains i=true:=by kernel_rfl)(aK:ex i=true:=by kernel_rfl)(n:∀a9 a w,Q (.panic a9) (a.put oi.dst v) w->Q (.panic a9) a w:=by exact λ_ _ _ h=>h)(bN:Region.wanted oi (yielded ops a.tmps)=true:=by kernel_rfl)(ak:∀w',True->(execOp a.eval oi).run P w'=.ok (.value v) w':=by(intro w' _;go_simp;try with_reducible rfl)):Till P md ops Q S ex (f+1) listed a w:=
 acj aR ag aH aS aK n (KH ⟨bN,ak⟩) h
theorem tl(i:Nat)(aE:F (S w))(h:Till P md ops Q S ex f (listed.setIfInBounds i true) (a.put oi.dst v) w)(aR:ops[i]? =J oi:=by rfl)(ag:Region.noSelect ops=true:=by kernel_rfl)(aH:Region.free md ops listed i=true:=by kernel_rfl)(aS:(Region.ready md ops listed).contains i=true:=by kernel_rfl)(aK:tK md ops ex listed i=true:=by kernel_rfl)(n:∀a9 a w,Q (.panic a9) (a.put oi.dst v) w->Q (.panic a9) a w:=by exact λ_ _ _ h=>h)(bN:Region.wanted oi (yielded ops a.tmps)=true:=by kernel_rfl)(ak:∀w',S w'->(execOp a.eval oi).run P w'=.ok (.value v) w':=by(intro w' k;(try dsimp only at k);go_simp;try with_reducible rfl)):Till P md ops Q S ex (f+1) listed a w:=
 aJ aR ag aH aS aK n (KH ⟨bN,ak⟩) aE.out h
end
section
variable {o:Oper} {listed:Array Bool}
theorem t1(i:Nat)(h:∀b:Act->L->Prop,Shut (∀a w,(ex i=false->S w)->Till P md ops Q S ex f (listed.setIfInBounds i true) a w->b a w)->if Region.wanted o (yielded ops a.tmps)=true then Oper.wp P o a w b Q else b (a.put o.dst undef) w)(br:ops[i]? =J o:=by rfl)(aS:Region.ready md ops listed=[i]:=by kernel_rfl):Till P md ops Q S ex (f+1) listed a w:=bC aS ZH (aN.cons br h aN.nil)
theorem td(h:Q .normal a w)(aS:Region.ready md ops listed=[]:=by kernel_rfl):Till P md ops Q S ex f listed a w:=aci aS h f
end
theorem wM(a:Addr)(n:Nat):(a.add n).block=a.block:=by unfold Addr.add;split <;> rfl
theorem IZ(a:Addr)(i j:Nat):(a.add i).add j=a.add (i+j):=by unfold Addr.add;by_cases aR:i=0 <;> by_cases bK:j=0 <;> simp[aR,bK,Nat.add_assoc]
def Reads (w:L) (B size:Nat) (A:Option Addr) (n:Nat) (xs:List O):Prop:=
 xs.length=n*size/\(0 < n->∃ad,A=J ad/\ad.block < B/\∀j u,xs[j]? =J u->w.cell? (ad.add j)=J u)
variable{p:Addr}{w':L}{xs:List O}{B base k n size:Nat}{e:TypeId}
section
variable {B':Nat} {A:Option Addr}
theorem Reads.none_:Reads w B size A 0 []:=⟨ZH,λh=>absurd h N⟩
theorem Reads.at_(h:Reads w B 1 A n xs)(ah:k < n):∃x u,A=J x/\x.block < B/\xs[k]? =J u/\w.cell? (x.add k)=J u:=by
 obtain⟨x,a7,d,aw⟩:=h.2 N;have a':k < xs.length:=by have:=h.1;omega
 exact⟨x,xs[k],a7,d,Kr a',aw k _ (Kr a')⟩
theorem Reads.keep(h:Reads w B size A n xs)(ah:∀p:Addr,p.block < B->w'.cell? p=w.cell? p):Reads w' B size A n xs:=
 ⟨h.1,λV=>by
  obtain⟨x,a7,d,aw⟩:=h.2 V
  exact⟨x,a7,d,λa4 u ap=>(ah _ (by rw[wM];exact d)).trans (aw a4 u ap)⟩⟩
theorem Reads.more(h:Reads w B size A n xs)(bW:B<=B'):Reads w B' size A n xs:=
 ⟨h.1,λV=>by
  obtain⟨x,a7,d,aw⟩:=h.2 V
  exact⟨x,a7,N,aw⟩⟩
theorem Reads.below(h:Reads w B size A n xs)(d:JK B w w'):Reads w' B size A n xs:=h.keep λ_ ai=>d.cell ai
theorem Reads.drew(h:Reads w B size A n xs):Reads w.drew B size A n xs:=h
theorem Reads.drewN(h:Reads w B size A n xs)(k:Nat):Reads (w.drewN k) B size A n xs:=h
theorem Reads.alloc(h:Reads w B size A n xs)(bW:B<=w.heap.size)(bl:Obj):Reads (w.alloc bl) B size A n xs:=h.keep λaT ai=>Nz w bl aT N
theorem Reads.setCell(h:Reads w B size A n xs)(bW:B<=p.block)(u:O):Reads (w.setCell p u) B size A n xs:=
 h.keep λm a1=>LJ w p m u (λa7=>by subst a7;omega)
theorem Reads.grown(h:Reads w B size A n xs){e:Option Nat}(ab:w.grownBy w' e)(bW:B<=w.heap.size)(aS:∀g,e=J g->B<=g):Reads w' B size A n xs:=
 h.keep λaT ai=>KJ (ab.block aT.block N (λa7=>by have:=aS _ a7.symm;omega))
theorem Reads.cut(h:Reads w B size A n xs){r:Nat}(ah:k<=n)(aw:n<=r): Reads w B size (if r=k then A else A.map (·.add (k*size))) (n-k) (xs.drop (k*size)):=by refine⟨by rw[List.length_drop,h.1,Nat.sub_mul],λV=>?_⟩;obtain⟨x,rfl,d,aB⟩:=h.2 N;rw[JZ N];refine⟨x.add (k*size),D,by rw[wM];exact d,λa4 u ap=>?_⟩;rw[IZ];exact aB _ u (by rw[<-ap,List.getElem?_drop])
theorem Reads.JG{a9:Nat}(h:w.ownsRow base e size (G A n a9) n xs):Reads w w.heap.size size A n xs:=by
 refine⟨h.1,λV=>?_⟩;obtain⟨ae,r,af,_,bA⟩:=h.form V;have cE:A=J ⟨ae,0,I⟩:=by injection af
 subst cE;exact⟨_,D,bA,h.cells (g:=ae) D⟩
end
def aj (w:L) (g:Nat) (t:TypeId) (cs:Array O):Prop:=w.heap[g]? =J (.cells cs t (0,0))
section
variable {g:Nat} {t:TypeId} {cs:Array O}
theorem aj.lt(h:aj w g t cs):g < w.heap.size:=by
 rcases KT g w.heap.size with bA|cr
 ·exact bA
 unfold aj at h;rw[Array.getElem?_eq_none cr] at h;cases h
theorem aj.cell(h:aj w g t cs)(i:Nat):w.cell? ⟨g,i,I⟩=cs[i]?:=cell_of_row w g i cs t (0,0) h
theorem aj.frozen(h:aj w g t cs)(i:Nat):w.frozen? ⟨g,i,I⟩=false:=by unfold aj at h;simp[World.frozen?,h]
theorem aj.new(w:L)(t:TypeId)(cs:Array O):aj (w.alloc (JO cs t)) w.heap.size t cs:=heap_alloc_new w _
theorem aj.drew(h:aj w g t cs):aj w.drew g t cs:=h
theorem aj.drewN(h:aj w g t cs)(n:Nat):aj (w.drewN n) g t cs:=h
theorem aj.alloc(h:aj w g t cs)(bl:Obj):aj (w.alloc bl) g t cs:=(Below.heap_alloc w bl g h.lt).trans h
theorem aj.bJ(h:aj w g t cs)(i:Nat)(u:O):aj (w.setCell ⟨g,i,I⟩ u) g t (cs.setIfInBounds i u):=by unfold aj at h⊢;simp[World.setCell,Array.getElem?_modify,h]
theorem aj.far(h:aj w g t cs)(ai:g≠p.block)(u:O):aj (w.setCell p u) g t cs:=(La w p u g ai).trans h
theorem aj.below(h:aj w g t cs)(d:JK B w w')(ab:g < B):aj w' g t cs:=(d.block g ab).trans h
theorem aj.grown{e:Option Nat}(h:aj w g t cs)(d:w.grownBy w' e)(ab:J g≠e):aj w' g t cs:=(d.block g h.lt ab).trans h
theorem aj.ne_{ag:Nat}{t':TypeId}{cs':Array O}(h:aj w g t cs)(j:aj w ag t' cs')(bm:t≠t'):g≠ag:=by rintro rfl;unfold aj at h j;rw[h] at j;injection j with j;injection j with _ c7;exact bm c7
end
section
variable {P:Program} (w:L)
theorem xB(base:Nat)(t bF e:TypeId)(i:TypeInfo)(size:Nat)(c7:P.underlying t=J (.slice e))(aR:P.info? e=J i)(v:O)(n:Nat)(xs:List O)(q:w.ownsRow base e size v n xs)(a9:Nat):(Builtin.append_ #[t,t] bF #[v,G I 0 a9]).run P w=.ok v w:=by
 rcases q.2 with⟨rfl,rfl⟩|⟨ae,r,k,rfl,_,_,a',_⟩
 ·simp[Builtin.append_,run_underlying c7,sizeOf,typeInfo,aR,Builtin.lenOf,Builtin.firstCells]
 simp[Builtin.append_,run_underlying c7,sizeOf,typeInfo,aR,Builtin.lenOf,Builtin.firstCells,a',storeCells]
theorem BJ(base:Nat)(t bF e:TypeId)(i:TypeInfo)(z:O)(size d:Nat)(c7:P.underlying t=J (.slice e))(aR:P.info? e=J i)(cv:i.zero=J z)(f:i.size=size)(a0:i.bytes=d)(g:z.cells.size=size)(ay:0 < size)(v:O)(n:Nat)(xs:List O)(q:w.ownsRow base e size v n xs)(B:Nat)(Y:Option Addr)(m a9:Nat)(b:List O)(aS:Reads w B size Y m b)(o:∀u∈b,u.oneCell'=true)(k:n+m<=maxLen)(r:(n+m)*d<=140737488355328)(y:base<=w.heap.size): ∃v' w',(Builtin.append_ #[t,t] bF #[v,G Y m a9]).run P w=.ok v' w'/\w'.ownsRow base e size v' (n+m) (xs++b)/\w.grownBy w' v.ownBlock/\(v'.ownBlock=v.ownBlock\/v'.ownBlock=J w.heap.size):=by
 rcases Y with _|x
 ·have bL:m=0:=by
   rcases MB m with bw|bw
   ·exact bw
   obtain⟨x,h,_⟩:=aS.2 bw;cases h
  subst bL;have V:b=[]:=MG (by simpa using aS.1);subst V;exact⟨v,w,xB w base t bF e i size c7 aR v n xs q a9,by simpa using q,Nj w _,.inl rfl⟩
 have j:∀a4 u,b[a4]? =J u->w.cell? (x.add a4)=J u:=by
  intro a4 u ap;rcases MB m with bw|bw
  ·subst bw;have V:b=[]:=MG (by simpa using aS.1);subst V;simp at ap
  obtain⟨p,h,_,aw⟩:=aS.2 bw;injection h with h;subst h;exact aw a4 u ap
 obtain⟨v',w',l,a8,ac,_,bz⟩:=run_append_own_at (P:=P) w base t bF e i z size d c7 aR cv f a0 g ay v n xs q x m a9 b aS.1 j o k r y;exact⟨v',w',l,a8,ac,bz⟩
theorem uY{bl:Oper}{a:Act}{K:Act->L->Prop}{Q:Exit->Act->L->Prop}(s x:Operand)(t:TypeId)(br:bl.op=.call {callee:=.builtin .append,args:=#[s,x],argTypes:=#[t,t]})(base:Nat)(e:TypeId)(i:TypeInfo)(z:O)(size d:Nat)(c7:P.underlying t=J (.slice e))(aR:P.info? e=J i)(cv:i.zero=J z)(f:i.size=size)(a0:i.bytes=d)(g:z.cells.size=size)(ay:0 < size)(v:O)(n:Nat)(xs:List O)(ag:a.eval s=v)(q:w.ownsRow base e size v n xs)(B:Nat)(Y:Option Addr)(m a9:Nat)(b:List O)(ad:a.eval x=G Y m a9)(aS:Reads w B size Y m b)(o:∀u∈b,u.oneCell'=true)(k:n+m<=maxLen)(r:(n+m)*d<=140737488355328)(y:base<=w.heap.size)(h:∀v' w',w'.ownsRow base e size v' (n+m) (xs++b)->w.grownBy w' v.ownBlock->(v'.ownBlock=v.ownBlock\/v'.ownBlock=J w.heap.size)->K (a.put bl.dst v') w'):bl.wp P a w K Q:=by obtain⟨v',w',l,a8,ac,b6⟩:=BJ (P:=P) w base t bl.type e i z size d c7 aR cv f a0 g ay v n xs q B Y m a9 b aS o k r y;unfold Oper.wp execOp;simp only[br,resolve,invoke,builtin,Sem.run_bind,Sem.run_pure,Result.andThen_ok,List.map_toArray,List.map_cons,List.map_nil,ag,ad,l];exact h v' w' a8 ac b6
theorem aV{aN:Array Oper}{rest:List Oper}{bl:Oper}{a:Act}{Q:Exit->Act->L->Prop}(cz:bl.guard=I)(s x:Operand)(t:TypeId)(br:bl.op=.call {callee:=.builtin .append,args:=#[s,x],argTypes:=#[t,t]})(base:Nat)(e:TypeId)(i:TypeInfo)(z:O)(size d:Nat)(c7:P.underlying t=J (.slice e))(aR:P.info? e=J i)(cv:i.zero=J z)(f:i.size=size)(a0:i.bytes=d)(g:z.cells.size=size)(ay:0 < size)(v:O)(n:Nat)(xs:List O)(ag:a.eval s=v)(q:w.ownsRow base e size v n xs)(B:Nat)(Y:Option Addr)(m a9:Nat)(b:List O)(ad:a.eval x=G Y m a9)(aS:Reads w B size Y m b)(o:∀u∈b,u.oneCell'=true)(k:n+m<=maxLen)(r:(n+m)*d<=140737488355328)(y:base<=w.heap.size)(h:∀v' w',w'.ownsRow base e size v' (n+m) (xs++b)->w.grownBy w' v.ownBlock->(v'.ownBlock=v.ownBlock\/v'.ownBlock=J w.heap.size)->wpList P aN Q rest (a.put bl.dst v') w'):wpList P aN Q (bl :: rest) a w:=
 wpList_plain cz λ_ j=>uY w s x t br base e i z size d c7 aR cv f a0 g ay v n xs ag q B Y m a9 b ad aS o k r y λv' w' a8 ac b6=>j _ _ (h v' w' a8 ac b6)
theorem iV{aN:Array Oper}{bl:Oper}{a:Act}{K:Act->L->Prop}{Q:Exit->Act->L->Prop}{p:Prop}(cz:bl.guard=I)(s x:Operand)(t:TypeId)(br:bl.op=.call {callee:=.builtin .append,args:=#[s,x],argTypes:=#[t,t]})(base:Nat)(e:TypeId)(i:TypeInfo)(z:O)(size d:Nat)(c7:P.underlying t=J (.slice e))(aR:P.info? e=J i)(cv:i.zero=J z)(f:i.size=size)(a0:i.bytes=d)(g:z.cells.size=size)(ay:0 < size)(v:O)(n:Nat)(xs:List O)(ag:a.eval s=v)(q:w.ownsRow base e size v n xs)(B:Nat)(Y:Option Addr)(m a9:Nat)(b:List O)(ad:a.eval x=G Y m a9)(aS:Reads w B size Y m b)(o:∀u∈b,u.oneCell'=true)(k:n+m<=maxLen)(r:(n+m)*d<=140737488355328)(y:base<=w.heap.size)(h:∀v' w',w'.ownsRow base e size v' (n+m) (xs++b)->w.grownBy w' v.ownBlock->(v'.ownBlock=v.ownBlock\/v'.ownBlock=J w.heap.size)->K (a.put bl.dst v') w'): if Region.wanted bl (yielded aN a.tmps)=true then Oper.wp P bl a w K Q else p:=by
 have bN:Region.wanted bl (yielded aN a.tmps)=true:=by simp[Region.wanted,cz]
 rw[Kq bN];exact uY w s x t br base e i z size d c7 aR cv f a0 g ay v n xs ag q B Y m a9 b ad aS o k r y h
end
theorem below_drewN{a:L}(h:JK B a w)(n:Nat):JK B a (w.drewN n):=⟨h.os,h.tape,h.output,h.size,h.block⟩
theorem aT{a:L}(h:JK a.heap.size a w)(e:Option Nat):a.grownBy w e:=⟨h.os,h.tape,h.output,h.size,λa3 aR _=>h.block a3 aR⟩
theorem EF(w:L)(v:O)(e:TypeId)(m:Nat×Nat):Reads (w.alloc (.cells #[v] e m)) (w.heap.size+1) 1 (J ⟨w.heap.size,0,I⟩) 1 [v]:=by
 refine⟨D,λ_=>⟨_,D,KP _,λa4 u ap=>?_⟩⟩;match a4,ap with
 |0,ap=>simp at ap;subst ap;exact cell_of_row _ w.heap.size 0 _ e m (heap_alloc_new w _)
theorem yx(h:w.ownsRow base e size v n xs)(V:0 < n): ∃g r,v=G (J ⟨g,0,I⟩) n r/\base<=g/\g < w.heap.size/\n<=r/\r<=maxLen/\(∀j u,xs[j]? =J u->w.cell? ⟨g,j,I⟩=J u)/\(∀j,w.frozen? ⟨g,j,I⟩=false):=by
 rcases h.2 with⟨_,rfl⟩|⟨g,r,k,rfl,d,X,a',bL,ag,c7⟩
 ·omega
 refine⟨g,r,D,d,?_,a',bL,?_,?_⟩
 ·rcases KT g w.heap.size with o|o
  ·exact o
  rw[Array.getElem?_eq_none o] at X;cases X
 ·intro j u ap;have a8:=h.cells (g:=g) D j u ap;unfold Addr.add at a8;by_cases bK:j=0
  ·subst bK;simpa using a8
  simpa [bK] using a8
 intro j;simp[World.frozen?,X]
variable{Y:Option Addr}
theorem Reads.shape(h:Reads w B 1 Y n xs)(V:0 < n): ∃b off,Y=J ⟨b,off,I⟩/\b < B/\∀j u,xs[j]? =J u->w.cell? ⟨b,off+j,I⟩=J u:=by
 obtain⟨⟨b,off,i⟩,a7,d,aw⟩:=h.2 V;have a':0 < xs.length:=by have:=h.1;omega
 have bw:=aw 0 xs[0] (Kr a');have f:i=I:=by simpa [Addr.add] using World.cell?_spot bw
 subst f;exact⟨b,off,a7,d,λj u ap=>by rw[<-Nk];exact aw j u ap⟩
structure afm (k:IntKind) (bytes:Nat) (w:L) (A:Option Addr) (n c:Nat) (zs:List Int):Prop where
 len:n<=c
 cap:c<=maxLen
 reach:c*bytes<=140737488351232
 num:zs.length=n
 reads:Reads w w.heap.size 1 A n (zs.map (Value.int k))
 wf:∀z∈zs,(Lit.int k z).wf=true
theorem afm.nil(k:IntKind)(d:Nat)(w:L):afm k d w I 0 0 []:=
 ⟨N,Z,N,D,Reads.none_,λaA cv=>by cases cv⟩
structure jg where
 ty:Int
 gd:Int
structure iF where
 br:Int
 cl:Int
 bars:List jg
structure fD where
 par:Int
 ty:Int
 many:Bool
 win:Int
 bars:List jg
 leave:Int
 guard:Int
 ends:List iF
structure gI where
 op:Int
 kind:Int
 pos:Int
 attr:Int
structure dP where
 kind:Int
 bits:Int
structure mO where
 op:Int
 dst:Int
 a:Int
 b:Int
structure aW where
 regs:Int
 slots:Int
 inputs:List gI
 consts:List dP
 list:List mO
structure bF where
 strategy:Int
 keys:List Int
 kinds:List (List Int)
 syms:Int
 runs:Int
 cells:Int
 states:List fD
 codes:List aW
def wfi (a:Int):Prop:=(Lit.int .i64 a).wf=true
def oU (a:Int):Prop:=(Lit.int .u64 a).wf=true
def bU {α:Type} (F:Nat) (R:L->List O->α->Prop) (w:L) (v:O) (xs:List α):Prop:=
 ∃(A:Option Addr) (c:Nat),v=G A xs.length c/\xs.length<=c/\c<=maxLen/\
  (0 < xs.length->∃b off,A=J ⟨b,off,I⟩/\∀(i:Nat) (x:α),xs[i]? =J x->∃cs:List O,cs.length=F/\R w cs x/\∀(j:Nat) (u:O),cs[j]? =J u->w.cell? ⟨b,off+i*F+j,I⟩=J u)
def fF (_:L) (cs:List O) (x:Int):Prop:=cs=[C E x]/\wfi x
def wH (w:L) (cs:List O) (l:List Int):Prop:=∃v,cs=[v]/\bU 1 fF w v l
def jR (_:L) (cs:List O) (x:jg):Prop:=cs=[C E x.ty,C E x.gd]/\wfi x.ty/\wfi x.gd
def wK (w:L) (cs:List O) (x:iF):Prop:=∃v,cs=[C E x.br,C E x.cl,v]/\bU 2 jR w v x.bars/\wfi x.br/\wfi x.cl
def Gg (w:L) (cs:List O) (x:fD):Prop:=
 ∃vb ve,cs=[C E x.par,C E x.ty,JM x.many,C E x.win,vb,C E x.leave,C E x.guard,ve]/\bU 2 jR w vb x.bars/\bU 3 wK w ve x.ends/\wfi x.par/\wfi x.ty/\wfi x.win/\wfi x.leave/\wfi x.guard
def uZ (_:L) (cs:List O) (x:gI):Prop:=cs=[C E x.op,C E x.kind,C E x.pos,C E x.attr]/\wfi x.op/\wfi x.kind/\wfi x.pos/\wfi x.attr
def rU (_:L) (cs:List O) (x:dP):Prop:=cs=[C E x.kind,C JL x.bits]/\wfi x.kind/\oU x.bits
def vC (_:L) (cs:List O) (x:mO):Prop:=cs=[C E x.op,C E x.dst,C E x.a,C E x.b]/\wfi x.op/\wfi x.dst/\wfi x.a/\wfi x.b
def wG (w:L) (cs:List O) (x:aW):Prop:=
 ∃vi vc vl,cs=[C E x.regs,C E x.slots,vi,vc,vl]/\bU 4 uZ w vi x.inputs/\bU 2 rU w vc x.consts/\bU 4 vC w vl x.list/\wfi x.regs/\wfi x.slots
def ahm (w:L) (cs:List O) (x:bF):Prop:=
 ∃vk vkk vs vc,cs=[C E x.strategy,vk,vkk,C E x.syms,C E x.runs,C E x.cells,vs,vc]/\bU 1 fF w vk x.keys/\bU 1 wH w vkk x.kinds/\bU 8 Gg w vs x.states/\bU 5 wG w vc x.codes/\
  wfi x.strategy/\wfi x.syms/\wfi x.runs/\wfi x.cells
theorem ay{u:O}(h:w.cell? p=J u):p.block < w.heap.size:=by
 rcases KT p.block w.heap.size with a'|a'
 ·exact a'
 exfalso;obtain⟨y,b5,i⟩:=p;have ag:=World.cell?_spot h;have ag:i=I:=ag;subst ag;unfold World.cell? at h;rw[Array.getElem?_eq_none a'] at h;simp at h
def bW (w w':L):Prop:=∀(p:Addr) (u:O),w.cell? p=J u->w'.cell? p=J u
theorem bW.of_below(h:JK w.heap.size w w'):bW w w':=λaT u ai=>(h.cell (ay ai)).trans ai
theorem bW.refl(w:L):bW w w:=λ_ _ h=>h
theorem bW.trans{a b a9:L}(h:bW a b)(k:bW b a9):bW a a9:=λaT u ai=>k aT u (h aT u ai)
variable{q:Type}{R:L->List O->q->Prop}{m:Nat}
theorem bU.keep{xs:List q}(h:bU m R w v xs)(ah:bW w w')(f:∀cs x,R w cs x->R w' cs x):bU m R w' v xs:=by obtain⟨Y,a9,af,o,a8,ac⟩:=h;refine⟨Y,a9,af,o,a8,λV=>?_⟩;obtain⟨y,b5,cE,aw⟩:=ac V;refine⟨y,b5,cE,λa3 x ad=>?_⟩;obtain⟨cs,a',aS,cM⟩:=aw a3 x ad;exact⟨cs,a',f cs x aS,λa4 u ap=>ah _ _ (cM a4 u ap)⟩
section
variable {w w':L} (hk:bW w w')
include hk
theorem yh{v:O}{l:List Int}(h:bU 1 fF w v l):bU 1 fF w' v l:=h.keep hk λ_ _ h=>h
theorem AA{v:O}{l:List (List Int)}(h:bU 1 wH w v l):bU 1 wH w' v l:=h.keep hk λ_ _ ⟨v,o,a8⟩=>⟨v,o,yh hk a8⟩
theorem jW{v:O}{l:List jg}(h:bU 2 jR w v l):bU 2 jR w' v l:=h.keep hk λ_ _ h=>h
theorem Js{cs:List O}{x:iF}(h:wK w cs x):wK w' cs x:=by obtain⟨bc,o,a8,ac⟩:=h;exact⟨bc,o,jW hk a8,ac⟩
theorem rE{v:O}{l:List iF}(h:bU 3 wK w v l):bU 3 wK w' v l:=h.keep hk λ_ _ h=>Js hk h
theorem abD{cs:List O}{x:fD}(h:Gg w cs x):Gg w' cs x:=by obtain⟨cn,aO,o,a8,ac,b6⟩:=h;exact⟨cn,aO,o,jW hk a8,rE hk ac,b6⟩
theorem abE{v:O}{l:List fD}(h:bU 8 Gg w v l):bU 8 Gg w' v l:=h.keep hk λ_ _ h=>abD hk h
theorem qF{v:O}{l:List gI}(h:bU 4 uZ w v l):bU 4 uZ w' v l:=h.keep hk λ_ _ h=>h
theorem ug{v:O}{l:List dP}(h:bU 2 rU w v l):bU 2 rU w' v l:=h.keep hk λ_ _ h=>h
theorem uf{v:O}{l:List mO}(h:bU 4 vC w v l):bU 4 vC w' v l:=h.keep hk λ_ _ h=>h
theorem Jr{cs:List O}{x:aW}(h:wG w cs x):wG w' cs x:=by obtain⟨em,aY,aM,o,a8,ac,b6,bz⟩:=h;exact⟨em,aY,aM,o,qF hk a8,ug hk ac,uf hk b6,bz⟩
theorem Ar{v:O}{l:List aW}(h:bU 5 wG w v l):bU 5 wG w' v l:=h.keep hk λ_ _ h=>Jr hk h
end
theorem bU.slice{xs:List q}(h:bU m R w v xs):∃Y a9,v=G Y xs.length a9/\xs.length<=a9/\a9<=maxLen:=by obtain⟨Y,a9,af,o,a8,_⟩:=h;exact⟨Y,a9,af,o,a8⟩
theorem bU.get{xs:List q}(h:bU m R w v xs){x:q}(ad:xs[i]? =J x): ∃b off a9,v=G (J ⟨b,off,I⟩) xs.length a9/\xs.length<=a9/\a9<=maxLen/\i < xs.length/\∃cs:List O,cs.length=m/\R w cs x/\∀(j:Nat) (u:O),cs[j]? =J u->w.cell? ⟨b,off+i*m+j,I⟩=J u:=by obtain⟨Y,a9,af,o,a8,ac⟩:=h;have aR:i < xs.length:=(KA.1 ad).1;obtain⟨b,off,rfl,aw⟩:=ac N;exact⟨b,off,a9,af,o,a8,aR,aw i x ad⟩
theorem bU.nil(m:Nat)(R:L->List O->q->Prop)(w:L):bU m R w (G I 0 0) []:=⟨I,0,D,KD _,Z,λh=>absurd h ZH⟩
structure jF (w:L) (T:bF) (vk vkk vs vc:O):Prop where
 keys:bU 1 fF w vk T.keys
 kinds:bU 1 wH w vkk T.kinds
 states:bU 8 Gg w vs T.states
 codes:bU 5 wG w vc T.codes
 ok:wfi T.strategy/\wfi T.syms/\wfi T.runs/\wfi T.cells
variable{T:bF}
theorem jF.of{Y:Array O}(h:ahm w Y.toList T):∃vk ar vs aY,Y=#[C E T.strategy,vk,ar,C E T.syms,C E T.runs,C E T.cells,vs,aY]/\jF w T vk ar vs aY:=by obtain⟨vk,ar,vs,aY,o,a8,ac,b6,bz,c4⟩:=h;exact⟨vk,ar,vs,aY,by cases Y;simpa using o,a8,ac,b6,bz,c4⟩
theorem jF.keep{vk ar vs aY:O}(h:jF w T vk ar vs aY)(ah:bW w w'):jF w' T vk ar vs aY:=⟨yh ah h.keys,AA ah h.kinds,abE ah h.states,Ar ah h.codes,h.ok⟩
theorem jF.below{vk ar vs aY:O}(h:jF w T vk ar vs aY)(d:JK w.heap.size w w'):jF w' T vk ar vs aY:=h.keep (bW.of_below d)
variable{rs:List fD}{x:fD}
theorem sZ(h:bU 8 Gg w v rs)(ad:rs[i]? =J x): ∃b off a9 cn aO,v=G (J ⟨b,off,I⟩) rs.length a9/\rs.length<=a9/\a9<=maxLen/\w.cell? ⟨b,off+i*8,I⟩=J (C E x.par)/\w.cell? ⟨b,off+i*8+1,I⟩=J (C E x.ty)/\w.cell? ⟨b,off+i*8+2,I⟩=J (JM x.many)/\w.cell? ⟨b,off+i*8+3,I⟩=J (C E x.win)/\w.cell? ⟨b,off+i*8+4,I⟩=J cn/\w.cell? ⟨b,off+i*8+5,I⟩=J (C E x.leave)/\w.cell? ⟨b,off+i*8+6,I⟩=J (C E x.guard)/\w.cell? ⟨b,off+i*8+7,I⟩=J aO/\bU 2 jR w cn x.bars/\bU 3 wK w aO x.ends/\wfi x.par/\wfi x.ty/\wfi x.win/\wfi x.leave/\wfi x.guard:=by obtain⟨b,off,a9,af,o,a8,aR,bj,a',⟨cn,aO,rfl,ag,c7,bN⟩,aw⟩:=h.get ad;exact⟨b,off,a9,cn,aO,af,o,a8,aw 0 _ D,aw 1 _ D,aw 2 _ D,aw 3 _ D,aw 4 _ D,aw 5 _ D,aw 6 _ D,aw 7 _ D,ag,c7,bN⟩
def rowAt (rs:List fD) (i:Int):Option fD:=if 0<=i then rs[i.toNat]? else I
theorem uG(rs:List fD)(n:Nat):rowAt rs (n:Int)=rs[n]?:=by unfold rowAt;rw[Kq N,LX]
theorem BI{i:Int}(h:rowAt rs i=J x):∃n:Nat,i=n/\n < rs.length/\rs[n]? =J x:=by
 unfold rowAt at h;by_cases aR:0<=i
 ·rw[Kq aR] at h;exact⟨i.toNat,N,(KA.1 h).1,h⟩
 rw[JZ aR] at h;cases h
theorem aan{i:Int}(h:rowAt rs i=I):i < 0\/(rs.length:Int)<=i:=by
 unfold rowAt at h;by_cases aR:0<=i
 ·rw[Kq aR] at h;have:=List.getElem?_eq_none_iff.1 h;exact .inr N
 exact .inl N
def gq (rs:List fD):Nat->Int->List Int
 |0,_=>[]
 |k+1,i=>match rowAt rs i with
  |none=>[]
  |some x=>if 0<=x.par/\x.par < i then gq rs k x.par++[i] else [i]
theorem aae(rs:List fD):∀(k cW:Nat) (i:Int),i < k->i < cW->gq rs k i=gq rs cW i:=by
 intro k;induction k with
 |zero=>
  intro cW i h _;have V:rowAt rs i=I:=XM;cases cW with
  |zero=>rfl
  |succ cW=>simp only[gq,V]
 |succ k bf=>
  intro cW i h j;cases cW with
  |zero=>have V:rowAt rs i=I:=XM;simp only[gq,V]
  |succ cW=>
   simp only[gq];cases aS:rowAt rs i with
   |none=>rfl
   |some aa=>
    simp only;by_cases ai:0<=aa.par/\aa.par < i
    ·rw[Kq ai,Kq ai,bf cW aa.par N N]
    rw[JZ ai,JZ ai]
def dQ (rs:List fD) (i:Int):List Int:=gq rs rs.length i
theorem Ep(rs:List fD):∀(k:Nat) (i:Int),(gq rs k i).length<=k:=by
 intro k;induction k with
 |zero=>intro i;simp[gq]
 |succ k bf=>
  intro i;simp only[gq];cases rowAt rs i with
  |none=>simp
  |some aa=>
   simp only;split
   ·have:=bf aa.par;simp;omega
   simp
theorem Es(rs:List fD)(i:Int):(dQ rs i).length<=rs.length:=Ep _ _ _
def iv (l:List Int):List O:=l.map (Value.int E)
theorem GR:(Tryz.prog.info? 3).map (λi=>(i.zero,i.size,i.bytes))=J (J (C E 0),1,8):=U
theorem ahx{b:Int}:∀u∈[Value.int E b],u.oneCell'=true:=by intro u ap;simp only[List.mem_cons,List.not_mem_nil,or_false] at ap;subst ap;rfl
theorem aB{s:Nat}(h:w.ownsRow base e s v n xs):∃Y a9,v=G Y n a9:=by
 rcases h.2 with⟨rfl,rfl⟩|⟨ae,r,k,rfl,_⟩
 ·have:=h.1;exact⟨I,0,D⟩
 exact⟨_,r,D⟩
theorem qK{a9:Nat}{aC:List O}(h:w.ownsRow base e size (G Y n a9) n aC):n<=a9/\a9<=maxLen:=by
 rcases h.2 with⟨af,ak⟩|⟨ae,r,k,af,_,_,a',bL,_⟩
 ·injection af with _ a8 ac;subst a8 ac;exact⟨KD _,Z⟩
 injection af with _ _ ac;subst ac;exact⟨a',bL⟩
theorem ku{b:Nat}{s:Nat}(h:w.ownsRow B e s v n xs)(bW:b<=B):w.ownsRow b e s v n xs:=by
 refine⟨h.1,?_⟩;rcases h.2 with o|⟨ae,r,k,af,d,aS⟩
 ·exact .inl o
 exact .inr ⟨ae,r,k,af,N,aS⟩
def Gf (w:L) (l:List Int) (e:Ending) (w':L):Prop:=∃v,e=.returned v/\w'.ownsRow w.heap.size 3 1 v l.length (iv l)/\JK w.heap.size w w'
theorem yA(T:bF)(vk ar vs aY:O)(w:L)(i:Int)(h:jF w T vk ar vs aY)(aR:rowAt T.states i=I): Calls Tryz.prog 15 #[.agg #[C E T.strategy,vk,ar,C E T.syms,C E T.runs,C E T.cells,vs,aY],C E i] w (Gf w []):=by
 obtain⟨Y,a9,rfl,d0,cR⟩:=h.states.slice;have b7:=SC;unfold maxLen at cR;clear h;rcases aan aR with dy|dy
 ·clear aR;go_in;go_wp2_with fail;go_ret;exact⟨_,D,Mc _ _ _ _,b7 _⟩
 have e9:¬i < 0:=N;clear aR;go_in;go_wp2_with fail;go_ret;exact⟨_,D,Mc _ _ _ _,b7 _⟩
theorem abX(T:bF)(vk ar vs aY:O)(V:T.states.length<=1500000000000)(k:Nat):∀(i:Int) (w:L),k<=1500000000000->i < k->jF w T vk ar vs aY->Calls Tryz.prog 15 #[.agg #[C E T.strategy,vk,ar,C E T.syms,C E T.runs,C E T.cells,vs,aY],C E i] w (Gf w (gq T.states k i)):=by
 induction k with
 |zero=>intro i w _ aR h;exact yA T vk ar vs aY w i h XM
 |succ k bf=>
  intro i w ah aR h;cases aS:rowAt T.states i with
  |none=>have a7:gq T.states (k+1) i=[]:=YM;rw[a7];exact yA T vk ar vs aY w i h aS
  |some aa=>
   obtain⟨m,rfl,a1,ad⟩:=BI aS;have a7:gq T.states (k+1) m=if 0<=aa.par/\aa.par < m then gq T.states k aa.par++[(m:Int)] else [(m:Int)]:=YM;rw[a7];obtain⟨y,b5,a9,cn,aO,rfl,d0,cR,cF,_⟩:=sZ h.states ad;have et:=ay cF;have b7:=SC;have ct:(0:Int)<=(m:Int):=N;have c0:(m:Int) < (T.states.length:Int):=N;have dH:=Ep T.states k aa.par;have dF:=A (λbl=>bf aa.par (w.alloc bl));have q:=A (λbl=>h.below ((Ky w.heap.size w).alloc c bl));have eh:=A aR;unfold maxLen at cR;obtain⟨aT,ai⟩:∃aT,aa.par=aT:=⟨_,D⟩;rw[ai] at cF dF dH⊢;clear h aS ad a7 ai bf;by_cases f:0<=aT/\aT < m
   ·rw[Kq f];obtain⟨bw,o⟩:=f;obtain⟨a',fz⟩:∃a',gq T.states k aT=a':=⟨_,D⟩;rw[fz] at dF dH⊢;obtain⟨ea,eM,cD,d6,cq⟩:=MH GR;have co:=A (λbl=>dF.out bl N (by have:=eh.out;omega) (q bl));clear fz dF q;go_in;go_wp2_with fail;refine(co _).mono ?_;rintro a7 ce ⟨bc,rfl,br,d⟩;rw[KE] at br d;have bK:=A (λbl=>br.alloc bl);have b:=A ((b7 _).trans (d.mono N));have ao:a'.length<=1500000000000:=N;have dV:w.heap.size+1<=ce.heap.size:=by have:=d.size;simpa using this
    clear br d co;go_wp2_with (at_builtin;refine aV _ D (.tmp 30) (.tmp 32) 26 D (w.heap.size+1) 3 ea _ 1 8 Tryz.underlying26 eM cD d6 cq D N bc a'.length (iv a') D (bK.out _) (ce.heap.size+1) (J ⟨ce.heap.size,0,I⟩) 1 1 [C E m] D (EF _ _ _ _) ahx ?c1 ?c2 ?c3 ?_;rotate_left 3;intro eV r g ab c8);case c1=>unfold maxLen;omega
    case c2=>omega
    case c3=>simp;omega
    go_ret;refine⟨_,D,?_,?_⟩
    ·have o:=ku g (Ld w.heap.size);simpa [iv] using o
    exact(b.out.alloc b.out.size _).grown ab (by have:=b.out.size;simp;omega) (λae a7=>by have:=((bK.out (JO #[C E m] 3)).lt ae a7).1;omega)
   rw[JZ f];have bK:=A (λbl=>World.ownsRow_lit (base:=w.heap.size) (e:=3) (size:=1) (w.alloc bl) #[C E m] 1 ZH Z D);have b:=SV;have j:aT < 0\/(m:Int)<=aT:=N;clear dF q f;rcases j with bw|o
   ·exact PN
   by_cases bw:aT < 0
   ·omega
   exact PN
theorem Bg(T:bF)(vk ar vs aY:O)(V:T.states.length<=1500000000000)(i:Int)(w:L)(h:jF w T vk ar vs aY): Calls Tryz.prog 15 #[.agg #[C E T.strategy,vk,ar,C E T.syms,C E T.runs,C E T.cells,vs,aY],C E i] w (Gf w (dQ T.states i)):=by
 by_cases aR:i < T.states.length
 ·exact abX T vk ar vs aY V _ i w V aR h
 have aS:rowAt T.states i=I:=by unfold rowAt;rw[Kq N];exact LY N
 have a7:dQ T.states i=[]:=by
  unfold dQ;cases T.states.length with
  |zero=>rfl
  |succ a0=>simp only[gq,aS]
 rw[a7];exact yA T vk ar vs aY w i h aS
theorem adP(h:Reads w w.heap.size 1 Y n xs)(d:JK w.heap.size w w'):Reads w' w'.heap.size 1 Y n xs:=(h.below d).more d.size
theorem Bd{i:Int}(h:rowAt rs i=I)(k:Nat):gq rs k i=[]:=by
 cases k with
 |zero=>rfl
 |succ k=>simp only[gq,h]
def zC (w1:L) (rs:List fD) (E:List Int) (k:Nat) (j:Int) (vl:O) (wr:L):Prop:=
 ∃(l:List Int) (A:Option Addr) (c:Nat),vl=G A l.length c/\Reads wr wr.heap.size 1 A l.length (iv l)/\gq rs k j++l=E/\JK w1.heap.size w1 wr/\(j < k\/rowAt rs j=I)/\l.length+k<=rs.length/\l.length<=c/\c<=maxLen
theorem zC.done{w1 wr:L}{p:List Int}{j:Int}{aM:O}(h:zC w1 rs p k j aM wr)(bK:rowAt rs j=I):∃Y a9,aM=G Y p.length a9/\Reads wr wr.heap.size 1 Y p.length (iv p)/\JK w1.heap.size w1 wr:=by obtain⟨bP,Y,a9,rfl,o,a8,ac,_⟩:=h;rw[Bd bK] at a8;have a8:bP=p:=a8;subst a8;exact⟨Y,a9,D,o,ac⟩
theorem zC.step{w1 wr:L}{p:List Int}{q:Nat}{aM:O}(h:zC w1 rs p k q aM wr)(ad:rs[q]? =J x): ∃(l:List Int) (Y:Option Addr) (a9:Nat),aM=G Y l.length a9/\Reads wr wr.heap.size 1 Y l.length (iv l)/\l.length+1<=rs.length/\0 < k/\JK w1.heap.size w1 wr/\∀(r:L) (eV:O),JK wr.heap.size wr r->r.ownsRow wr.heap.size 3 1 eV (1+l.length) ([C E q]++iv l)->((q:Int)<=x.par->∃Y a9,eV=G Y p.length a9/\Reads r r.heap.size 1 Y p.length (iv p)/\JK w1.heap.size w1 r)/\(x.par < q->zC w1 rs p (k-1) x.par eV r):=by
 obtain⟨l,Y,a9,rfl,o,a8,ac,b6,bz,c4,de⟩:=h;have aS:rowAt rs (q:Int)=J x:=by rw[uG];exact ad
 have b6:(q:Int) < k:=b6.resolve_right (by rw[aS];simp);refine⟨l,Y,a9,D,o,N,N,ac,λr eV d br=>?_⟩;obtain⟨k,rfl⟩:∃cW,k=cW+1:=⟨k-1,N⟩;have a7:gq rs (k+1) q=if 0<=x.par/\x.par < q then gq rs k x.par++[(q:Int)] else [(q:Int)]:=YM;obtain⟨aW,c5,rfl⟩:=aB br;obtain⟨b7,f⟩:=qK br;have e:=Reads.JG br;have b:=ac.trans (d.mono ac.size);refine⟨λai=>?_,λai=>?_⟩
 ·rw[a7,JZ N] at a8;have a8:(q:Int) :: l=p:=a8;have a':p.length=1+l.length:=by rw[<-a8];simp;omega
  refine⟨aW,c5,by rw[a'],?_,b⟩;rw[a',<-a8];exact e
 have aD:gq rs k x.par++((q:Int) :: l)=p:=by
  by_cases bw:0<=x.par
  ·rw[a7,Kq ⟨bw,ai⟩] at a8;rw[<-a8];simp
  rw[a7,JZ N] at a8;have V:rowAt rs x.par=I:=by unfold rowAt;rw[JZ bw]
  rw[Bd V];exact a8
 have a':((q:Int) :: l).length=1+l.length:=Zv;exact⟨(q:Int) :: l,aW,c5,by rw[a'],by rw[a'];exact e,aD,b,.inl Zv,Zv,by rw[a'];exact b7,f⟩
theorem EO{l:List iF}(h:bU 3 wK w v l){x:iF}(ad:l[i]? =J x): ∃b off a9 cn,v=G (J ⟨b,off,I⟩) l.length a9/\l.length<=a9/\a9<=maxLen/\w.cell? ⟨b,off+i*3,I⟩=J (C E x.br)/\w.cell? ⟨b,off+i*3+1,I⟩=J (C E x.cl)/\w.cell? ⟨b,off+i*3+2,I⟩=J cn/\bU 2 jR w cn x.bars/\wfi x.br/\wfi x.cl:=by exact QJ
theorem DI{l:List aW}(h:bU 5 wG w v l){x:aW}(ad:l[i]? =J x): ∃b off a9 vi aY aM,v=G (J ⟨b,off,I⟩) l.length a9/\l.length<=a9/\a9<=maxLen/\w.cell? ⟨b,off+i*5,I⟩=J (C E x.regs)/\w.cell? ⟨b,off+i*5+1,I⟩=J (C E x.slots)/\w.cell? ⟨b,off+i*5+2,I⟩=J vi/\w.cell? ⟨b,off+i*5+3,I⟩=J aY/\w.cell? ⟨b,off+i*5+4,I⟩=J aM/\bU 4 uZ w vi x.inputs/\bU 2 rU w aY x.consts/\bU 4 vC w aM x.list/\wfi x.regs/\wfi x.slots:=by exact Qi

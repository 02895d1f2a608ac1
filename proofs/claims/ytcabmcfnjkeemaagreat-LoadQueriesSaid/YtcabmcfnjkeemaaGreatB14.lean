import Derived.Test.YtcabmcfnjkeemaaGreatBM00
import Derived.Test.YtcabmcfnjkeemaaGreatB13
set_option maxRecDepth 100000
set_option maxHeartbeats 40000000
set_option linter.unusedVariables false
set_option linter.unusedSimpArgs false
namespace Go.Proofs.YtcabmcfnjkeemaaGreat
open Go.RowKit
open Go renaming World->L,Value->O
open Go.IntKind renaming i64->E
open Go.Obj renaming cells->JO
open Go.RowKit renaming Hid->F,Below->JK
open Go.Value renaming int->C,slice->G
open Option renaming none->I,some->J
inductive Tg where
 |other|nd|br|pt (i:Nat)|gd (i k:Nat)|cl (i k:Nat)
structure lN (U:Tg->Prop) (B:Nat) (T:Nat->Tg) (w:L) (T':Nat->Tg) (w':L):Prop where
 size:w.heap.size<=w'.heap.size
 tag:∀g,B<=g->g < w.heap.size->U (T g)->T' g=T g
 block:∀g,B<=g->g < w.heap.size->U (T g)->w'.heap[g]? =w.heap[g]?
def Used (t:Tg):Prop:=t≠ .other
variable{w w':L}{B g:Nat}{T T':Nat->Tg}
section
variable {U V:Tg->Prop} {T'':Nat->Tg} {w'':L}
theorem lN.refl(U:Tg->Prop)(B:Nat)(T:Nat->Tg)(w:L):lN U B T w T w:=⟨KD _,λ_ _ _ _=>rfl,λ_ _ _ _=>rfl⟩
theorem lN.trans(h:lN U B T w T' w')(k:lN U B T' w' T'' w''):lN U B T w T'' w'':=
 ⟨Ko h.size k.size,λae o a8 ac=>(k.tag ae o (Kv a8 h.size) (by rw[h.tag ae o a8 ac];exact ac)).trans (h.tag ae o a8 ac),
  λae o a8 ac=>(k.block ae o (Kv a8 h.size) (by rw[h.tag ae o a8 ac];exact ac)).trans (h.block ae o a8 ac)⟩
theorem lN.weak(h:lN U B T w T' w')(b:∀t,V t->U t):lN V B T w T' w':=⟨h.size,λae o a8 ac=>h.tag ae o a8 (b _ ac),λae o a8 ac=>h.block ae o a8 (b _ ac)⟩
theorem lN.of_below(U:Tg->Prop)(B:Nat)(T:Nat->Tg)(h:JK w.heap.size w w'):lN U B T w T w':=⟨h.size,λ_ _ _ _=>rfl,λae _ a8 _=>h.block ae a8⟩
theorem lN.aS{e:Option Nat}(h:w.grownBy w' e)(aS:∀g,e=J g->B<=g->¬U (T g)):lN U B T w T w':=
 ⟨h.size,λ_ _ _ _=>rfl,λg o a8 ac=>h.block g a8 λa7=>aS g a7.symm o ac⟩
theorem lN.dN(a:Addr)(u:O)(h:B<=a.block->¬U (T a.block)):lN U B T w T (w.setCell a u):=
 ⟨XZ,λ_ _ _ _=>rfl,λae o a8 ac=>La w a u ae λa7=>h (a7▸o) (a7▸ac)⟩
theorem lN.dV(h:aU g w w')(ab:B<=g->¬U (T g)):lN U B T w T w':=lN.aS h.grown λa0 ah bW=>by
 injection ah with ah
 subst ah
 exact ab bW
theorem lN.retag(w:L)(h:∀g,B<=g->g < w.heap.size->U (T g)->T' g=T g):lN U B T w T' w:=⟨KD _,h,λ_ _ _ _=>rfl⟩
end
variable{n:Nat}{v:O}{e:TypeId}
section
variable {s:Nat} {ys:List O}
theorem sU(h:w.ownsRow B e s v n ys)(d:∀g,v.ownBlock=J g->w'.heap[g]? =w.heap[g]?):w'.ownsRow B e s v n ys:=by
 refine⟨h.1,?_⟩;rcases h.2 with o|⟨g,r,k,af,bW,X,aS⟩
 ·exact .inl o
 exact .inr ⟨g,r,k,af,bW,(d g Zr).trans X,aS⟩
end
def NdT (T:Nat->Tg) (Q:Nat->Prop) (w:L) (cs:List O) (x:ND):Prop:=dW (λb=>Q b/\T b=.nd) w cs x
theorem nT(T:Nat->Tg):bZ (NdT T):=λ_ _ _ _ _ _ h ah a1=>dW.keep h (λaT bc ai af=>ah aT bc ai.1 af) λy d=>⟨a1 y d.1,d.2⟩
def bY (T:Nat->Tg) (t:Tg) (B:Nat) (w:L) (v:O) (l:List ND):Prop:=∃css,Acc B 150 7 (NdT T) w v l css/\∀g,v.ownBlock=J g->T g=t
variable{css:List (List O)}{l:List ND}{t:Tg}
section
variable {U:Tg->Prop}
theorem aes(h:Acc B 150 7 (NdT T) w v l css)(c7:∀g,v.ownBlock=J g->U (T g))(V:U .nd)(k:lN U B T w T' w'):Acc B 150 7 (NdT T') w' v l css:=by refine⟨sU h.1 λg ab=>k.block g (aQ h.1 ab).2 (aQ h.1 ab).1 (c7 g ab),h.2.keep λbj aa ad=>?_⟩;exact dW.keep ad (λaT u ai aw=>(KJ (k.block aT.block ai.1.1 ai.1.2.1 (ai.2▸V))).trans aw) λy d=>⟨⟨d.1.1,Kv d.1.2.1 k.size,d.1.2.2⟩,(k.tag y d.1.1 d.1.2.1 (d.2▸V)).trans d.2⟩
theorem bY.fO(h:bY T t B w v l)(k:lN U B T w T' w')(c7:U t)(V:U .nd):bY T' t B w' v l:=by obtain⟨cA,aJ,ab⟩:=h;refine⟨cA,aes aJ (λae a7=>ab ae a7▸c7) V k,λae a7=>(k.tag ae (aQ aJ.1 a7).2 (aQ aJ.1 a7).1 (ab ae a7▸c7)).trans (ab ae a7)⟩
theorem bY.nil(T:Nat->Tg)(t:Tg)(B:Nat)(w:L):bY T t B w (G I 0 0) []:=⟨[],Acc.nil w,λae h=>Xw⟩
theorem bY.slice(h:bY T t B w v l):∃Y a9,v=G Y l.length a9:=by obtain⟨cA,aJ,-⟩:=h;exact aB aJ.1
theorem bY.nds(h:bY T t B w v l):dM (λb=>B<=b/\b < w.heap.size) w v l:=by obtain⟨cA,aJ,-⟩:=h;exact aX.keep (aJ.done (nT T)) (λ_ _ _ h=>h) (λ_ h=>h) λ_ _ h=>dW.keep h (λ_ _ _ h=>h) λ_ d=>d.1
theorem bY.out(h:bY T t B w v l):bU 7 qg w v l:=h.nds.out
theorem bY.elts(h:bY T t B w v l):bU 7 (dW (λb=>B<=b/\b < w.heap.size/\T b=.nd)) w v l:=by obtain⟨cA,aJ,-⟩:=h;exact aX.out (aJ.done (nT T)) λ_ _ h=>dW.keep h (λ_ _ _ h=>h) λ_ d=>⟨d.1.1,d.1.2,d.2⟩
theorem bY.made{W:L}(h:Acc W.heap.size 150 7 dW w v l css)(bW:B<=W.heap.size)(c7:∀g,v.ownBlock=J g->T' g=t)(V:∀g,W.heap.size<=g->g < w.heap.size->J g≠v.ownBlock->T' g=.nd):bY T' t B w v l:=
 ⟨css,⟨ku h.1 bW,h.2.keep λbj aa ad=>dW.keep ad (λ_ _ _ h=>h) λy d=>⟨⟨Ko bW d.1,d.2⟩,V y d.1 d.2.1 d.2.2⟩⟩,c7⟩
end
def acE (_:Nat->Prop) (_:L) (cs:List O) (q:aO):Prop:=∃A n c A' n' c',cs=[C E q.form,C E q.ty,G A n c,G A' n' c']
theorem vI:bZ acE:=λ_ _ _ _ _ _ h _ _=>h
def FY (_:Nat->Prop) (_:L) (cs:List O) (b:dB):Prop:=∃A n c,cs=[C E b.id,C E b.win,G A n c]
theorem oG:bZ FY:=λ_ _ _ _ _ _ h _ _=>h
def PtX (T:Nat->Tg) (B:Nat) (w:L) (i k:Nat) (cs:List O) (q:aO):Prop:=
 ∃vg vc,cs=[C E q.form,C E q.ty,vg,vc]/\bY T (.gd i k) B w vg q.guards/\bY T (.cl i k) B w vc q.closes/\wfi q.form/\wfi q.ty
structure PsC (T:Nat->Tg) (B:Nat) (w:L) (i:Nat) (v:O) (ps:List aO) (css:List (List O)):Prop where
 acc:Acc B 76 4 acE w v ps css
 pt:∀k cs q,css[k]? =J cs->ps[k]? =J q->PtX T B w i k cs q
 tag:∀g,v.ownBlock=J g->T g=.pt i
def wE (T:Nat->Tg) (B:Nat) (w:L) (i:Nat) (v:O) (ps:List aO):Prop:=∃css,PsC T B w i v ps css
def BrX (T:Nat->Tg) (B:Nat) (w:L) (i:Nat) (cs:List O) (b:dB):Prop:=∃vp,cs=[C E b.id,C E b.win,vp]/\wE T B w i vp b.parts/\wfi b.id/\wfi b.win
structure BsC (T:Nat->Tg) (B:Nat) (w:L) (v:O) (bs:List dB) (css:List (List O)):Prop where
 acc:Acc B 72 3 FY w v bs css
 br:∀i cs b,css[i]? =J cs->bs[i]? =J b->BrX T B w i cs b
 tag:∀g,v.ownBlock=J g->T g=.br
def ql (T:Nat->Tg) (B:Nat) (w:L) (v:O) (bs:List dB):Prop:=∃css,BsC T B w v bs css
structure PsU (i n:Nat) (U:Tg->Prop):Prop where
 pt:U (.pt i)
 nd:U .nd
 gd:∀k,k < n->U (.gd i k)
 cl:∀k,k < n->U (.cl i k)
structure BsU (m:Nat) (U:Tg->Prop):Prop where
 br:U .br
 nd:U .nd
 ps:∀i,i < m->∀n,PsU i n U
theorem Ie(i n:Nat):PsU i n Used:=⟨YO,YO,λ_ _=>YO,λ_ _=>YO⟩
theorem zO(m:Nat):BsU m Used:=⟨YO,YO,λa3 _ M=>Ie a3 M⟩
theorem Ic(i n:Nat):PsU i n λ_=>True:=⟨trivial,trivial,λ_ _=>trivial,λ_ _=>trivial⟩
variable{cs:List O}{ps:List aO}{bs:List dB}{i k:Nat}{b:dB}
section
variable {α:Type} {U:Tg->Prop} {R:(Nat->Prop)->L->List O->α->Prop} {F:Nat} {xs:List α}
theorem PtX.fO{q:aO}(h:PtX T B w i k cs q)(ah:lN U B T w T' w')(ab:U (.gd i k))(aw:U (.cl i k))(V:U .nd):PtX T' B w' i k cs q:=by obtain⟨cR,aY,o,a8,ac,b6⟩:=h;exact⟨cR,aY,o,a8.fO ah ab V,ac.fO ah aw V,b6⟩
theorem jG(h:Acc B e F R w v xs css)(f:∀Q Q' W i cs x,R Q W cs x->R Q' i cs x)(d:∀g,v.ownBlock=J g->w'.heap[g]? =w.heap[g]?):Acc B e F R w' v xs css:=⟨sU h.1 d,h.2.keep λcs x ad=>f _ _ _ _ _ _ ad⟩
theorem PsC.fO(h:PsC T B w i v ps css)(ah:lN U B T w T' w')(j:PsU i ps.length U):PsC T' B w' i v ps css:=by refine⟨jG h.acc (λ_ _ _ _ _ _ h=>h) λae ab=>ah.block ae (aQ h.acc.1 ab).2 (aQ h.acc.1 ab).1 (h.tag ae ab▸j.pt),λa0 bj m o a8=>?_,λae ab=>(ah.tag ae (aQ h.acc.1 ab).2 (aQ h.acc.1 ab).1 (h.tag ae ab▸j.pt)).trans (h.tag ae ab)⟩;have bA:=(KA.1 a8).1;exact(h.pt a0 bj m o a8).fO ah (j.gd a0 bA) (j.cl a0 bA) j.nd
theorem wE.fO(h:wE T B w i v ps)(ah:lN U B T w T' w')(j:PsU i ps.length U):wE T' B w' i v ps:=by obtain⟨cA,h⟩:=h;exact⟨cA,h.fO ah j⟩
theorem BrX.fO(h:BrX T B w i cs b)(ah:lN U B T w T' w')(j:PsU i b.parts.length U):BrX T' B w' i cs b:=by obtain⟨dn,o,a8,ac⟩:=h;exact⟨dn,o,a8.fO ah j,ac⟩
theorem BsC.fO(h:BsC T B w v bs css)(ah:lN U B T w T' w')(j:BsU bs.length U):BsC T' B w' v bs css:=by refine⟨jG h.acc (λ_ _ _ _ _ _ h=>h) λae ab=>ah.block ae (aQ h.acc.1 ab).2 (aQ h.acc.1 ab).1 (h.tag ae ab▸j.br),λa4 bj y o a8=>?_,λae ab=>(ah.tag ae (aQ h.acc.1 ab).2 (aQ h.acc.1 ab).1 (h.tag ae ab▸j.br)).trans (h.tag ae ab)⟩;exact(h.br a4 bj y o a8).fO ah (j.ps a4 (KA.1 a8).1 _)
theorem ql.fO(h:ql T B w v bs)(ah:lN U B T w T' w')(j:BsU bs.length U):ql T' B w' v bs:=by obtain⟨cA,h⟩:=h;exact⟨cA,h.fO ah j⟩
theorem wE.nil(T:Nat->Tg)(B:Nat)(w:L)(i:Nat):PsC T B w i (G I 0 0) [] []:=⟨Acc.nil w,λa0 bj m h=>Zw,λae h=>Xw⟩
theorem ql.nil(T:Nat->Tg)(B:Nat)(w:L):BsC T B w (G I 0 0) [] []:=⟨Acc.nil w,λa0 bj m h=>Zw,λae h=>Xw⟩
theorem wE.slice(h:wE T B w i v ps):∃Y a9,v=G Y ps.length a9:=WQ
theorem ql.slice(h:ql T B w v bs):∃Y a9,v=G Y bs.length a9:=WQ
end
variable{q:Type}{R:(Nat->Prop)->L->List O->q->Prop}{xs:List q}{m:Nat}
theorem EW(h:Acc B e m R w v xs css){x:q}(ad:xs[i]? =J x): ∃g a9 cs,v=G (J ⟨g,0,I⟩) xs.length a9/\xs.length<=a9/\a9<=maxLen/\B<=g/\g < w.heap.size/\css[i]? =J cs/\cs.length=m/\(∀j u,cs[j]? =J u->w.cell? ⟨g,i*m+j,I⟩=J u)/\∀j,w.frozen? ⟨g,j,I⟩=false:=by have bA:=(KA.1 ad).1;obtain⟨g,r,af,o,a8,ac,b6,bz,c4⟩:=yx h.1 N;obtain⟨cs,de,dy,-⟩:=h.2.2 i x ad;exact⟨g,r,cs,af,ac,b6,o,a8,de,dy,λj u ap=>bz _ u (flat_get h.2.each de j u ap),c4⟩
theorem wE.at(h:wE T B w i v ps){q:aO}(a1:ps[k]? =J q): ∃g a9 cR aY,v=G (J ⟨g,0,I⟩) ps.length a9/\ps.length<=a9/\a9<=maxLen/\B<=g/\g < w.heap.size/\T g=.pt i/\w.cell? ⟨g,k*4,I⟩=J (C E q.form)/\w.cell? ⟨g,k*4+1,I⟩=J (C E q.ty)/\w.cell? ⟨g,k*4+2,I⟩=J cR/\w.cell? ⟨g,k*4+3,I⟩=J aY/\bY T (.gd i k) B w cR q.guards/\bY T (.cl i k) B w aY q.closes/\wfi q.form/\wfi q.ty/\∀j,w.frozen? ⟨g,j,I⟩=false:=by obtain⟨cA,h⟩:=h;obtain⟨g,a9,bj,af,o,a8,ac,b6,bz,c4,de,dy⟩:=EW h.acc a1;obtain⟨cR,aY,rfl,aD,cL,e7,ep⟩:=h.pt k bj q bz a1;exact⟨g,a9,cR,aY,af,o,a8,ac,b6,h.tag g Zr,de 0 _ D,de 1 _ D,de 2 _ D,de 3 _ D,aD,cL,e7,ep,dy⟩
theorem ql.at(h:ql T B w v bs)(d:bs[i]? =J b): ∃g a9 dn,v=G (J ⟨g,0,I⟩) bs.length a9/\bs.length<=a9/\a9<=maxLen/\B<=g/\g < w.heap.size/\T g=.br/\w.cell? ⟨g,i*3,I⟩=J (C E b.id)/\w.cell? ⟨g,i*3+1,I⟩=J (C E b.win)/\w.cell? ⟨g,i*3+2,I⟩=J dn/\wE T B w i dn b.parts/\wfi b.id/\wfi b.win:=by obtain⟨cA,h⟩:=h;obtain⟨g,a9,bj,af,o,a8,ac,b6,bz,c4,de,dy⟩:=EW h.acc d;obtain⟨dn,rfl,aD,cL,e7⟩:=h.br i bj b bz d;exact⟨g,a9,dn,af,o,a8,ac,b6,h.tag g Zr,de 0 _ D,de 1 _ D,de 2 _ D,aD,cL,e7⟩
theorem wE.out(h:wE T B w i v ps):aX (λb=>B<=b/\b < w.heap.size) 4 (jo (λb=>B<=b/\b < w.heap.size)) w v ps:=by obtain⟨cA,h⟩:=h;have aH:eF 4 (jo (λb=>B<=b/\b < w.heap.size)) w cA ps:=⟨h.acc.2.1,λa0 m a1=>by obtain⟨bj,o,a8,-⟩:=h.acc.2.2 a0 m a1;obtain⟨cR,aY,ac,b6,bz,c4,de⟩:=h.pt a0 bj m o a1;exact⟨bj,o,a8,cR,aY,ac,b6.nds,bz.nds,c4,de⟩⟩;exact bQ aH h.acc.1 (λae _ o a8=>⟨o,a8⟩) (.inr trivial)
theorem ql.out(h:ql T B w v bs):aX (λb=>B<=b/\b < w.heap.size) 3 (BrQ (λb=>B<=b/\b < w.heap.size)) w v bs:=by obtain⟨cA,h⟩:=h;have aH:eF 3 (BrQ (λb=>B<=b/\b < w.heap.size)) w cA bs:=⟨h.acc.2.1,λa0 m a1=>by obtain⟨bj,o,a8,-⟩:=h.acc.2.2 a0 m a1;obtain⟨dn,ac,b6,bz⟩:=h.br a0 bj m o a1;exact⟨bj,o,a8,dn,ac,b6.out,bz⟩⟩;exact bQ aH h.acc.1 (λae _ o a8=>⟨o,a8⟩) (.inr trivial)
variable{w1:L}{v':O}
theorem PsC.snoc{q:aO}(h:PsC T B w i v ps css)(aJ:Acc B 76 4 acE w1 v' (ps++[q]) (css++[cs]))(ab:w.grownBy w1 v.ownBlock)(c7:∀g,v'.ownBlock=J g->T' g=.pt i)(b6:∀g,B<=g->g < w.heap.size->T' g=T g)(a1:PtX T B w i ps.length cs q):PsC T' B w1 i v' (ps++[q]) (css++[cs]):=by
 have ah:lN (λb9=>b9≠ .pt i) B T w T' w1:=⟨ab.size,λg o a8 _=>b6 g o a8,λg _ a8 ac=>ab.block g a8 λa7=>ac (h.tag g a7.symm)⟩;have y:∀a0 cs q,PtX T B w i a0 cs q->PtX T' B w1 i a0 cs q:=λa0 cs q h=>h.fO ah YO YO YO;have a':css.length=ps.length:=h.acc.2.1;refine⟨aJ,λa0 au f o a8=>?_,c7⟩;rcases KT a0 ps.length with bA|cr
 ·rw[KW N] at o;rw[KW bA] at a8;exact y a0 au f (h.pt a0 au f o a8)
 have bA:=(KA.1 a8).1;simp at bA;have a7:a0=ps.length:=N;subst a7;rw[Lh N,a',Me] at o;rw[Lh N,Me] at a8;have b3:cs=au:=Zi;have bh:q=f:=by simpa using a8
 subst b3 bh;exact y _ _ _ a1
theorem BsC.snoc(h:BsC T B w v bs css)(aJ:Acc B 72 3 FY w1 v' (bs++[b]) (css++[cs]))(ab:w.grownBy w1 v.ownBlock)(c7:∀g,v'.ownBlock=J g->T' g=.br)(b6:∀g,B<=g->g < w.heap.size->T' g=T g)(d:BrX T B w bs.length cs b):BsC T' B w1 v' (bs++[b]) (css++[cs]):=by
 have ah:lN (λb9=>b9≠ .br) B T w T' w1:=⟨ab.size,λg o a8 _=>b6 g o a8,λg _ a8 ac=>ab.block g a8 λa7=>ac (h.tag g a7.symm)⟩;have y:∀a0 cs b,BrX T B w a0 cs b->BrX T' B w1 a0 cs b:=λa0 cs b h=>h.fO ah ⟨YO,YO,λ_ _=>YO,λ_ _=>YO⟩;have a':css.length=bs.length:=h.acc.2.1;refine⟨aJ,λa0 au aY o a8=>?_,c7⟩;rcases KT a0 bs.length with bA|cr
 ·rw[KW N] at o;rw[KW bA] at a8;exact y a0 au aY (h.br a0 au aY o a8)
 have bA:=(KA.1 a8).1;simp at bA;have a7:a0=bs.length:=N;subst a7;rw[Lh N,a',Me] at o;rw[Lh N,Me] at a8;have b3:cs=au:=Zi;have bh:b=aY:=by simpa using a8
 subst b3 bh;exact y _ _ _ d
theorem Gy:∀{css:List (List O)} {k j:Nat} {cs:List O} {u:O},(∀cs∈css,cs.length=m)->css[k]? =J cs->j < m->css.flatten.set (k*m+j) u=(css.set k (cs.set j u)).flatten
 | [],k,j,cs,u,_,h,_=>by simp at h
 |c :: css,0,j,cs,u,h,ah,bK=>by
  simp at ah
  subst ah
  have o:=h c ZH
  rw[List.set_cons_zero,Np,Np,Nat.zero_mul,Ls,List.set_append_left _ _ N]
 |c :: css,k+1,j,cs,u,h,ah,bK=>by
  have o:=h c ZH
  rw[NQ] at ah
  have a8:=Gy (css:=css) (j:=j) (u:=u) (λaa ad=>h aa (Md _ ad)) ah bK
  rw[List.set_cons_succ,Np,Np,<-a8,List.set_append_right _ _ (by rw[o,Nat.succ_mul];omega),o,show(k+1)*m+j-m=k*m+j by rw[Nat.succ_mul];omega]
variable{P a9:Nat}
theorem Dx{x':q}{j:Nat}{u:O}(h:Acc B e m R w (G (J ⟨P,0,I⟩) n a9) xs css)(f:∀Q Q' W i cs x,R Q W cs x->R Q' i cs x)(ah:css[k]? =J cs)(bK:j < m)(ad:R (λ_=>True) w (cs.set j u) x'):Acc B e m R (w.setCell ⟨P,k*m+j,I⟩ u) (G (J ⟨P,0,I⟩) n a9) (xs.set k x') (css.set k (cs.set j u)):=by
 have V:n=xs.length:=by obtain⟨Y,ch,af⟩:=aB h.1;injection af
 subst V;have ag:=(World.ownsRow.stored h.1 (k*m+j) u).1;rw[Gy h.2.each ah bK] at ag;have e2:=(KA.1 ah).1;have cU:=h.2.each cs (Kz ah);refine⟨by rw[Lj];exact ag,by rw[Lj,Lj];exact h.2.1,λa3 a2 ak=>?_⟩;rw[KO] at ak;rw[KO];have a':=h.2.1;by_cases s:k=a3
 ·subst s;rw[Kq D,Kq N] at ak;injection ak with ak;subst ak;exact⟨cs.set j u,by rw[Kq D,Kq e2],by rw[Lj];exact cU,f _ _ _ _ _ _ ad⟩
 rw[JZ s] at ak⊢;obtain⟨ch,o,a8,ac⟩:=h.2.2 a3 a2 ak;exact⟨ch,o,a8,f _ _ _ _ _ _ ac⟩
section
variable {c:Nat} {q:aO}
theorem wE.ad1(h:wE T B w i (G (J ⟨P,0,I⟩) n c) ps)(a1:ps[k]? =J q)(ah:lN (λt=>t≠ .gd i k/\Used t) B T w T' w1)(aS:bY T' (.gd i k) B w1 v' l): wE T' B (w1.setCell ⟨P,k*4+2,I⟩ v') i (G (J ⟨P,0,I⟩) n c) (ps.set k {q with guards:=l}):=by
 obtain⟨cA,h⟩:=h;have bA:=(KA.1 a1).1;obtain⟨bj,o,a8,-⟩:=h.acc.2.2 k q a1;obtain⟨cR,aY,rfl,ac,b6,bz,c4⟩:=h.pt k bj q o a1;have ag:T P=.pt i:=h.tag P D;have d:=aQ h.acc.1 (g:=P) D;have p:T' P=.pt i:=(ah.tag P d.2 d.1 (ag▸⟨YO,YO⟩)).trans ag;have aJ:=SA;have a2:∀b:Tg->Prop,¬b (.pt i)->lN b B T' w1 T' (w1.setCell ⟨P,k*4+2,I⟩ v'):=λb j=>lN.dN _ _ λ_ ad=>j (p▸ad);obtain⟨bu,r,rfl⟩:=aS.slice;obtain⟨c7,ai,rfl⟩:=b6.slice;refine⟨_,Dx (x':={q with guards:=l}) aJ (λ_ _ _ _ _ _ h=>h) o (show 2 < 4 by decide) ⟨_,_,_,_,_,_,D⟩,λcW au f b3 bh=>?_,λae ab=>?_⟩
 ·rw[KO] at b3 bh;have cU:=(KA.1 o).1;by_cases cp:k=cW
  ·subst cp;rw[Kq D,Kq cU] at b3;rw[Kq D,Kq bA] at bh;injection b3 with b3;injection bh with bh;subst b3 bh;exact⟨_,_,D,aS.fO (a2 (λt=>t≠ .pt i) λh=>h D) YO YO,(b6.fO ah ⟨YO,YO⟩ ⟨YO,YO⟩).fO (a2 (λt=>t≠ .pt i) λh=>h D) YO YO,bz,c4⟩
  rw[JZ cp] at b3 bh;refine PtX.fO ((h.pt cW au f b3 bh).fO ah ⟨VB,YO⟩ ⟨YO,YO⟩ ⟨YO,YO⟩) (a2 (λt=>t≠ .pt i) λh=>h D) YO YO YO
 have a7:P=ae:=WX;exact a7▸p
theorem wE.aff(h:wE T B w i (G (J ⟨P,0,I⟩) n c) ps)(a1:ps[k]? =J q)(ah:lN (λt=>t≠ .cl i k/\Used t) B T w T' w1)(aS:bY T' (.cl i k) B w1 v' l): wE T' B (w1.setCell ⟨P,k*4+3,I⟩ v') i (G (J ⟨P,0,I⟩) n c) (ps.set k {q with closes:=l}):=by
 obtain⟨cA,h⟩:=h;have bA:=(KA.1 a1).1;obtain⟨bj,o,a8,-⟩:=h.acc.2.2 k q a1;obtain⟨cR,aY,rfl,ac,b6,bz,c4⟩:=h.pt k bj q o a1;have ag:T P=.pt i:=h.tag P D;have d:=aQ h.acc.1 (g:=P) D;have p:T' P=.pt i:=(ah.tag P d.2 d.1 (ag▸⟨YO,YO⟩)).trans ag;have aJ:=SA;have a2:∀b:Tg->Prop,¬b (.pt i)->lN b B T' w1 T' (w1.setCell ⟨P,k*4+3,I⟩ v'):=λb j=>lN.dN _ _ λ_ ad=>j (p▸ad);obtain⟨bu,r,rfl⟩:=aS.slice;obtain⟨c7,ai,rfl⟩:=ac.slice;refine⟨_,Dx (x':={q with closes:=l}) aJ (λ_ _ _ _ _ _ h=>h) o (show 3 < 4 by decide) ⟨_,_,_,_,_,_,D⟩,λcW au f b3 bh=>?_,λae ab=>?_⟩
 ·rw[KO] at b3 bh;have cU:=(KA.1 o).1;by_cases cp:k=cW
  ·subst cp;rw[Kq D,Kq cU] at b3;rw[Kq D,Kq bA] at bh;injection b3 with b3;injection bh with bh;subst b3 bh;exact⟨_,_,D,(ac.fO ah ⟨YO,YO⟩ ⟨YO,YO⟩).fO (a2 (λt=>t≠ .pt i) λh=>h D) YO YO,aS.fO (a2 (λt=>t≠ .pt i) λh=>h D) YO YO,bz,c4⟩
  rw[JZ cp] at b3 bh;refine PtX.fO ((h.pt cW au f b3 bh).fO ah ⟨YO,YO⟩ ⟨VB,YO⟩ ⟨YO,YO⟩) (a2 (λt=>t≠ .pt i) λh=>h D) YO YO YO
 have a7:P=ae:=WX;exact a7▸p
theorem ql.afV{ch:Nat}{dn:O}{e:List aO}{X:L}(h:ql T B w (G (J ⟨g,0,I⟩) n ch) bs)(d:bs[i]? =J b)(aw:w.cell? ⟨g,i*3+2,I⟩=J dn)(ah:lN (λt=>t≠ .pt i/\(∀k,t≠ .gd i k/\t≠ .cl i k)/\Used t) B T w T' X)(ai:wE T' B X i dn e):ql T' B X (G (J ⟨g,0,I⟩) n ch) (bs.set i {b with parts:=e}):=by
 obtain⟨cA,h⟩:=h;have bA:=(KA.1 d).1;obtain⟨ag,bo,bj,af,o,a8,ac,b6,bz,c4,de,dy⟩:=EW h.acc d;obtain⟨f,rfl,aD,cL,e7⟩:=h.br i bj b bz d;injection af with af _ cS;injection af with af;injection af with af;subst af;have a7:=de 2 _ D;rw[aw] at a7;injection a7 with a7;subst a7;have el:(λt=>t≠Tg.pt i/\(∀k,t≠ .gd i k/\t≠ .cl i k)/\Used t) Tg.br:=⟨YO,λk=>⟨YO,YO⟩,YO⟩;have a9:cA.length=bs.length:=h.acc.2.1;refine⟨cA,⟨sU ?_ λcC l=>ah.block cC (aQ h.acc.1 l).2 (aQ h.acc.1 l).1 (h.tag cC l▸el),by rw[Lj];exact a9,λa4 a2 ak=>?_⟩,λa4 au aY b3 bh=>?_,λcC l=>(ah.tag cC (aQ h.acc.1 l).2 (aQ h.acc.1 l).1 (h.tag cC l▸el)).trans (h.tag cC l)⟩
 ·rw[Lj];exact h.acc.1
 ·rw[KO] at ak;by_cases m:i=a4
  ·subst m;rw[Kq D,Kq bA] at ak;injection ak with ak;subst ak;obtain⟨Y,bZ,rfl⟩:=ai.slice;exact⟨_,bz,D,_,_,_,D⟩
  rw[JZ m] at ak;obtain⟨au,ci,cw,dm⟩:=h.acc.2.2 a4 a2 ak;exact⟨au,ci,cw,dm⟩
 rw[KO] at bh;by_cases m:i=a4
 ·subst m;rw[Kq D,Kq bA] at bh;injection bh with bh;subst bh;rw[bz] at b3;injection b3 with b3;subst b3;exact⟨_,D,ai,cL,e7⟩
 rw[JZ m] at bh;refine(h.br a4 au aY b3 bh).fO ah ⟨?_,?_,λk _=>?_,λk _=>?_⟩
 ·exact⟨VL,λk=>⟨YO,YO⟩,YO⟩
 ·exact⟨YO,λk=>⟨YO,YO⟩,YO⟩
 ·exact⟨YO,λcW=>⟨VL,YO⟩,YO⟩
 exact⟨YO,λcW=>⟨YO,VL⟩,YO⟩
end
theorem Acc.stepT{b1:L}{bl:Obj}(f:bZ R)(h:Acc B e m R w v xs css){x:q}(a':cs.length=m)(ad:R (QA B v w) w cs x)(br:b1.ownsRow B e m v' (xs.length+1) (css.flatten++cs))(ab:(w.alloc bl).grownBy b1 v.ownBlock)(c8:v'.ownBlock=v.ownBlock\/v'.ownBlock=J (w.alloc bl).heap.size):Acc B e m R b1 v' (xs++[x]) (css++[cs]):=by
 have ay:=ab.size;rw[KE] at ay c8;have ah:aF (QA B v w) w b1:=aF.trans (aF.of_below (JY.alloc c _) λy d=>d.2.1) (aF.aS ab λy d=>d.2.2);have a1:∀y,QA B v w y->QA B v' b1 y:=λy d=>⟨d.1,Yw,by
  rcases c8 with ac|ac
  ·rw[ac];exact d.2.2
  rw[ac];intro e;injection e with e;have:=d.2.1;omega⟩
 refine⟨?_,eF.snoc (h.2.keep λcs x ad=>f _ _ _ _ _ _ ad ah a1) a' (f _ _ _ _ _ _ ad ah a1)⟩;rw[KC,MN];simpa using br
section
variable {P:Program} {α:Type} {F bytes:Nat} {t:TypeId} {R:(Nat->Prop)->L->List O->α->Prop} {xs:List α} {x:α}
theorem fE(p:kH P t e F bytes)(f:bZ R){aN:Array Oper}{rest:List Oper}{bl:Oper}{a:Act}{Q:Exit->Act->L->Prop}(cz:bl.guard=I)(s a2:Operand)(br:bl.op=.call {callee:=.builtin .append,args:=#[s,a2],argTypes:=#[t,t]})(cN:Acc B e F R w v xs css)(j:B<=w.heap.size)(a':cs.length=F)(ad:R (QA B v w) w cs x)(o:∀u∈cs,u.oneCell'=true)(V:(xs.length+1)*bytes<=140737488355328)(bL:xs.length+1<=maxLen)(ag:a.eval s=v)(ak:a.eval a2=G (J ⟨w.heap.size,0,I⟩) 1 a9)(h:∀cl ch b1,Acc B e F R b1 (G cl (xs.length+1) ch) (xs++[x]) (css++[cs])->jk B v w b1->(∀g,(Value.slice cl (xs.length+1) ch).ownBlock=J g->v.ownBlock=J g\/w.heap.size < g)->wpList P aN Q rest (a.put bl.dst (G cl (xs.length+1) ch)) b1): wpList P aN Q (bl :: rest) a (w.alloc (JO cs.toArray e)):=by
 obtain⟨a3,aA,b3,bh,ca,dc,cY,S,dw⟩:=p;have cv:JK w.heap.size w (w.alloc (JO cs.toArray e)):=JY.alloc c _;have q:=own_below cN.1 cv;refine aV _ cz s a2 t br B e a3 aA F bytes b3 bh ca dc cY S dw v xs.length css.flatten ag q (w.heap.size+1) _ 1 a9 cs ak (by have:=kC w cs e a';exact this) o bL V Zk λz b1 i ab c8=>?_;obtain⟨cl,ch,rfl⟩:=aB i;refine h cl ch b1 (Acc.stepT f cN a' ad i ab c8) ⟨(aT cv _).trans ab,λa0 ah=>(aQ cN.1 ah).2⟩ λg m=>?_;rcases c8 with a8|a8
 ·exact .inl (a8▸m)
 rw[m] at a8;injection a8 with a8;rw[KE] at a8;exact .inr N
theorem gX(p:kH P t e F bytes)(f:bZ R){aN:Array Oper}{bl:Oper}{a:Act}{K:Act->L->Prop}{Q:Exit->Act->L->Prop}{k:Prop}(cz:bl.guard=I)(s a2:Operand)(br:bl.op=.call {callee:=.builtin .append,args:=#[s,a2],argTypes:=#[t,t]})(cN:Acc B e F R w v xs css)(j:B<=w.heap.size)(a':cs.length=F)(ad:R (QA B v w) w cs x)(o:∀u∈cs,u.oneCell'=true){bb:Nat}{cK:L}(Y:aj cK bb e cs.toArray)(dA:JK w.heap.size w cK)(b:w.heap.size<=bb)(V:(xs.length+1)*bytes<=140737488355328)(bL:xs.length+1<=maxLen)(ag:a.eval s=v)(ak:a.eval a2=G (J ⟨bb,0,I⟩) 1 a9)(h:∀cl ch b1,Acc B e F R b1 (G cl (xs.length+1) ch) (xs++[x]) (css++[cs])->jk B v cK b1->(∀g,(Value.slice cl (xs.length+1) ch).ownBlock=J g->v.ownBlock=J g\/cK.heap.size<=g)->K (a.put bl.dst (G cl (xs.length+1) ch)) b1): if Region.wanted bl (yielded aN a.tmps)=true then Oper.wp P bl a cK K Q else k:=by
 obtain⟨a3,aA,b3,bh,ca,dc,cY,S,dw⟩:=p;have q:=own_below cN.1 dA;have aS:Reads cK (bb+1) F (J ⟨bb,0,I⟩) 1 cs:=by refine⟨by rw[a'];omega,λ_=>⟨_,D,KP _,λa4 u ap=>?_⟩⟩;rw[Nk,Ls,Y.cell a4];simpa using ap
 refine iV _ cz s a2 t br B e a3 aA F bytes b3 bh ca dc cY S dw v xs.length css.flatten ag q (bb+1) _ 1 a9 cs ak aS o bL V (Ko j dA.size) λz b1 i ab c8=>?_;obtain⟨cl,ch,rfl⟩:=aB i;have ah:aF (QA B v w) w b1:=aF.trans (aF.of_below dA λy d=>d.2.1) (aF.aS ab λy d=>d.2.2);have a1:∀y,QA B v w y->QA B (G cl (xs.length+1) ch) b1 y:=λy d=>⟨d.1,by have:=d.2.1;have:=ab.size;have:=dA.size;omega,by
  rcases c8 with ac|ac
  ·rw[ac];exact d.2.2
  rw[ac];intro e;injection e with e;have:=d.2.1;have:=dA.size;omega⟩
 refine h cl ch b1 ⟨?_,eF.snoc (cN.2.keep λcs x ad=>f _ _ _ _ _ _ ad ah a1) a' (f _ _ _ _ _ _ ad ah a1)⟩ ⟨ab,λa0 ah=>(aQ cN.1 ah).2⟩ λg m=>?_
 ·rw[KC,MN];simpa using i
 rcases c8 with a8|a8
 ·exact .inl (a8▸m)
 rw[m] at a8;injection a8 with a8;exact .inr N
end
theorem AZ{s r:Nat}:∀(ay:List O) (k:Nat) (xs:List O) (w:L),w.ownsRow B e s (G (J ⟨g,0,I⟩) n r) n xs->k+ay.length<=xs.length->(dA g k ay w).ownsRow B e s (G (J ⟨g,0,I⟩) n r) n (xs.take k++ay++xs.drop (k+ay.length))/\aU g w (dA g k ay w)
 | [],k,xs,w,h,_=>by
  refine⟨?_,aU.refl g w⟩
  simpa [dA] using h
 |u :: ay,k,xs,w,h,a'=>by
  simp only[List.length_cons] at a'
  have o:=(World.ownsRow.stored h k u).1
  have a8:=AZ ay (k+1) (xs.set k u) _ o (by rw[Lj];omega)
  have b3:(xs.set k u).take (k+1)++ay++(xs.set k u).drop (k+1+ay.length)=xs.take k++(u :: ay)++xs.drop (k+(u :: ay).length):=by
   have ah:k < (xs.set k u).length:=by rw[Lj];omega
   rw[ML ah,List.getElem_set_self,List.take_set,List.drop_set]
   rw[Kq N,List.set_eq_of_length_le Zm]
   simp[Nat.add_comm,Nat.add_left_comm,Nat.add_assoc]
  rw[b3] at a8
  exact⟨a8.1,(aU.one w g k u).trans a8.2⟩
theorem FH(w:L){p q:Addr}(h:p.block≠q.block)(u v:O):(w.setCell p u).setCell q v=(w.setCell q v).setCell p u:=by
 unfold World.setCell;simp only[World.mk.injEq,and_true,true_and];apply Array.ext_getElem?;intro a3;simp only[Array.getElem?_modify];by_cases o:q.block=a3
 ·subst o;rw[Kq D,JZ h,Kq D,JZ h]
 rw[JZ o,JZ o]
theorem jC{p:Addr}(h:p.block≠g)(v:O):∀(ay:List O) (k:Nat) (w:L),dA g k ay (w.setCell p v)=(dA g k ay w).setCell p v
 | [],_,_=>rfl
 |u :: ay,k,w=>by
  show dA g (k+1) ay ((w.setCell p v).setCell ⟨g,k,I⟩ u)=_
  rw[FH w (q:=⟨g,k,I⟩) h v u]
  exact jC h v ay (k+1) _
section
variable {c:Nat} {zs:List O} {x z:ND}
theorem Acc.last(h:Acc B 150 7 (NdT T) w (G (J ⟨g,0,I⟩) (l.length+1) c) (l++[z]) (css++[zs]))(cM:cs.length=7)(ad:NdT T (QA B (G (J ⟨g,0,I⟩) (l.length+1) c) w) w cs x): Acc B 150 7 (NdT T) (dA g (l.length*7) cs w) (G (J ⟨g,0,I⟩) (l.length+1) c) (l++[x]) (css++[cs])/\aU g w (dA g (l.length*7) cs w):=by
 have cU:css.length=l.length:=by have:=h.2.1;simp at this;exact this
 have cv:zs.length=7:=h.2.each zs ZH;have P:css.flatten.length=l.length*7:=by rw[wU λc aw=>h.2.each c (by simp[aw]),cU]
 have br:=h.1;rw[KC,MN] at br;simp only[List.length_cons,List.length_nil,List.flatten_cons,List.flatten_nil,List.append_nil] at br;obtain⟨o,a8⟩:=AZ cs (l.length*7) (css.flatten++zs) w br (by rw[KC];omega);rw[<-P,List.take_left,List.drop_of_length_le (by rw[KC];omega),List.append_nil,P] at o;have ah:aF (QA B (G (J ⟨g,0,I⟩) (l.length+1) c) w) w (dA g (l.length*7) cs w):=a8.keep _ λy d a7=>d.2.2 Zq;have a1:∀y,QA B (G (J ⟨g,0,I⟩) (l.length+1) c) w y->QA B (G (J ⟨g,0,I⟩) (l.length+1) c) (dA g (l.length*7) cs w) y:=λy d=>⟨d.1,by rw[a8.size];exact d.2.1,d.2.2⟩;refine⟨⟨by rw[KC,MN];simpa using o,eF.snoc (css:=css) (xs:=l) ⟨cU,λa3 a2 ak=>?_⟩ cM (nT T _ _ _ _ _ _ ad ah a1)⟩,a8⟩;have aR:=(KA.1 ak).1;obtain⟨ch,ci,cw,dm⟩:=h.2.2 a3 a2 (by rw[KW aR];exact ak);rw[KW N] at ci;exact⟨ch,ci,cw,nT T _ _ _ _ _ _ dm ah a1⟩
theorem bY.JF(h:Acc B 150 7 (NdT T) w v l css)(c7:∀g,v.ownBlock=J g->T' g=t)(V:∀g,B<=g->g < w.heap.size->J g≠v.ownBlock->T g=.nd->T' g=.nd):bY T' t B w v l:=
 ⟨css,⟨h.1,h.2.keep λbj aa ad=>dW.keep ad (λ_ _ _ h=>h) λy d=>⟨d.1,V y d.1.1 d.1.2.1 d.1.2.2 d.2⟩⟩,c7⟩
end
def fU (l:List ND):Nat:=(l.map aH).sum
def gJ (q:aO):Nat:=fU q.guards+fU q.closes
def kG (b:dB):Nat:=(b.parts.map gJ).sum
def lS (bs:List dB):Nat:=(bs.map kG).sum
theorem tX(f:q->Nat):∀{l:List q} {i:Nat} {a x:q},l[i]? =J a->((l.set i x).map f).sum+f a=(l.map f).sum+f x
 | [],i,a,x,h=>by simp at h
 |b :: l,0,a,x,h=>by
  have a7:b=a:=Zh
  subst a7
  simp only[List.set_cons_zero,List.map_cons,List.sum_cons]
  omega
 |b :: l,i+1,a,x,h=>by
  rw[NQ] at h
  have o:=tX f (x:=x) h
  simp only[List.set_cons_succ,List.map_cons,List.sum_cons]
  omega
theorem fB(f:q->Nat):∀{l:List q} {i:Nat} {a:q},l[i]? =J a->f a<=(l.map f).sum
 | [],i,a,h=>by simp at h
 |b :: l,0,a,h=>by
  have a7:b=a:=Zh
  subst a7
  simp only[List.map_cons,List.sum_cons]
  omega
 |b :: l,i+1,a,h=>by
  rw[NQ] at h
  have o:=fB f h
  simp only[List.map_cons,List.sum_cons]
  omega
theorem xM(f:q->Nat){l:List q}{a:q}(h:l[i]? =J a):((l.take (i+1)).map f).sum=((l.take i).map f).sum+f a:=by have aR:=(KA.1 h).1;rw[ML aR,KX,LD];have a7:l[i]=a:=Xj;rw[a7];simp
theorem lK(f:q->Nat)(l:List q)(i:Nat):((l.take i).map f).sum<=(l.map f).sum:=by exact Qe
theorem xJ(l:List ND)(x:ND):fU (l++[x])=fU l+aH x:=by unfold fU;simp
theorem kS(l:List ND):l.length<=fU l:=pG l
structure Stp (U:Nat->Prop) (B:Nat) (T:Nat->Tg) (w:L) (T':Nat->Tg) (w':L):Prop where
 bel:JK B w w'
 tag:∀g,B<=g->g < w.heap.size->U g->T' g=T g
 block:∀g,B<=g->g < w.heap.size->U g->w'.heap[g]? =w.heap[g]?
def zx (_:Nat):Prop:=True
variable{a:Nat}{bl:Option Nat}
section
variable {U V:Nat->Prop} {T'':Nat->Tg} {w'':L}
theorem Stp.fO(h:Stp U B T w T' w'){V:Tg->Prop}(a9:∀g,V (T g)->U g):lN V B T w T' w':=⟨h.bel.size,λg o a8 ac=>h.tag g o a8 (a9 g ac),λg o a8 ac=>h.block g o a8 (a9 g ac)⟩
theorem Stp.refl(B:Nat)(T:Nat->Tg)(w:L):Stp zx B T w T w:=⟨Ky _ _,λ_ _ _ _=>rfl,λ_ _ _ _=>rfl⟩
theorem Stp.trans(h:Stp U B T w T' w')(k:Stp V B T' w' T'' w''):Stp (λg=>U g/\V g) B T w T'' w'':=
 ⟨h.bel.trans k.bel,λg o a8 ac=>(k.tag g o (Kv a8 h.bel.size) ac.2).trans (h.tag g o a8 ac.1),λg o a8 ac=>(k.block g o (Kv a8 h.bel.size) ac.2).trans (h.block g o a8 ac.1)⟩
theorem Stp.weak(h:Stp U B T w T' w')(a9:∀g,V g->U g):Stp V B T w T' w':=⟨h.bel,λg o a8 ac=>h.tag g o a8 (a9 g ac),λg o a8 ac=>h.block g o a8 (a9 g ac)⟩
theorem Stp.of_below(T:Nat->Tg)(h:JK w.heap.size w w')(bW:B<=w.heap.size):Stp zx B T w T w':=⟨h.mono bW,λ_ _ _ _=>rfl,λae _ a8 _=>h.block ae a8⟩
theorem Stp.afQ(T:Nat->Tg)(h:jk B v w w')(bW:B<=w.heap.size):Stp (λg=>J g≠v.ownBlock) B T w T w':=
 ⟨(Ky B w).grown h.grown bW h.ge,λ_ _ _ _=>rfl,λg _ a8 ac=>h.grown.block g a8 ac⟩
theorem Stp.dV(T:Nat->Tg)(h:aU g w w')(ab:B<=g):Stp (λk=>k≠g) B T w T w':=
 ⟨h.below _ _ ab JY,λ_ _ _ _=>rfl,λk _ a8 ac=>h.grown.block k a8 λa7=>ac Zj⟩
theorem Stp.retag(w:L)(h:∀g,B<=g->g < w.heap.size->U g->T' g=T g):Stp U B T w T' w:=⟨Ky _ _,h,λ_ _ _ _=>rfl⟩
theorem pV{s:Tg}(ag:T P=s)(bm:s≠t):∀g,T g=t->g≠P:=λg h a7=>bm (by rw[<-ag,<-h,a7])
structure bV (B:Nat) (T:Nat->Tg) (X:L) (g:Nat) (t:TypeId) (cs:Array O):Prop where
 blk:aj X g t cs
 tag:B<=g->T g=.other
theorem bV.bG{t:TypeId}{cs:Array O}(h:bV B T w g t cs)(k:Stp U B T w T' w')(j:B<=g->U g):bV B T' w' g t cs:=by
 rcases KT g B with o|o
 ·exact⟨h.blk.below k.bel o,λa8=>N⟩
 exact⟨(k.block g o h.blk.lt (j o)).trans h.blk,λ_=>(k.tag g o h.blk.lt (j o)).trans (h.tag o)⟩
theorem bV.set{t:TypeId}{cs cs':Array O}(h:bV B T w g t cs)(i:Nat)(u:O)(aw:cs.setIfInBounds i u=cs'):bV B T (w.setCell ⟨g,i,I⟩ u) g t cs':=⟨by rw[<-aw];exact h.blk.bJ i u,h.tag⟩
theorem bV.far{t:TypeId}{cs:Array O}(h:bV B T w g t cs)(k:aU P w w')(ab:g≠P):bV B T w' g t cs:=⟨k.blk _ _ _ ab h.blk,h.tag⟩
theorem bV.app{t:TypeId}{cs:Array O}(h:bV B T w g t cs)(k:jk B v w w')(af:∀g,v.ownBlock=J g->T g≠ .other):bV B T w' g t cs:=by refine⟨h.blk.grown k.grown λa7=>?_,h.tag⟩;exact af g a7.symm (h.tag (k.ge g a7.symm))
def lJ (T:Nat->Tg) (a b:Nat) (o:Option Nat) (t:Tg) (g:Nat):Tg:=if g < a then T g else if b<=g then .other else open Classical in if J g=o then t else .nd
theorem xG{b:Nat}(h:g < a):lJ T a b bl t g=T g:=by unfold lJ;rw[Kq h]
theorem FN{b:Nat}(h:b<=g)(e:a<=b):lJ T a b bl t g=.other:=by unfold lJ;rw[JZ N,Kq h]
theorem Ir{b:Nat}(o:a<=g)(a8:g < b):lJ T a b (J g) t g=t:=by unfold lJ;rw[JZ N,JZ N,Kq D]
theorem lQ{b:Nat}(o:a<=g)(a8:g < b)(ac:J g≠bl):lJ T a b bl t g=.nd:=by unfold lJ;rw[JZ N,JZ N,JZ ac]
def eU (T:Nat->Tg) (o:Option Nat) (t:Tg) (g:Nat):Tg:=open Classical in if J g=o then t else T g
theorem gZ:eU T (J g) t g=t:=by unfold eU;rw[Kq D]
theorem gG(h:J g≠bl):eU T bl t g=T g:=by unfold eU;rw[JZ h]
theorem qP(T:Nat->Tg)(h:JK w.heap.size w w')(bW:B<=w.heap.size)(bl:Option Nat)(t:Tg):Stp zx B T w (lJ T w.heap.size w'.heap.size bl t) w':=⟨h.mono bW,λae _ a8 _=>xG a8,λae _ a8 _=>h.block ae a8⟩
theorem FB(T:Nat->Tg)(h:Acc w.heap.size 150 7 dW w' v l css)(bW:B<=w.heap.size):bY (lJ T w.heap.size w'.heap.size v.ownBlock t) t B w' v l:=by refine bY.made h bW (λae ab=>?_) λae o a8 ac=>lQ o a8 ac;have o:=aQ h.1 ab;rw[ab];exact Ir o.2 o.1
theorem lC(T:Nat->Tg)(h:JK w.heap.size w w')(bl:Option Nat)(t:Tg):∀g,w'.heap.size<=g->lJ T w.heap.size w'.heap.size bl t g=.other:=λg ab=>FN ab h.size
end
structure oW (T:Nat->Tg) (B:Nat) (w:L) (vk vb:O) (p:bD):Prop where
 keys:aX (λb=>B<=b/\b < w.heap.size/\T b=.nd) 1 fF w vk p.keys
 kU:ql T B w vb p.branches
 fresh:∀g,w.heap.size<=g->T g=.other
 low:B<=w.heap.size
structure mM (T:Nat->Tg) (B:Nat) (w:L) (vk:O) (ks:List Int) (vb:O) (bs:List dB) (cb:List (List O)) (vp:O) (ps:List aO) (cp:List (List O)):Prop where
 keys:aX (λb=>B<=b/\b < w.heap.size/\T b=.nd) 1 fF w vk ks
 kU:BsC T B w vb bs cb
 pts:PsC T B w bs.length vp ps cp
 fresh:∀g,w.heap.size<=g->T g=.other
 low:B<=w.heap.size
section
variable {U:Nat->Prop} {vk vb vp:O} {p:bD} {ks:List Int} {cb cp:List (List O)}
theorem iT(h:aX (λb=>B<=b/\b < w.heap.size/\T b=.nd) 1 fF w vk ks)(k:Stp U B T w T' w')(a9:∀g,T g=.nd->U g):aX (λb=>B<=b/\b < w'.heap.size/\T' b=.nd) 1 fF w' vk ks:=
 aX.keep h (λaT u ai aw=>(KJ (k.block aT.block ai.1 ai.2.1 (a9 _ ai.2.2))).trans aw) (λb d=>⟨d.1,Kv d.2.1 k.bel.size,(k.tag b d.1 d.2.1 (a9 _ d.2.2)).trans d.2.2⟩) λ_ _ h=>h
theorem oW.bG(h:oW T B w vk vb p)(k:Stp U B T w T' w')(a9:∀g,T g≠ .other->U g)(aH:∀g,w'.heap.size<=g->T' g=.other):oW T' B w' vk vb p:=
 ⟨iT h.keys k λg ab=>a9 g XF,h.kU.fO (k.fO a9) (zO _),aH,Ko h.low k.bel.size⟩
theorem oW.more(h:oW T B w vk vb p)(k:JK w.heap.size w w'):oW T B w' vk vb p:=h.bG (Stp.of_below T k h.low) (λ_ _=>trivial) λae ab=>h.fresh ae (Ko k.size ab)
theorem oW.out(h:oW T B w vk vb p)(ag:wfi p.strategy):qU (λb=>B<=b/\b < w.heap.size) w [C E p.strategy,vk,vb] p:=⟨vk,vb,D,aX.keep h.keys (λ_ _ _ h=>h) (λb d=>⟨d.1,d.2.1⟩) λ_ _ h=>h,h.kU.out,ag⟩
theorem mM.bG(h:mM T B w vk ks vb bs cb vp ps cp)(k:Stp U B T w T' w')(a9:∀g,T g≠ .other->U g)(aH:∀g,w'.heap.size<=g->T' g=.other):mM T' B w' vk ks vb bs cb vp ps cp:=
 ⟨iT h.keys k λg ab=>a9 g XF,h.kU.fO (k.fO a9) (zO _),h.pts.fO (k.fO a9) (Ie _ _),aH,Ko h.low k.bel.size⟩
theorem mM.more(h:mM T B w vk ks vb bs cb vp ps cp)(k:JK w.heap.size w w'):mM T B w' vk ks vb bs cb vp ps cp:=h.bG (Stp.of_below T k h.low) (λ_ _=>trivial) λae ab=>h.fresh ae (Ko k.size ab)
theorem mM.done(h:mM T B w vk p.keys vb p.branches cb vp ps cp):oW T B w vk vb p:=⟨h.keys,⟨cb,h.kU⟩,h.fresh,h.low⟩
theorem mM.part{q:aO}(h:mM T B w vk ks vb bs cb vp ps cp)(aJ:Acc B 76 4 acE w' v' (ps++[q]) (cp++[cs]))(ab:jk B vp w w')(c8:∀g,v'.ownBlock=J g->vp.ownBlock=J g\/w.heap.size<=g)(a1:PtX T B w bs.length ps.length cs q):mM (eU T v'.ownBlock (.pt bs.length)) B w' vk ks vb bs cb v' (ps++[q]) (cp++[cs])/\Stp (λg=>T g≠ .pt bs.length) B T w (eU T v'.ownBlock (.pt bs.length)) w':=by
 have b6:∀g,B<=g->g < w.heap.size->eU T v'.ownBlock (.pt bs.length) g=T g:=λg o a8=>by
  by_cases e:J g=v'.ownBlock
  ·rcases c8 g e.symm with ac|ac
   ·rw[<-e,gZ,h.pts.tag g ac]
   omega
  exact gG e
 have ag:Stp (λg=>T g≠ .pt bs.length) B T w (eU T v'.ownBlock (.pt bs.length)) w':=by refine⟨(Ky B w).grown ab.grown h.low ab.ge,λg o a8 _=>b6 g o a8,λg _ a8 ac=>ab.grown.block g a8 λa7=>ac (h.pts.tag g a7.symm)⟩
 have aH:∀g,w'.heap.size<=g->eU T v'.ownBlock (.pt bs.length) g=.other:=λg m=>by
  rw[gG λa7=>?_]
  ·exact h.fresh g (Ko ag.bel.size m)
  have:=(aQ aJ.1 (g:=g) a7.symm).1;omega
 refine⟨⟨iT h.keys ag λg ab=>XF,h.kU.fO (ag.fO (V:=λb9=>b9≠ .pt bs.length) λ_ h=>h) ⟨YO,YO,λa3 aR M=>⟨WO,YO,λ_ _=>YO,λ_ _=>YO⟩⟩,h.pts.snoc aJ ab.grown (λg ab=>YP) b6 a1,aH,Ko h.low ag.bel.size⟩,ag⟩
theorem mM.branch(h:mM T B w vk ks vb bs cb vp ps cp)(aJ:Acc B 72 3 FY w' v' (bs++[b]) (cb++[cs]))(ab:jk B vb w w')(c8:∀g,v'.ownBlock=J g->vb.ownBlock=J g\/w.heap.size<=g)(d:BrX T B w bs.length cs b):mM (eU T v'.ownBlock .br) B w' vk ks v' (bs++[b]) (cb++[cs]) (G I 0 0) [] []/\Stp (λg=>T g≠ .br) B T w (eU T v'.ownBlock .br) w':=by
 have b6:∀g,B<=g->g < w.heap.size->eU T v'.ownBlock .br g=T g:=λg o a8=>by
  by_cases e:J g=v'.ownBlock
  ·rcases c8 g e.symm with ac|ac
   ·rw[<-e,gZ,h.kU.tag g ac]
   omega
  exact gG e
 have ag:Stp (λg=>T g≠ .br) B T w (eU T v'.ownBlock .br) w':=by refine⟨(Ky B w).grown ab.grown h.low ab.ge,λg o a8 _=>b6 g o a8,λg _ a8 ac=>ab.grown.block g a8 λa7=>ac (h.kU.tag g a7.symm)⟩
 have aH:∀g,w'.heap.size<=g->eU T v'.ownBlock .br g=.other:=λg m=>by
  rw[gG λa7=>?_]
  ·exact h.fresh g (Ko ag.bel.size m)
  have:=(aQ aJ.1 (g:=g) a7.symm).1;omega
 exact⟨⟨iT h.keys ag λg ab=>XF,h.kU.snoc aJ ab.grown (λg ab=>YP) b6 d,wE.nil _ _ _ _,aH,Ko h.low ag.bel.size⟩,ag⟩
end

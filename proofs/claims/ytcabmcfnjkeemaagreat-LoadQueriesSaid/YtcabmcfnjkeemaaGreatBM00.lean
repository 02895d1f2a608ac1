import Derived.Below
import Derived.BigQuiet
import Derived.ChangeArms
import Derived.ChangeOld
import Derived.ChangeSame
import Derived.Deep.AppendLies
import Derived.Deep.CutBlock
import Derived.Deep.DeepCutAuto
import Derived.Deep.DeepFit
import Derived.Deep.DeepMust
import Derived.Deep.DrawnRows
import Derived.Deep.Draws
import Derived.Deep.Fields
import Derived.Deep.LoopGhost
import Derived.Deep.OwnRows
import Derived.Deep.QuietTactic
import Derived.Deep.RegionHeld
import Derived.Deep.RegionHeld3
import Derived.Deep.RegionWith
import Derived.Deep.Slices
import Derived.IntWalk
import Derived.Laws.AppendOwn
import Derived.Laws.BitsAllLaws
import Derived.Laws.BytesArg
import Derived.Laws.FloatArith
import Derived.Laws.IdiomStrings
import Derived.Laws.OwnMore
import Derived.Laws.Rows
import Derived.Lib.Hide
import Derived.Maps.AppendAt
import Derived.Maps.OwnOps
import Derived.Maps.OwnSet
import Derived.OpenShut
import Derived.OrdersHeld
import Derived.Outline
import Derived.OwnWalk
import Derived.ProofKit
import Derived.RegionTactic
import Derived.ShutString
import Derived.SizedLaws
import Derived.StillTailTactics
import Derived.WalkKit
import Derived.WalkLawsBesides
import Derived.WalkSpells
set_option maxRecDepth 100000
set_option maxHeartbeats 40000000
set_option linter.unusedVariables false
set_option linter.unusedSimpArgs false
set_option linter.defProp false
namespace Go.Proofs.YtcabmcfnjkeemaaGreat
open Go Go.ChangeAt Go.ChangeShapes Go.Deep Go.Maps Go.RowKit Go.WideShapes
theorem qh{p:Prop}(h:p):Go.RowKit.Hid p:=h
theorem A{p:Prop}(h:p):Go.RowKit.Hid p:=h
variable{p q:Prop}
theorem D.{u}{α:Sort u}{a:α}:a=a:=rfl
theorem JY{a:Nat}{b:World}:Below a b b:=Below.refl a b
def JZ:=@if_neg
def Ko:=@Nat.le_trans
def Kq:=@if_pos
def Kr:=@List.getElem?_eq_getElem
def Kt:=@And.intro
def Ku:=@bodyPost_ret
def Kv:=@Nat.lt_of_lt_of_le
def Kw:=@Nat.zero_le
def Ky:=@Below.refl
def Kz:=@List.mem_of_getElem?
def KA:=@List.getElem?_eq_some_iff
def KC:=@List.length_append
def KD:=@Nat.le_refl
def KE:=@World.size_alloc
def KG:=@List.mem_singleton
def KH:=@Or.inl
def KI:=@Nat.le_of_lt
def KJ:=@World.cell?_of_block
def KL:=@Exists.intro
def KN:=@List.take_of_length_le
def KO:=@List.getElem?_set
def KP:=@Nat.lt_succ_self
def KQ:=@List.mem_append
def KR:=@decide_eq_false
def KT:=@Nat.lt_or_ge
def KU:=@decide_eq_true
def KW:=@List.getElem?_append_left
def KX:=@List.map_append
def KY:=@Bool.false_ne_true
def KZ:=@List.length_map
def La:=@Below.heap_setCell
def Lc:=@List.length_take
def Ld:=@Nat.le_succ
def Le:=@List.getElem?_map
def Lh:=@List.getElem?_append_right
def Lj:=@List.length_set
def Ll:=@List.getD_eq_getElem?_getD
def Lm:=@Or.inr
def Lp:=@Int.le_refl
def Lr:=@of_decide_eq_false
def Ls:=@Nat.zero_add
def Lu:=@of_decide_eq_true
def LC:=@List.mem_map
def LD:=@List.sum_append
def LG:=@Bool.eq_iff_iff
def LH:=@Bool.and_eq_true
def LJ:=@World.cell?_setCell_other
def LK:=@List.all_append
def LM:=@List.append_assoc
def LP:=@IntKind.wrap_i64
def LQ:=@List.take_length
def LU:=@List.foldl_cons
def LW:=@List.all_eq_true
def LX:=@Int.toNat_natCast
def LY:=@List.getElem?_eq_none
def LZ:=@eq_of_beq
def Mc:=@World.ownsRow_nil
def Md:=@List.mem_cons_of_mem
def Me:=@Nat.sub_self
def MB:=@Nat.eq_zero_or_pos
def MC:=@wrap64_wf
def MF:=@World.size_setCell
def MG:=@List.eq_nil_of_length_eq_zero
def MH:=@info_parts
def MI:=@List.length_cons
def MJ:=@List.take_add_one
def MK:=@List.mem_range
def ML:=@List.take_succ_eq_append_getElem
def MN:=@List.flatten_append
def MO:=@wp_region_quiet_lit
def MP:=@wpQuiet_step
def MQ:=@wpQuiet_nil
def MR:=@List.foldl_append
def MS:=@List.mem_cons_self
def MV:=@List.all_eq_false
def MW:=@List.getElem_of_mem
def MX:=@List.mem_flatMap
def MZ:=@IntKind.wrap_u64
def Na:=@Nat.add_zero
def Nb:=@World.frozen?_of_block
def Nc:=@Array.getElem?_eq_some_iff
def Nh:=@List.mem_cons
def Nj:=@World.grownBy.refl
def Nk:=@Go.WideShapes.add_plain
def Nl:=@List.mem_of_mem_take
def Np:=@List.flatten_cons
def Nq:=@List.take_append_drop
def Nr:=@List.nodup_cons
def Ns:=@Int.le_trans
def Nu:=@List.range_succ
def Nv:=@List.flatMap_append
def Nw:=@List.getElem?_of_mem
def Ny:=@ByteArray.size_append
def Nz:=@World.cell?_alloc_lt
def NC:=@List.getElem?_range
def NG:=@Nat.and_two_pow_sub_one_eq_mod
def NH:=@decide_eq_true_eq
def NI:=@List.drop_eq_getElem_cons
def NJ:=@List.length_nil
def NK:=@ByteArray.size_extract
def NM:=@Int.eq_ofNat_of_zero_le
def NP:=@List.length_eq_zero_iff
def NQ:=@List.getElem?_cons_succ
def NR:=@beq_eq_false_iff_ne
def NS:=@Array.getElem?_toList
def NT:=@List.mem_append_right
theorem c{n:Nat}:n<=n:=Nat.le_refl n
theorem TS(k:q)(h:q->p:=by intro TQ;exact j.out _ _ (λh=>absurd h Z) TQ):p:=h k
theorem TT(k:q)(h:q->p:=by intro TQ;exact aC (Φ:=λX=>FV (ba+1) ba bJ bD bs e i n a9 aZ g #[C E m,C E bF,JM l,C E br,G dw p.length cq,G bq y.length cT,G bO P.length cg,G aW r.length q] #[C E 0,C E 0,JM false,C E 0,G I 0 0,C E 0,C E 0,G I 0 0] (J T) _ _ _ _ X) k.out TQ):p:=h k
theorem TU(k:q)(h:q->p:=by intro TQ;exact aC (Φ:=λX=>X=(dA aT (g.guards.length*7) [C E c3,C E dt,G cD dz.length d0,C E bX.kind,C JL bX.bits,C E d5,C E d2] av).setCell ⟨aJ,a2*4+2,I⟩ (G (J ⟨aT,0,I⟩) (g.guards.length+1) bG)) (by rw[bs.1];exact jC (p:=⟨aJ,a2*4+2,I⟩) bU.2.2.2 (G (J ⟨aT,0,I⟩) (g.guards.length+1) bG) [C E c3,C E dt,G cD dz.length d0,C E bX.kind,C JL bX.bits,C E d5,C E d2] (g.guards.length*7) av) TQ):p:=h k
theorem TV(k:q)(h:q->p:=by intro TQ;exact aC (Φ:=λX=>uQ W p b c2 bE (G ai p.keys.length aA) (G (J ⟨aQ,0,I⟩) p.branches.length cy) aQ z bm b5 b8 (G (J ⟨aJ,0,I⟩) bm cd) (G (J ⟨bN,e',I⟩) bq.length ch) bq bJ X (P.set z {y with parts:=y.parts.set a2 (fA 0 g (g.guards++[(.mk c3 dt bX d5 d2 dz)]))})/\bY bJ oQ b X (G cT aw.length bS) aw/\∀a4,a4≠a2*4+2->X.cell? ⟨aJ,a4,I⟩=cj.cell? ⟨aJ,a4,I⟩) ⟨ep,cs,bl⟩ TQ):p:=h k
theorem TW(k:q)(h:q->p:=by intro TQ;exact aC (Φ:=λX=>uQ W p b c2 bE (G ai p.keys.length aA) (G (J ⟨aQ,0,I⟩) p.branches.length cy) aQ z bm b5 b8 (G (J ⟨aJ,0,I⟩) bm cd) (G (J ⟨bN,e',I⟩) bq.length ch) bq bJ X (P.set z {y with parts:=y.parts.set a2 (fA 0 g (g.guards++[(.mk c3 dt bX d5 d2 dz)]))})/\bY bJ oQ b X (G cT aw.length bS) aw/\∀a4,a4≠a2*4+2->X.cell? ⟨aJ,a4,I⟩=r.cell? ⟨aJ,a4,I⟩) ⟨ep,cs,bl⟩ TQ):p:=h k
theorem TY(k:q)(h:q->p:=by intro TQ;exact aI (Φ:=λX=>qx Q W g (G bR S.types.length l) (G c3 S.syms.length bj) vi S its br #[C E e,G Y b8.length a9,C E M,C E bQ,H bq,H bF,C E ar] #[C E e,C E a0,G di cS.length bG,C E 0,C JL 0,C E 0,C E 0] c2 X/\aj X dN 202 #[C E a0,C JL (IntKind.u64.wrap M)]) ⟨(show _/\_ from⟨bL.1,bL.2.1⟩).1.oth (aU.one _ _ _ _) eZ,(show _/\_ from⟨bL.1,bL.2.1⟩).2.bJ 1 _⟩ TQ):p:=h k
theorem Ua(k:q)(h:q->p:=by intro TQ;exact aC (Φ:=λX=>JK da.heap.size da X/\aj X bd.heap.size 202 #[C E aT.kind,C JL aT.bits]/\aj X R.heap.size 202 zV) ⟨(set2 bx.2.1 D (C E aT.kind) (C JL aT.bits)).2.below _ _ (by have:=bq.size;have:=aV.1.size;omega) bx.1,(set2 bx.2.1 D (C E aT.kind) (C JL aT.bits)).1,(set2 bx.2.1 D (C E aT.kind) (C JL aT.bits)).2.blk _ _ _ (d6.symm) bx.2.2⟩ TQ):p:=h k
theorem Ub(k:q)(h:q->p:=by intro TQ;exact aC (Φ:=λX=>X=av.setCell ⟨aJ,a2*4+2,I⟩ (G (J ⟨aT,0,I⟩) (g.guards.length+1) bG)/\(∀a4,X.frozen? ⟨aT,g.guards.length*7+a4,I⟩=false)/\∀a4 u,zN.toList[a4]? =J u->X.cell? ⟨aT,g.guards.length*7+a4,I⟩=J u) ⟨D,λa4=>iK _ _ _ _ (aB.fz _),λa4 u ap=>(LJ _ _ _ _ (by intro a7;injection a7 with a7;exact bU.2.2.2 a7)).trans (aB.ce a4 u ap)⟩ TQ):p:=h k
theorem Uc(k:q)(h:q->p:=by intro TQ;exact aC (Φ:=λX=>JK da.heap.size da X/\aj X R.heap.size 202 #[C E aT.kind,C JL aT.bits]/\aj X bd.heap.size 202 zV) ⟨(set2 bx.2.1 D (C E aT.kind) (C JL aT.bits)).2.below _ _ (by have:=bq.size;omega) bx.1,(set2 bx.2.1 D (C E aT.kind) (C JL aT.bits)).1,(set2 bx.2.1 D (C E aT.kind) (C JL aT.bits)).2.blk _ _ _ (d6.symm) bx.2.2⟩ TQ):p:=h k
theorem Ud(k:q)(h:q->p:=by intro TQ;exact Ku (au D D az Tryz.underlying150 D D) D TQ):p:=h k
theorem Ue(k:q)(h:q->p:=by intro TQ;exact Ku (results_cell_tmp D D az Tryz.underlying123 D D) D TQ):p:=h k
theorem Uf(k:q)(h:q->p:=by intro TQ;exact Ku (au D D az Tryz.underlying139 D D) D TQ):p:=h k
theorem Ug(k:q)(h:q->p:=by intro TQ;exact aI (Φ:=λX=>JK wr.heap.size wr X/\aj X wr.heap.size 193 #[H cH,C E dx,C E dk,C E bx,C E i,C E ah]) ⟨JY.alloc c _,aj.new _ _ _⟩ TQ):p:=h k
theorem Uh(k:q)(h:q->p:=by intro TQ;exact aC (Φ:=λX=>JK bj.heap.size bj X/\aj X T 44 #[C E 0,G I 0 0,G I 0 0,C E 0,C E 0,C E 0,G I 0 0,G I 0 0]) ⟨ak,bY▸aj.new _ _ _⟩ TQ):p:=h k
theorem Ui(k:q)(h:q->p:=by intro TQ;exact Ku (au D D az Tryz.underlying202 D D) D TQ):p:=h k
theorem Uj(k:q)(h:q->p:=by intro TQ;exact aI (Φ:=λX=>JK wr.heap.size wr X/\aj X wr.heap.size 76 #[C E m.form,C E m.ty,G bu m.guards.length bP,G c7 m.closes.length c6]) ⟨JY.alloc c _,aj.new _ _ _⟩ TQ):p:=h k
theorem Uk(k:q)(h:q->p:=by intro TQ;exact j.out _ _ (λ_=>bw _ (b8.below ak).st.blk (b8.below ak).box) TQ):p:=h k
theorem Ul(k:q)(h:q->p:=by intro TQ;exact aG (λX=>X.cell? ⟨bE,2,I⟩=J (G (J ⟨aJ,0,I⟩) bm cd)/\X.cell? ⟨aJ,a0*4+3,I⟩=J (G c7 m.closes.length c6)) (λa4=>!([0,1,2,3,4,5,6,7,8,9,10,11,12,13,14,15,16,17,18,19,20,21,22]:List Nat).contains a4) U TQ):p:=h k
theorem Um(k:q)(h:q->p:=by intro TQ;exact aC (Φ:=λX=>X=(dA aT (g.guards.length*7) [C E c3,C E dt,G cD dz.length d0,C E bX.kind,C JL bX.bits,C E d5,C E d2] av).setCell ⟨aJ,a2*4+2,I⟩ (G (J ⟨aT,0,I⟩) (g.guards.length+1) bG)) (by rw[bs.out]) TQ):p:=h k
theorem Un(k:q)(h:q->p:=by intro TQ;exact aC (Φ:=λX=>JK da.heap.size da X/\aj X R.heap.size 202 zV) ⟨bq.alloc bq.size _,aj.new _ _ _⟩ TQ):p:=h k
theorem Uo(k:q)(h:q->p:=by intro TQ;exact j.out _ _ (λ_=>bw _ (bq.alloc bq.size _)) TQ):p:=h k
theorem Ur(k:q)(h:q->p:=by intro TQ;exact j.out _ _ (λ_=>bw _ (aV.1.alloc aV.1.size _)) TQ):p:=h k
theorem Us(k:q)(h:q->p:=by intro TQ;exact aG (λX=>X.cell? ⟨W.heap.size,0,I⟩=J (C E p.strategy)/\X.cell? ⟨W.heap.size,1,I⟩=J (G dk p.keys.length dl)) (λa4=>!([0,1,2,3,4,5,6,7]:List Nat).contains a4) U TQ):p:=h k
theorem Ut(k:q)(h:q->p:=by intro TQ;exact aI (Φ:=λB=>JK wr.heap.size wr B/\aj B wr.heap.size 102 #[H bd,G bq bO.length ao]) ⟨cy,aj.new _ _ _⟩ TQ):p:=h k
theorem Uu(k:q)(h:q->p:=by intro TQ;exact aG (λB=>B.cell? ⟨w.heap.size,4,I⟩=J (H bq)/\B.cell? ⟨w.heap.size,5,I⟩=J (H bF)) (λa4=>!([0,1,2,3,4,5,6,7,8,9,10,11,12]:List Nat).contains a4) U TQ):p:=h k
theorem Uw(k:q)(h:q->p:=by intro TQ;exact aC (Φ:=λX=>JK da.heap.size da X/\aj X R.heap.size 202 zV/\aj X bd.heap.size 202 zV) ⟨aV.1.alloc aV.1.size _,aV.2.alloc _,aj.new _ _ _⟩ TQ):p:=h k
theorem Ux(k:q)(h:q->p:=by intro TQ;exact aC (Φ:=λX=>JK da.heap.size da X/\aj X bd.heap.size 202 zV/\aj X R.heap.size 202 zV) ⟨aV.1.alloc aV.1.size _,aj.new _ _ _,aV.2.alloc _⟩ TQ):p:=h k
theorem Uy(k:q)(h:q->p:=by intro TQ;exact (nV ⟨#[]⟩ (.mk e b8 M bQ bq bF ar) _ dS bd [C E e,G Y b8.length a9,C E M,C E bQ,H bq,H bF,C E ar] dV (bn bd _ _ _ _ ay) cw ci dv).mono TQ):p:=h k
theorem Uz(k:q)(h:q->p:=by intro TQ;exact aC (Φ:=λX=>JK R.heap.size R X/\aj X R.heap.size 150 zN) ⟨JY.alloc c _,aj.new _ _ _⟩ TQ):p:=h k
theorem UA(k:q)(h:q->p:=by intro TQ;exact aC (Φ:=λX=>JK r.heap.size r X/\aj X r.heap.size 150 zN) ⟨JY.alloc c _,aj.new _ _ _⟩ TQ):p:=h k
theorem UC(k:q)(h:q->p:=by intro TQ;exact (nV ⟨#[]⟩ (.mk e b8 M bQ bq bF ar) _ dS R [C E e,G Y b8.length a9,C E M,C E bQ,H bq,H bF,C E ar] dV (bn R _ _ _ _ q) cw ci dv).mono TQ):p:=h k
theorem UD(k:q)(h:q->p:=by intro TQ;exact (jL bB.tb (bT _ bB.cd.bel).2.1 bR cY.leaves (by have:=ce.out;have:=b9.1;omega)).mono TQ):p:=h k
theorem UE(k:q)(h:q->p:=by intro TQ;exact j.out _ _ (λ_=>bw _ ((set2 bx.2.1 D (C E aT.kind) (C JL aT.bits)).2.below _ _ (by have:=bq.size;have:=aV.1.size;omega) bx.1)) TQ):p:=h k
theorem UF(k:q)(h:q->p:=by intro TQ;exact aC (Φ:=λX=>X=dA aT (g.guards.length*7) [C E c3,C E dt,G cD dz.length d0,C E bX.kind,C JL bX.bits,C E d5,C E d2] av) D TQ):p:=h k
theorem UG(k:q)(h:q->p:=by intro TQ;exact aC (Φ:=λX=>X=dA aT (m.guards.length*7) [C E c3,C E dt,G cD dz.length d0,C E bX.kind,C JL bX.bits,C E d5,C E d2] av) D TQ):p:=h k
theorem UH(k:q)(h:q->p:=by intro TQ;exact j.out _ _ (λ_=>bw _ ((set2 bx.2.1 D (C E aT.kind) (C JL aT.bits)).2.below _ _ (by have:=bq.size;omega) bx.1)) TQ):p:=h k
theorem UJ(k:q)(h:q->p:=by intro TQ;exact Ku (au D D az Tryz.underlying29 D D) D TQ):p:=h k
theorem UK(k:q)(h:q->p:=by intro TQ;exact j.out _ _ (λ_=>bw _ (b.trans (ak.mono b.size))) TQ):p:=h k
theorem UL(k:q)(h:q->p:=by intro TQ;exact aI (Φ:=λB=>JK wr.heap.size wr B/\aj B wr.heap.size 178 #[C E i,H bF,H cH,C E ar]) ⟨cy,aj.new _ _ _⟩ TQ):p:=h k
theorem UM(k:q)(h:q->p:=by intro TQ;exact (aX bq _ (by have:=cY.2.2.2.2.1;omega)).mono TQ):p:=h k
theorem UN(k:q)(h:q->p:=by intro TQ;exact aC (Φ:=λX=>JK wr.heap.size wr X/\aj X R.heap.size 150 zN) ⟨bq.alloc bq.size _,aj.new _ _ _⟩ TQ):p:=h k
theorem UO(k:q)(h:q->p:=by intro TQ;exact (db _ _ (by first|exact cy|exact b7)).mono TQ):p:=h k
theorem UQ(k:q)(h:q->p:=by intro TQ;exact aG (λ_=>True) (λa4=>!([0,1,2,3,4,5,6,7,8,9,10,11,12,13,14]:List Nat).contains a4) U TQ):p:=h k
theorem UR(k:q)(h:q->p:=by intro TQ;exact Ku (dS D D az Tryz.underlying62 D D) D TQ):p:=h k
theorem UU(k:q)(h:q->p:=by intro TQ;exact aI (Φ:=oP w g t v toks S _ rest _ _ aa _) (ag.inc bH) TQ):p:=h k
theorem UW(k:q)(h:q->p:=by intro TQ;exact j.out _ _ (λ_=>bw _ (cc.alloc cc.size _)) TQ):p:=h k
theorem N(h:p:=by omega):p:=h
theorem U(h:p:=by kernel_rfl):p:=h
theorem Z(h:p:=by decide):p:=h
theorem NU(h:p:=by
 intro bx ae;have z:=A ae;clear ae al am ax aW T bi bM a5 a6 aq aZ aO be bI;go_wp2_with fail;refine(dj _ _ z.out.out.st _).mono ?_;rintro a7 cj ⟨aV,rfl,m,d⟩;have r:=A (z.more (bT.of_below z.out.out.st d));have cc:=A m;clear m d;rcases aV with _|_
 ·go_wp2_with fail;refine(M _ _ r.out.out.st bH).mono ?_;rintro a7 bh ⟨a3,aS,rfl,-,ai,aR⟩;have B:=A (r.more ai);have s:F (S.i < aS.i):=A (by rw[aR];exact KP _);have bo:=A aR;clear ai aR;go_wp2_with fail;refine(aQ _ _ B.out.out.st _).mono ?_;rintro a7 bq ⟨rfl,bs,ai⟩;have x:=A (B.more ai);have a2:=A ai.le;clear ai;have HI2:=a2;go_wp2_with fail;refine(dX _ _ (by first|exact s|exact Kv s HI2) x.out.out.st).mono ?_;rintro a7 j ⟨ak,bj,bv,rfl,a1,p,V,ai⟩;have n:=A (x.more ai);have bB:=A (Kt a1 (Kt p (Kt V ai.le)));clear a1 p V ai;obtain⟨ca,c8,bD,dc,cV,bW,aw⟩:=ak;obtain⟨dg,rfl,⟨Y,a9,rfl,-⟩,-⟩:=bB.1.opened;have bn:=A (bB.1.keep (λ_ _ _ h=>h) (Q':=λy=>ce.heap.size+1 < y) λy d=>by have:=x.box.lt;omega);have af:=A (n.more (bT.of_below n.out.out.st (JY.alloc c (JO #[C E ca,G Y c8.length a9,C E bD,C E dc,H cV,H bW,C E aw] 139))));obtain⟨al,am,ax,aW,T,bi,bM,a5,a6,aq,aZ,aO,be,bI⟩:=aK af.box;go_upto_region 33 with fail;refine aI (Φ:=zy w g t v toks S _ rest _ _ aa #[C E 16,G (J ⟨j.heap.size,0,I⟩) 1 1,C E 0,C E 0,H ⟨#[]⟩,H ⟨#[]⟩,C E aa.at_] [C E 16,G (J ⟨j.heap.size,0,I⟩) 1 1,C E 0,C E 0,H ⟨#[]⟩,H ⟨#[]⟩,C E aa.at_] (.mk 16 [.mk ca c8 bD dc cV bW aw] 0 0 ⟨#[]⟩ ⟨#[]⟩ aa.at_)) (⟨af.jd (k:=1) (cells':=#[C E 16,G (J ⟨j.heap.size,0,I⟩) 1 1,C E 0,C E 0,H ⟨#[]⟩,H ⟨#[]⟩,C E aa.at_]) (G (J ⟨j.heap.size,0,I⟩) 1 1) D,iD.shut ((sD bn (by have:=n.box.lt;omega)).keep ((aU.one _ (ce.heap.size+1) 1 _).keep _ λy d=>by omega) (λ_ h=>h) (λbj aa h=>h.keep ((aU.one _ (ce.heap.size+1) 1 _).keep _ λy d=>by omega) λ_ h=>h)) ⟨aA Z Z,bP,bP,q.2.2.2.2.2,by decide,by decide⟩⟩) ?_;intro bA ah;have ap:=A ah;clear ah al am ax aW T bi bM a5 a6 aq aZ aO be bI;go_wp2_with fail;refine(aQ _ _ ap.st.out.st _).mono ?_;rintro a7 bC ⟨rfl,bJ,ai⟩;have ay:=A (ap.more ai);have b4:=A ai.le;clear ai;obtain⟨b0,aL,ao,b2,bu,R,bd,bO,bY,cd⟩:=ay.st.out.st.cells;go_upto_region 35 with fail;refine aI (Φ:=zy w g t v toks S _ rest _ _ aa _ _ _) (ay.qO _) ?_;intro bK aD;have f:=A aD;clear aD b0 aL ao b2 bu R bd bO bY cd;obtain⟨al,am,ax,aW,T,bi,bM,a5,a6,aq,aZ,aO,be,bI⟩:=aK f.st.box;obtain⟨cp,cf,cb,c7,b9,cM,cm,cF,cz,cP,d1,dd,d9,dp⟩:=aK f.st.res;go_wp2_with fail;refine post7 f.st.res D λX az aE=>?_;refine Ku (au D D az Tryz.underlying139 D D) D ?_;exact iE aE f.st.out c f.st.ord.2.2 (f.ex.bound.keep (λ_ _ _ h=>h) λy d=>⟨by have:=f.st.ord;omega,d.2⟩) (.mk _ _ _ _ _ _ _ (λa7=>absurd a7 Z) λa aJ=>by rw[KG] at aJ;subst aJ;exact bB.2.1) (by have o:=bB.2.2.1;have a8:=s.out;have ac:=a2.out;have b6:=b4.out;have bz:=bB.2.2.2;rw[aY];simp only[List.map_cons,List.map_nil,List.sum_cons,List.sum_nil];omega)
 obtain⟨al,am,ax,aW,T,bi,bM,a5,a6,aq,aZ,aO,be,bI⟩:=aK r.box;go_upto_region 30 with fail;refine aI (Φ:=oP w g t v toks S _ rest _ _ aa #[C E 17,G I 0 0,C E 0,C E 0,H ⟨#[]⟩,H ⟨#[]⟩,C E aa.at_]) (r.jd (k:=0) (cells':=#[C E 17,G I 0 0,C E 0,C E 0,H ⟨#[]⟩,H ⟨#[]⟩,C E aa.at_]) (C E 17) D) ?_;intro bQ aF;have aG:=A aF;clear aF al am ax aW T bi bM a5 a6 aq aZ aO be bI;go_wp2_with fail;refine(M _ _ aG.out.out.st bH).mono ?_;rintro a7 bh ⟨a3,aS,rfl,-,ai,aR⟩;have B:=A (aG.more ai);have s:F (S.i < aS.i):=A (by rw[aR];exact KP _);have bo:=A aR;clear ai aR;go_wp2_with fail;refine(aQ _ _ B.out.out.st _).mono ?_;rintro a7 bq ⟨rfl,bs,ai⟩;have x:=A (B.more ai);have a2:=A ai.le;clear ai;have HI2:=a2;go_wp2_with fail;refine(dX _ _ (by first|exact s|exact Kv s HI2) x.out.out.st).mono ?_;rintro a7 j ⟨ak,bj,bv,rfl,a1,p,V,ai⟩;have n:=A (x.more ai);have bB:=A (Kt a1 (Kt p (Kt V ai.le)));clear a1 p V ai;obtain⟨ca,c8,bD,dc,cV,bW,aw⟩:=ak;obtain⟨dg,rfl,⟨Y,a9,rfl,-⟩,-⟩:=bB.1.opened;have bn:=A (bB.1.keep (λ_ _ _ h=>h) (Q':=λy=>ce.heap.size+1 < y) λy d=>by have:=x.box.lt;omega);have af:=A (n.more (bT.of_below n.out.out.st (JY.alloc c (JO #[C E ca,G Y c8.length a9,C E bD,C E dc,H cV,H bW,C E aw] 139))));obtain⟨al,am,ax,aW,T,bi,bM,a5,a6,aq,aZ,aO,be,bI⟩:=aK af.box;go_upto_region 33 with fail;refine aI (Φ:=zy w g t v toks S _ rest _ _ aa #[C E 17,G (J ⟨j.heap.size,0,I⟩) 1 1,C E 0,C E 0,H ⟨#[]⟩,H ⟨#[]⟩,C E aa.at_] [C E 17,G (J ⟨j.heap.size,0,I⟩) 1 1,C E 0,C E 0,H ⟨#[]⟩,H ⟨#[]⟩,C E aa.at_] (.mk 17 [.mk ca c8 bD dc cV bW aw] 0 0 ⟨#[]⟩ ⟨#[]⟩ aa.at_)) (⟨af.jd (k:=1) (cells':=#[C E 17,G (J ⟨j.heap.size,0,I⟩) 1 1,C E 0,C E 0,H ⟨#[]⟩,H ⟨#[]⟩,C E aa.at_]) (G (J ⟨j.heap.size,0,I⟩) 1 1) D,iD.shut ((sD bn (by have:=n.box.lt;omega)).keep ((aU.one _ (ce.heap.size+1) 1 _).keep _ λy d=>by omega) (λ_ h=>h) (λbj aa h=>h.keep ((aU.one _ (ce.heap.size+1) 1 _).keep _ λy d=>by omega) λ_ h=>h)) ⟨aA Z Z,bP,bP,q.2.2.2.2.2,by decide,by decide⟩⟩) ?_;intro bA ah;have ap:=A ah;clear ah al am ax aW T bi bM a5 a6 aq aZ aO be bI;go_wp2_with fail;refine(aQ _ _ ap.st.out.st _).mono ?_;rintro a7 bC ⟨rfl,bJ,ai⟩;have ay:=A (ap.more ai);have b4:=A ai.le;clear ai;obtain⟨b0,aL,ao,b2,bu,R,bd,bO,bY,cd⟩:=ay.st.out.st.cells;go_upto_region 35 with fail;refine aI (Φ:=zy w g t v toks S _ rest _ _ aa _ _ _) (ay.qO _) ?_;intro bK aD;have f:=A aD;clear aD b0 aL ao b2 bu R bd bO bY cd;obtain⟨al,am,ax,aW,T,bi,bM,a5,a6,aq,aZ,aO,be,bI⟩:=aK f.st.box;obtain⟨cp,cf,cb,c7,b9,cM,cm,cF,cz,cP,d1,dd,d9,dp⟩:=aK f.st.res;go_wp2_with fail;refine post7 f.st.res D λX az aE=>?_;refine Ku (au D D az Tryz.underlying139 D D) D ?_;exact iE aE f.st.out c f.st.ord.2.2 (f.ex.bound.keep (λ_ _ _ h=>h) λy d=>⟨by have:=f.st.ord;omega,d.2⟩) (.mk _ _ _ _ _ _ _ (λa7=>absurd a7 Z) λa aJ=>by rw[KG] at aJ;subst aJ;exact bB.2.1) (by have o:=bB.2.2.1;have a8:=s.out;have ac:=a2.out;have b6:=b4.out;have bz:=bB.2.2.2;rw[aY];simp only[List.map_cons,List.map_nil,List.sum_cons,List.sum_nil];omega)):p:=h
theorem NV(h:p:=by
 obtain⟨aP,a',rfl⟩:=aS.slice;have aO:=A aS;have i:=A ag;have aN:=A (Kt cW eg);have s:=A (show oW e b av (G ai p.keys.length aA) (G (J ⟨aQ,0,I⟩) p.branches.length cy) {p with branches:=P}/\(bV b e av (W.heap.size+1) 29 #[C E 0,G I 0 0,G I 0 0]/\bV b e av c2 29 #[C E p.strategy,(G ai p.keys.length aA),(G (J ⟨aQ,0,I⟩) p.branches.length cy)]/\JK W.heap.size W av)/\bV b e av bE 72 #[C E b5,C E b8,G (J ⟨aJ,0,I⟩) bm cd] from⟨bX.1.bG ag (λ_ _=>trivial) aH,⟨bX.2.1.1.bG ag λ_=>trivial,bX.2.1.2.1.bG ag λ_=>trivial,bX.2.1.2.2.trans (ag.bel.mono d8)⟩,bX.2.2.bG ag λ_=>trivial⟩);have x:=A ((ag.block aJ bQ.2.1 (Kv bQ.2.2.1 (Ko M n.bel.size)) trivial).trans aF);have f:=A (show av.cell? ⟨bE,2,I⟩=J (G (J ⟨aJ,0,I⟩) bm cd)/\av.cell? ⟨aJ,a0*4+3,I⟩=J (G c7 m.closes.length c6) from⟨s.2.2.blk.cell 2,(KJ (a:=⟨aJ,a0*4+3,I⟩) x).trans l.2⟩);clear aS ag aH cW eg;(refine j.out _ _ (λ_=>f) ?_;clear j K);refine tl 20 f ?_;refine tl 21 f ?_;refine t1 22 λK j=>?_;go_simp;have c':av.frozen? ⟨aJ,a0*4+2,I⟩=false:=(Nb (a:=⟨aJ,a0*4+2,I⟩) x).trans (eZ _);have d7:av.cell? ⟨aJ,a0*4+2,I⟩=J (G bu m.guards.length bP):=(KJ (a:=⟨aJ,a0*4+2,I⟩) x).trans l.1;go_simp;clear c' d7;have aR:=A (show bE≠aJ from λa7=>by have o:=(n.trans i).tag aJ;have a8:=s.2.2.tag (by have:=f5.out;have:=dE.out;omega);have ac:=((g.trans (n.trans i)).tag aJ bQ.2.1 bQ.2.2.1 ⟨trivial,trivial,trivial⟩).trans bQ.1;rw[a7,ac] at a8;cases a8);have dt:=A (show(av.setCell ⟨aJ,a0*4+2,I⟩ (G S v.length a2)).cell? ⟨bE,2,I⟩=J (G (J ⟨aJ,0,I⟩) bm cd)/\(av.setCell ⟨aJ,a0*4+2,I⟩ (G S v.length a2)).cell? ⟨aJ,a0*4+3,I⟩=J (G c7 m.closes.length c6) from⟨(LJ _ _ _ _ (by intro a7;injection a7 with a7;exact aR a7.symm)).trans f.1,(LJ _ _ _ _ (by simp)).trans f.2⟩);(refine j.out _ _ (λ_=>dt) ?_;clear j K);refine aC (Φ:=λX=>X=av.setCell ⟨aJ,a0*4+2,I⟩ (G S v.length a2)/\X.frozen? ⟨aJ,a0*4+3,I⟩=false/\X.cell? ⟨aJ,a0*4+3,I⟩=J (G c7 m.closes.length c6)) ⟨D,iK _ _ _ _ ((Nb (a:=⟨aJ,a0*4+3,I⟩) x).trans (eZ _)),(LJ _ _ _ _ (by simp)).trans ((KJ (a:=⟨aJ,a0*4+3,I⟩) x).trans l.2)⟩ ?_;intro ar h;have bs:=A h;clear h f dt aR;refine tp 23 ?_;refine tp 24 ?_;refine t1 25 λK j=>?_;go_simp;have c':ar.frozen? ⟨aJ,a0*4+3,I⟩=false:=bs.2.1;have d7:ar.cell? ⟨aJ,a0*4+3,I⟩=J (G c7 m.closes.length c6):=bs.2.2;go_simp;clear c' d7;(refine j.out _ _ (λh=>absurd h Z) ?_;clear j K);refine td ?_;try simp only[Exit.then]
 rw[bs.1];have aT:=A (dP.kU.Ip b7.1 dK bB (Stp.fO (g.trans (n.trans i)) λ_ _=>⟨trivial,trivial,trivial⟩) (ak.fO (i.fO (V:=λ_=>True) λ_ _=>trivial) trivial trivial) aO);refine aC (Φ:=λX=>ql e b X (G (J ⟨aQ,0,I⟩) p.branches.length cy) (P.set z {y with parts:=y.parts.set a0 {m with guards:=v,closes:=ap}})/\rQ X aQ z aJ y.parts.length cd/\aU aJ av X) aT.out ?_;intro cX aD;have bp:=A aD;clear aD aT;have aM:F (e aJ=.pt z):=A (((g.trans (n.trans i)).tag aJ bQ.2.1 bQ.2.2.1 ⟨trivial,trivial,trivial⟩).trans bQ.1);have cm:=A (Stp.dV e bp.2.2 bQ.2.1);have el:=A (show aX (λy=>b<=y/\y < cX.heap.size/\e y=.nd) 1 fF cX (G ai p.keys.length aA) p.keys from iT s.1.keys cm λae ab a7=>by rw[a7,aM.out] at ab;cases ab);have Y:F (∀ae,e ae=.other->ae≠aJ):=A (pV aM (by intro h;cases h));have di:=A (show(bV b e cX (W.heap.size+1) 29 #[C E 0,G I 0 0,G I 0 0]/\bV b e cX c2 29 #[C E p.strategy,(G ai p.keys.length aA),(G (J ⟨aQ,0,I⟩) p.branches.length cy)]/\JK W.heap.size W cX)/\bV b e cX bE 72 #[C E b5,C E b8,G (J ⟨aJ,0,I⟩) bm cd] from⟨⟨s.2.1.1.bG cm λh=>Y _ (s.2.1.1.tag h),s.2.1.2.1.bG cm λh=>Y _ (s.2.1.2.1.tag h),s.2.1.2.2.trans (cm.bel.mono d8)⟩,s.2.2.bG cm λh=>Y _ (s.2.2.tag h)⟩);go_wp2_with fail;exact⟨⟨a0+1,e,P.set z {y with parts:=y.parts.set a0 {m with guards:=v,closes:=ap}},{y with parts:=y.parts.set a0 {m with guards:=v,closes:=ap}},by omega,by go_num,A ⟨el,bp.1,λae ab=>s.1.fresh ae (by rw[<-bp.2.2.size];exact ab),by rw[bp.2.2.size];exact s.1.low⟩,A ⟨by rw[Lj];exact b1.1,jv b1.2.1 (lu.Ip (b1.2.1 y (Kz b7.1)) bB aB.1 aN.1),Ko (aa0 b7.1 bB (by have o:=aB.2;have a8:=aN.2;unfold gJ;simp only;omega)) b1.2.2⟩,A ⟨by rw[KO,Kq D,Kq (KA.1 b7.1).1],by simp only[List.length_set];exact b7.2.1,by rw[<-b7.2.1];exact bp.2.1⟩,di⟩,by simp[intOf];omega⟩):p:=h
theorem NW(h:p:=by
 refine t1 7 λK j=>?_;go_simp;have db:=A (xA (a:=x) (kinds:=aZ S) (syms:=S.syms.length) (runs:=100) (cells:=100) dQ (by rw[nU];exact ck.types) (λbP a'=>by obtain⟨a3,aR⟩:=Nw a';obtain⟨b9,c7,rfl⟩:=sJ aR;rw[KZ];exact ck.attrs b9 (Kz c7)) aO.2 aO.1);obtain⟨ba,i⟩:∃bm,bm=bj.heap.size:=⟨_,D⟩;go_wp2_with (go_at_call 8;refine(rG (bZ.keep (aF.of_below b λy d=>d) λy d=>Kv d b.size) cn ⟨aA (by have:=ck.syms;omega) (by have:=ck.syms;omega),aA Z Z,aA Z Z⟩ aO.2 aO.1 db).mono ?_;rintro e bj a1;rw[<-aJ.out] at a1;obtain⟨ek,ep,ay,eq,rfl,B,d⟩:=a1;rw[<-i] at B;obtain⟨cI,c1,rfl,-,-⟩:=B.tab.keys.slice;obtain⟨cR,cW,rfl,-,-⟩:=B.tab.kinds.slice;obtain⟨d0,bL,rfl,-,-⟩:=B.tab.states.slice;obtain⟨d5,cd,rfl,-,-⟩:=B.tab.codes.slice);have dC:=A B;have bJ:=A (show T < ba by rw[i];exact l.lt);have aH:=A (show aj bj T 44 #[C E 0,G I 0 0,G I 0 0,C E 0,C E 0,C E 0,G I 0 0,G I 0 0] from l.below d l.lt);clear l;have l:=aH;clear aH;have cE:=A (b.trans (d.mono b.size));clear b;have b:=cE;clear cE;have f:=A (bw _ b);clear B d i cn db;have a7:=A (show ∀cr,aU T bj cr->jF cr k (G cI k.keys.length c1) (G cR k.kinds.length cW) (G d0 k.states.length bL) (G d5 k.codes.length cd) from λcr ae=>(dC.yD ae bJ).tab);(refine j.out _ _ (λ_=>f) ?_;clear j K);refine t1 9 λK j=>?_;go_simp;obtain⟨cM,ci,cw,dm,dz,dK,bi,aP,dG,cC,d4,du,dH,aT,bV,c9⟩:=kY l;go_simp;have bK:=A (BM l D (C E k.strategy) (G cI k.keys.length c1) (G cR k.kinds.length cW) (C E k.syms) (C E k.runs) (C E k.cells) (G d0 k.states.length bL) (G d5 k.codes.length cd));(refine j.out _ _ (λh=>absurd h Z) ?_;clear j K);refine td ?_;try simp only[Exit.then]
 clear cM ci cw dm dz dK bi aP dG cC d4 du dH aT bV c9;go_wp2_with fail;go_meet;exact⟨T,_,_,_,_,_,_,_,_,D,A ⟨bK.2.below _ _ bd b,bK.1,a7 _ bK.2⟩⟩):p:=h
theorem NY(h:p:=by
 refine t1 17 λK j=>?_;go_simp;obtain⟨al,am,ax,aW,T,bi,bM,a5,a6,aq,aZ,aO,be,bI⟩:=aK au;go_simp;refine aC (Φ:=λB=>bT w g 119 v toks S P (fG vb (G I 0 0) st wi key ka) B/\aj B b 139 #[C E ca,G Y c8.length a9,C E bD,C E dc,H cV,H bW,C E aw]/\iD (λy=>w.heap.size<=y/\y≠b) B [C E ca,G Y c8.length a9,C E bD,C E dc,H cV,H bW,C E aw] (.mk ca c8 bD dc cV bW aw)) ⟨ag.out.qO (jQ au D _ _ _ _ _ _ _).2 l (Kv ds l),(jQ au D _ _ _ _ _ _ _).1,cz.keep ((jQ au D _ _ _ _ _ _ _).2.keep _ λy d=>d.2) λ_ h=>h⟩ ?_;intro cX aD;have bp:=A aD;clear aD al am ax aW T bi bM a5 a6 aq aZ aO be bI;have f:F (cX.cell? ⟨g,0,I⟩=J v/\cX.cell? ⟨g,1,I⟩=J (C E P.i)):=A ⟨bp.1.st.blk.cell 0,bp.1.st.blk.cell 1⟩;(refine j.out _ _ (λ_=>f) ?_;clear j K);refine tl 18 f ?_;refine tl 19 f ?_;refine tl 20 f ?_;refine td ?_;try simp only[Exit.then]
 rcases aA:(ap !=0) with _|_
 ·have an:ap=0:=by simpa using aA
  obtain⟨p,av,a0,rfl,s,e2⟩:=dr.out an;have cw:=A (Kt p av);obtain⟨b0,aL,ao,b2,bu,R,bd,bO,bY,cd⟩:=bp.1.st.cells;clear an p av;have ay:=A (Kt s e2);clear s e2;go_upto_region 6 with fail;refine aI (Φ:=λB=>bT w g 119 v toks S {P with i:=a0} (fG vb (G I 0 0) st wi key ka) B/\aj B b 139 #[C E ca,G Y c8.length a9,C E bD,C E dc,H cV,H bW,C E aw]/\iD (λy=>w.heap.size<=y/\y≠b) B [C E ca,G Y c8.length a9,C E bD,C E dc,H cV,H bW,C E aw] (.mk ca c8 bD dc cV bW aw)) ⟨bp.1.trans ⟨bp.1.st.rH ay.2,grownBy_set _ _ _ _,ay.1⟩,bp.2.1.grown (grownBy_set _ _ _ _) (by have:=l.out;have:=ds.out;simp;omega),bp.2.2.keep (aF.aS (grownBy_set _ _ _ _) λy d=>by have:=ds.out;simp;omega) λ_ h=>h⟩ ?_;intro e6 cL;have c9:=A cL;clear cL b0 aL ao b2 bu R bd bO bY cd;obtain⟨al,am,ax,aW,T,bi,bM,a5,a6,aq,aZ,aO,be,bI⟩:=aK c9.2.1;go_wp2_with fail;refine(Gx (λy=>(w.heap.size<=y/\y≠b)/\y < e6.heap.size) (.mk ca c8 bD dc cV bW aw) e6 [C E ca,G Y c8.length a9,C E bD,C E dc,H cV,H bW,C E aw] (λy d=>d.2) c9.2.2.bound cw.1 (by have:=cw.2;omega)).mono ?_;rintro a7 bJ ⟨aM,r,aQ,rfl,a3,az,a2,af,ad⟩;obtain⟨e,ae,rfl⟩:=aB a3;have z:=A (c9.1.below ad);have cN:=A (Kt a3 (Kt az (Kt a2 af)));have V:=A ad;clear a3 az a2 af ad al am ax aW T bi bM a5 a6 aq aZ aO be bI;have ar:=z.out.st.blk.frozen 6;have bV:bJ.cell? ⟨g,6,I⟩=J (G I 0 0):=z.out.st.blk.cell 6;go_wp2_with fail;go_end0;have a1:=z.out.st.ad4 (k:=6) (u:=G e r.length ae) (rest':=fG vb (G e r.length ae) st wi key ka) D;have ab:=z.out.grown.trans (grownBy_set bJ g 6 (G e r.length ae));refine⟨D,_,_,⟨a1,bq.acc.up eY (mZ.aS ab (KP _)),(Ky g w).grown ab (KI ds) λa4 bK=>by injection bK with bK;omega⟩,EU.grown (W:=bJ) ⟨r,?_,by have o:=cN.2.2.1;have a8:=cw.2;omega,by have o:=cN.2.2.2;have a8:=cw.2;omega⟩ (grownBy_set _ _ _ _) ds.out⟩;refine bQ (cN.2.1.keep λbj aa h=>h.keep (λ_ _ _ h=>h) λy d=>⟨d.1.1,Kv d.2 V.size⟩) cN.1 (λah _ o a8=>⟨Ko c9.1.grown.size o,a8⟩) (.inr trivial)
 obtain⟨b0,aL,ao,b2,bu,R,bd,bO,bY,cd⟩:=bp.1.st.cells;go_wp2_with fail;go_end0;exact ck _ _ (bp.1.trans ⟨(bp.1.st.afX _).afW _,(grownBy_set _ _ _ _).trans (grownBy_set _ _ _ _),KD _⟩)):p:=h
theorem NZ(h:p:=by (intro aF k;obtain⟨W,d0⟩:=k;go_simp;(try rw[JZ (by simp only[ByteArray.size_append];omega)]);(try rw[JZ N]);try with_reducible rfl)):p:=h
theorem Oa(h:p:=by
 have ae:=A ay;clear d ay;have f:F (r.cell? ⟨w.heap.size,4,I⟩=J (H bq)/\r.cell? ⟨w.heap.size,5,I⟩=J (H bF)):=A ⟨bX.2.cell 4,bX.2.cell 5⟩;(refine j.out _ _ (λ_=>f) ?_;clear j K);rcases bE with _|_
 ·refine aJ (i:=6) (v:=?_) D U U U U (λ_ _ _ h=>h) (KH ⟨by kernel_rfl,?_⟩) f.out ?_;rotate_left
  ·(intro aF k;obtain⟨W,d0⟩:=k;go_simp;try with_reducible rfl)
  refine tl 7 f ?_;refine tl 8 f ?_;refine tl 9 f ?_;refine tl 10 f ?_;refine tl 11 f ?_;refine tl 12 f ?_;refine td ?_;try simp only[Exit.then]
  go_wp2_with fail;go_meet;exact⟨_,_,_,_,D,D,D,D,A (λh=>.inr (.inr ⟨by omega,D,.inr (n h).1⟩)),A (by first|trivial|(intro _;exact⟨λh=>by omega,λh=>by omega⟩)|(intro _;exact⟨λ_=>⟨hs1,hs2⟩,λh=>by omega⟩)|(intro o;have:=HC.out;exact⟨λh=>by omega,λh=>by omega⟩)|(intro o;exact absurd o KY)|(intro _;exact⟨λh=>by omega,λ_=>by have aD:M=0:=(by simpa using hn0);omega⟩)|(intro _;exact⟨λh=>by omega,λ_=>by have aD:M=1:=(by simpa using hn1);omega⟩)|(intro o;exfalso;simp at o;omega)),bX⟩
 refine aJ (i:=6) (v:=?_) D U U U U (λ_ _ _ h=>h) (KH ⟨by kernel_rfl,?_⟩) f.out ?_;rotate_left
 ·(intro aF k;obtain⟨W,d0⟩:=k;go_simp;try with_reducible rfl)
 refine aJ (i:=7) (v:=undef) D U U U U (λ_ _ _ h=>h) (Lm ⟨by kernel_rfl,D⟩) f.out ?_;refine aJ (i:=8) (v:=undef) D U U U U (λ_ _ _ h=>h) (Lm ⟨by kernel_rfl,D⟩) f.out ?_;refine aJ (i:=9) (v:=undef) D U U U U (λ_ _ _ h=>h) (Lm ⟨by kernel_rfl,D⟩) f.out ?_;refine tl 10 f ?_;refine tl 11 f ?_;refine tl 12 f ?_;refine td ?_;try simp only[Exit.then]
 go_wp2_with fail;go_meet;exact⟨_,_,_,_,D,D,D,D,A (λh=>.inr (.inr ⟨by omega,D,.inr (n h).1⟩)),A (by first|trivial|(intro _;exact⟨λh=>by omega,λh=>by omega⟩)|(intro _;exact⟨λ_=>⟨hs1,hs2⟩,λh=>by omega⟩)|(intro o;have:=HC.out;exact⟨λh=>by omega,λh=>by omega⟩)|(intro o;exact absurd o KY)|(intro _;exact⟨λh=>by omega,λ_=>by have aD:M=0:=(by simpa using hn0);omega⟩)|(intro _;exact⟨λh=>by omega,λ_=>by have aD:M=1:=(by simpa using hn1);omega⟩)|(intro o;exfalso;simp at o;omega)),bX⟩):p:=h
theorem Ob(h:p:=by go_wp2_with fail;have f6:=A (show aH (.mk c3 dt bX d5 d2 dz)<=aH (.mk e aP aM ba ar S) by rw[fy.out,oh];exact KD _);exact⟨⟨cW+1,bJ,(P.set z {y with parts:=y.parts.set a2 (fA 0 g (g.guards++[(.mk c3 dt bX d5 d2 dz)]))}),{y with parts:=y.parts.set a2 (fA 0 g (g.guards++[(.mk c3 dt bX d5 d2 dz)]))},aw,by omega,⟨_,_,D⟩,by go_num,A c9.1,A (xZ (kk:=0) b1 b7.1 aU f6 dc (by rw[fy.out];exact lu.Fj (b1.2.1 y (Kz b7.1)) b7.2.2.2 fk (uq (Kz dc)) ak.1 ak.2 (by rw[b7.2.2.1];exact fS) aU fK)),A ⟨by rw[KO,Kq D,Kq (KA.1 b7.1).1],by simp only[List.length_set];exact b7.2.1,(lZ aU (jK _ _ _)).trans b7.2.2.1,by simp only;rw[KO,JZ d6.out];exact b7.2.2.2⟩,A ⟨c9.2.1,dg.out⟩⟩,by simp[intOf];omega⟩):p:=h
theorem Oc(h:p:=by
 refine t1 16 λK j=>?_;go_simp;go_wp2_with (go_at_call 25;refine(jL bB.tb (bT _ bB.cd.bel).2.2.1 bR cY.guards (show(gU S (⟨m,bF,l,br,p,y,P,r⟩:jV)).2.length<=1000000 by have:=ce.out;have:=b9.2.1;omega)).mono ?_;rintro a7 bj ⟨c6,rfl,ch,dJ⟩);have k:=A (bB.call ch dJ);clear ch dJ;clear bB;have bB:=k;clear k;have f:=A (bw _ bB.b13);(refine j.out _ _ (λ_=>f) ?_;clear j K);refine tl 17 f ?_;refine t1 19 λK j=>?_;go_simp;obtain⟨cM,ci,cw,dm,dz,dK,bi,aP,dG,cC,d4,du,dH,aT,bV,c9⟩:=kY (bB.bx _ D).1;go_simp;have bK:=A (BM (bB.bx _ D).1 D (C E m) (C E bF) (JM l) (C E br) (G b6 (dU S p).1.length cJ) (C E (gU S (⟨m,bF,l,br,p,y,P,r⟩:jV)).1) (C E (iC S (⟨m,bF,l,br,p,y,P,r⟩:jV)).1) (G I 0 0));(refine j.out _ _ (λh=>absurd h Z) ?_;clear j K);refine td ?_;try simp only[Exit.then]
 have k:=A (bB.fin bK.2 bK.1);clear cM ci cw dm dz dK bi aP dG cC d4 du dH aT bV c9;go_wp2_with fail;go_meet;exact⟨_,_,_,_,D,k⟩):p:=h
theorem Oe(h:p:=by
 intro bx ae;have z:=A ae;clear ae al am ax aW T bi bM a5 a6 aq aZ aO be bI;go_wp2_with fail;refine(dj _ _ z.out.out.st _).mono ?_;rintro a7 cj ⟨aV,rfl,m,d⟩;have r:=A (z.more (bT.of_below z.out.out.st d));have cc:=A m;clear m d;rcases aV with _|_
 ·obtain⟨b0,aL,ao,b2,bu,R,bd,bO,bY,cd⟩:=r.out.out.st.cells;go_upto_region 35 with fail;refine aI (Φ:=oP w g t v toks S _ rest _ _ aa _) (r.inc bH) ?_;intro bV bc;have aH:=A bc;clear bc b0 aL ao b2 bu R bd bO bY cd;obtain⟨al,am,ax,aW,T,bi,bM,a5,a6,aq,aZ,aO,be,bI⟩:=aK aH.box;obtain⟨cp,cf,cb,c7,b9,cM,cm,cF,cz,cP,d1,dd,d9,dp⟩:=aK aH.res;go_wp2_with fail;refine post7 aH.res D λX az aE=>?_;refine Ku (au D D az Tryz.underlying139 D D) D ?_;exact iE aE aH.out.out c aH.ord.2.2 (iD.nil ⟨aA Z Z,bP,bP,q.2.2.2.2.2,by decide,by decide⟩) (pR.nil Z) (jc _)
 obtain⟨al,am,ax,aW,T,bi,bM,a5,a6,aq,aZ,aO,be,bI⟩:=aK r.box;go_upto_region 25 with fail;refine aI (Φ:=oP w g t v toks S _ rest _ _ aa #[C E 22,G I 0 0,C E 1,C E 0,H ⟨#[]⟩,H ⟨#[]⟩,C E aa.at_]) (r.jd (k:=2) (cells':=#[C E 22,G I 0 0,C E 1,C E 0,H ⟨#[]⟩,H ⟨#[]⟩,C E aa.at_]) (C E 1) D) ?_;intro bQ aF;have aG:=A aF;clear aF al am ax aW T bi bM a5 a6 aq aZ aO be bI;obtain⟨b0,aL,ao,b2,bu,R,bd,bO,bY,cd⟩:=aG.out.out.st.cells;go_upto_region 35 with fail;refine aI (Φ:=oP w g t v toks S _ rest _ _ aa _) (aG.inc bH) ?_;intro bX bg;have aM:=A bg;clear bg b0 aL ao b2 bu R bd bO bY cd;obtain⟨al,am,ax,aW,T,bi,bM,a5,a6,aq,aZ,aO,be,bI⟩:=aK aM.box;obtain⟨cp,cf,cb,c7,b9,cM,cm,cF,cz,cP,d1,dd,d9,dp⟩:=aK aM.res;go_wp2_with fail;refine post7 aM.res D λX az aE=>?_;refine Ku (au D D az Tryz.underlying139 D D) D ?_;exact iE aE aM.out.out c aM.ord.2.2 (iD.nil ⟨aA Z Z,aA Z Z,bP,q.2.2.2.2.2,by decide,by decide⟩) (pR.nil Z) (jc _)):p:=h
theorem Og(h:p:=by
 intro cX h;have bp:=A h;clear h;refine td ?_;try simp only[Exit.then]
 have ck:=A (ce.fin aB b7.1 b7.2.1 aU Z);rw[bp.out];obtain⟨bJ,ep,cs,bl⟩:=ck.out;refine aC (Φ:=λX=>uQ W p b c2 bE (G ai p.keys.length aA) (G (J ⟨aQ,0,I⟩) p.branches.length cy) aQ z bm b5 b8 (G (J ⟨aJ,0,I⟩) bm cd) (G (J ⟨bN,e',I⟩) bq.length ch) bq bJ X (P.set z {y with parts:=y.parts.set a2 (fA 1 g (g.closes++[(.mk e aP aM ba ar S)]))})/\bY bJ oQ b X (G cT aw.length bS) aw/\∀a4,a4≠a2*4+3->X.cell? ⟨aJ,a4,I⟩=bd.cell? ⟨aJ,a4,I⟩) ⟨ep,cs,bl⟩ ?_;intro e6 h;have c9:=A h;clear h ck ep cs bl;have dg:F (e6.cell? ⟨aJ,bb*4+2+a0,I⟩=J (G (J ⟨ff,fr,I⟩) (jJ a0 m).length fu)):=A ((c9.2.2 _ (by have:=d6.out;have:=dC.out;omega)).trans ((fN.cell (ay dK)).trans dK));go_wp2_with fail;exact⟨⟨cW+1,bJ,(P.set z {y with parts:=y.parts.set a2 (fA 1 g (g.closes++[(.mk e aP aM ba ar S)]))}),{y with parts:=y.parts.set a2 (fA 1 g (g.closes++[(.mk e aP aM ba ar S)]))},aw,by omega,⟨_,_,D⟩,by go_num,A c9.1,A (xZ (kk:=1) b1 b7.1 aU c dc (lu.adz (b1.2.1 y (Kz b7.1)) b7.2.2.2 fk (uq (Kz dc)) ak.1 ak.2 (by rw[b7.2.2.1];exact fS) aU fK)),A ⟨by rw[KO,Kq D,Kq (KA.1 b7.1).1],by simp only[List.length_set];exact b7.2.1,(lZ aU (jK _ _ _)).trans b7.2.2.1,by simp only;rw[KO,JZ d6.out];exact b7.2.2.2⟩,A ⟨c9.2.1,dg.out⟩⟩,by simp[intOf];omega⟩):p:=h
theorem Oh(h:p:=by
 have c0:(p.branches.length:Int)<=(z:Int):=by omega
 obtain⟨cp,cf,cb,cI,c1,bT⟩:=bf q.2.1.blk;obtain⟨al,am,ax,a5,a6,aq⟩:=bf q.1.blk;go_wp2_with fail;refine oK q.1.blk D λcr az aE=>?_;refine Ku (au D D az Tryz.underlying29 D D) D ?_;have bz:=oW.out dP f7;have c4:=qU.keep bz (Q':=λy=>W.heap.size<=y/\y < cr.heap.size) (aE.keep _ λy d=>by have:=b7.out;omega) λy d=>⟨by have:=b7.out;omega,by rw[aE.size];exact d.2⟩;exact⟨{p with branches:=P},_,D,c4,⟨dj.strategy,dj.keys,by show P.length<=4;rw[b1.1];exact dj.count,b1.2.1,Ko b1.2.2 dj.wt⟩,D,D,aE.below _ _ N q.2.2⟩):p:=h
theorem Oi(h:p:=by rintro a7 b1 ⟨ak,bj,ah,rfl,a1,p,V,ai⟩;have ab:=A (show FW w g t v toks S ah rest (λy=>an.heap.size<=y/\y < b1.heap.size) bj ak b1 from⟨dh.more ai,a1,λy d=>by have:=dh.gt;omega⟩);have cw:=A (Kt p V);clear a1 p V ai;obtain⟨ca,c8,bD,dc,cV,bW,aw⟩:=ak;obtain⟨dg,rfl,⟨Y,a9,rfl,-⟩,-⟩:=ab.ex.opened;obtain⟨cp,cf,cb,c7,b9,cM,cm,cF,cz,cP,d1,dd,d9,dp⟩:=aK ab.st.res;go_wp2_with fail;refine post7 ab.st.res D λX az aE=>?_;refine Ku (au D D az Tryz.underlying139 D D) D ?_;exact ab.fin aE cw.1 cw.2):p:=h
theorem Oj(h:p:=by intro en e6;have ck:=A e6;clear e6 dU al am ax aW T bi bM a5 a6 aq aZ aO be bI;obtain⟨al,am,ax,aW,T,bi,bM,a5,a6,aq,aZ,aO,be,bI⟩:=aK ck.1.box;obtain⟨cp,cf,cb,c7,b9,cM,cm,cI,c1,bT,cB,dm,dG,dH⟩:=aK (show aj en (w.heap.size+1) 150 #[C E 0,C E 0,G I 0 0,C E 0,C JL 0,C E 0,C E 0] from ck.1.res);go_wp2_with fail;refine post7 ck.1.res D λcr az aE=>?_;refine Ku (au D D az Tryz.underlying150 D D) D ?_;have ah:=ck.2.keep (λa4=>w.heap.size+2<=a4/\a4 < wr.heap.size) (λa4 bK=>by omega);have ay:=ck.2.size;have es:=da.size;exact FoP.fin ck.1.bel aE (dW.shut (aX.keep bB ((aF.of_below da λa4 bK=>bK.2).trans ah) (λa4 bK=>⟨bK.1,by omega⟩) λ_ _ h=>h.keep ((aF.of_below da λa4 bK=>bK.2).trans ah) λa4 bK=>⟨bK.1,by omega⟩) cY) (EN dN λa3 a aw o a8=>(n a3 a aw o a8).1) (by rw[dn,dn];have:=FM S ce dN λa3 a aw o a8=>(n a3 a aw o a8).2;omega)):p:=h
theorem Ol(h:p:=by rintro a7 du ⟨M,rfl,cH,bm,cK,dC⟩;have b:=A (Kt cH (Kt bm (Kt cK dC)));have e:=A (q.2.below dC q.2.lt);clear cH bm cK dC;obtain⟨cp,cf,cI,c1⟩:=bH (show aj du w.heap.size 202 #[C E 0,C JL 0] from e);go_wp2_with fail;refine iJ e D λX az aE=>?_;refine Ku (au D D az Tryz.underlying202 D D) D ?_;exact ep M du du X b.1 b.2.1 b.2.2.1 b.2.2.2 e aE):p:=h
theorem Om(h:p:=by
 clear b;rcases hn0:(M== 0) with _|_;all_goals rcases hn1:(M== 1) with _|_
 all_goals rcases W:(bQ== 0) with _|_
 all_goals go_wp2_with fail
 all_goals(go_meet;exact⟨_,_,_,_,D,D,D,D,A (λh=>.inr (.inr ⟨by decide,D,.inl Z⟩)),A (by first|trivial|(intro _;exact⟨λh=>by omega,λh=>by omega⟩)|(intro _;exact⟨λ_=>⟨hs1,hs2⟩,λh=>by omega⟩)|(intro o;have:=HC.out;exact⟨λh=>by omega,λh=>by omega⟩)|(intro o;exact absurd o KY)|(intro _;exact⟨λh=>by omega,λ_=>by have aD:M=0:=(by simpa using hn0);omega⟩)|(intro _;exact⟨λh=>by omega,λ_=>by have aD:M=1:=(by simpa using hn1);omega⟩)|(intro o;exfalso;simp at o;omega)),bx⟩)):p:=h
theorem Oo(h:p:=by clear b;go_wp2_with fail;go_ret;exact⟨_,D,by have cI:(⟨#[39]⟩:ByteArray).size=1:=D;have c1:(⟨#[46]⟩:ByteArray).size=1:=D;have bT:(⟨#[67,79,85,78,84,40]⟩:ByteArray).size=6:=D;have cB:(⟨#[41]⟩:ByteArray).size=1:=D;have dm:(⟨#[40]⟩:ByteArray).size=1:=D;simp only[ByteArray.size_append];omega,aC.out⟩):p:=h
theorem Oq(h:p:=by go_wp2_with fail;go_meet;exact⟨_,D,A (λh=>nomatch h),D⟩):p:=h
theorem Ot(h:p:=by have dA:=A ay;clear c9 ay;go_wp2_with fail;go_meet;exact⟨_,_,_,_,D,D,D,D,A (λh=>.inr (.inr ⟨by decide,D,.inr (dA h).1⟩)),A (by first|trivial|(intro _;exact⟨λh=>by omega,λh=>by omega⟩)|(intro _;exact⟨λ_=>⟨hs1,hs2⟩,λh=>by omega⟩)|(intro o;have:=HC.out;exact⟨λh=>by omega,λh=>by omega⟩)|(intro o;exact absurd o KY)|(intro _;exact⟨λh=>by omega,λ_=>by have aD:M=0:=(by simpa using hn0);omega⟩)|(intro _;exact⟨λh=>by omega,λ_=>by have aD:M=1:=(by simpa using hn1);omega⟩)|(intro o;exfalso;simp at o;omega)),bb⟩):p:=h
theorem Ou(h:p:=by
 refine td ?_;try simp only[Exit.then]
 go_wp2_with fail;go_meet;exact⟨_,D,A (by have cI:(⟨#[32,83,84,82,65,84,69,71,89,32]⟩:ByteArray).size=10:=D;have c1:(⟨#[32,87,73,84,72,73,78,32]⟩:ByteArray).size=8:=D;simp only[ByteArray.size_append];omega),A (b7.more c4)⟩):p:=h
theorem Ov(h:p:=by go_wp2_with fail;all_goals(go_ret;exact⟨_,D,D⟩)):p:=h
theorem Ox(h:p:=by
 intro cd h;have bX:=A h;have f:=A (bw _ h.1);clear h;refine td ?_;try simp only[Exit.then]
 go_wp2_with fail;go_meet;exact⟨_,_,_,_,D,D,dJ,bX⟩):p:=h
theorem Oy(h:p:=by
 go_simp;obtain⟨cM,ci,cw,cQ,cJ,db⟩:=bf s.2.1;go_simp;have cm:=A (ab7 s.2.1 D (C E p.strategy) (G dq p.keys.length v) (G I 0 0));have d3:=A (cm.2.below _ _ dE s.1);(refine j.out _ _ (λ_=>bw _ d3) ?_;clear j K);clear cM ci cw cQ cJ db;refine td ?_;try simp only[Exit.then]
 go_wp2_with fail;go_meet;exact⟨c2,dq,v,D,A ⟨d3,cm.1,aX.keep s.2.2 (cm.2.keep _ λb d=>d.2.2) (λb d=>⟨d.1,by rw[cm.2.size];exact d.2.1,d.2.2⟩) λ_ _ h=>h,dE.out⟩⟩):p:=h
theorem Oz(h:p:=by have h:=h.alloc (JO #[C E (-1),C E 0,JM many,C E 0,G I 0 0,C E (-1),C E 0,G I 0 0] 91);rw[<-c4] at h;have h:=h.alloc (JO #[C E 1,C E 0,G (J ⟨w.heap.size+1,0,I⟩) 1 1,G I 0 0,G (J ⟨w.heap.size+1+1,0,I⟩) 2 2] 55);rw[<-de] at h;exact h):p:=h
theorem OA(h:p:=by
 obtain⟨d3,ag⟩:=h.st;have bm:∀j,j < B->J j≠v.ownBlock:=λj bK a7=>by have:=af j a7.symm;omega
 refine⟨⟨k.grown.os.trans h.grown.os,k.grown.tape.trans h.grown.tape,k.grown.output.trans h.grown.output,Ko h.grown.size k.grown.size,λj o a8=>(k.grown.block j (Kv o h.grown.size) (bm j N)).trans (h.grown.block j o a8)⟩,h.gw,h.box.grown k.grown (bm _ bW),⟨d3,?_⟩,h.low⟩;exact ag.app k (λy d=>Nat.lt_trans (h.low y d) bW) (Nat.lt_trans h.gw bW) af):p:=h
theorem OD(h:p:=by
 go_simp;(refine j.out _ _ (λh=>absurd h Z) ?_;clear j K);clear aa cq cT cg q dt dw cQ cJ db dr da P de;refine td ?_;try simp only[Exit.then]
 have eT:=A (jQ dR D (C E e) (C E a0) (G I 0 0) (C E 0) (C JL 0) (C E 0) (C E 0));go_wp2_with fail;go_meet;refine⟨_,a0,dM,D,aJ,eX,A ?_⟩;have bt:=ae.out.blk.lt;have e0:=aV.2.2.2;have eI:=bs.out;have ay:=dI.size;exact qx.start aM.1 bt aM.2.1 aM.2.2.2 aM.2.2.1 dh eT.1 eT.2 N):p:=h
theorem OE(h:p:=by (intro aF k;go_simp;try with_reducible rfl)):p:=h
theorem OG(h:p:=by
 go_wp2_with fail;all_goals
  first
  |(go_ret2;exact⟨_,_,D,MC _,Ky _ _⟩)
  |(refine(cB _ _ (MC _)).mono ?_
    rintro a7 b1 ⟨b9,rfl,-,d⟩
    go_wp2_with fail
    go_ret2
    exact⟨_,_,D,MC _,d⟩)):p:=h
theorem OH(h:p:=by
 obtain⟨i,c8,rfl,rfl,rfl⟩:=hcut;clear al am a5 a6;obtain⟨al,am,a5,a6⟩:=bH (show aj an w.heap.size 202 #[C E 0,C JL 0] from aV.2);rcases c8 with _|_
 ·go_wp2_with fail;refine iJ aV.2 D λX az aE=>?_;refine Ku (au D D az Tryz.underlying202 D D) D ?_;exact co X aE
 go_wp2_with fail;refine iJ aV.2 D λX az aE=>?_;refine Ku (au D D az Tryz.underlying202 D D) D ?_;exact ck _ X aE):p:=h
theorem OJ(h:p:=by go_wp2_with fail;go_ret;exact⟨by rw[ci.out];rfl,aC.out⟩):p:=h
theorem OM(h:p:=by (intro aF k;obtain⟨W,d0,cR⟩:=k;go_simp;(try rw[JZ N]);try with_reducible rfl)):p:=h
theorem OO(h:p:=by
 go_wp2_with fail;refine(aQ _ _ bg.1.st _).mono ?_;rintro a7 da ⟨rfl,ak,bx⟩;have aA:=A (Kt (bg.1.out bg.1.box.lt bm bx) (bg.2.trans (qw.aS bx.grown)));clear bx;go_wp2_with fail;go_roundw;case rel=>
  first
  |exact cN _ _ _ _ aA.1 aA.2
  |((repeat apply KL);exact⟨cN _ _ _ _ aA.1 aA.2,D⟩)
 simp[intOf];omega):p:=h
theorem OQ(h:p:=by as_aux_lemma=>go_wp2_with fail;go_meet;exact⟨_,D,A (λ_=>a'),A JY⟩):p:=h
theorem OT(h:p:=by go_wp2_with fail;go_ret;exact⟨by first|rfl|(rw[a7.out];rfl),cY.out⟩):p:=h
theorem OU(h:p:=by rcases m with _|_;all_goals(go_wp2_with fail;refine(cB _ _).mono ?_;rintro a7 da ⟨rfl,bj⟩;have bL:=A (bb.more bj);obtain⟨cp,cf,cI,c1⟩:=bH (show aj da (w.heap.size+2) 202 #[C E 0,C JL 0] from bL.res);clear bj;go_wp2_with fail;refine iJ bL.res D λX az aE=>?_;refine Ku (au D D az Tryz.underlying202 D D) D ?_;exact n _ _ _ bL.bel aE)):p:=h
theorem OW(h:p:=by go_wp2_with fail;go_meet;exact⟨_,D,A (λh=>absurd h KY),A ⟨aC,cZ.out⟩⟩):p:=h
theorem OX(h:p:=by have a':=run_loadVar_row (P:=P) w g t ty cs (0,0) d ab ap j aR;simp only[Array.getD_eq_getD_getElem?] at ai;simp[results,h,ai,asAddr,Sem.run_bind,Sem.run_pure,a']):p:=h
theorem OY(h:p:=by exact⟨⟨a4+1,false,true,by omega,D,D,by go_num,A (sN bj bV (λ_=>rfl) λh=>by cases h),A ⟨e0,dR.trans (bp.1.mono dR.size)⟩⟩,by simp[intOf];omega⟩):p:=h
theorem Pg(h:p:=by
 go_wp2_with fail
 ·go_ret2;exact⟨_,_,D,aA Z Z,Ky _ _⟩
 go_roundw;case rel=>
  first
  |exact⟨_,z+1,D,eH.1 (kR _),by go_num,by omega,by first|rfl|trivial⟩
  |((repeat apply KL);exact⟨⟨_,z+1,D,eH.1 (kR _),by go_num,by omega,by first|rfl|trivial⟩,D⟩)
 simp[intOf];omega):p:=h
theorem Ph(h:p:=by go_wp2_with fail;refine pJ cj D λX az aE=>?_;refine Ku (results_cell_tmp D D az Tryz.underlying123 D D) D ?_;exact tC (KI du) (aE.below _ _ c x)):p:=h
theorem Pj(h:p:=by (refine(cB _ _).mono ?_;rintro a7 da ⟨rfl,bj⟩;have bL:=A (bb.more bj);obtain⟨cp,cf,cI,c1⟩:=bH (show aj da (w.heap.size+2) 202 #[C E 0,C JL 0] from bL.res);clear bj;go_wp2_with fail;refine iJ bL.res D λX az aE=>?_;refine Ku (au D D az Tryz.underlying202 D D) D ?_;exact n _ _ _ bL.bel aE)):p:=h
theorem Pm(h:p:=by
 refine MO U U ?_;repeat (any_goals(first|go_big_quiet_step (fail)|quiet_step (fail)|(refine MP (λK j=>?_);go_simp;split <;> (refine j _ ?_;clear j K))))
 all_goals(refine MQ ?_;intro _ ab;obtain⟨nq,b4⟩:=ab;subst b4)
 all_goals go_wp2_with fail
 all_goals(go_meet;exact⟨_,_,D,D⟩)):p:=h
theorem Pn(h:p:=by go_in;go_wp2_with fail;exact Ku (v:=.agg #[C E 0,C JL 0]) (by simp[results,Tryz.results112,go_sem]) D ⟨by rw[a7.out.1,a7.out.2],W.out _ _⟩):p:=h
theorem Po(h:p:=by go_in;go_wp2_with fail;exact Ku (v:=.agg #[C E 0,C JL 0]) (by simp[results,Tryz.results56,go_sem]) D ⟨by rw[a7.out.1,a7.out.2],W.out _ _⟩):p:=h
theorem Pq(h:p:=by go_in;go_wp2_with fail;exact Ku (v:=.agg #[C E a0,C JL y]) (by simp[results,Tryz.results112,go_sem]) D ⟨by rw[a7.out.1,a7.out.2],W.out _ _⟩):p:=h
theorem Pv(h:p:=by go_in;go_wp2_with fail;exact Ku (v:=.agg #[C E a0,C JL y]) (by simp[results,Tryz.results56,go_sem]) D ⟨by rw[a7.out.1,a7.out.2],W.out _ _⟩):p:=h
theorem Px(h:p:=by
 obtain⟨cl,ch,rfl⟩:=aB i;refine h cl ch b1 ?_ ⟨?_,λa0 ah=>(bA a0 ah).2⟩
 ·exact Acc.afv f cN j cq a' (f _ _ _ _ _ _ ad (aF.of_below (JY.alloc c _) λb a1=>a1.2) λb a1=>⟨a1.1,by rw[KE];omega⟩) i ab c8
 exact(aT ((Ky w2.heap.size w2).alloc c _) _).trans ab):p:=h
theorem Py(h:p:=by refine⟨_,D,⟨Y,a9,D,aw,bL,λbw=>?_⟩,bN⟩;obtain⟨y,b5,o,a8,ac⟩:=ag bw;refine⟨y,b5,o,a8,λa3 aa ad=>?_⟩;have aR:=(KA.1 ad).1;obtain⟨cs,cM⟩:∃cs,cA[a3]? =J cs:=⟨_,Kr N⟩;exact⟨cs,(aS a3 cs aa cM ad).len,aS a3 cs aa cM ad,ac a3 cs cM⟩):p:=h
theorem Pz(h:p:=by go_wp2_with (go_at_call 49;refine gc.mono ?_;rintro a7 r ⟨d2,rfl,d⟩;have h0:=(d.cell (ay ax)).trans ax;have h1:=(d.cell (ay ez)).trans ez;have h2:=(d.cell (ay eA)).trans eA);all_goals(go_meet;exact⟨_,D,A (λ_=>a'),A (by first|exact Ky _ _|assumption)⟩)):p:=h
theorem PD(h:p:=by go_wp2_with fail;exact⟨⟨a0+1,d1,_,{y with parts:=y.parts.set bb (fA a0 m aw)},by omega,by go_num,ga,gh,A ⟨by rw[KO,Kq D,Kq (KA.1 b7.1).1],by simp only[List.length_set];exact b7.2.1,(lZ b7.2.2.2 (jK _ _ _)).trans b7.2.2.1⟩⟩,by simp[intOf];omega⟩):p:=h
theorem PE(h:p:=by go_wp2_with fail;go_meet;exact⟨_,D,A (λh=>by cases h),D⟩):p:=h
theorem PG(h:p:=by
 have c6:=A cq;clear cB ch cq cp cf cb c7 b9 cM cm k b0 aL ao b2 bu aJ bV aK;cases au
 ·go_wp2_with fail;go_meet;exact⟨by rw[ca.out];rfl,c6.out⟩
 go_wp2_with fail;go_meet;exact⟨by rw[ca.out];rfl,c6.out⟩):p:=h
theorem PI(h:p:=by rintro a7 ce ⟨u,rfl,ap,rfl⟩;have dv:=A ap;clear ap;go_wp2_with fail;refine iJ aV.2 D λX az aE=>?_;refine Ku (au D D az Tryz.underlying202 D D) D ?_;exact yO.of (x:=⟨4,u⟩) aV.out.1 aE c (vb4 dv.out.2) (aA (a:=4) Z Z) dv.out.1):p:=h
theorem PK(h:p:=by
 clear cp cf cb c7 b9 cM cm cI c1 bT cB dm dG dH;refine td ?_;try simp only[Exit.then]
 go_wp2_with fail;refine post7 c9.res D λcr az aE=>?_;refine Ku (au D D az Tryz.underlying150 D D) D ?_;exact ex M _ cr b.1 b.2.1 b.2.2 dd aE):p:=h
theorem PL(h:p:=by
 obtain⟨cs,cM,ap⟩:=List.mem_flatten.1 ap;obtain⟨a4,bK,rfl⟩:=MW cM;have g:a4 < xs.length:=by rw[<-aH.1];exact bK
 obtain⟨au,cC,d4,du⟩:=aH.2 a4 _ (Kr g);rw[Kr bK] at cC;injection cC with cC;exact o _ _ _ du u (cC▸ap)):p:=h
theorem PN(h:p:=by go_in;go_wp2_with fail;go_ret;refine⟨_,D,?_,b.out _ _⟩;have aD:=bK.out (JO #[C E T.strategy,vk,ar,C E T.syms,C E T.runs,C E T.cells,G (J ⟨y,b5,I⟩) T.states.length a9,aY] 44);rw[KE] at aD;exact aD):p:=h
theorem PO(h:p:=by
 rcases c8 with ac|ac
 ·rw[ac];exact o
 rw[ac];intro e;injection e with e;omega):p:=h
theorem PS(h:p:=by obtain⟨b,off,a9,af,o,a8,aR,bj,a',⟨rfl,bN⟩,aw⟩:=h.get ad;exact⟨b,off,a9,af,o,a8,aw 0 _ D,aw 1 _ D,bN⟩):p:=h
theorem PU(h:p:=by
 go_wp2_with fail;go_roundw;case rel=>first|exact⟨z+1,by omega,by go_num,by first|rfl|trivial⟩|((repeat apply KL);exact⟨⟨z+1,by omega,by go_num,by first|rfl|trivial⟩,D⟩)
 simp[intOf];omega):p:=h
theorem PV(h:p:=by
 go_upto_region 4 with fail;go_quiet (fail);go_wp2_with fail
 ·go_quiet (fail);go_wp2_with fail;all_goals(go_ret;exact⟨_,D,below_drewN bx.1 _⟩)
 all_goals(go_ret;exact⟨_,D,below_drewN bx.1 _⟩)):p:=h
theorem PW(h:p:=by go_wp2_with fail;go_ret;exact⟨nM a7.out.symm,c6.out⟩):p:=h
theorem PX(h:p:=by
 have g:∀b,w.heap.size<=b->J b≠v.ownBlock:=λb cq e=>by have:=i b e.symm;omega
 exact f _ _ _ _ _ _ ad (aF.aS ab λb a1=>g b a1.1) λb a1=>⟨Ko j a1.1,Kv a1.2 ab.size,bm b (g b a1.1) a1.2⟩):p:=h
theorem Qa(h:p:=by go_wp2_with fail;all_goals(go_ret2;exact⟨_,_,D,D⟩)):p:=h
theorem Qb(h:p:=by go_wp2_with fail;refine post7 (b7.more da).res D λcr az aE=>?_;refine Ku (au D D az Tryz.underlying150 D D) D ?_;exact ed 0 _ _ _ _ cr b8 (xE cv (kJ.refl _)) (KI (jy cv)) cz da aE):p:=h
theorem Qc(h:p:=by subst b1;obtain⟨o,a8,ac,b6⟩:=h.pl.kU.parts d h.Dp;obtain⟨P,a9,cR,aY,b3,bh,ca,dc,cY,S,dw,dU,cA,b4,f,i,cV,cq,cL⟩:=o.at a1;exact⟨P,a9,cR,aY,b3,bh,ca,dc,cY,S,dw,dU,cA,b4,f,i,cL,a8⟩):p:=h
theorem Qd(h:p:=by exact((bX.1.bel.grown bC.out.out.grown (KI dA) λa4 bK=>by injection bK with bK;omega).grown e.grown (KI bC.out.out.st.blk.lt) λa4 bK=>KI (e.ge a4 bK)).setCell (p:=⟨g,5,I⟩) c _):p:=h
theorem Qe(h:p:=by
 have h:(l.map f).sum=((l.take i).map f).sum+((l.drop i).map f).sum:=by rw[<-LD,<-KX,Nq]
 omega):p:=h
theorem Qg(h:p:=by
 go_wp2_with fail;go_roundw;case rel=>first|exact⟨m+1,_,by omega,by go_num,cc,bz⟩|((repeat apply KL);exact⟨⟨m+1,_,by omega,by go_num,cc,bz⟩,D⟩)
 simp[intOf];omega):p:=h
theorem Qh(h:p:=by clear ab;go_in;go_upto_region 1 with fail;rw[<-bx];clear bx;go_wp2_with fail;go_ret;exact⟨dL a7.out.symm,aT bC _,S,bw.next,λh=>by rw[a7.out] at h;cases h⟩):p:=h
theorem Qi(h:p:=by obtain⟨b,off,a9,af,o,a8,aR,bj,a',⟨vi,aY,aM,rfl,ag,c7,ap,bN⟩,aw⟩:=h.get ad;exact⟨b,off,a9,vi,aY,aM,af,o,a8,aw 0 _ D,aw 1 _ D,aw 2 _ D,aw 3 _ D,aw 4 _ D,ag,c7,ap,bN⟩):p:=h
theorem Qj(h:p:=by have a7:F (X=false):=A (by rw[<-au.out];exact BU bc dr);clear dx;go_wp2_with fail;go_ret;exact⟨dL a7.out.symm,bQ,λh=>by rw[a7.out] at h;cases h⟩):p:=h
theorem Qk(h:p:=by obtain⟨dg,rfl,⟨Y,a0,rfl,-⟩,bN⟩:=h.opened;intro u ap;simp only[List.mem_cons,List.not_mem_nil,or_false] at ap;rcases ap with rfl|rfl|rfl|rfl|rfl|rfl|rfl <;> rfl):p:=h
theorem Ql(h:p:=by (intro aF k;obtain⟨W,d0,cR,c4⟩:=k;go_simp;unfold eqV at b3;by_cases bD:x.kind=(oN bl).kind <;> by_cases bs:x.bits=(oN bl).bits <;> simp[bD,bs] at b3 <;> simp[bD,bs])):p:=h
theorem Qm(h:p:=by go_wp2_with fail;all_goals(go_meet;exact⟨_,D,A bp.1⟩)):p:=h
theorem Qn(h:p:=by
 intro cd h;have bX:=A h;have f:=A (bw _ h.1);clear h;refine td ?_;try simp only[Exit.then]
 go_wp2_with fail;go_meet;exact⟨_,_,D,D,bX⟩):p:=h
theorem Qo(h:p:=by go_wp2_with fail;go_meet;exact⟨by rw[a7];rfl,Ky _ _⟩):p:=h
theorem Qp(h:p:=by go_wp2_with fail;all_goals(go_meet;exact⟨_,_,D,D,D⟩)):p:=h
theorem Qq(h:p:=by go_wp2_with fail;go_meet;exact⟨_,D,A (by have cI:(⟨#[32,65,78,68,32]⟩:ByteArray).size=5:=D;simp only[ByteArray.size_append];omega),A (ci _ _ D)⟩):p:=h
theorem Qr(h:p:=by exact⟨⟨a4+1,fh,false,by omega,D,by go_num,A ⟨AU bj.1 bV co fW (λh=>by cases h),fv.out⟩,A (c9.1.more (below_drewN JY _))⟩,by simp[intOf];omega⟩):p:=h
theorem Qs(h:p:=by go_wp2_with fail;all_goals(go_meet;exact⟨_,D,D⟩)):p:=h
theorem Qu(h:p:=by rintro a7 b1 ⟨b9,rfl,c7,c9⟩;have bb:=A (aC.trans (c9.mono aC.size));clear c9;go_wp2_with fail;all_goals(go_ret;exact⟨_,D,by omega,bb.out⟩)):p:=h
theorem Qv(h:p:=by have a7:=A a7;go_wp2_with fail;go_meet;exact⟨by rw[a7.out];rfl,D⟩):p:=h
theorem Qw(h:p:=by go_wp2_with fail;go_meet;exact⟨true,D,A (λh=>by cases h),A JY⟩):p:=h
theorem Qx(h:p:=by go_wp2_with fail;go_ret;exact⟨by first|rfl|(rw[a7.out];rfl),az.out⟩):p:=h
theorem Qy(h:p:=by clear h;go_in;go_wp2_with fail;go_upto_region 10 with fail;go_quiet (fail);go_wp2_with fail;go_ret;exact⟨_,D,dt,below_drewN JY _⟩):p:=h
theorem Qz(h:p:=by exact⟨⟨a4+1,dn+1,false,by omega,by go_num,D,by go_num,A (by have:=eu.out;omega),A (xg bj bV λh=>by cases h),e0⟩,by simp[intOf];omega⟩):p:=h
theorem QC(h:p:=by go_wp2_with fail;all_goals(go_ret;exact cN _ _ s D)):p:=h
theorem QD(h:p:=by go_in;go_wp2_with fail;refine bU.mono ?_;rintro a7 aC ⟨rfl,rfl⟩;go_wp2_with fail;go_ret;exact⟨_,D,dh _ N N N,D⟩):p:=h
theorem QE(h:p:=by go_wp2_with fail;all_goals(refine iJ bb.res D λX az aE=>?_;refine Ku (au D D az Tryz.underlying202 D D) D ?_;exact cA _ _ bb.bel aE)):p:=h
theorem QG(h:p:=by have a7:=A a7;clear d8 cN cB;go_wp2_with fail;go_ret;exact⟨by first|rfl|(rw[a7.out];rfl),b.trans ((cZ _).mono N)⟩):p:=h
theorem QI(h:p:=by
 have dD:(bm:Int)<=(a0:Int):=by omega
 go_wp2_with fail;exact⟨⟨z+1,k,P,by omega,by go_num,dP,b1,A q.1⟩,by simp[intOf];omega⟩):p:=h
theorem QJ(h:p:=by obtain⟨b,off,a9,af,o,a8,aR,bj,a',⟨cn,rfl,ag,bN⟩,aw⟩:=h.get ad;exact⟨b,off,a9,cn,af,o,a8,aw 0 _ D,aw 1 _ D,aw 2 _ D,ag,bN⟩):p:=h
theorem QK(h:p:=by obtain⟨b,off,a9,af,o,a8,aR,bj,a',⟨u,rfl,ag⟩,aw⟩:=h.get ad;exact⟨b,off,a9,u,af,o,a8,by have:=aw 0 _ D;simpa using this,ag⟩):p:=h
theorem QL(h:p:=by simp only[List.map_cons,List.map_nil,List.sum_cons,List.sum_nil];omega):p:=h
theorem QM(h:p:=by obtain⟨b,off,a9,af,o,a8,aR,bj,a',⟨rfl,bN⟩,aw⟩:=h.get ad;exact⟨b,off,a9,af,o,a8,aw 0 _ D,aw 1 _ D,aw 2 _ D,aw 3 _ D,bN⟩):p:=h
theorem QN(h:p:=by injection o with _ a8;injection a8 with ac _;exact ac.symm):p:=h
theorem QO(h:p:=by go_wp2_with fail;all_goals(go_meet;exact⟨_,D,A (λ_=>bx),D⟩)):p:=h
theorem QT(h:p:=by go_wp2_with fail;go_ret;exact⟨_,D,λh=>(by cases h),Ky _ _⟩):p:=h
theorem QU(h:p:=by have aD:J (Value.slice ad d8.length cQ)=J dy:=congrArg (λbP:List O=>bP[2]?) dL;injection aD with aD;exact aD.symm):p:=h
theorem QV(h:p:=by
 rintro(((h|h)|h)|h)
 ·exact .inl (.inr h)
 ·exact .inl (.inl (.inr h))
 ·exact .inl (.inl (.inl h))
 exact .inr h):p:=h
theorem QW(h:p:=by exact⟨⟨z+1,by omega,by go_num,cw,c4⟩,by simp[intOf];omega⟩):p:=h
theorem QX(h:p:=by exact A (show ∀X,aj X ae 207 #[C E 0,C E 0,(G dY a0.ins.length ch),(G c7 a0.cons.length c6),(G di a0.list.length bB),C E (a0.up z).most]->aj X B.heap.size 150 #[C E e,C E aP,G Y S.length a9,C E aM.kind,C JL aM.bits,C E ba,C E ar]->X.cell? ⟨ae,2,I⟩=J (G dY a0.ins.length ch)/\X.cell? ⟨ae,3,I⟩=J (G c7 a0.cons.length c6)/\X.cell? ⟨ae,4,I⟩=J (G di a0.list.length bB)/\X.cell? ⟨B.heap.size,0,I⟩=J (C E e)/\X.cell? ⟨B.heap.size,1,I⟩=J (C E aP)/\X.cell? ⟨B.heap.size,3,I⟩=J (C E aM.kind)/\X.cell? ⟨B.heap.size,4,I⟩=J (C JL aM.bits)/\X.cell? ⟨B.heap.size,5,I⟩=J (C E ba)/\X.cell? ⟨B.heap.size,6,I⟩=J (C E ar) from λX o a8=>⟨o.cell 2,o.cell 3,o.cell 4,a8.cell 0,a8.cell 1,a8.cell 3,a8.cell 4,a8.cell 5,a8.cell 6⟩)):p:=h
theorem QY(h:p:=by exact A (show JK w.heap.size w an by rw[bk];exact JY.alloc c _)):p:=h
theorem QZ(h:p:=by exact aj.new (W.alloc (JO #[C E p.strategy,G dk p.keys.length dl,G cg p.branches.length cV] 29)) 29 #[C E 0,G I 0 0,G I 0 0]):p:=h
theorem Rf(h:p:=by exact A (show cj.cell? ⟨aJ,cc*4+2,I⟩=J (G bR m.guards.length cl)/\cj.cell? ⟨W.heap.size,0,I⟩=J (C E e)/\cj.cell? ⟨W.heap.size,1,I⟩=J (G Y b8.length a9)/\cj.cell? ⟨W.heap.size,2,I⟩=J (C E M)/\cj.cell? ⟨W.heap.size,3,I⟩=J (C E bQ)/\cj.cell? ⟨W.heap.size,4,I⟩=J (H bq)/\cj.cell? ⟨W.heap.size,5,I⟩=J (H bF)/\cj.cell? ⟨W.heap.size,6,I⟩=J (C E ar)/\cj.cell? ⟨bt.heap.size,0,I⟩=J (H aV) from⟨b7.rW,(b.fm.get 1 D).cell 0,(b.fm.get 1 D).cell 1,(b.fm.get 1 D).cell 2,(b.fm.get 1 D).cell 3,(b.fm.get 1 D).cell 4,(b.fm.get 1 D).cell 5,(b.fm.get 1 D).cell 6,(b.fm.get 0 D).cell 0⟩)):p:=h
theorem Rh(h:p:=by exact A (show cj.cell? ⟨aJ,cc*4+3,I⟩=J (G bR m.closes.length cl)/\cj.cell? ⟨W.heap.size,0,I⟩=J (C E e)/\cj.cell? ⟨W.heap.size,1,I⟩=J (G Y b8.length a9)/\cj.cell? ⟨W.heap.size,2,I⟩=J (C E M)/\cj.cell? ⟨W.heap.size,3,I⟩=J (C E bQ)/\cj.cell? ⟨W.heap.size,4,I⟩=J (H bq)/\cj.cell? ⟨W.heap.size,5,I⟩=J (H bF)/\cj.cell? ⟨W.heap.size,6,I⟩=J (C E ar) from⟨b7.rW,(b.fm.get 0 D).cell 0,(b.fm.get 0 D).cell 1,(b.fm.get 0 D).cell 2,(b.fm.get 0 D).cell 3,(b.fm.get 0 D).cell 4,(b.fm.get 0 D).cell 5,(b.fm.get 0 D).cell 6⟩)):p:=h
theorem Ri(h:p:=by exact A (show cj.cell? ⟨aJ,2,I⟩=J (G bR m.guards.length cl)/\cj.cell? ⟨W.heap.size,0,I⟩=J (C E e)/\cj.cell? ⟨W.heap.size,1,I⟩=J (G Y b8.length a9)/\cj.cell? ⟨W.heap.size,2,I⟩=J (C E M)/\cj.cell? ⟨W.heap.size,3,I⟩=J (C E bQ)/\cj.cell? ⟨W.heap.size,4,I⟩=J (H bq)/\cj.cell? ⟨W.heap.size,5,I⟩=J (H bF)/\cj.cell? ⟨W.heap.size,6,I⟩=J (C E ar) from⟨b7.rW,(b.fm.get 0 D).cell 0,(b.fm.get 0 D).cell 1,(b.fm.get 0 D).cell 2,(b.fm.get 0 D).cell 3,(b.fm.get 0 D).cell 4,(b.fm.get 0 D).cell 5,(b.fm.get 0 D).cell 6⟩)):p:=h
theorem Rj(h:p:=by exact A (show oW k b R (G ai p.keys.length aA) (G (J ⟨aQ,0,I⟩) p.branches.length cy) {p with branches:=P}/\(bV b k R (W.heap.size+1) 29 #[C E 0,G I 0 0,G I 0 0]/\bV b k R c2 29 #[C E p.strategy,(G ai p.keys.length aA),(G (J ⟨aQ,0,I⟩) p.branches.length cy)]/\JK W.heap.size W R)/\bV b k R bE 72 #[C E b5,C E b8,G (J ⟨aJ,0,I⟩) bm cd] from⟨dP.bG g (λ_ _=>trivial) λae ab=>dP.fresh ae (Ko M ab),⟨q.1.1.bG g λ_=>trivial,q.1.2.1.bG g λ_=>trivial,q.1.2.2.trans (g.bel.mono d8)⟩,q.2.bG g λ_=>trivial⟩)):p:=h
theorem Rk(h:p:=by exact A (show oW cY b r (G ai p.keys.length aA) (G (J ⟨aQ,0,I⟩) p.branches.length cy) {p with branches:=P}/\(bV b cY r (W.heap.size+1) 29 #[C E 0,G I 0 0,G I 0 0]/\bV b cY r c2 29 #[C E p.strategy,(G ai p.keys.length aA),(G (J ⟨aQ,0,I⟩) p.branches.length cy)]/\JK W.heap.size W r)/\bV b cY r bE 72 #[C E b5,C E b8,G (J ⟨aJ,0,I⟩) bm cd] from⟨bq.1.bG ag (λ_ _=>trivial) aH,⟨bq.2.1.1.bG ag λ_=>trivial,bq.2.1.2.1.bG ag λ_=>trivial,bq.2.1.2.2.trans (ag.bel.mono d8)⟩,bq.2.2.bG ag λ_=>trivial⟩)):p:=h
theorem Rl(h:p:=by exact A (show r.cell? ⟨aJ,a2*4+2,I⟩=J (G bu g.guards.length bP)/\r.cell? ⟨B,0,I⟩=J (C E e)/\r.cell? ⟨B,1,I⟩=J (C E aP)/\r.cell? ⟨B,2,I⟩=J (G cE S.length cP)/\r.cell? ⟨B,3,I⟩=J (C E aM.kind)/\r.cell? ⟨B,4,I⟩=J (C JL aM.bits)/\r.cell? ⟨B,5,I⟩=J (C E ba)/\r.cell? ⟨B,6,I⟩=J (C E ar) from⟨e3.rW,e3.fQ.blk.cell 0,e3.fQ.blk.cell 1,e3.fQ.blk.cell 2,e3.fQ.blk.cell 3,e3.fQ.blk.cell 4,e3.fQ.blk.cell 5,e3.fQ.blk.cell 6⟩)):p:=h
theorem Rn(h:p:=by exact A (show av.cell? ⟨aJ,a2*4+2,I⟩=J (G bu g.guards.length bP)/\av.cell? ⟨B,0,I⟩=J (C E e)/\av.cell? ⟨B,1,I⟩=J (C E aP)/\av.cell? ⟨B,2,I⟩=J (G cE S.length cP)/\av.cell? ⟨B,3,I⟩=J (C E aM.kind)/\av.cell? ⟨B,4,I⟩=J (C JL aM.bits)/\av.cell? ⟨B,5,I⟩=J (C E ba)/\av.cell? ⟨B,6,I⟩=J (C E ar) from⟨bU.1,bU.2.2.1 0 _ D,bU.2.2.1 1 _ D,bU.2.2.1 2 _ D,bU.2.2.1 3 _ D,bU.2.2.1 4 _ D,bU.2.2.1 5 _ D,bU.2.2.1 6 _ D⟩)):p:=h
theorem Ro(h:p:=by exact A (show JK bj.heap.size bj (bj.alloc (JO #[C E 0,G I 0 0,G I 0 0,C E 0,C E 0,C E 0,G I 0 0,G I 0 0] 44)) from JY.alloc c _)):p:=h
theorem Rq(h:p:=by exact A (uH (Q:=Q) (W:=an) (p:=p) (qU.DW bw aV.1) (Ko ab.keys Z) (Ko ab.count Z) (λy d=>Ko (ab.br y d).ok.len Z) (Ko ab.wt Z))):p:=h
theorem Rt(h:p:=by exact A (show W.grownBy b1 (J g)/\aj b1 W.heap.size 139 #[C E e,G Y b8.length a9,C E M,C E bQ,H bq,H bF,C E ar]/\kV Q g (G bR S.types.length l) (G c3 S.syms.length bj) vi S its dM f5 b1/\aj b1 (W.heap.size+1) 150 zN from⟨aM.1.trans dD,aM.2.1.grown dD (by have:=ae.out.blk.lt;simp;omega),du,aM.2.2.2.grown dD (by have:=ae.out.blk.lt;simp;omega)⟩)):p:=h
theorem Ru(h:p:=by exact A (show aj an w.heap.size 139 #[C E e,G Y b8.length a9,C E M,C E bQ,H bq,H bF,C E ar] by rw[bk];exact aj.new _ _ _)):p:=h
theorem Rw(h:p:=by exact A (show dW (λy=>B<=y/\y < cj.heap.size/\cY y=.nd) cj fc eP from dW.keep a1 (λ_ _ _ h=>h) λy d=>⟨Ko ay.pl.low d.1,d.2,by rw[e4];exact lQ d.1 d.2 (by simp)⟩)):p:=h
theorem Rx(h:p:=by exact A (show JK w.heap.size w an/\aj an w.heap.size 150 #[C E e,C E aP,G Y S.length a9,C E aM.kind,C JL aM.bits,C E ba,C E ar] by rw[bk];exact⟨JY.alloc c _,aj.new _ _ _⟩)):p:=h
theorem Ry(h:p:=by exact A (show dW (λy=>B<=y/\y < r.heap.size/\cY y=.nd) r fc eP from dW.keep a1 (λ_ _ _ h=>h) λy d=>⟨Ko q.pl.low d.1,d.2,by rw[e4];exact lQ d.1 d.2 (by simp)⟩)):p:=h
theorem Rz(h:p:=by exact qU.keep bz (Q':=λy=>W.heap.size<=y/\y < cr.heap.size) (aE.keep _ λy d=>by have:=b7.out;omega) λy d=>⟨by have:=b7.out;omega,by rw[aE.size];exact d.2⟩):p:=h
theorem RD(h:p:=by exact aK (show aj b0 (W.heap.size+1) 150 #[C E 0,C E 0,G I 0 0,C E 0,C JL 0,C E 0,C E 0] from bp.1.res)):p:=h
theorem RF(h:p:=by exact A (show R.cell? ⟨g,0,I⟩=J (G bR S.types.length l)/\R.cell? ⟨g,1,I⟩=J vs/\R.cell? ⟨g,2,I⟩=J (G (J ⟨bN,k,I⟩) its.length dL)/\R.cell? ⟨bN,k+5,I⟩=J (C E b)/\R.cell? ⟨W.heap.size,4,I⟩=J (H e)/\R.cell? ⟨wr.heap.size,5,I⟩=J (C E ah) from e8 _ _ m.out B)):p:=h
theorem RG(h:p:=by exact A (dW.keep fb (aF.of_below h.1 λy d=>d.2.1) (Q':=λy=>B<=y/\y < cj.heap.size/\cY y=.nd) λy d=>⟨d.1,Kv d.2.1 h.1.size,d.2.2⟩)):p:=h
theorem RH(h:p:=by exact A (show b4.cell? ⟨g,0,I⟩=J (G bR S.types.length l)/\b4.cell? ⟨g,1,I⟩=J (G c3 S.syms.length bj)/\b4.cell? ⟨b1.heap.size,5,I⟩=J (C E ah)/\b4.cell? ⟨W.heap.size,5,I⟩=J (H attr) from⟨bV.st.cells.1,bV.st.cells.2.1,bV.it.cell 5,bV.box.cell 5⟩)):p:=h
theorem RI(h:p:=by exact bH (show aj da (w.heap.size+2) 202 #[C E 0,C JL 0] from bL.res)):p:=h
theorem RJ(h:p:=by exact vP (S:=S) (its:=its) (ao:=wL B) (n:=M) (sc:=bQ) (at_:=ar) (args:=b8) (v:=⟨0,0⟩) ck.1 ck.2 ((ai h).2.1.2.2.2.2.2 ck.1)):p:=h
theorem RN(h:p:=by exact A (show JK w.heap.size w av/\aj av w.heap.size 139 #[C E e,G (J ⟨y,b5,I⟩) b8.length a9,C E M,C E bQ,H bq,H bF,C E ar] from⟨dU.below _ _ N (by have:=bH.2.lt;omega) bH.1,dU.blk _ _ _ (λa7=>by have:=(ed _ a7.symm).2;omega) bH.2⟩)):p:=h
theorem RP(h:p:=by exact A (show IxO b k bt (G dY bq.length ch) bq by have o:=aX.keep fs (Q':=λy=>b<=y/\y < bt.heap.size/\k y=.other) (R':=fF) (λ_ _ _ h=>h) (λy d=>⟨Ko s.1.low d.1,d.2,s.1.fresh y d.1⟩) λ_ _ h=>h;rw[<-eq] at o;exact o)):p:=h
theorem RQ(h:p:=by exact A (show xO b ae B #[C E e,C E aP,G Y S.length a9,C E aM.kind,C JL aM.bits,C E ba,C E ar] (a0.up z) (G dY a0.ins.length ch) (G c7 a0.cons.length c6) (G di a0.list.length bB) dL ai dq R by rw[bg];exact bx.below JY.drew)):p:=h
theorem RS(h:p:=by exact h.alloc (JO #[C E 1,C E 0,G (J ⟨w.heap.size+1,0,I⟩) 1 1,G I 0 0,G (J ⟨w.heap.size+1+1,0,I⟩) 2 2] 55)):p:=h
theorem RU(h:p:=by exact A (show aj an w.heap.size 25 #[G Y S.types.length a9,G c3 S.syms.length bj] by rw[bk];exact aj.new _ _ _)):p:=h
theorem RV(h:p:=by exact A (λB (d:JK w.heap.size w B)=>h.below d)):p:=h
theorem RX(h:p:=by exact A (show JK w.heap.size w an/\aj an w.heap.size 202 zV by rw[bk];exact⟨JY.alloc c _,aj.new _ _ _⟩)):p:=h
theorem RY(h:p:=by exact A (show aj bj T 44 #[C E 0,G I 0 0,G I 0 0,C E 0,C E 0,C E 0,G I 0 0,G I 0 0] from l.below d l.lt)):p:=h
theorem Si(h:p:=by exact A (eb.bG (Stp.of_below cY ((Ky r.heap.size r).alloc c (JO zN 150)) az.pl.low) λ_ _=>trivial)):p:=h
theorem Sj(h:p:=by exact A (Kt (aV.1.trans (c9.mono aV.1.size)) (aV.2.below c9 aV.2.lt))):p:=h
theorem Sl(h:p:=by exact A (bw bt bQ (aR.box.grown bl.grown (cZ aR.st.list.1 aR.box Z)))):p:=h
theorem Sm(h:p:=by exact A (show R.cell? ⟨bE,2,I⟩=J (G (J ⟨aJ,0,I⟩) bm cd)/\R.cell? ⟨aJ,a0*4+3,I⟩=J (G c7 m.closes.length c6) from⟨bq.2.2.blk.cell 2,(KJ (a:=⟨aJ,a0*4+3,I⟩) ad).trans l.2⟩)):p:=h
theorem Sr(h:p:=by exact A (show r.cell? ⟨bE,2,I⟩=J (G (J ⟨aJ,0,I⟩) bm cd)/\r.cell? ⟨aJ,a0*4+3,I⟩=J (G c7 m.closes.length c6) from⟨bX.2.2.blk.cell 2,(KJ (a:=⟨aJ,a0*4+3,I⟩) aF).trans l.2⟩)):p:=h
theorem Sv(h:p:=by exact A (show JK wr.heap.size wr (wr.alloc (JO #[H bd,G bq bO.length ao] 102)) from JY.alloc c _)):p:=h
theorem Sz(h:p:=by exact A (bl.app.blk _ _ _ (cZ aR.st.list.1 aR.st.blk Z) aR.st.blk)):p:=h
theorem SA(h:p:=by exact jG (w':=w1) h.acc (λ_ _ _ _ _ _ h=>h) λae ab=>ah.block ae (aQ h.acc.1 ab).2 (aQ h.acc.1 ab).1 (h.tag ae ab▸⟨(by intro h;cases h),(by intro h;cases h)⟩)):p:=h
theorem SC(h:p:=by exact A (λbl=>(Ky w.heap.size w).alloc c bl)):p:=h
theorem SE(h:p:=by exact A (show aj an w.heap.size 62 #[G cg q.branches.length ck,G cQ q.conds.length aH,C E q.strategy,C E q.win,H q.key,C E q.keyAt] by rw[bk];exact aj.new _ _ _)):p:=h
theorem SG(h:p:=by exact A ((b7.more da).jd (Gp:=#[C E e,C E aP,G (J ⟨y,b5,I⟩) ce.length d9,C E aM.kind,C JL aM.bits,C E ba,C E ar]) 2 (G (J ⟨y,b5,I⟩) ce.length d9) D)):p:=h
theorem SH(h:p:=by exact A (show cU.heap.size<=T by rw[bY];exact b.size)):p:=h
theorem SI(h:p:=by exact A (show bt.cell? ⟨aJ,a2*4+2,I⟩=J (G bu g.guards.length bP) by rw[h];exact aB.bJ.keep (λy=>y≠aT) (λ_ h=>h) _ _ bU.2.2.2 f.1)):p:=h
theorem SL(h:p:=by exact A (show JK W.heap.size W an/\aj an W.heap.size 72 #[C E id,C E win,G Y ps.length a9] by rw[bk];exact⟨JY.alloc c _,aj.new _ _ _⟩)):p:=h
theorem SN(h:p:=by exact A ((jQ c9.res D (C E 40) (C E aP) (G I 0 0) (C E M.kind) (C JL M.bits) (C E 0) (C E 0)).2.blk _ _ _ (Nat.ne_of_lt (KP _)) c9.box)):p:=h
theorem SQ(h:p:=by exact A (fi.grown cW λa7=>by injection a7 with a7;have:=q.gsz;omega)):p:=h
theorem SV(h:p:=by exact A (λbl cP=>((Ky w.heap.size w).alloc c bl).alloc (by simp) cP)):p:=h
theorem SX(h:p:=by exact A (eM.more (show JK dF.heap.size dF R by rw[bg];exact JY.drew))):p:=h
theorem SY(h:p:=by exact A (show aj df aC.heap.size 123 #[C E aa.kind,H aa.text,C E aa.n,C E aa.scale,C E aa.at_] by rw[a0];exact aj.new _ _ _)):p:=h
theorem Tc(h:p:=by exact A (eb.bG (Stp.of_below cY h.1 az.pl.low) λ_ _=>trivial)):p:=h
theorem Td(h:p:=by exact bH (show aj b1 w.heap.size 202 #[C E 0,C JL 0] from bb.2)):p:=h
theorem Tf(h:p:=by exact wpOp_putIf q (x j m q l s z) (λcs b=>t i k cs b aR) (λcs b=>t j m cs b q) n ak (ae.2 j (ready_mono bK l))):p:=h
theorem Ti(h:p:=by exact A (show JK b1.heap.size b1 (b1.alloc (JO #[H cH,C E dx,C E dk,C E bx,C E i,C E ah] 193)) from JY.alloc c _)):p:=h
theorem Tj(h:p:=by exact jy (op:=e) (kind:=aP) (val:=aM) (pos:=ba) (attr:=ar) ak):p:=h
theorem Tn(h:p:=by exact A (eZ.bG (Stp.of_below dh (show JK dF.heap.size dF R by rw[bg];exact JY.drew) eM.pl.low) λ_ _=>trivial)):p:=h
theorem Tq(h:p:=by exact A (show JK wr.heap.size wr R by rw[bg];exact JY.drew)):p:=h
theorem Tt(h:p:=by exact A (az.more ((Ky r.heap.size r).alloc c (JO zN 150)))):p:=h
theorem Tv(h:p:=by exact A (q.more ((Ky R.heap.size R).alloc c (JO zN 150)))):p:=h
theorem Tz(h:p:=by exact A (ba.fO ((Stp.fO (V:=λ_=>True) (g.trans ag)) λ_ _=>⟨trivial,trivial⟩) trivial trivial)):p:=h
theorem TA(h:p:=by exact A (λB S (h:eP B g t v toks S rest) ba=>oD h ba)):p:=h
theorem TB(h:p:=by exact A (λW S (h:eP W g t v toks S rest) ba=>oD h ba)):p:=h
theorem TD(h:p:=by exact A (fe.bG (ay.JD cW) λy d a7=>d (a7▸ay.tg.1))):p:=h
theorem TF(h:p:=by exact A (show b=W.heap.size+2 by rw[bW];exact aV.2.2.2)):p:=h
theorem TG(h:p:=by exact aK (show aj du (w.heap.size+1) 150 #[C E 0,C E 0,G I 0 0,C E 0,C JL 0,C E 0,C E 0] from c9.res)):p:=h
theorem TI(h:p:=by exact A (c7.bG (Stp.of_below dh ((Ky R.heap.size R).alloc c (JO zN 150)) q.pl.low) λ_ _=>trivial)):p:=h
theorem TJ(h:p:=by exact jD B #[H ⟨#[83,84,82,73,67,84]⟩,H ⟨#[78,69,88,84]⟩,H ⟨#[65,78,89]⟩] 9 (0,0) D 3 D):p:=h
theorem TK(h:p:=by exact A (c7.bG (q.JD cW) λy d a7=>d (a7▸q.tg.1))):p:=h
theorem TL(h:p:=by exact A (show JK wr.heap.size wr (wr.alloc (JO #[C E i,H bF,H cH,C E ar] 178)) from JY.alloc c _)):p:=h
theorem TM(h:p:=by exact A (cE (JO #[H ⟨#[83,84,82,73,67,84]⟩,H ⟨#[78,69,88,84]⟩,H ⟨#[65,78,89]⟩] 9))):p:=h
theorem TN(h:p:=by exact aj.new (w.alloc (JO #[C E x.kind,C JL x.bits] 202)) 202 #[C E a2.kind,C JL a2.bits]):p:=h
theorem TP(h:p:=by exact A (show k aJ=.pt z/\b<=aJ/\aJ < wr.heap.size/\True from⟨eT,eR,eS,trivial⟩)):p:=h
theorem UY(h:p:=by first|trivial|(intro _;exact⟨λh=>by omega,λh=>by omega⟩)|(intro _;exact⟨λ_=>⟨hs1,hs2⟩,λh=>by omega⟩)|(intro o;have:=HC.out;exact⟨λh=>by omega,λh=>by omega⟩)|(intro o;exact absurd o KY)|(intro _;exact⟨λh=>by omega,λ_=>by have aD:M=0:=(by simpa using hn0);omega⟩)|(intro _;exact⟨λh=>by omega,λ_=>by have aD:M=1:=(by simpa using hn1);omega⟩)|(intro o;exfalso;simp at o;omega)):p:=h
theorem UZ(h:p:=by rw[KC];exact⟨⟨di.1.far g (by have:=dE.out;have:=b7.out;omega),di.2.1.set 2 _ D,g.below _ _ (by have:=dE.out;have:=d8.out;omega) di.2.2⟩,aT.1.bG eF.kU dA (λae ab=>d6 ae (by rw[ab];exact En.1)) λae ab=>d6 ae (by rw[ab];intro h;cases h)⟩):p:=h
theorem Va(h:p:=by have:=dQ.out;have:=cw.out;(try simp only[gK.up,gK.put,List.length_append,List.length_cons,List.length_nil] at*);unfold maxLen;omega):p:=h
theorem Vb(h:p:=by have:=ec.out;have:=cw.out;(try simp only[gK.up,gK.put,List.length_append,List.length_cons,List.length_nil] at*);unfold maxLen;omega):p:=h
theorem Vd(h:p:=by intro u ap;simp only[List.mem_cons,List.not_mem_nil,or_false] at ap;rcases ap with rfl|rfl|rfl|rfl|rfl|rfl|rfl|rfl <;> rfl):p:=h
theorem Ve(h:p:=by have:=dQ.out;have:=cw.out;(try simp only[gK.up,gK.put,List.length_append,List.length_cons,List.length_nil] at*);omega):p:=h
theorem Vf(h:p:=by have:=ec.out;have:=cw.out;(try simp only[gK.up,gK.put,List.length_append,List.length_cons,List.length_nil] at*);omega):p:=h
theorem Vg(h:p:=by have o:=fB gJ a1;have a8:=bb.out;have ac:gJ m=(m.guards.map aH).sum+(m.closes.map aH).sum:=D;unfold kG at a8;omega):p:=h
theorem Vh(h:p:=by intro u ap;simp only[List.mem_cons,List.not_mem_nil,or_false] at ap;rcases ap with rfl|rfl|rfl|rfl <;> rfl):p:=h
theorem Vj(h:p:=by intro u ap;simp only[List.mem_cons,List.not_mem_nil,or_false] at ap;rcases ap with rfl|rfl|rfl <;> rfl):p:=h
theorem Vk(h:p:=by intro u ap;simp only[List.mem_cons,List.not_mem_nil,or_false] at ap;rcases ap with rfl|rfl <;> rfl):p:=h
theorem Vl(h:p:=by have:=cH.out;unfold dG at this;rw[JZ bv,JZ bo,JZ c5] at this;simpa [eq_comm] using this):p:=h
theorem Vm(h:p:=by have:=cH.out;unfold dG at this;rw[JZ bv,JZ bo,Kq c5] at this;simpa [eq_comm] using this):p:=h
theorem Vo(h:p:=by have:=cH.out;unfold dG at this;rw[JZ bv,Kq bo] at this;simpa [eq_comm] using this):p:=h
theorem Vp(h:p:=by have:=cH.out;unfold dG at this;rw[Kq bv] at this;simpa [eq_comm] using this):p:=h
theorem Vq(h:p:=by have:=AY (op:=e) (kind:=aP) (val:=aM) (pos:=ba) (attr:=ar) (args:=S);omega):p:=h
theorem Vr(h:p:=by rw[KC];simp only[List.length_cons,List.length_nil];have:=t.1.1;omega):p:=h
theorem Vs(h:p:=by rw[bx];exact((Ky w.heap.size w).alloc c _).alloc (by simp) _):p:=h
theorem Vt(h:p:=by rw[Kr aR] at ad;injection ad with ad;rw[<-ad];exact bz):p:=h
theorem Vu(h:p:=by injection a7 with a7;have:=b.out;have:=dP.out;omega):p:=h
theorem Vw(h:p:=by simp only[jl,g,i];unfold jf;simp[ai.ty.1,ai.ty.2]):p:=h
theorem Vx(h:p:=by have:=(aQ cy.1 a7.symm).1;have:=bb.1.size;omega):p:=h
theorem Vy(h:p:=by intro a7;injection a7 with a7;exact bU.2.2 a7):p:=h
theorem Vz(h:p:=by intro h;injection h with h;have:=bU.out;omega):p:=h
theorem VA(h:p:=by have:=bH.out;have:=f5.out;have:=dE.out;omega):p:=h
theorem VB(h:p:=by intro h;injection h with _ h;exact cp h.symm):p:=h
theorem VD(h:p:=by have:=bs.out.1.size;have:=bs.out.2.lt;omega):p:=h
theorem VE(h:p:=by have:=eh.out;have:=b.out;have:=dP.out;omega):p:=h
theorem VG(h:p:=by injection bK with bK;rw[<-bK];exact h.tg.2.1):p:=h
theorem VH(h:p:=by have o:=dl.out;have a8:=ae.out.sum.1;omega):p:=h
theorem VI(h:p:=by have o:=ei.out;have a8:=bC.out;rw[o];omega):p:=h
theorem VJ(h:p:=by rw[(h.fm.box aa ad).2.2.1];intro h;cases h):p:=h
theorem VK(h:p:=by have:=h.fm.nd;rwa [List.map_cons] at this):p:=h
theorem VL(h:p:=by intro h;injection h with h;exact m h.symm):p:=h
theorem VN(h:p:=by first|cases h|(exfalso;have:=Lr h;omega)):p:=h
theorem VO(h:p:=by rw[bx];exact(Ky w.heap.size w).alloc c _):p:=h
theorem VP(h:p:=by unfold lY;rw[zl ad h,Bool.and_false];rfl):p:=h
theorem VQ(h:p:=by have aD:=cv.out;rw[KN N] at aD;exact aD):p:=h
theorem VR(h:p:=by have aD:M=0:=(by simpa using hn0);omega):p:=h
theorem VT(h:p:=by have aD:M=1:=(by simpa using hn1);omega):p:=h
theorem VU(h:p:=by rw[aw.out];exact yB (by rw[KZ];omega)):p:=h
theorem VW(h:p:=by have o:=cw.out;have a8:=a0.out;omega):p:=h
theorem VX(h:p:=by have:=eY.out;unfold gJ at this;omega):p:=h
theorem VY(h:p:=by intro u ap;rw[KG] at ap;subst ap;rfl):p:=h
theorem VZ(h:p:=by rw[KW (by rw[h.1];exact aR)];exact o):p:=h
theorem Wh(h:p:=by rw[bL];exact(b1.2.1 y (Kz d)).ok.len):p:=h
theorem Wi(h:p:=by rw[q.out.1.2.1.tag h] at a7;cases a7):p:=h
theorem Wj(h:p:=by have o:=i.out;have a8:=cE.out;omega):p:=h
theorem Wn(h:p:=by have o:=su (aeF ax _ j.out.2);omega):p:=h
theorem Wp(h:p:=by have:=bq.size;have:=aV.1.size;omega):p:=h
theorem Wq(h:p:=by rw[bR.out.out.tag h] at a7;cases a7):p:=h
theorem Ws(h:p:=by rw[cH.out.out.tag h] at a7;cases a7):p:=h
theorem Wu(h:p:=by rw[h.zi];exact λa7=>b8 r a7.symm):p:=h
theorem Wv(h:p:=by show(aw.1++[_]).length=_;rw[KC];rfl):p:=h
theorem Wx(h:p:=by rw[bx];exact(aj.new w _ _).alloc _):p:=h
theorem Wy(h:p:=by rw[q.out.2.1.tag h] at a7;cases a7):p:=h
theorem WA(h:p:=by have:=s.2.2.2;have:=c9.2.lt;omega):p:=h
theorem WB(h:p:=by have:=t.out.1;unfold maxLen;omega):p:=h
theorem WC(h:p:=by unfold kOk at br;simp at br;omega):p:=h
theorem WE(h:p:=by have:=ab.out;unfold maxLen;omega):p:=h
theorem WG(h:p:=by have:=bC.out;unfold maxLen;omega):p:=h
theorem WH(h:p:=by have:=bU.out;unfold maxLen;omega):p:=h
theorem WI(h:p:=by have:=bd.out;unfold maxLen;omega):p:=h
theorem WJ(h:p:=by have:=dB.out;unfold maxLen;omega):p:=h
theorem WL(h:p:=by have:=dQ.out;unfold maxLen;omega):p:=h
theorem WM(h:p:=by have:=e9.out;unfold maxLen;omega):p:=h
theorem WO(h:p:=by intro h;injection h with h;omega):p:=h
theorem WQ(h:p:=by obtain⟨cA,h⟩:=h;exact aB h.acc.1):p:=h
theorem WR(h:p:=by rw[q.1.2.1.tag h] at a7;cases a7):p:=h
theorem WS(h:p:=by have:=d6.out;have:=dC.out;omega):p:=h
theorem WT(h:p:=by have:=dE.out;have:=b7.out;omega):p:=h
theorem WU(h:p:=by have:=dE.out;have:=d8.out;omega):p:=h
theorem WV(h:p:=by have:=f5.out;have:=dE.out;omega):p:=h
theorem WW(h:p:=by rw[aw.out,lG bV.out,bB.out];rfl):p:=h
theorem WX(h:p:=by simpa [Value.ownBlock] using ab):p:=h
theorem WY(h:p:=by have:=kC w2 cs e a';exact this):p:=h
theorem WZ(h:p:=by first|exact cY.1|exact aA Z Z):p:=h
theorem Xa(h:p:=by first|exact eO.2.2.1|exact bP):p:=h
theorem Xb(h:p:=by rw[h.1,KG] at ap;subst ap;rfl):p:=h
theorem Xc(h:p:=by have:=eQ.out;simp only;omega):p:=h
theorem Xd(h:p:=by unfold jJ gJ;split <;> omega):p:=h
theorem Xe(h:p:=by have:=bl.ge _ a7.symm;omega):p:=h
theorem Xf(h:p:=by have:=h.ord;simp only;omega):p:=h
theorem Xg(h:p:=by rw[aw.out,lG bV.out,a1];rfl):p:=h
theorem Xh(h:p:=by first|rfl|(rw[a7.out];rfl)):p:=h
theorem Xi(h:p:=by injection a7 with a7;omega):p:=h
theorem Xj(h:p:=by rw[Kr aR] at h;injection h):p:=h
theorem Xk(h:p:=by rw[ag];simp[World.setCell]):p:=h
theorem Xl(h:p:=by rw[h.tg.1];intro h;cases h):p:=h
theorem Xm(h:p:=by rw[<-aw];exact h.box.bJ k u):p:=h
theorem Xn(h:p:=by simp[Value.ownBlock] at a7):p:=h
theorem Xo(h:p:=by rw[KE];have:=d.size;omega):p:=h
theorem Xp(h:p:=by rw[ac];exact JY.alloc c _):p:=h
theorem Xq(h:p:=by rw[bk];exact JY.alloc c _):p:=h
theorem Xr(h:p:=by rw[bk];exact aj.new _ _ _):p:=h
theorem Xt(h:p:=by rw[bx];exact aj.new w _ _):p:=h
theorem Xu(h:p:=by rw[cO];exact q.2.1.blk.lt):p:=h
theorem Xv(h:p:=by rw[cz];simp only;rw[JZ N]):p:=h
theorem Xw(h:p:=by simp[Value.ownBlock] at h):p:=h
theorem Xx(h:p:=by unfold ints;rw[Le,c8];rfl):p:=h
theorem Xy(h:p:=by rw[a7.out] at h;cases h):p:=h
theorem Xz(h:p:=by rw[dO,bW];exact cc.size):p:=h
theorem XA(h:p:=by unfold dY AP;simp;omega):p:=h
theorem XB(h:p:=by have:=(KA.1 d).1;omega):p:=h
theorem XC(h:p:=by have:=h.ord;simp;omega):p:=h
theorem XD(h:p:=by rw[a7];intro h;cases h):p:=h
theorem XE(h:p:=by rw[aE.size];exact KD _):p:=h
theorem XF(h:p:=by rw[ab];intro h;cases h):p:=h
theorem XG(h:p:=by have o:=aV.2.lt;omega):p:=h
theorem XH(h:p:=by have:=h.gw;simp;omega):p:=h
theorem XI(h:p:=by rw[S];intro h;cases h):p:=h
theorem XJ(h:p:=by rw[aE.size];exact d.2):p:=h
theorem XK(h:p:=by rw[d];intro h;cases h):p:=h
theorem XL(h:p:=by rw[dn,aY,eP.out];simp):p:=h
theorem XM(h:p:=by unfold rowAt;rw[JZ N]):p:=h
theorem XO(h:p:=by have:=h.2.1.lt;omega):p:=h
theorem XP(h:p:=by rw[bg];exact JY.drew):p:=h
theorem XQ(h:p:=by rw[h] at aS;cases aS):p:=h
theorem XR(h:p:=by rw[<-aE.size];exact d):p:=h
theorem XT(h:p:=by rw[<-g.size];exact ab):p:=h
theorem XU(h:p:=by simp[Value.ownBlock]):p:=h
theorem XV(h:p:=by unfold kQ dG;simp[h]):p:=h
theorem XW(h:p:=by have:=bq.size;omega):p:=h
theorem XY(h:p:=by have:=t.out.1;omega):p:=h
theorem XZ(h:p:=by simp[World.setCell]):p:=h
theorem Ya(h:p:=by unfold maxLen;omega):p:=h
theorem Yb(h:p:=by have:=ab.out;omega):p:=h
theorem Yc(h:p:=by have:=b7.out;omega):p:=h
theorem Yd(h:p:=by have:=bC.out;omega):p:=h
theorem Ye(h:p:=by have:=bL.out;omega):p:=h
theorem Yf(h:p:=by have:=bU.out;omega):p:=h
theorem Yg(h:p:=by have:=cE.out;omega):p:=h
theorem Yh(h:p:=by have:=ck.out;omega):p:=h
theorem Yi(h:p:=by have:=d6.out;omega):p:=h
theorem Yj(h:p:=by have:=d8.out;omega):p:=h
theorem Yk(h:p:=by have:=dA.out;omega):p:=h
theorem Yl(h:p:=by have:=dB.out;omega):p:=h
theorem Ym(h:p:=by have:=dE.out;omega):p:=h
theorem Yn(h:p:=by have:=dP.out;omega):p:=h
theorem Yo(h:p:=by have:=dQ.out;omega):p:=h
theorem Yp(h:p:=by have:=dX.out;omega):p:=h
theorem Yq(h:p:=by have:=dg.out;omega):p:=h
theorem Yr(h:p:=by have:=ei.out;omega):p:=h
theorem Yt(h:p:=by have:=f5.out;omega):p:=h
theorem Yu(h:p:=by first|rfl|trivial):p:=h
theorem Yv(h:p:=by have:=d.1.1;omega):p:=h
theorem Yw(h:p:=by have:=d.2.1;omega):p:=h
theorem Yx(h:p:=by have:=h.idx;omega):p:=h
theorem Yy(h:p:=by have:=h.ord;omega):p:=h
theorem Yz(h:p:=by have:=q.2.1;omega):p:=h
theorem YA(h:p:=by rw[KN N];exact ad):p:=h
theorem YB(h:p:=by rw[KO,Kq D,Kq aR]):p:=h
theorem YC(h:p:=by rw[ab];exact En.1):p:=h
theorem YD(h:p:=by rw[b1.1];exact bA):p:=h
theorem YE(h:p:=by rw[<-h.1];exact aR):p:=h
theorem YF(h:p:=by simp[intOf];omega):p:=h
theorem YG(h:p:=by have:=b1.1;omega):p:=h
theorem YH(h:p:=by have:=dF.1;omega):p:=h
theorem YI(h:p:=by have:=h.lt;omega):p:=h
theorem YJ(h:p:=by have:=pG l;omega):p:=h
theorem YK(h:p:=by rw[h.1];exact aR):p:=h
theorem YL(h:p:=by simp at b6;omega):p:=h
theorem YM(h:p:=by simp only[gq,aS]):p:=h
theorem YN(h:p:=by have:=d.1;omega):p:=h
theorem YO(h:p:=by intro h;cases h):p:=h
theorem YP(h:p:=by rw[ab];exact gZ):p:=h
theorem YQ(h:p:=by simp only;omega):p:=h
theorem YR(h:p:=by simpa using hn0):p:=h
theorem YS(h:p:=by simpa using hn1):p:=h
theorem YT(h:p:=by split <;> omega):p:=h
theorem YU(h:p:=by unfold gJ;omega):p:=h
theorem YV(h:p:=by rw[ci.out];rfl):p:=h
theorem YW(h:p:=by rw[dn,aY];simp):p:=h
theorem YX(h:p:=by simpa using a'):p:=h
theorem YZ(h:p:=by simpa using aR):p:=h
theorem Za(h:p:=by simpa using ag):p:=h
theorem Zb(h:p:=by simpa using b3):p:=h
theorem Zc(h:p:=by simpa using bh):p:=h
theorem Zd(h:p:=by simpa using bo):p:=h
theorem Ze(h:p:=by simpa using bv):p:=h
theorem Zf(h:p:=by simpa using c5):p:=h
theorem Zg(h:p:=by simpa using ca):p:=h
theorem Zh(h:p:=by simpa using h):p:=h
theorem Zi(h:p:=by simpa using o):p:=h
theorem Zj(h:p:=by injection a7):p:=h
theorem Zk(h:p:=by rw[KE];omega):p:=h
theorem Zl(h:p:=by rw[LP];omega):p:=h
theorem Zm(h:p:=by rw[Lc];omega):p:=h
theorem Zn(h:p:=by rw[MZ];omega):p:=h
theorem Zo(h:p:=by rw[bx];simp):p:=h
theorem Zp(h:p:=by rw[KC];rfl):p:=h
theorem Zq(h:p:=by rw[a7];rfl):p:=h
theorem Zr(h:p:=by rw[af];rfl):p:=h
theorem Zt(h:p:=by rw[ai];rfl):p:=h
theorem Zu(h:p:=by rw[bs.out]):p:=h
theorem Zv(h:p:=by simp;omega):p:=h
theorem Zw(h:p:=by simp at h):p:=h
theorem Zx(h:p:=by cases ad):p:=h
theorem Zy(h:p:=by cases ak):p:=h
theorem Zz(h:p:=by simp[ad]):p:=h
theorem ZA(h:p:=by simp[bS]):p:=h
theorem ZB(h:p:=by cases d):p:=h
theorem ZC(h:p:=by cases h):p:=h
theorem ZE(h:p:=by trivial):p:=h
theorem ZF(h:p:=by go_num):p:=h
theorem ZG(h:p:=by rw[a7]):p:=h
theorem ZH(h:p:=by simp):p:=h

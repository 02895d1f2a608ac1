/- Mpq: texts merged for a claim by a program of mine. -/
import Derived.Test.YtioocaicmiggoaaA24
import Derived.Test.YtioocaicmiggoaaA22
import Derived.Deep.QuietTactic
import Derived.BigQuiet
import Derived.Deep.DeepCutAuto
import Derived.Test.YtioocaicmiggoaaA26
namespace Go.Proofs.Ytioocaicmiggoaa
set_option linter.unusedVariables false
set_option linter.unusedSimpArgs false
open Go.RowKit Go.Deep Go.Maps
theorem info_use : (Try.prog.info? 67).map (fun i => (i.zero, i.size, i.bytes)) = some (some (.agg #[.int .i64 0, .slice none 0 0, .int .i64 0, .int .i64 0, .int .i64 0]), 5, 56) := by kernel_rfl
def PathU (w : World) (v : Value) (l : List Int) : Prop := ∃ A c, v = .slice A l.length c ∧ Reads w w.heap.size 1 A l.length (iv l) ∧ l.length ≤ c ∧ c ≤ maxLen ∧ ∀ ad, A = some ad → ∃ cs, Blk w ad.block 3 cs
theorem PathU.below {w w' : World} {v : Value} {l : List Int} (h : PathU w v l) (hb : Below w.heap.size w w') : PathU w' v l := by
 obtain ⟨A, c, h1, h2, h3, h4, h5⟩ := h
 refine ⟨A, c, h1, reads_up h2 hb, h3, h4, fun ad e => ?_⟩
 obtain ⟨cs, hc⟩ := h5 ad e
 exact ⟨cs, hc.below hb hc.lt⟩
theorem PathU.grown {w w' : World} {v u : Value} {l : List Int} {B n : Nat} {xs : List Value} (h : PathU w v l) (ho : w.ownsRow B 67 5 u n xs) (hg : w.grownBy w' u.ownBlock) : PathU w' v l := by
 obtain ⟨A, c, h1, h2, h3, h4, h5⟩ := h
 refine ⟨A, c, h1, ⟨h2.1, fun hn => ?_⟩, h3, h4, fun ad e => ?_⟩
 ·obtain ⟨ad, e, hb, hc⟩ := h2.2 hn
  obtain ⟨cs, hk⟩ := h5 ad e
  have hk2 := hk.grown hg (fun e => own_blk_ne ho hk (by decide) e.symm)
  exact ⟨ad, e, Nat.lt_of_lt_of_le hb hg.size, fun j x hj => (World.cell?_of_block (by rw [block_of_add]; exact hk2.trans hk.symm)).trans (hc j x hj)⟩
 ·obtain ⟨cs, hc⟩ := h5 ad e
  exact ⟨cs, hc.grown hg (fun e => own_blk_ne ho hc (by decide) e.symm)⟩
theorem PathU.of {w : World} {B : Nat} {v : Value} {l : List Int} (h : w.ownsRow B 3 1 v l.length (iv l)) : PathU w v l := by
 obtain ⟨A, c, rfl⟩ := own_slice h
 refine ⟨A, c, rfl, Reads.of_own h, (own_caps h).1, (own_caps h).2, fun ad hA => ?_⟩
 rcases h.2 with ⟨hv, _⟩ | ⟨g, cap, cur, hv, hb, hh, _⟩
 ·simp only [Value.slice.injEq] at hv
  rw [hv.1] at hA; cases hA
 ·injection hv with hv
  rw [hv] at hA
  injection hA with hA
  subst hA
  exact ⟨cur, hh⟩
def UseC (w : World) (cs : List Value) (u : TUse) : Prop := ∃ vp, cs = [.int .i64 u.code, vp, .int .i64 u.one, .int .i64 u.many, .int .i64 u.asked] ∧ PathU w vp u.path ∧ wfi u.code
def UAcc (B : Nat) (w : World) (v : Value) (us : List TUse) (css : List (List Value)) : Prop := w.ownsRow B 67 5 v us.length css.flatten ∧ FlatR 5 UseC w css us
theorem UAcc.nil (B : Nat) (w : World) : UAcc B w (.slice none 0 0) [] [] := ⟨World.ownsRow_nil _ _ _ _, FlatR.nil _ _ _⟩
theorem useC_keep {w w' : World} {css : List (List Value)} {us : List TUse} (h : FlatR 5 UseC w css us) (hk : ∀ v l, PathU w v l → PathU w' v l) : FlatR 5 UseC w' css us := ⟨h.1, fun i x hx => by
 obtain ⟨c, h1, h2, vp, h3, h4, h5⟩ := h.2 i x hx
 exact ⟨c, h1, h2, vp, h3, hk _ _ h4, h5⟩⟩
theorem UAcc.below {B : Nat} {w w' : World} {v : Value} {us : List TUse} {css : List (List Value)} (h : UAcc B w v us css) (hb : Below w.heap.size w w') : UAcc B w' v us css := ⟨own_below h.1 hb, useC_keep h.2 fun _ _ k => k.below hb⟩
theorem flat_app {α : Type} {F : Nat} {R : World → List Value → α → Prop} {w : World} {us bs : List (List Value)} {xs ys : List α} (h : FlatR F R w us xs) (k : FlatR F R w bs ys) : FlatR F R w (us ++ bs) (xs ++ ys) := by
 refine ⟨by simp [h.1, k.1], fun i y hy => ?_⟩
 rcases Nat.lt_or_ge i xs.length with hi | hi
 ·rw [List.getElem?_append_left hi] at hy
  obtain ⟨c, h1, h2⟩ := h.2 i y hy
  exact ⟨c, by rw [List.getElem?_append_left (by rw [h.1]; exact hi)]; exact h1, h2⟩
 ·rw [List.getElem?_append_right hi] at hy
  obtain ⟨c, h1, h2⟩ := k.2 _ y hy
  exact ⟨c, by rw [List.getElem?_append_right (by rw [h.1]; exact hi), h.1]; exact h1, h2⟩
theorem UAcc.more {B : Nat} {w w' : World} {v v' : Value} {us ns : List TUse} {css cns : List (List Value)} (h : UAcc B w v us css) (hn : FlatR 5 UseC w cns ns) (ho : w'.ownsRow B 67 5 v' (us.length + ns.length) (css.flatten ++ cns.flatten)) (hg : w.grownBy w' v.ownBlock) : UAcc B w' v' (us ++ ns) (css ++ cns) := by
 refine ⟨by rw [List.length_append, List.flatten_append]; exact ho, ?_⟩
 exact flat_app (useC_keep h.2 fun _ _ k => k.grown h.1 hg) (useC_keep hn fun _ _ k => k.grown h.1 hg)
theorem use_one {w : World} {vp : Value} {u : TUse} (hp : PathU w vp u.path) (hc : wfi u.code) : FlatR 5 UseC w [[.int .i64 u.code, vp, .int .i64 u.one, .int .i64 u.many, .int .i64 u.asked]] [u] :=
 ⟨rfl, fun i x hx => by
  match i, hx with
  | 0, hx =>
   simp at hx; subst hx
   exact ⟨_, rfl, rfl, vp, rfl, hp, hc⟩⟩
def UInv (W0 : World) (X : Nat) (cs : Array Value) (p1 p2 : Value) (E1 E2 : List Int) (W : World) (v : Value) (us : List TUse) : Prop :=
 Below W0.heap.size W0 W ∧ Blk W X 46 cs ∧ PathU W p1 E1 ∧ PathU W p2 E2 ∧ ∃ css, UAcc W0.heap.size W v us css
section
variable {W0 W W' : World} {X : Nat} {cs : Array Value} {p1 p2 v : Value} {E1 E2 : List Int} {us : List TUse}
theorem UInv.below (h : UInv W0 X cs p1 p2 E1 E2 W v us) (hb : Below W.heap.size W W') : UInv W0 X cs p1 p2 E1 E2 W' v us := by
 obtain ⟨h1, h2, h3, h4, css, h5⟩ := h
 exact ⟨h1.trans (hb.mono h1.size), h2.below hb h2.lt, h3.below hb, h4.below hb, css, h5.below hb⟩
theorem UInv.more (h : UInv W0 X cs p1 p2 E1 E2 W v us) : ∃ css, W.ownsRow W0.heap.size 67 5 v us.length (List.flatten css) ∧ W0.heap.size ≤ W.heap.size ∧ ∀ (W' : World) (v' : Value) (ns : List TUse) (cns : List (List Value)), FlatR 5 UseC W cns ns →
  W'.ownsRow W0.heap.size 67 5 v' (us.length + ns.length) (css.flatten ++ cns.flatten) → W.grownBy W' v.ownBlock → UInv W0 X cs p1 p2 E1 E2 W' v' (us ++ ns) := by
 obtain ⟨h1, h2, h3, h4, css, h5⟩ := h
 refine ⟨css, h5.1, h1.size, fun W' v' ns cns hn ho hg => ⟨h1.grown hg h1.size (fun q hq => (own_lt h5.1 hq).2), h2.grown hg (fun e => own_blk_ne h5.1 h2 (by decide) e.symm), h3.grown h5.1 hg, h4.grown h5.1 hg, css ++ cns, h5.more hn ho hg⟩⟩
theorem UInv.bel (h : UInv W0 X cs p1 p2 E1 E2 W v us) : Below W0.heap.size W0 W := h.1
theorem UInv.blk (h : UInv W0 X cs p1 p2 E1 E2 W v us) : Blk W X 46 cs := h.2.1
theorem UInv.pa (h : UInv W0 X cs p1 p2 E1 E2 W v us) : PathU W p1 E1 := h.2.2.1
theorem UInv.pb (h : UInv W0 X cs p1 p2 E1 E2 W v us) : PathU W p2 E2 := h.2.2.2.1
theorem UInv.slice (h : UInv W0 X cs p1 p2 E1 E2 W v us) : ∃ A c, v = .slice A us.length c := by
 obtain ⟨_, _, _, _, css, h5⟩ := h
 exact own_slice h5.1
end
theorem ends_part {p : List Int} {l : List TTail} {q : Nat} {e : TTail} (h : l[q]? = some e) : ((l.take q).flatMap (useEnd p)).length + (useEnd p e).length ≤ (l.flatMap (useEnd p)).length := by
 have h1 : l = l.take q ++ e :: l.drop (q + 1) := split_at h
 have h2 := congrArg (fun l => (l.flatMap (useEnd p)).length) h1
 simp only [List.flatMap_append, List.flatMap_cons, List.length_append] at h2
 omega
theorem reads_cells (w : World) (cs : Array Value) (F n : Nat) (hF : cs.size = n * F) (e : TypeId) (m : Nat × Nat) : Reads (w.alloc (.cells cs e m)) (w.heap.size + 1) F (some ⟨w.heap.size, 0, none⟩) n cs.toList := by
 refine ⟨by simp [hF], fun _ => ⟨_, rfl, by simp, fun j u hu => ?_⟩⟩
 rw [Go.WideShapes.add_plain, Nat.zero_add, cell_of_row _ _ j _ _ _ (heap_alloc_new w _)]
 simpa using hu
def TabS (g : Nat) (a0 a1 a2 a3 a4 a5 a6 a7 : Value) (W : World) : Prop := W.cell? ⟨g, 0, none⟩ = some a0 ∧ W.cell? ⟨g, 1, none⟩ = some a1 ∧ W.cell? ⟨g, 2, none⟩ = some a2 ∧ W.cell? ⟨g, 3, none⟩ = some a3 ∧ W.cell? ⟨g, 4, none⟩ = some a4 ∧ W.cell? ⟨g, 5, none⟩ = some a5 ∧ W.cell? ⟨g, 6, none⟩ = some a6 ∧ W.cell? ⟨g, 7, none⟩ = some a7
theorem tabS {w : World} {g : Nat} {t : TypeId} {a0 a1 a2 a3 a4 a5 a6 a7 : Value} (h : Blk w g t #[a0, a1, a2, a3, a4, a5, a6, a7]) : TabS g a0 a1 a2 a3 a4 a5 a6 a7 w := ⟨h.cell 0, h.cell 1, h.cell 2, h.cell 3, h.cell 4, h.cell 5, h.cell 6, h.cell 7⟩
end Go.Proofs.Ytioocaicmiggoaa
namespace Go.Proofs.Ytioocaicmiggoaa
set_option linter.unusedVariables false
set_option linter.unusedSimpArgs false
open Go.RowKit Go.Deep Go.Maps
def kindAt (l : List Int) (a : Int) : Int := if 0 ≤ a then l.getD a.toNat 0 else 1
def fitsE (x : TInp) (k : Int) : Bool := decide (k = x.kind) && (decide (x.op < 28) || decide (30 < x.op) || decide (k = 1) || decide (k = 4)) && (!decide (x.op = 31) || decide (k = 4))
def fitsK (T : TTab) (of : Int) (x : TInp) : Bool :=
 if of < 0 then false else match T.kinds[of.toNat]? with
 | none => false
 | some l => if (l.length : Int) ≤ x.attr then false else fitsE x (kindAt l x.attr)
def fitsO (T : TTab) (of : Int) (x : TInp) : Bool := if x.op = 25 then decide (x.kind = 1) else fitsK T of x
def fitsT (T : TTab) (u : TUse) (x : TInp) : Bool :=
 if x.op = 41 then fitsK T u.asked x
 else if (if x.op = 42 then u.one else u.many) ≤ x.pos then false
 else match rowAt T.states (u.path.getD x.pos.toNat 0) with
 | none => false
 | some s => if s.many = decide (x.op = 42) then false else fitsO T s.ty x
theorem blk5u {w : World} {g : Nat} {t : TypeId} {a b c d e : Value} (h : Blk w g t #[a, b, c, d, e]) : w.cell? ⟨g, 0, none⟩ = some a ∧ w.cell? ⟨g, 1, none⟩ = some b ∧ w.cell? ⟨g, 2, none⟩ = some c ∧ w.cell? ⟨g, 3, none⟩ = some d ∧ w.cell? ⟨g, 4, none⟩ = some e := ⟨h.cell 0, h.cell 1, h.cell 2, h.cell 3, h.cell 4⟩
theorem blk4u {w : World} {g : Nat} {t : TypeId} {a b c d : Value} (h : Blk w g t #[a, b, c, d]) : w.cell? ⟨g, 0, none⟩ = some a ∧ w.cell? ⟨g, 1, none⟩ = some b ∧ w.cell? ⟨g, 2, none⟩ = some c ∧ w.cell? ⟨g, 3, none⟩ = some d := ⟨h.cell 0, h.cell 1, h.cell 2, h.cell 3⟩
theorem below_dn (w : World) (n : Nat) : Below w.heap.size w (w.drewN n) := ⟨rfl, rfl, rfl, Nat.le_refl _, fun _ _ => rfl⟩
set_option maxRecDepth 100000 in
set_option maxHeartbeats 8000000 in
theorem fits_may (T : TTab) (vk vkk vs vc : Value) (w : World) (h : TabX w T vk vkk vs vc) (x : TInp) (u : TUse) (vp : Value) (hp : PathU w vp u.path) (hpos : 0 ≤ x.pos) (h1 : u.one ≤ u.path.length) (h2 : u.many ≤ u.path.length)
  (hin : ∀ j ∈ u.path, 0 ≤ j ∧ j < (T.states.length : Int)) (hty : ∀ s ∈ T.states, s.ty < (T.kinds.length : Int)) (hask : u.asked < (T.kinds.length : Int)) :
  Calls Try.prog 29 #[.agg #[.int .i64 T.strategy, vk, vkk, .int .i64 T.syms, .int .i64 T.runs, .int .i64 T.cells, vs, vc], .agg #[.int .i64 x.op, .int .i64 x.kind, .int .i64 x.pos, .int .i64 x.attr], .agg #[.int .i64 u.code, vp, .int .i64 u.one, .int .i64 u.many, .int .i64 u.asked]] w (BoolP w (fitsT T u x)) := by
 obtain ⟨A, c, rfl, hc1, hc2⟩ := h.states.slice
 obtain ⟨A2, c2, rfl, hc3, hc4⟩ := h.codes.slice
 obtain ⟨A3, c3, rfl, hc5, hc6⟩ := h.kinds.slice
 obtain ⟨A1, c1, rfl, hc7, hc8⟩ := h.keys.slice
 obtain ⟨Ap, cp, rfl, hp2, hp3, hp4, _⟩ := id hp
 unfold maxLen at hc2 hc4 hc6 hc8 hp4
 obtain ⟨W, hW⟩ : ∃ W, W = ((w.alloc (.cells #[.int .i64 T.strategy, .slice A1 T.keys.length c1, .slice A3 T.kinds.length c3, .int .i64 T.syms, .int .i64 T.runs, .int .i64 T.cells, .slice A T.states.length c, .slice A2 T.codes.length c2] 27)).alloc (.cells #[.int .i64 x.op, .int .i64 x.kind, .int .i64 x.pos, .int .i64 x.attr] 70)).alloc (.cells #[.int .i64 u.code, .slice Ap u.path.length cp, .int .i64 u.one, .int .i64 u.many, .int .i64 u.asked] 67) := ⟨_, rfl⟩
 have B0 : Below w.heap.size w W := by rw [hW]; exact (((Below.refl w.heap.size w).alloc (Nat.le_refl _) _).alloc (by simp) _).alloc (by simp; omega) _
 have HBT : Hid (Blk W w.heap.size 27 #[.int .i64 T.strategy, .slice A1 T.keys.length c1, .slice A3 T.kinds.length c3, .int .i64 T.syms, .int .i64 T.runs, .int .i64 T.cells, .slice A T.states.length c, .slice A2 T.codes.length c2]) := Lib.hid (by rw [hW]; exact ((Blk.new w _ _).alloc _).alloc _)
 have HBI : Hid (Blk W (w.heap.size + 1) 70 #[.int .i64 x.op, .int .i64 x.kind, .int .i64 x.pos, .int .i64 x.attr]) := Lib.hid (by
  rw [hW]
  have := Blk.new (w.alloc (.cells #[.int .i64 T.strategy, .slice A1 T.keys.length c1, .slice A3 T.kinds.length c3, .int .i64 T.syms, .int .i64 T.runs, .int .i64 T.cells, .slice A T.states.length c, .slice A2 T.codes.length c2] 27)) 70 #[.int .i64 x.op, .int .i64 x.kind, .int .i64 x.pos, .int .i64 x.attr]
  rw [World.size_alloc] at this
  exact this.alloc _)
 have HBU : Hid (Blk W (w.heap.size + 2) 67 #[.int .i64 u.code, .slice Ap u.path.length cp, .int .i64 u.one, .int .i64 u.many, .int .i64 u.asked]) := Lib.hid (by
  rw [hW]
  have := Blk.new ((w.alloc (.cells #[.int .i64 T.strategy, .slice A1 T.keys.length c1, .slice A3 T.kinds.length c3, .int .i64 T.syms, .int .i64 T.runs, .int .i64 T.cells, .slice A T.states.length c, .slice A2 T.codes.length c2] 27)).alloc (.cells #[.int .i64 x.op, .int .i64 x.kind, .int .i64 x.pos, .int .i64 x.attr] 70)) 67 #[.int .i64 u.code, .slice Ap u.path.length cp, .int .i64 u.one, .int .i64 u.many, .int .i64 u.asked]
  rw [World.size_alloc, World.size_alloc] at this
  exact this)
 have HX := Lib.hid (h.below B0)
 have HPR := Lib.hid (hp2.below B0)
 have HB0 := Lib.hid B0
 have HTY := Lib.hid hty
 have HIN := Lib.hid hin
 obtain ⟨k0, k1, k2, k3, k4, k5, k6, k7⟩ := blk8 HBT.out
 obtain ⟨x0, x1, x2, x3⟩ := blk4u HBI.out
 obtain ⟨p0, p1, p2, p3, p4⟩ := blk5u HBU.out
 obtain ⟨rv, hrv⟩ : ∃ rv, fitsT T u x = rv := ⟨_, rfl⟩
 have HRV := Lib.hid hrv
 rw [hrv]
 clear h hp hp2 B0 hrv hty hin
 go_enter Try.func29, Try.ntmps29
 go_upto_region 1 with fail
 rw [← hW]
 clear hW
 go_upto_if 14 with fail
 go_cut [7] (fun v wx => ∃ of : Int, v = .int .i64 of ∧ of < (T.kinds.length : Int) ∧ fitsO T of x = rv ∧ Below W.heap.size W wx)
 case first =>
  by_cases c1 : x.op = 41
  ·have e1 : (x.op != 41) = false := by simpa using c1
   have HR : Hid (fitsO T u.asked x = rv) := Lib.hid (by
    have h := HRV.out
    unfold fitsT at h
    rw [if_pos c1] at h
    unfold fitsO
    rw [if_neg (by omega)]
    exact h)
   clear c1
   go_wp2_with fail
   go_meet
   exact ⟨_, rfl, hask, HR.out, Below.refl _ _⟩
  ·have e1 : (x.op != 41) = true := by simpa using c1
   obtain ⟨n, hn⟩ : ∃ n, (if x.op = 42 then u.one else u.many) = n := ⟨_, rfl⟩
   have hnl : n ≤ u.path.length := by rw [← hn]; split <;> assumption
   have HR : Hid ((if n ≤ x.pos then false else match rowAt T.states (u.path.getD x.pos.toNat 0) with | none => false | some s => if s.many = decide (x.op = 42) then false else fitsO T s.ty x) = rv) := Lib.hid (by
    have h := HRV.out
    unfold fitsT at h
    rw [if_neg c1, hn] at h
    exact h)
   have HN := Lib.hid hn
   clear hn c1
   go_upto_if 19 with fail
   go_cut [8] (fun v wx => v = .int .i64 n ∧ wx = W)
   case first =>
    rcases e2 : (x.op != 42) with _ | _
    ·have c2 : x.op = 42 := by simpa using e2
     have e : Hid (u.one = n) := Lib.hid (by rw [← HN.out, if_pos c2])
     clear c2
     go_wp2_with fail
     go_meet
     exact ⟨by rw [e.out], rfl⟩
    ·have c2 : ¬ x.op = 42 := by simpa using e2
     have e : Hid (u.many = n) := Lib.hid (by rw [← HN.out, if_neg c2])
     clear c2
     go_wp2_with fail
     go_meet
     exact ⟨by rw [e.out], rfl⟩
   case rest =>
    obtain ⟨rfl, hcw⟩ := hcut
    subst hcw
    by_cases hge : n ≤ x.pos
    ·have HF : Hid (false = rv) := Lib.hid (by have h := HR.out; rwa [if_pos hge] at h)
     go_upto_region 6 with fail
     go_quiet (fail)
     go_wp2_with fail
     go_ret
     exact ⟨congrArg (fun q => Ending.returned (Value.bool q)) HF.out, HB0.out.trans ((below_dn _ _).mono HB0.out.size)⟩
    ·have hlt : x.pos < n := by omega
     obtain ⟨q, hq⟩ : ∃ q : Nat, x.pos = (q : Int) := ⟨x.pos.toNat, by omega⟩
     have hql : q < u.path.length := by omega
     obtain ⟨j, hj⟩ : ∃ j, u.path[q]? = some j := ⟨_, List.getElem?_eq_getElem hql⟩
     obtain ⟨hj0, hj1⟩ := HIN.out j (List.mem_of_getElem? hj)
     obtain ⟨i, rfl⟩ : ∃ i : Nat, j = (i : Int) := ⟨j.toNat, by omega⟩
     have hil : i < T.states.length := by omega
     obtain ⟨s, hs⟩ : ∃ s, T.states[i]? = some s := ⟨_, List.getElem?_eq_getElem hil⟩
     obtain ⟨bp, op, rfl, _, hcell⟩ := HPR.out.shape (by omega)
     have m0 : wc.cell? ⟨bp, op + q, none⟩ = some (.int .i64 (i : Int)) := hcell q _ (by unfold iv; rw [List.getElem?_map, hj]; rfl)
     obtain ⟨b5, off5, c5, vb, ve, hvv, _, _, q0, q1, q2, _⟩ := rows_get HX.out.states hs
     injection hvv with hv1 hv2 hv3
     subst hv1
     have HR2 : Hid ((if s.many = decide (x.op = 42) then false else fitsO T s.ty x) = rv) := Lib.hid (by
      have h := HR.out
      rw [if_neg hge, hq, Int.toNat_natCast, List.getD_eq_getElem?_getD, hj] at h
      simp only [Option.getD_some] at h
      rw [rowAt_nat, hs] at h
      exact h)
     have HTS := Lib.hid (HTY.out s (List.mem_of_getElem? hs))
     rw [hq] at x2 hlt
     have g1 : (0 : Int) ≤ (q : Int) := by omega
     have g2 : (q : Int) < (u.path.length : Int) := by omega
     have g3 : (0 : Int) ≤ (i : Int) := by omega
     have g4 : (i : Int) < (T.states.length : Int) := by omega
     clear hq hj hs hcell hv2 hv3 hge hql hil hj0 hj1 HR hpos q0
     go_upto_region 6 with fail
     rcases e2 : (x.op != 42) with _ | _
     ·have c2 : x.op = 42 := by simpa using e2
      have HC2 := Lib.hid c2
      clear c2
      cases hm : s.many with
      | true =>
       have HF : Hid (false = rv) := Lib.hid (by have h := HR2.out; rw [if_pos (by rw [hm, HC2.out]; rfl)] at h; exact h)
       rw [hm] at q2
       clear hm
       go_quiet (fail)
       go_wp2_with fail
       go_ret
       exact ⟨congrArg (fun q => Ending.returned (Value.bool q)) HF.out, HB0.out.trans ((below_dn _ _).mono HB0.out.size)⟩
      | false =>
       have HF : Hid (fitsO T s.ty x = rv) := Lib.hid (by have h := HR2.out; rw [if_neg (by rw [hm, HC2.out]; decide)] at h; exact h)
       rw [hm] at q2
       clear hm
       go_quiet (fail)
       go_wp2_with fail
       go_quiet (fail)
       go_wp2_with fail
       go_meet
       exact ⟨s.ty, rfl, HTS.out, HF.out, (below_dn _ _).trans ((below_dn _ _).mono (Nat.le_refl _))⟩
     ·have c2 : ¬ x.op = 42 := by simpa using e2
      have HC2 := Lib.hid c2
      clear c2
      cases hm : s.many with
      | true =>
       have HF : Hid (fitsO T s.ty x = rv) := Lib.hid (by have h := HR2.out; rw [if_neg (by rw [hm, decide_eq_false HC2.out]; decide)] at h; exact h)
       rw [hm] at q2
       clear hm
       go_quiet (fail)
       go_wp2_with fail
       go_quiet (fail)
       go_wp2_with fail
       go_meet
       exact ⟨s.ty, rfl, HTS.out, HF.out, (below_dn _ _).trans ((below_dn _ _).mono (Nat.le_refl _))⟩
      | false =>
       have HF : Hid (false = rv) := Lib.hid (by have h := HR2.out; rw [if_pos (by rw [hm, decide_eq_false HC2.out])] at h; exact h)
       rw [hm] at q2
       clear hm
       go_quiet (fail)
       go_wp2_with fail
       go_ret
       exact ⟨congrArg (fun q => Ending.returned (Value.bool q)) HF.out, HB0.out.trans ((below_dn _ _).mono HB0.out.size)⟩
 case rest =>
  obtain ⟨of, rfl, hof, htl, hbc⟩ := hcut
  obtain ⟨V, hV⟩ : ∃ V, V = wc := ⟨wc, rfl⟩
  subst hV
  have HXV := Lib.hid (HX.out.below hbc)
  have HBV := Lib.hid (HB0.out.trans (hbc.mono HB0.out.size))
  have HTL := Lib.hid htl
  have HTV := Lib.hid (HBT.out.below hbc HBT.out.lt)
  have HIV := Lib.hid (HBI.out.below hbc HBI.out.lt)
  clear k0 k1 k2 k3 k4 k5 k6 k7 x0 x1 x2 x3 p0 p1 p2 p3 p4 htl hbc hpos hask h1 h2
  obtain ⟨k0, k1, k2, k3, k4, k5, k6, k7⟩ := blk8 HTV.out
  obtain ⟨x0, x1, x2, x3⟩ := blk4u HIV.out
  by_cases c25 : x.op = 25
  ·have e1 : (x.op == 25) = true := by simpa using c25
   have HR : Hid (decide (x.kind = 1) = rv) := Lib.hid (by have h := HTL.out; unfold fitsO at h; rwa [if_pos c25] at h)
   clear c25
   go_wp2_with fail
   all_goals (go_ret; exact ⟨congrArg (fun q => Ending.returned (Value.bool q)) (by rw [← HR.out]; first | rfl | (rw [Bool.eq_iff_iff]; simp_all)), HBV.out⟩)
  ·have e1 : (x.op == 25) = false := by simpa using c25
   have HR : Hid (fitsK T of x = rv) := Lib.hid (by have h := HTL.out; unfold fitsO at h; rwa [if_neg c25] at h)
   clear c25 HTL
   by_cases h0 : of < 0
   ·have HF : Hid (false = rv) := Lib.hid (by have h := HR.out; unfold fitsK at h; rwa [if_pos h0] at h)
    go_upto_region 11 with fail
    go_quiet (fail)
    go_wp2_with fail
    go_ret
    exact ⟨congrArg (fun q => Ending.returned (Value.bool q)) HF.out, HBV.out.trans ((below_dn _ _).mono HBV.out.size)⟩
   ·obtain ⟨o, rfl⟩ : ∃ o : Nat, of = (o : Int) := ⟨of.toNat, by omega⟩
    have hol : o < T.kinds.length := by omega
    obtain ⟨l, hl⟩ : ∃ l, T.kinds[o]? = some l := ⟨_, List.getElem?_eq_getElem hol⟩
    obtain ⟨cs, bb, oo, cc, hvv, _, _, hlc⟩ : ∃ (u5 : Value) (b off c : Nat), Value.slice A3 T.kinds.length c3 = .slice (some ⟨b, off, none⟩) T.kinds.length c ∧ V.cell? ⟨b, off + o, none⟩ = some u5 ∧ True ∧ SlR 1 IntC V u5 l := by
     obtain ⟨b, off, c, hv, h1, h2, hi, cs, hl2, ⟨u5, rfl, hs⟩, hc⟩ := HXV.out.kinds.get hl
     exact ⟨u5, b, off, c, hv, by have := hc 0 _ rfl; simpa using this, trivial, hs⟩
    rename_i hm0
    injection hvv with hv1 hv2 hv3
    subst hv1
    obtain ⟨Al, cl, rfl, _, hcl⟩ := hlc.slice
    unfold maxLen at hcl
    have HLC := Lib.hid hlc
    have HR2 : Hid ((if (l.length : Int) ≤ x.attr then false else fitsE x (kindAt l x.attr)) = rv) := Lib.hid (by
     have h := HR.out
     unfold fitsK at h
     rw [if_neg h0, Int.toNat_natCast, hl] at h
     exact h)
    have g1 : (0 : Int) ≤ (o : Int) := by omega
    have g2 : (o : Int) < (T.kinds.length : Int) := by omega
    have nl : (0 : Int) ≤ (l.length : Int) := by omega
    clear hl hlc hv2 hv3 h0 hol HR
    by_cases ha : (l.length : Int) ≤ x.attr
    ·have HF : Hid (false = rv) := Lib.hid (by have h := HR2.out; rwa [if_pos ha] at h)
     clear HR2
     go_upto_region 11 with fail
     go_quiet (fail)
     go_wp2_with fail
     go_ret
     exact ⟨congrArg (fun q => Ending.returned (Value.bool q)) HF.out, HBV.out.trans ((below_dn _ _).mono HBV.out.size)⟩
    ·have HF : Hid (fitsE x (kindAt l x.attr) = rv) := Lib.hid (by have h := HR2.out; rwa [if_neg ha] at h)
     have hal : x.attr < (l.length : Int) := by omega
     clear HR2 ha
     go_upto_region 11 with fail
     go_quiet (fail)
     go_upto_if 75 with fail
     go_cut [9] (fun v wx => v = .int .i64 (kindAt l x.attr) ∧ Below V.heap.size V wx)
     case first =>
      by_cases ha0 : 0 ≤ x.attr
      ·obtain ⟨a, hax⟩ : ∃ a : Nat, x.attr = (a : Int) := ⟨x.attr.toNat, by omega⟩
       have hal2 : a < l.length := by omega
       obtain ⟨y, hy⟩ : ∃ y, l[a]? = some y := ⟨_, List.getElem?_eq_getElem hal2⟩
       obtain ⟨b8, o8, c8, hv, _, _, m1, _⟩ := ints_get HLC.out hy
       injection hv with hv4 hv5 hv6
       subst hv4
       have HK : Hid (kindAt l x.attr = y) := Lib.hid (by unfold kindAt; rw [if_pos ha0, hax, Int.toNat_natCast, List.getD_eq_getElem?_getD, hy]; rfl)
       rw [hax] at x3 hal
       have g3 : (0 : Int) ≤ (a : Int) := by omega
       have hax2 := Lib.hid hax
       clear hax hy hv5 hv6 hal2
       go_upto_region 15 with fail
       go_quiet (fail)
       go_wp2_with fail
       go_meet
       exact ⟨by rw [HK.out], (below_dn _ _).trans ((below_dn _ _).mono (Nat.le_refl _))⟩
      ·have ha1 : x.attr < 0 := by omega
       have HK : Hid (kindAt l x.attr = 1) := Lib.hid (by unfold kindAt; rw [if_neg ha0])
       clear ha0
       go_wp2_with fail
       go_meet
       exact ⟨by rw [HK.out], below_dn _ _⟩
     case rest =>
      obtain ⟨rfl, hbx⟩ := hcut
      obtain ⟨k, hk⟩ : ∃ k, kindAt l x.attr = k := ⟨_, rfl⟩
      rw [hk] at HF ⊢
      have HBX := Lib.hid (HBV.out.trans (hbx.mono HBV.out.size))
      obtain ⟨x0, x1, x2, x3⟩ := blk4u (HIV.out.below hbx HIV.out.lt)
      unfold fitsE at HF
      clear hk hbx
      go_wp2_with fail
      all_goals (go_ret; refine ⟨congrArg (fun q => Ending.returned (Value.bool q)) ?_, HBX.out⟩; rw [← HF.out]; (try simp only [beq_iff_eq, beq_eq_false_iff_ne, bne_iff_ne, bne_eq_false_iff_eq, ne_eq] at *); rw [Bool.eq_iff_iff]; simp; try omega)
end Go.Proofs.Ytioocaicmiggoaa
namespace Go.Proofs.Ytioocaicmiggoaa
set_option linter.unusedVariables false
set_option linter.unusedSimpArgs false
open Go.RowKit Go.Deep Go.Maps
def insM (T : TTab) (u : TUse) : List TInp := match T.codes[u.code.toNat]? with | none => [] | some c => c.inputs
def okM (T : TTab) (u : TUse) : Bool := decide (u.code = -1) || (inB u.code 0 ((T.codes.length : Int) - 1) && (insM T u).all (fitsT T u))
def preM (T : TTab) : Bool := firstT T && secondT T && decide (T.codes.length ≤ 1024)
def mayT (T : TTab) : Bool := preM T && T.codes.all codeB && (usesT T).all (okM T) && decide ((toldU (usesT T) []).length = T.codes.length)
def UseG (T : TTab) (u : TUse) : Prop := u.one ≤ u.path.length ∧ u.many ≤ u.path.length ∧ (∀ j ∈ u.path, 0 ≤ j ∧ j < (T.states.length : Int)) ∧ u.asked < (T.kinds.length : Int)
theorem inB_iff {a b c : Int} : inB a b c = true ↔ b ≤ a ∧ a ≤ c := by unfold inB; simp
theorem typed_inB (T : TTab) (k : Int) : typedT T k = inB k 0 ((T.kinds.length : Int) - 1) := by
 unfold typedT inB
 congr 1
 rw [Bool.eq_iff_iff]; simp; omega
theorem stops_inB (T : TTab) (l : List TStop) : stopsT T l = l.all fun b => inB b.ty 0 ((T.kinds.length : Int) - 1) := by
 unfold stopsT
 congr 1
 funext b
 exact typed_inB T b.ty
theorem row_same (T : TTab) (i : Nat) (x : TRow) : rowT T i x = rowD T i x := by
 unfold rowT rowD rowN rowB rowM barsAll
 rw [Bool.eq_iff_iff, List.all_append, List.all_flatMap, stops_inB, typed_inB]
 simp only [Bool.and_eq_true, Bool.or_eq_true, Bool.not_eq_true', decide_eq_true_eq, decide_eq_false_iff_not, List.all_eq_true, inB_iff, tailB, stops_inB]
 constructor
 ·rintro ⟨⟨⟨⟨⟨⟨⟨h1, h2⟩, h3⟩, h4⟩, h5⟩, h6⟩, h7, h8⟩, h9⟩
  exact ⟨⟨⟨⟨h1, by omega⟩, ⟨⟨⟨h3, h4⟩, h5⟩, h6⟩, by rcases h7 with h | h; exact .inl (by omega); exact .inr h⟩, fun e he => ⟨(h9 e he).1.1, by have := (h9 e he).1.2; omega⟩⟩, h8, fun e he => (h9 e he).2⟩
 ·rintro ⟨⟨⟨⟨h1, h2⟩, ⟨⟨⟨h3, h4⟩, h5⟩, h6⟩, h7⟩, h9⟩, h8, h10⟩
  exact ⟨⟨⟨⟨⟨⟨⟨h1, by omega⟩, h3⟩, h4⟩, h5⟩, h6⟩, by rcases h7 with h | h; exact .inl (by omega); exact .inr h, h8⟩, fun e he => ⟨⟨(h9 e he).1, by have := (h9 e he).2; omega⟩, h10 e he⟩⟩
theorem rows_same (T : TTab) : rowsB T T.states.length = (List.range T.states.length).all (rowDI T) := by
 unfold rowsB
 congr 1
 funext i
 unfold rowI rowDI
 cases T.states[i]? with
 | none => rfl
 | some x => exact row_same T i x
theorem pre_same (T : TTab) : preM T = (headT T && rowsB T T.states.length) := by
 unfold preM firstT firstN headT headN secondT liveB
 rw [rows_same, Bool.eq_iff_iff]
 simp only [Bool.and_eq_true, decide_eq_true_eq, inB_iff]
 constructor
 ·rintro ⟨⟨⟨⟨⟨⟨⟨⟨⟨h1, h2⟩, h3⟩, h4, h5⟩, h6, h7⟩, h8, h9⟩, h10⟩, h11⟩, h12, h13⟩, h14⟩
  exact ⟨⟨⟨⟨⟨⟨⟨⟨⟨⟨⟨h1, h2⟩, h3⟩, h4⟩, h5⟩, h14⟩, h12⟩, h6, h7⟩, h8, h9⟩, h10⟩, h11⟩, h13⟩
 ·rintro ⟨⟨⟨⟨⟨⟨⟨⟨⟨⟨⟨h1, h2⟩, h3⟩, h4⟩, h5⟩, h14⟩, h12⟩, h6, h7⟩, h8, h9⟩, h10⟩, h11⟩, h13⟩
  exact ⟨⟨⟨⟨⟨⟨⟨⟨⟨h1, h2⟩, h3⟩, h4, h5⟩, h6, h7⟩, h8, h9⟩, h10⟩, h11⟩, h12, h13⟩, h14⟩
theorem rowD_of {T : TTab} (h : secondT T = true) {i : Nat} {x : TRow} (hx : T.states[i]? = some x) : rowD T i x = true := by
 unfold secondT at h
 rw [Bool.and_eq_true, List.all_eq_true] at h
 have h2 := h.2 i (List.mem_range.2 (List.getElem?_eq_some_iff.1 hx).1)
 unfold rowDI at h2
 rwa [hx] at h2
theorem rowD_ty {T : TTab} {i : Nat} {x : TRow} (h : rowD T i x = true) : x.ty < (T.kinds.length : Int) ∧ ∀ b ∈ barsAll x, b.ty < (T.kinds.length : Int) := by
 unfold rowD rowM at h
 simp only [Bool.and_eq_true, inB_iff, List.all_eq_true] at h
 exact ⟨by have := h.1.1.2.1.1.1.1.2; omega, fun b hb => by have := (h.2 b hb).2; omega⟩
theorem tys_of {T : TTab} (h : secondT T = true) : ∀ s ∈ T.states, s.ty < (T.kinds.length : Int) := by
 intro s hs
 obtain ⟨i, hi⟩ := List.getElem?_of_mem hs
 exact (rowD_ty (rowD_of h hi)).1
theorem uses_good {T : TTab} (h : secondT T = true) : ∀ u ∈ usesT T, UseG T u := by
 intro u hu
 unfold usesT usesUp at hu
 obtain ⟨i, hi, hu⟩ := List.mem_flatMap.1 hu
 unfold usesI at hu
 cases hx : T.states[i]? with
 | none => rw [hx] at hu; cases hu
 | some x =>
  rw [hx] at hu
  obtain ⟨h1, h2⟩ := rowD_ty (rowD_of h hx)
  have h3 : ∀ b ∈ x.bars, b.ty < (T.kinds.length : Int) := fun b hb => h2 b (by unfold barsAll; exact List.mem_append_left _ hb)
  have h4 : ∀ e ∈ x.ends, ∀ b ∈ e.bars, b.ty < (T.kinds.length : Int) := fun e he b hb => h2 b (by unfold barsAll; exact List.mem_append_right _ (List.mem_flatMap.2 ⟨e, he, hb⟩))
  have h5 : (-1 : Int) < (T.kinds.length : Int) := by omega
  simp only [usesRow, useTwo, List.mem_append, List.mem_cons, List.not_mem_nil, or_false, List.mem_map, List.mem_flatMap, useEnd] at hu
  rcases hu with ((rfl | rfl) | ⟨b, hb, rfl⟩) | ⟨e, he, rfl | ⟨b, hb, rfl⟩⟩
  ·exact ⟨by simp only; omega, Int.le_refl _, pathT_in _ _, h1⟩
  ·exact ⟨Int.le_refl _, Int.le_refl _, pathT_in _ _, h5⟩
  ·exact ⟨Int.le_refl _, Int.le_refl _, pathT_in _ _, h3 b hb⟩
  ·exact ⟨Int.le_refl _, Int.le_refl _, pathT_in _ _, h5⟩
  ·exact ⟨Int.le_refl _, Int.le_refl _, pathT_in _ _, h4 e he b hb⟩
theorem kinds_of {T : TTab} (h : kindsB T T.kinds.length = true) {o : Nat} {l : List Int} (hl : T.kinds[o]? = some l) : ∀ k ∈ l, 1 ≤ k ∧ k ≤ 4 := by
 unfold kindsB at h
 rw [List.all_eq_true] at h
 have h2 := h o (List.mem_range.2 (List.getElem?_eq_some_iff.1 hl).1)
 rw [List.getD_eq_getElem?_getD, hl] at h2
 unfold kindB at h2
 rw [Bool.and_eq_true, List.all_eq_true] at h2
 intro k hk
 have h3 := h2.2 k hk
 simpa using h3
theorem fitsK_same {T : TTab} (h : kindsB T T.kinds.length = true) (of : Int) (x : TInp) (ha : -1 ≤ x.attr) : fitsK T of x = (!decide (attrT T of x.attr = 0) && fitsE x (attrT T of x.attr)) := by
 have hz : ∀ k : Int, attrT T of x.attr = k → ∀ b : Bool, b = (!decide (k = 0) && fitsE x k) → b = (!decide (attrT T of x.attr = 0) && fitsE x (attrT T of x.attr)) := by
  intro k hk b hb
  rw [hk]; exact hb
 unfold fitsK
 by_cases h0 : of < 0
 ·rw [if_pos h0]
  exact hz 0 (by unfold attrT; rw [if_neg (by omega)]) _ rfl
 ·rw [if_neg h0]
  cases hl : T.kinds[of.toNat]? with
  | none => exact hz 0 (by unfold attrT; rw [if_pos (by omega), hl]) _ rfl
  | some l =>
   have ea : attrT T of x.attr = (if x.attr < -1 ∨ (l.length : Int) ≤ x.attr then 0 else if x.attr = -1 then 1 else l.getD x.attr.toNat 0) := by unfold attrT; rw [if_pos (by omega), hl]
   simp only
   by_cases h1 : (l.length : Int) ≤ x.attr
   ·rw [if_pos h1]
    exact hz 0 (by rw [ea, if_pos (Or.inr h1)]) _ rfl
   ·rw [if_neg h1]
    rw [if_neg (by omega)] at ea
    by_cases h2 : 0 ≤ x.attr
    ·have ek : kindAt l x.attr = l.getD x.attr.toNat 0 := by unfold kindAt; rw [if_pos h2]
     rw [if_neg (by omega)] at ea
     have h3 : l.getD x.attr.toNat 0 ∈ l := by
      rw [List.getD_eq_getElem?_getD, List.getElem?_eq_getElem (by omega)]
      exact List.getElem_mem _
     have h4 := kinds_of h hl _ h3
     refine hz _ ea _ ?_
     rw [ek, decide_eq_false (by omega)]
     rfl
    ·have ek : kindAt l x.attr = 1 := by unfold kindAt; rw [if_neg h2]
     rw [if_pos (by omega)] at ea
     refine hz _ ea _ ?_
     rw [ek]
     rfl
theorem fits_same {T : TTab} (h : kindsB T T.kinds.length = true) (u : TUse) (x : TInp) (hx : inputB x = true) : fitsT T u x = inputT T u.path u.one u.many u.asked x := by
 unfold inputB at hx
 simp only [Bool.and_eq_true, decide_eq_true_eq] at hx
 have ha : -1 ≤ x.attr := hx.1.1.1.2
 unfold fitsT inputT
 by_cases h1 : x.op = 41
 ·rw [if_pos h1, if_pos h1, fitsK_same h _ _ ha]
  unfold fitsE
  rw [h1]
  simp
 ·rw [if_neg h1, if_neg h1]
  generalize (if x.op = 42 then u.one else u.many) = m
  by_cases hm : m ≤ x.pos
  ·rw [if_pos hm, if_pos hm]
  ·rw [if_neg hm, if_neg hm]
   cases rowAt T.states (u.path.getD x.pos.toNat 0) with
   | none => rfl
   | some s =>
    simp only
    unfold rowK fitsO
    by_cases h2 : s.many = decide (x.op = 42)
    ·rw [if_pos h2, if_pos h2]
    ·rw [if_neg h2, if_neg h2]
     by_cases h3 : x.op = 25
     ·rw [if_pos h3, if_pos h3]
     ·rw [if_neg h3, if_neg h3, fitsK_same h _ _ ha]
      generalize attrT T s.ty x.attr = k
      unfold fitsE
      rw [Bool.eq_iff_iff]
      by_cases hk : k = 0 ∨ k ≠ x.kind
      ·rw [if_pos hk]
       simp
       omega
      ·rw [if_neg hk]
       by_cases h4 : x.op = 31
       ·rw [if_pos h4]
        simp; omega
       ·rw [if_neg h4]
        by_cases h5 : 28 ≤ x.op ∧ x.op ≤ 30
        ·rw [if_pos h5]
         simp; omega
        ·rw [if_neg h5]
         simp; omega
theorem insM_in {T : TTab} (hc : T.codes.all codeB = true) (u : TUse) : ∀ x ∈ insM T u, inputB x = true := by
 intro x hx
 unfold insM at hx
 cases hq : T.codes[u.code.toNat]? with
 | none => rw [hq] at hx; cases hx
 | some c =>
  rw [hq] at hx
  rw [List.all_eq_true] at hc
  have h1 := hc c (List.mem_of_getElem? hq)
  unfold codeB goodB at h1
  simp only [Bool.and_eq_true] at h1
  exact List.all_eq_true.1 h1.2.1.1.2 x hx
theorem ok_same {T : TTab} (h : kindsB T T.kinds.length = true) (hc : T.codes.all codeB = true) (u : TUse) : okM T u = useOk T u := by
 have hi := insM_in hc u
 unfold okM useOk codeT
 congr 1
 unfold insM inB at *
 by_cases h0 : 0 ≤ u.code
 ·by_cases h1 : u.code ≤ (T.codes.length : Int) - 1
  ·rw [decide_eq_true h0, decide_eq_true h1, Bool.true_and, Bool.true_and, Bool.true_and]
   cases hq : T.codes[u.code.toNat]? with
   | none => rw [List.getElem?_eq_none_iff] at hq; omega
   | some c =>
    rw [hq] at hi
    simp only at hi ⊢
    rw [Bool.eq_iff_iff, List.all_eq_true, List.all_eq_true]
    exact ⟨fun k x hx => by rw [← fits_same h u x (hi x hx)]; exact k x hx, fun k x hx => by rw [fits_same h u x (hi x hx)]; exact k x hx⟩
  ·rw [decide_eq_true h0, decide_eq_false h1, Bool.true_and, Bool.false_and, Bool.true_and, List.getElem?_eq_none (by omega)]
 ·rw [decide_eq_false h0, Bool.false_and, Bool.false_and, Bool.false_and]
theorem may_same (T : TTab) : mayT T = verT T := by
 unfold mayT verT
 rw [pre_same]
 cases hh : headT T with
 | false => rfl
 | true =>
  cases hc : T.codes.all codeB with
  | false => simp
  | true =>
   have hk : kindsB T T.kinds.length = true := by
    unfold headT at hh
    simp only [Bool.and_eq_true] at hh
    exact hh.2
   have e : (usesT T).all (okM T) = (usesT T).all (useOk T) := by
    congr 1
    funext u
    exact ok_same hk hc u
   rw [e]
end Go.Proofs.Ytioocaicmiggoaa

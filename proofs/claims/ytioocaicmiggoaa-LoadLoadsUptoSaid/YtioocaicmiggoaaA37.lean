/- Ssm, Lsm, Law: texts merged for a claim by a program of mine. -/
import Derived.Test.YtioocaicmiggoaaA17
import Derived.Test.YtioocaicmiggoaaA36
import Derived.Test.YtioocaicmiggoaaA05
import Derived.Test.YtioocaicmiggoaaA08
import Derived.Test.YtioocaicmiggoaaA22
import Derived.Test.YtioocaicmiggoaaA24
namespace Go.Proofs.Ytioocaicmiggoaa
set_option linter.unusedVariables false
set_option linter.unusedSimpArgs false
open Go.RowKit Go.Deep
theorem madeV_shape {w w' : World} {l : List UInt8} {e : Ending} (h : MadeV w l e w') (hl : 0 < l.length) : ∃ g cap, e = .returned (.slice (some ⟨g, 0, none⟩) l.length cap) ∧ Kept w' g l ∧ Below w.heap.size w w' := by
 obtain ⟨v, rfl, ho, hb⟩ := h
 obtain ⟨g, cap, rfl, _⟩ := own_shape ho hl
 exact ⟨g, cap, rfl, Kept.of_own ho hl, hb⟩
theorem plainBy_pos (T : TTab) : 0 < (plainBy T).length := by
 have := vb_flat_len [T.strategy, T.syms, T.runs, T.cells, (T.keys.length : Int)]
 unfold plainBy
 simp only [List.length_append, List.length_cons, List.length_nil] at this ⊢
 omega
def SameS (H : Nat) (a0 a1 a2 a3 a4 a5 a6 a7 b0 b1 b2 b3 b4 b5 b6 b7 : Value) (W : World) : Prop := (W.cell? ⟨H, 0, none⟩ = some a0 ∧ W.cell? ⟨H, 1, none⟩ = some a1 ∧ W.cell? ⟨H, 2, none⟩ = some a2 ∧ W.cell? ⟨H, 3, none⟩ = some a3 ∧ W.cell? ⟨H, 4, none⟩ = some a4 ∧ W.cell? ⟨H, 5, none⟩ = some a5 ∧ W.cell? ⟨H, 6, none⟩ = some a6 ∧ W.cell? ⟨H, 7, none⟩ = some a7) ∧
 W.cell? ⟨H + 1, 0, none⟩ = some b0 ∧ W.cell? ⟨H + 1, 1, none⟩ = some b1 ∧ W.cell? ⟨H + 1, 2, none⟩ = some b2 ∧ W.cell? ⟨H + 1, 3, none⟩ = some b3 ∧ W.cell? ⟨H + 1, 4, none⟩ = some b4 ∧ W.cell? ⟨H + 1, 5, none⟩ = some b5 ∧ W.cell? ⟨H + 1, 6, none⟩ = some b6 ∧ W.cell? ⟨H + 1, 7, none⟩ = some b7
theorem sameS_of {W1 W : World} {H : Nat} {t : TypeId} {a0 a1 a2 a3 a4 a5 a6 a7 b0 b1 b2 b3 b4 b5 b6 b7 : Value} (h : Blk W1 H t #[a0, a1, a2, a3, a4, a5, a6, a7]) (k : Blk W1 (H + 1) t #[b0, b1, b2, b3, b4, b5, b6, b7]) (hb : Below W1.heap.size W1 W) : SameS H a0 a1 a2 a3 a4 a5 a6 a7 b0 b1 b2 b3 b4 b5 b6 b7 W :=
 ⟨blk8s (h.below hb h.lt), blk8s (k.below hb k.lt)⟩
def CodeS (g i : Nat) (a0 a1 a2 a3 a4 : Value) (W : World) : Prop := W.cell? ⟨g, i, none⟩ = some a0 ∧ W.cell? ⟨g, i + 1, none⟩ = some a1 ∧ W.cell? ⟨g, i + 2, none⟩ = some a2 ∧ W.cell? ⟨g, i + 3, none⟩ = some a3 ∧ W.cell? ⟨g, i + 4, none⟩ = some a4
set_option maxRecDepth 100000 in
set_option maxHeartbeats 4000000 in
theorem same_any (T : TTab) (vk vkk vs vc uk ukk us uc : Value) (w : World) (h : TabX w T vk vkk vs vc) (k : TabX w T uk ukk us uc) (hlb : (plainBy T).length ≤ 1000000000) :
  Calls Try.prog 12 #[.agg #[.int .i64 T.strategy, vk, vkk, .int .i64 T.syms, .int .i64 T.runs, .int .i64 T.cells, vs, vc], .agg #[.int .i64 T.strategy, uk, ukk, .int .i64 T.syms, .int .i64 T.runs, .int .i64 T.cells, us, uc]] w fun e w' => e = .returned (.bool true) ∧ Below w.heap.size w w' := by
 obtain ⟨A1, a1, rfl, _, _⟩ := h.keys.slice
 obtain ⟨B1, b1, rfl, _, _⟩ := h.kinds.slice
 obtain ⟨C1, c1, rfl, _, _⟩ := h.states.slice
 obtain ⟨D1, d1, rfl, hd1, hd2⟩ := h.codes.slice
 obtain ⟨A2, a2, rfl, _, _⟩ := k.keys.slice
 obtain ⟨B2, b2, rfl, _, _⟩ := k.kinds.slice
 obtain ⟨C2, c2, rfl, _, _⟩ := k.states.slice
 obtain ⟨D2, d2, rfl, _, _⟩ := k.codes.slice
 unfold maxLen at hd2
 obtain ⟨W, hW⟩ : ∃ W, W = (w.alloc (.cells #[.int .i64 T.strategy, .slice A1 T.keys.length a1, .slice B1 T.kinds.length b1, .int .i64 T.syms, .int .i64 T.runs, .int .i64 T.cells, .slice C1 T.states.length c1, .slice D1 T.codes.length d1] 27)).alloc (.cells #[.int .i64 T.strategy, .slice A2 T.keys.length a2, .slice B2 T.kinds.length b2, .int .i64 T.syms, .int .i64 T.runs, .int .i64 T.cells, .slice C2 T.states.length c2, .slice D2 T.codes.length d2] 27) := ⟨_, rfl⟩
 have hb : Below w.heap.size w W := by rw [hW]; exact ((Below.refl _ _).alloc (Nat.le_refl _) _).alloc (by simp) _
 have hk1 : Blk W w.heap.size 27 #[.int .i64 T.strategy, .slice A1 T.keys.length a1, .slice B1 T.kinds.length b1, .int .i64 T.syms, .int .i64 T.runs, .int .i64 T.cells, .slice C1 T.states.length c1, .slice D1 T.codes.length d1] := by rw [hW]; exact (Blk.new _ _ _).alloc _
 have hk2 : Blk W (w.heap.size + 1) 27 #[.int .i64 T.strategy, .slice A2 T.keys.length a2, .slice B2 T.kinds.length b2, .int .i64 T.syms, .int .i64 T.runs, .int .i64 T.cells, .slice C2 T.states.length c2, .slice D2 T.codes.length d2] := by
  have h := Blk.new (w.alloc (.cells #[.int .i64 T.strategy, .slice A1 T.keys.length a1, .slice B1 T.kinds.length b1, .int .i64 T.syms, .int .i64 T.runs, .int .i64 T.cells, .slice C1 T.states.length c1, .slice D1 T.codes.length d1] 27)) 27 #[.int .i64 T.strategy, .slice A2 T.keys.length a2, .slice B2 T.kinds.length b2, .int .i64 T.syms, .int .i64 T.runs, .int .i64 T.cells, .slice C2 T.states.length c2, .slice D2 T.codes.length d2]
  rw [World.size_alloc] at h
  rw [hW]; exact h
 have HB := Lib.hid hb
 have BA := Lib.hid hk1
 have BB := Lib.hid hk2
 have HX := Lib.hid (h.below hb)
 have KX := Lib.hid (k.below hb)
 have HL := Lib.hid hlb
 have PP := Lib.hid (plainBy_pos T)
 obtain ⟨x0, x1, x2, x3, x4, x5, x6, x7⟩ := blk8s hk1
 obtain ⟨y0, y1, y2, y3, y4, y5, y6, y7⟩ := blk8s hk2
 have nn : (0 : Int) ≤ (T.codes.length : Int) := by omega
 clear h k hb hk1 hk2 hlb
 go_enter Try.func12, Try.ntmps12
 go_upto_region 1 with fail
 try simp only [World.size_alloc]
 rw [← hW]
 clear hW
 go_wp2_with fail
 clear x0 x1 x2 x3 x4 x5 x6 x7 y0 y1 y2 y3 y4 y5 y6 y7
 go_loopw [16] (fun s wr => ∃ r : Nat, r ≤ T.codes.length ∧ s = .int .i64 r ∧ Hid (Below W.heap.size W wr)) (fun s _ => T.codes.length - (intOf s).toNat)
 case atStart => exact ⟨0, Nat.zero_le _, rfl, Lib.hid (Below.refl _ _)⟩
 case round =>
  obtain ⟨r, hr, rfl, hq⟩ := hrel
  by_cases hlt : r < T.codes.length
  ·obtain ⟨y, hy⟩ : ∃ y, T.codes[r]? = some y := ⟨_, List.getElem?_eq_getElem hlt⟩
   obtain ⟨g1, o1, e1, ui, uc, ul, ha, _, _, m0, m1, m2, m3, m4, s1, s2, s3, _⟩ := codes_get HX.out.codes hy
   obtain ⟨g2, o2, e2, vi, vc, vl, hb, _, _, n0, n1, n2, n3, n4, t1, t2, t3, _⟩ := codes_get KX.out.codes hy
   injection ha with ha _ ha2
   injection hb with hb _ hb2
   subst ha ha2 hb hb2
   obtain ⟨p1, p2, rfl, _, _⟩ := s1.slice
   obtain ⟨p3, p4, rfl, _, _⟩ := s2.slice
   obtain ⟨p5, p6, rfl, _, _⟩ := s3.slice
   obtain ⟨q1, q2, rfl, _, _⟩ := t1.slice
   obtain ⟨q3, q4, rfl, _, _⟩ := t2.slice
   obtain ⟨q5, q6, rfl, _, _⟩ := t3.slice
   have CS := Lib.hid (fun V (hv : Below W.heap.size W V) => by
    have kp := KeepC.of_below hv
    exact (⟨⟨kp _ _ m0, kp _ _ m1, kp _ _ m2, kp _ _ m3, kp _ _ m4⟩, ⟨kp _ _ n0, kp _ _ n1, kp _ _ n2, kp _ _ n3, kp _ _ n4⟩⟩ : CodeS g1 (o1 + r * 5) _ _ _ _ _ V ∧ CodeS g2 (o2 + r * 5) _ _ _ _ _ V))
   have CC := Lib.hid (fun V (hv : Below W.heap.size W V) => by
    have kp := KeepC.of_below hv
    exact same_code y _ _ _ _ _ _ V (keep_inps kp s1) (keep_vals kp s2) (keep_inss kp s3) (keep_inps kp t1) (keep_vals kp t2) (keep_inss kp t3))
   clear m0 m1 m2 m3 m4 n0 n1 n2 n3 n4 s1 s2 s3 t1 t2 t3 hy
   have i1 : (0 : Int) ≤ (r : Int) := by omega
   have i2 : (r : Int) < (T.codes.length : Int) := by omega
   go_upto_region 6 with fail
   obtain ⟨yo, hyo⟩ : ∃ yo, yo = World.drew wr := ⟨_, rfl⟩
   have HBO : Hid (Below W.heap.size W yo) := Lib.hid (by rw [hyo]; exact ⟨hq.out.os, hq.out.tape, hq.out.output, hq.out.size, hq.out.block⟩)
   have HS := Lib.hid (And.intro (sameS_of BA.out BB.out HBO.out) (CS.out yo HBO.out))
   refine region_till (fun W => SameS w.heap.size (.int .i64 T.strategy) (.slice A1 T.keys.length a1) (.slice B1 T.kinds.length b1) (.int .i64 T.syms) (.int .i64 T.runs) (.int .i64 T.cells) (.slice C1 T.states.length c1) (.slice (some ⟨g1, o1, none⟩) T.codes.length d1) (.int .i64 T.strategy) (.slice A2 T.keys.length a2) (.slice B2 T.kinds.length b2) (.int .i64 T.syms) (.int .i64 T.runs) (.int .i64 T.cells) (.slice C2 T.states.length c2) (.slice (some ⟨g2, o2, none⟩) T.codes.length d2) W ∧ CodeS g1 (o1 + r * 5) (.int .i64 y.regs) (.int .i64 y.slots) (.slice p1 y.inputs.length p2) (.slice p3 y.consts.length p4) (.slice p5 y.list.length p6) W ∧ CodeS g2 (o2 + r * 5) (.int .i64 y.regs) (.int .i64 y.slots) (.slice q1 y.inputs.length q2) (.slice q3 y.consts.length q4) (.slice q5 y.list.length q6) W) (fun j => !([0, 1, 2, 3, 4, 5, 6, 7, 8, 9, 10, 11] : List Nat).contains j) (by kernel_rfl) ?_
   rw [← hyo]
   clear hyo
   refine till_take (i := 0) (v := ?_) rfl (by kernel_rfl) (by kernel_rfl) (by kernel_rfl) (by kernel_rfl) (fun _ _ _ h => h) (Or.inl ⟨by kernel_rfl, ?_⟩) HS.out ?_
   rotate_left
   ·(intro w' hSw; obtain ⟨⟨⟨x0, x1, x2, x3, x4, x5, x6, x7⟩, y0, y1, y2, y3, y4, y5, y6, y7⟩, ⟨m0, m1, m2, m3, m4⟩, n0, n1, n2, n3, n4⟩ := hSw; go_simp; try with_reducible rfl)
   refine till_take (i := 1) (v := ?_) rfl (by kernel_rfl) (by kernel_rfl) (by kernel_rfl) (by kernel_rfl) (fun _ _ _ h => h) (Or.inl ⟨by kernel_rfl, ?_⟩) HS.out ?_
   rotate_left
   ·(intro w' hSw; obtain ⟨⟨⟨x0, x1, x2, x3, x4, x5, x6, x7⟩, y0, y1, y2, y3, y4, y5, y6, y7⟩, ⟨m0, m1, m2, m3, m4⟩, n0, n1, n2, n3, n4⟩ := hSw; go_simp; try with_reducible rfl)
   refine till_take (i := 2) (v := ?_) rfl (by kernel_rfl) (by kernel_rfl) (by kernel_rfl) (by kernel_rfl) (fun _ _ _ h => h) (Or.inl ⟨by kernel_rfl, ?_⟩) HS.out ?_
   rotate_left
   ·(intro w' hSw; obtain ⟨⟨⟨x0, x1, x2, x3, x4, x5, x6, x7⟩, y0, y1, y2, y3, y4, y5, y6, y7⟩, ⟨m0, m1, m2, m3, m4⟩, n0, n1, n2, n3, n4⟩ := hSw; go_simp; try with_reducible rfl)
   refine till_take (i := 3) (v := ?_) rfl (by kernel_rfl) (by kernel_rfl) (by kernel_rfl) (by kernel_rfl) (fun _ _ _ h => h) (Or.inl ⟨by kernel_rfl, ?_⟩) HS.out ?_
   rotate_left
   ·(intro w' hSw; obtain ⟨⟨⟨x0, x1, x2, x3, x4, x5, x6, x7⟩, y0, y1, y2, y3, y4, y5, y6, y7⟩, ⟨m0, m1, m2, m3, m4⟩, n0, n1, n2, n3, n4⟩ := hSw; go_simp; try with_reducible rfl)
   refine till_take (i := 4) (v := ?_) rfl (by kernel_rfl) (by kernel_rfl) (by kernel_rfl) (by kernel_rfl) (fun _ _ _ h => h) (Or.inl ⟨by kernel_rfl, ?_⟩) HS.out ?_
   rotate_left
   ·(intro w' hSw; obtain ⟨⟨⟨x0, x1, x2, x3, x4, x5, x6, x7⟩, y0, y1, y2, y3, y4, y5, y6, y7⟩, ⟨m0, m1, m2, m3, m4⟩, n0, n1, n2, n3, n4⟩ := hSw; go_simp; try with_reducible rfl)
   refine till_take (i := 5) (v := ?_) rfl (by kernel_rfl) (by kernel_rfl) (by kernel_rfl) (by kernel_rfl) (fun _ _ _ h => h) (Or.inl ⟨by kernel_rfl, ?_⟩) HS.out ?_
   rotate_left
   ·(intro w' hSw; obtain ⟨⟨⟨x0, x1, x2, x3, x4, x5, x6, x7⟩, y0, y1, y2, y3, y4, y5, y6, y7⟩, ⟨m0, m1, m2, m3, m4⟩, n0, n1, n2, n3, n4⟩ := hSw; go_simp; try with_reducible rfl)
   refine till_take (i := 6) (v := ?_) rfl (by kernel_rfl) (by kernel_rfl) (by kernel_rfl) (by kernel_rfl) (fun _ _ _ h => h) (Or.inl ⟨by kernel_rfl, ?_⟩) HS.out ?_
   rotate_left
   ·(intro w' hSw; obtain ⟨⟨⟨x0, x1, x2, x3, x4, x5, x6, x7⟩, y0, y1, y2, y3, y4, y5, y6, y7⟩, ⟨m0, m1, m2, m3, m4⟩, n0, n1, n2, n3, n4⟩ := hSw; go_simp; try with_reducible rfl)
   refine till_take (i := 7) (v := ?_) rfl (by kernel_rfl) (by kernel_rfl) (by kernel_rfl) (by kernel_rfl) (fun _ _ _ h => h) (Or.inl ⟨by kernel_rfl, ?_⟩) HS.out ?_
   rotate_left
   ·(intro w' hSw; obtain ⟨⟨⟨x0, x1, x2, x3, x4, x5, x6, x7⟩, y0, y1, y2, y3, y4, y5, y6, y7⟩, ⟨m0, m1, m2, m3, m4⟩, n0, n1, n2, n3, n4⟩ := hSw; go_simp; try with_reducible rfl)
   refine till_take (i := 8) (v := ?_) rfl (by kernel_rfl) (by kernel_rfl) (by kernel_rfl) (by kernel_rfl) (fun _ _ _ h => h) (Or.inl ⟨by kernel_rfl, ?_⟩) HS.out ?_
   rotate_left
   ·(intro w' hSw; obtain ⟨⟨⟨x0, x1, x2, x3, x4, x5, x6, x7⟩, y0, y1, y2, y3, y4, y5, y6, y7⟩, ⟨m0, m1, m2, m3, m4⟩, n0, n1, n2, n3, n4⟩ := hSw; go_simp; try with_reducible rfl)
   refine till_take (i := 9) (v := ?_) rfl (by kernel_rfl) (by kernel_rfl) (by kernel_rfl) (by kernel_rfl) (fun _ _ _ h => h) (Or.inl ⟨by kernel_rfl, ?_⟩) HS.out ?_
   rotate_left
   ·(intro w' hSw; obtain ⟨⟨⟨x0, x1, x2, x3, x4, x5, x6, x7⟩, y0, y1, y2, y3, y4, y5, y6, y7⟩, ⟨m0, m1, m2, m3, m4⟩, n0, n1, n2, n3, n4⟩ := hSw; go_simp; try with_reducible rfl)
   refine till_ready (rs := [10]) (by kernel_rfl) (by simp) ?_
   refine TillAll.cons rfl (fun K hK => ?_) TillAll.nil
   go_simp
   go_wp2_with (go_at_call 30; refine (CC.out yo HBO.out).mono ?_; rintro e w6 ⟨rfl, hb6⟩)
   have HB6 := Lib.hid (HBO.out.trans (hb6.mono HBO.out.size))
   clear hb6
   have HS := Lib.hid (And.intro (sameS_of BA.out BB.out HB6.out) (CS.out w6 HB6.out))
   (refine hK.out _ _ (fun _ => HS.out) ?_; clear hK K)
   refine till_take (i := 11) (v := ?_) rfl (by kernel_rfl) (by kernel_rfl) (by kernel_rfl) (by kernel_rfl) (fun _ _ _ h => h) (Or.inl ⟨by kernel_rfl, ?_⟩) HS.out ?_
   rotate_left
   ·(intro w' hSw; obtain ⟨⟨⟨x0, x1, x2, x3, x4, x5, x6, x7⟩, y0, y1, y2, y3, y4, y5, y6, y7⟩, ⟨m0, m1, m2, m3, m4⟩, n0, n1, n2, n3, n4⟩ := hSw; go_simp; try with_reducible rfl)
   refine till_done (by kernel_rfl) ?_ _
   go_wp2_with fail
   go_roundw
   case rel => first | exact ⟨r + 1, by omega, by go_num, HB6⟩ | ((repeat apply Exists.intro); exact ⟨⟨r + 1, by omega, by go_num, HB6⟩, rfl⟩)
   case measure => simp [intOf]; omega
  ·have hge : (T.codes.length : Int) ≤ (r : Int) := by omega
   obtain rfl : r = T.codes.length := by omega
   have hq2 := hq.out
   obtain ⟨x0, x1, x2, x3, x4, x5, x6, x7⟩ := blk8s (BA.out.below hq2 BA.out.lt)
   clear hq2
   go_upto_region 9 with fail
   obtain ⟨yo, hyo⟩ : ∃ yo, yo = World.drew wr := ⟨_, rfl⟩
   have HBO : Hid (Below W.heap.size W yo) := Lib.hid (by rw [hyo]; exact ⟨hq.out.os, hq.out.tape, hq.out.output, hq.out.size, hq.out.block⟩)
   have HS := Lib.hid (sameS_of BA.out BB.out HBO.out)
   have CP1 := Lib.hid (fun V (hv : Below W.heap.size W V) => plain_any T _ _ _ _ V (HX.out.below hv) HL.out)
   have CP2 := Lib.hid (fun V (hv : Below W.heap.size W V) => plain_any T _ _ _ _ V (KX.out.below hv) HL.out)
   clear x0 x1 x2 x3 x4 x5 x6 x7
   refine region_till (SameS w.heap.size (.int .i64 T.strategy) (.slice A1 T.keys.length a1) (.slice B1 T.kinds.length b1) (.int .i64 T.syms) (.int .i64 T.runs) (.int .i64 T.cells) (.slice C1 T.states.length c1) (.slice D1 T.codes.length d1) (.int .i64 T.strategy) (.slice A2 T.keys.length a2) (.slice B2 T.kinds.length b2) (.int .i64 T.syms) (.int .i64 T.runs) (.int .i64 T.cells) (.slice C2 T.states.length c2) (.slice D2 T.codes.length d2)) (fun j => !([0, 1, 2, 3, 4, 5, 6, 7] : List Nat).contains j) (by kernel_rfl) ?_
   rw [← hyo]
   clear hyo
   refine till_take (i := 0) (v := ?_) rfl (by kernel_rfl) (by kernel_rfl) (by kernel_rfl) (by kernel_rfl) (fun _ _ _ h => h) (Or.inl ⟨by kernel_rfl, ?_⟩) HS.out ?_
   rotate_left
   ·(intro w' hSw; obtain ⟨⟨x0, x1, x2, x3, x4, x5, x6, x7⟩, y0, y1, y2, y3, y4, y5, y6, y7⟩ := hSw; go_simp; try with_reducible rfl)
   refine till_take (i := 3) (v := ?_) rfl (by kernel_rfl) (by kernel_rfl) (by kernel_rfl) (by kernel_rfl) (fun _ _ _ h => h) (Or.inl ⟨by kernel_rfl, ?_⟩) HS.out ?_
   rotate_left
   ·(intro w' hSw; obtain ⟨⟨x0, x1, x2, x3, x4, x5, x6, x7⟩, y0, y1, y2, y3, y4, y5, y6, y7⟩ := hSw; go_simp; try with_reducible rfl)
   refine till_ready (rs := [1]) (by kernel_rfl) (by simp) ?_
   refine TillAll.cons rfl (fun K hK => ?_) TillAll.nil
   go_simp
   go_wp2_with (go_at_call 31; refine (CP1.out yo HBO.out).mono ?_; rintro e z1 hmv; obtain ⟨G1, K1, rfl, hkt, hbt⟩ := madeV_shape hmv PP.out; clear hmv)
   have HBz1 := Lib.hid (HBO.out.trans (hbt.mono HBO.out.size))
   have KT1 := Lib.hid hkt
   clear hkt hbt
   have HS := Lib.hid (sameS_of BA.out BB.out HBz1.out)
   (refine hK.out _ _ (fun _ => HS.out) ?_; clear hK K)
   refine till_ready (rs := [2, 4]) (by kernel_rfl) (by simp) ?_
   refine TillAll.cons rfl (fun K hK => ?_) ?_
   ·skip
    have cv := KT1.out.text (cap := K1) (n := (plainBy T).length) rfl
    go_simp
    clear cv
    (refine hK.out _ _ (fun _ => HS.out) ?_; clear hK K)
    refine till_ready (rs := [4]) (by kernel_rfl) (by simp) ?_
    refine TillAll.cons rfl (fun K hK => ?_) TillAll.nil
    go_simp
    go_wp2_with (go_at_call 31; refine (CP2.out z1 HBz1.out).mono ?_; rintro e z14 hmv; obtain ⟨G4, K4, rfl, hkt, hbt⟩ := madeV_shape hmv PP.out; clear hmv)
    have HBz14 := Lib.hid (HBz1.out.trans (hbt.mono HBz1.out.size))
    have KT4 := Lib.hid hkt
    have KT1 := Lib.hid (KT1.out.below hbt)
    clear hkt hbt
    have HS := Lib.hid (sameS_of BA.out BB.out HBz14.out)
    (refine hK.out _ _ (fun _ => HS.out) ?_; clear hK K)
    refine till_ready (rs := [5]) (by kernel_rfl) (by simp) ?_
    refine TillAll.cons rfl (fun K hK => ?_) TillAll.nil
    have cv := KT4.out.text (cap := K4) (n := (plainBy T).length) rfl
    go_simp
    clear cv
    (refine hK.out _ _ (fun _ => HS.out) ?_; clear hK K)
    refine till_take (i := 6) (v := ?_) rfl (by kernel_rfl) (by kernel_rfl) (by kernel_rfl) (by kernel_rfl) (fun _ _ _ h => h) (Or.inl ⟨by kernel_rfl, ?_⟩) HS.out ?_
    rotate_left
    ·(intro w' hSw; obtain ⟨⟨x0, x1, x2, x3, x4, x5, x6, x7⟩, y0, y1, y2, y3, y4, y5, y6, y7⟩ := hSw; go_simp; try with_reducible rfl)
    refine till_take (i := 7) (v := ?_) rfl (by kernel_rfl) (by kernel_rfl) (by kernel_rfl) (by kernel_rfl) (fun _ _ _ h => h) (Or.inl ⟨by kernel_rfl, ?_⟩) HS.out ?_
    rotate_left
    ·(intro w' hSw; obtain ⟨⟨x0, x1, x2, x3, x4, x5, x6, x7⟩, y0, y1, y2, y3, y4, y5, y6, y7⟩ := hSw; go_simp; try with_reducible rfl)
    refine till_done (by kernel_rfl) ?_ _
    go_wp2_with fail
    go_ret
    exact ⟨rfl, HB.out.trans (HBz14.out.mono HB.out.size)⟩
   refine TillAll.cons rfl (fun K hK => ?_) TillAll.nil
   go_simp
   go_wp2_with (go_at_call 31; refine (CP2.out z1 HBz1.out).mono ?_; rintro e z14 hmv; obtain ⟨G4, K4, rfl, hkt, hbt⟩ := madeV_shape hmv PP.out; clear hmv)
   have HBz14 := Lib.hid (HBz1.out.trans (hbt.mono HBz1.out.size))
   have KT4 := Lib.hid hkt
   have KT1 := Lib.hid (KT1.out.below hbt)
   clear hkt hbt
   have HS := Lib.hid (sameS_of BA.out BB.out HBz14.out)
   (refine hK.out _ _ (fun _ => HS.out) ?_; clear hK K)
   refine till_ready (rs := [2, 5]) (by kernel_rfl) (by simp) ?_
   refine TillAll.cons rfl (fun K hK => ?_) ?_
   ·skip
    have cv := KT1.out.text (cap := K1) (n := (plainBy T).length) rfl
    go_simp
    clear cv
    (refine hK.out _ _ (fun _ => HS.out) ?_; clear hK K)
    refine till_ready (rs := [5]) (by kernel_rfl) (by simp) ?_
    refine TillAll.cons rfl (fun K hK => ?_) TillAll.nil
    have cv := KT4.out.text (cap := K4) (n := (plainBy T).length) rfl
    go_simp
    clear cv
    (refine hK.out _ _ (fun _ => HS.out) ?_; clear hK K)
    refine till_take (i := 6) (v := ?_) rfl (by kernel_rfl) (by kernel_rfl) (by kernel_rfl) (by kernel_rfl) (fun _ _ _ h => h) (Or.inl ⟨by kernel_rfl, ?_⟩) HS.out ?_
    rotate_left
    ·(intro w' hSw; obtain ⟨⟨x0, x1, x2, x3, x4, x5, x6, x7⟩, y0, y1, y2, y3, y4, y5, y6, y7⟩ := hSw; go_simp; try with_reducible rfl)
    refine till_take (i := 7) (v := ?_) rfl (by kernel_rfl) (by kernel_rfl) (by kernel_rfl) (by kernel_rfl) (fun _ _ _ h => h) (Or.inl ⟨by kernel_rfl, ?_⟩) HS.out ?_
    rotate_left
    ·(intro w' hSw; obtain ⟨⟨x0, x1, x2, x3, x4, x5, x6, x7⟩, y0, y1, y2, y3, y4, y5, y6, y7⟩ := hSw; go_simp; try with_reducible rfl)
    refine till_done (by kernel_rfl) ?_ _
    go_wp2_with fail
    go_ret
    exact ⟨rfl, HB.out.trans (HBz14.out.mono HB.out.size)⟩
   refine TillAll.cons rfl (fun K hK => ?_) TillAll.nil
   have cv := KT4.out.text (cap := K4) (n := (plainBy T).length) rfl
   go_simp
   clear cv
   (refine hK.out _ _ (fun _ => HS.out) ?_; clear hK K)
   refine till_ready (rs := [2]) (by kernel_rfl) (by simp) ?_
   refine TillAll.cons rfl (fun K hK => ?_) TillAll.nil
   have cv := KT1.out.text (cap := K1) (n := (plainBy T).length) rfl
   go_simp
   clear cv
   (refine hK.out _ _ (fun _ => HS.out) ?_; clear hK K)
   refine till_take (i := 6) (v := ?_) rfl (by kernel_rfl) (by kernel_rfl) (by kernel_rfl) (by kernel_rfl) (fun _ _ _ h => h) (Or.inl ⟨by kernel_rfl, ?_⟩) HS.out ?_
   rotate_left
   ·(intro w' hSw; obtain ⟨⟨x0, x1, x2, x3, x4, x5, x6, x7⟩, y0, y1, y2, y3, y4, y5, y6, y7⟩ := hSw; go_simp; try with_reducible rfl)
   refine till_take (i := 7) (v := ?_) rfl (by kernel_rfl) (by kernel_rfl) (by kernel_rfl) (by kernel_rfl) (fun _ _ _ h => h) (Or.inl ⟨by kernel_rfl, ?_⟩) HS.out ?_
   rotate_left
   ·(intro w' hSw; obtain ⟨⟨x0, x1, x2, x3, x4, x5, x6, x7⟩, y0, y1, y2, y3, y4, y5, y6, y7⟩ := hSw; go_simp; try with_reducible rfl)
   refine till_done (by kernel_rfl) ?_ _
   go_wp2_with fail
   go_ret
   exact ⟨rfl, HB.out.trans (HBz14.out.mono HB.out.size)⟩
end Go.Proofs.Ytioocaicmiggoaa
namespace Go.Proofs.Ytioocaicmiggoaa
set_option linter.unusedVariables false
set_option linter.unusedSimpArgs false
open Go.RowKit Go.Deep Go.Maps
def smallC : TCode := ⟨1, 0, [⟨25, 1, 0, 0⟩], [], [⟨50, 0, 0, 0⟩, ⟨52, 0, 0, 0⟩]⟩
def smallT (many : Bool) : TTab := ⟨3, [], [[]], 0, 1, 1, [⟨-1, 0, many, 0, [], -1, 0, []⟩], [smallC]⟩
theorem slr_one {α : Type} {F : Nat} {R : World → List Value → α → Prop} {w : World} {b : Nat} {t : TypeId} {cs : Array Value} {x : α} (h : Blk w b t cs) (hF : cs.size = F) (hR : R w cs.toList x) : SlR F R w (.slice (some ⟨b, 0, none⟩) 1 1) [x] :=
 ⟨some ⟨b, 0, none⟩, 1, rfl, Nat.le_refl _, by decide, fun _ => ⟨b, 0, rfl, fun i y hy => by
  match i, hy with
  | 0, hy =>
   simp at hy; subst hy
   refine ⟨cs.toList, by simpa using hF, hR, fun j u hu => ?_⟩
   rw [show 0 + 0 * F + j = j by omega, h.cell j, ← Array.getElem?_toList]
   exact hu⟩⟩
def SmallP (many : Bool) (w : World) (e : Ending) (w' : World) : Prop :=
 ∃ vk vkk vs vc, e = .returned (.agg #[.int .i64 3, vk, vkk, .int .i64 0, .int .i64 1, .int .i64 1, vs, vc]) ∧ TabX w' (smallT many) vk vkk vs vc ∧ Below w.heap.size w w' ∧
  ∃ g vi vl, vc = .slice (some ⟨g, 0, none⟩) 1 1 ∧ w.heap.size ≤ g ∧ Blk w' g 40 #[.int .i64 1, .int .i64 0, vi, .slice none 0 0, vl] ∧ CodeQ (fun b => w.heap.size ≤ b) w' [.int .i64 1, .int .i64 0, vi, .slice none 0 0, vl] smallC
set_option maxRecDepth 100000 in
theorem small_mem (many : Bool) (w : World) : TabX (((((((w.alloc (.cells #[.int .i64 3, .slice none 0 0, .slice (some ⟨w.heap.size + 1 + 1 + 1 + 1, 0, none⟩) 1 1, .int .i64 0, .int .i64 1, .int .i64 1, .slice (some ⟨w.heap.size + 1 + 1 + 1 + 1 + 1, 0, none⟩) 1 1, .slice (some ⟨w.heap.size + 1 + 1 + 1 + 1 + 1 + 1, 0, none⟩) 1 1] 27)).alloc (.cells #[.int .i64 25, .int .i64 1, .int .i64 0, .int .i64 0] 70)).alloc (.cells #[.int .i64 50, .int .i64 0, .int .i64 0, .int .i64 0, .int .i64 52, .int .i64 0, .int .i64 0, .int .i64 0] 75)).alloc (.cells #[.int .i64 1, .int .i64 0, .slice (some ⟨w.heap.size + 1, 0, none⟩) 1 1, .slice none 0 0, .slice (some ⟨w.heap.size + 1 + 1, 0, none⟩) 2 2] 40)).alloc (.cells #[.slice none 0 0] 22)).alloc (.cells #[.int .i64 (-1), .int .i64 0, .bool many, .int .i64 0, .slice none 0 0, .int .i64 (-1), .int .i64 0, .slice none 0 0] 46)).alloc (.cells #[.int .i64 1, .int .i64 0, .slice (some ⟨w.heap.size + 1, 0, none⟩) 1 1, .slice none 0 0, .slice (some ⟨w.heap.size + 1 + 1, 0, none⟩) 2 2] 40)) (smallT many) (.slice none 0 0) (.slice (some ⟨w.heap.size + 1 + 1 + 1 + 1, 0, none⟩) 1 1) (.slice (some ⟨w.heap.size + 1 + 1 + 1 + 1 + 1, 0, none⟩) 1 1) (.slice (some ⟨w.heap.size + 1 + 1 + 1 + 1 + 1 + 1, 0, none⟩) 1 1) ∧ Below w.heap.size w (((((((w.alloc (.cells #[.int .i64 3, .slice none 0 0, .slice (some ⟨w.heap.size + 1 + 1 + 1 + 1, 0, none⟩) 1 1, .int .i64 0, .int .i64 1, .int .i64 1, .slice (some ⟨w.heap.size + 1 + 1 + 1 + 1 + 1, 0, none⟩) 1 1, .slice (some ⟨w.heap.size + 1 + 1 + 1 + 1 + 1 + 1, 0, none⟩) 1 1] 27)).alloc (.cells #[.int .i64 25, .int .i64 1, .int .i64 0, .int .i64 0] 70)).alloc (.cells #[.int .i64 50, .int .i64 0, .int .i64 0, .int .i64 0, .int .i64 52, .int .i64 0, .int .i64 0, .int .i64 0] 75)).alloc (.cells #[.int .i64 1, .int .i64 0, .slice (some ⟨w.heap.size + 1, 0, none⟩) 1 1, .slice none 0 0, .slice (some ⟨w.heap.size + 1 + 1, 0, none⟩) 2 2] 40)).alloc (.cells #[.slice none 0 0] 22)).alloc (.cells #[.int .i64 (-1), .int .i64 0, .bool many, .int .i64 0, .slice none 0 0, .int .i64 (-1), .int .i64 0, .slice none 0 0] 46)).alloc (.cells #[.int .i64 1, .int .i64 0, .slice (some ⟨w.heap.size + 1, 0, none⟩) 1 1, .slice none 0 0, .slice (some ⟨w.heap.size + 1 + 1, 0, none⟩) 2 2] 40)) ∧ Blk (((((((w.alloc (.cells #[.int .i64 3, .slice none 0 0, .slice (some ⟨w.heap.size + 1 + 1 + 1 + 1, 0, none⟩) 1 1, .int .i64 0, .int .i64 1, .int .i64 1, .slice (some ⟨w.heap.size + 1 + 1 + 1 + 1 + 1, 0, none⟩) 1 1, .slice (some ⟨w.heap.size + 1 + 1 + 1 + 1 + 1 + 1, 0, none⟩) 1 1] 27)).alloc (.cells #[.int .i64 25, .int .i64 1, .int .i64 0, .int .i64 0] 70)).alloc (.cells #[.int .i64 50, .int .i64 0, .int .i64 0, .int .i64 0, .int .i64 52, .int .i64 0, .int .i64 0, .int .i64 0] 75)).alloc (.cells #[.int .i64 1, .int .i64 0, .slice (some ⟨w.heap.size + 1, 0, none⟩) 1 1, .slice none 0 0, .slice (some ⟨w.heap.size + 1 + 1, 0, none⟩) 2 2] 40)).alloc (.cells #[.slice none 0 0] 22)).alloc (.cells #[.int .i64 (-1), .int .i64 0, .bool many, .int .i64 0, .slice none 0 0, .int .i64 (-1), .int .i64 0, .slice none 0 0] 46)).alloc (.cells #[.int .i64 1, .int .i64 0, .slice (some ⟨w.heap.size + 1, 0, none⟩) 1 1, .slice none 0 0, .slice (some ⟨w.heap.size + 1 + 1, 0, none⟩) 2 2] 40)) (w.heap.size + 1 + 1 + 1 + 1 + 1 + 1) 40 #[.int .i64 1, .int .i64 0, .slice (some ⟨w.heap.size + 1, 0, none⟩) 1 1, .slice none 0 0, .slice (some ⟨w.heap.size + 1 + 1, 0, none⟩) 2 2] ∧ CodeQ (fun b => w.heap.size ≤ b) (((((((w.alloc (.cells #[.int .i64 3, .slice none 0 0, .slice (some ⟨w.heap.size + 1 + 1 + 1 + 1, 0, none⟩) 1 1, .int .i64 0, .int .i64 1, .int .i64 1, .slice (some ⟨w.heap.size + 1 + 1 + 1 + 1 + 1, 0, none⟩) 1 1, .slice (some ⟨w.heap.size + 1 + 1 + 1 + 1 + 1 + 1, 0, none⟩) 1 1] 27)).alloc (.cells #[.int .i64 25, .int .i64 1, .int .i64 0, .int .i64 0] 70)).alloc (.cells #[.int .i64 50, .int .i64 0, .int .i64 0, .int .i64 0, .int .i64 52, .int .i64 0, .int .i64 0, .int .i64 0] 75)).alloc (.cells #[.int .i64 1, .int .i64 0, .slice (some ⟨w.heap.size + 1, 0, none⟩) 1 1, .slice none 0 0, .slice (some ⟨w.heap.size + 1 + 1, 0, none⟩) 2 2] 40)).alloc (.cells #[.slice none 0 0] 22)).alloc (.cells #[.int .i64 (-1), .int .i64 0, .bool many, .int .i64 0, .slice none 0 0, .int .i64 (-1), .int .i64 0, .slice none 0 0] 46)).alloc (.cells #[.int .i64 1, .int .i64 0, .slice (some ⟨w.heap.size + 1, 0, none⟩) 1 1, .slice none 0 0, .slice (some ⟨w.heap.size + 1 + 1, 0, none⟩) 2 2] 40)) [.int .i64 1, .int .i64 0, .slice (some ⟨w.heap.size + 1, 0, none⟩) 1 1, .slice none 0 0, .slice (some ⟨w.heap.size + 1 + 1, 0, none⟩) 2 2] smallC := by
 obtain ⟨w0, h0⟩ : ∃ w0, w0 = w := ⟨_, rfl⟩
 obtain ⟨w1, h1⟩ : ∃ w1, w1 = w0.alloc (.cells #[.int .i64 3, .slice none 0 0, .slice (some ⟨w.heap.size + 1 + 1 + 1 + 1, 0, none⟩) 1 1, .int .i64 0, .int .i64 1, .int .i64 1, .slice (some ⟨w.heap.size + 1 + 1 + 1 + 1 + 1, 0, none⟩) 1 1, .slice (some ⟨w.heap.size + 1 + 1 + 1 + 1 + 1 + 1, 0, none⟩) 1 1] 27) := ⟨_, rfl⟩
 have s1 : w1.heap.size = w.heap.size + 1 := by rw [h1, World.size_alloc, h0]
 obtain ⟨w2, h2⟩ : ∃ w2, w2 = w1.alloc (.cells #[.int .i64 25, .int .i64 1, .int .i64 0, .int .i64 0] 70) := ⟨_, rfl⟩
 have s2 : w2.heap.size = w.heap.size + 1 + 1 := by rw [h2, World.size_alloc, s1]
 obtain ⟨w3, h3⟩ : ∃ w3, w3 = w2.alloc (.cells #[.int .i64 50, .int .i64 0, .int .i64 0, .int .i64 0, .int .i64 52, .int .i64 0, .int .i64 0, .int .i64 0] 75) := ⟨_, rfl⟩
 have s3 : w3.heap.size = w.heap.size + 1 + 1 + 1 := by rw [h3, World.size_alloc, s2]
 obtain ⟨w4, h4⟩ : ∃ w4, w4 = w3.alloc (.cells #[.int .i64 1, .int .i64 0, .slice (some ⟨w.heap.size + 1, 0, none⟩) 1 1, .slice none 0 0, .slice (some ⟨w.heap.size + 1 + 1, 0, none⟩) 2 2] 40) := ⟨_, rfl⟩
 have s4 : w4.heap.size = w.heap.size + 1 + 1 + 1 + 1 := by rw [h4, World.size_alloc, s3]
 obtain ⟨w5, h5⟩ : ∃ w5, w5 = w4.alloc (.cells #[.slice none 0 0] 22) := ⟨_, rfl⟩
 have s5 : w5.heap.size = w.heap.size + 1 + 1 + 1 + 1 + 1 := by rw [h5, World.size_alloc, s4]
 obtain ⟨w6, h6⟩ : ∃ w6, w6 = w5.alloc (.cells #[.int .i64 (-1), .int .i64 0, .bool many, .int .i64 0, .slice none 0 0, .int .i64 (-1), .int .i64 0, .slice none 0 0] 46) := ⟨_, rfl⟩
 have s6 : w6.heap.size = w.heap.size + 1 + 1 + 1 + 1 + 1 + 1 := by rw [h6, World.size_alloc, s5]
 obtain ⟨w7, h7⟩ : ∃ w7, w7 = w6.alloc (.cells #[.int .i64 1, .int .i64 0, .slice (some ⟨w.heap.size + 1, 0, none⟩) 1 1, .slice none 0 0, .slice (some ⟨w.heap.size + 1 + 1, 0, none⟩) 2 2] 40) := ⟨_, rfl⟩
 have s7 : w7.heap.size = w.heap.size + 1 + 1 + 1 + 1 + 1 + 1 + 1 := by rw [h7, World.size_alloc, s6]
 have b1 : Blk w7 (w.heap.size + 1) 70 #[.int .i64 25, .int .i64 1, .int .i64 0, .int .i64 0] := by
  have h := Blk.new w1 70 #[.int .i64 25, .int .i64 1, .int .i64 0, .int .i64 0]
  rw [← h2, s1] at h
  have q1 := h
  have h := h.alloc (.cells #[.int .i64 50, .int .i64 0, .int .i64 0, .int .i64 0, .int .i64 52, .int .i64 0, .int .i64 0, .int .i64 0] 75)
  rw [← h3] at h
  have h := h.alloc (.cells #[.int .i64 1, .int .i64 0, .slice (some ⟨w.heap.size + 1, 0, none⟩) 1 1, .slice none 0 0, .slice (some ⟨w.heap.size + 1 + 1, 0, none⟩) 2 2] 40)
  rw [← h4] at h
  have h := h.alloc (.cells #[.slice none 0 0] 22)
  rw [← h5] at h
  have h := h.alloc (.cells #[.int .i64 (-1), .int .i64 0, .bool many, .int .i64 0, .slice none 0 0, .int .i64 (-1), .int .i64 0, .slice none 0 0] 46)
  rw [← h6] at h
  have h := h.alloc (.cells #[.int .i64 1, .int .i64 0, .slice (some ⟨w.heap.size + 1, 0, none⟩) 1 1, .slice none 0 0, .slice (some ⟨w.heap.size + 1 + 1, 0, none⟩) 2 2] 40)
  rw [← h7] at h
  exact h
 have b2 : Blk w7 (w.heap.size + 1 + 1) 75 #[.int .i64 50, .int .i64 0, .int .i64 0, .int .i64 0, .int .i64 52, .int .i64 0, .int .i64 0, .int .i64 0] := by
  have h := Blk.new w2 75 #[.int .i64 50, .int .i64 0, .int .i64 0, .int .i64 0, .int .i64 52, .int .i64 0, .int .i64 0, .int .i64 0]
  rw [← h3, s2] at h
  have q2 := h
  have h := h.alloc (.cells #[.int .i64 1, .int .i64 0, .slice (some ⟨w.heap.size + 1, 0, none⟩) 1 1, .slice none 0 0, .slice (some ⟨w.heap.size + 1 + 1, 0, none⟩) 2 2] 40)
  rw [← h4] at h
  have h := h.alloc (.cells #[.slice none 0 0] 22)
  rw [← h5] at h
  have h := h.alloc (.cells #[.int .i64 (-1), .int .i64 0, .bool many, .int .i64 0, .slice none 0 0, .int .i64 (-1), .int .i64 0, .slice none 0 0] 46)
  rw [← h6] at h
  have h := h.alloc (.cells #[.int .i64 1, .int .i64 0, .slice (some ⟨w.heap.size + 1, 0, none⟩) 1 1, .slice none 0 0, .slice (some ⟨w.heap.size + 1 + 1, 0, none⟩) 2 2] 40)
  rw [← h7] at h
  exact h
 have b4 : Blk w7 (w.heap.size + 1 + 1 + 1 + 1) 22 #[.slice none 0 0] := by
  have h := Blk.new w4 22 #[.slice none 0 0]
  rw [← h5, s4] at h
  have q4 := h
  have h := h.alloc (.cells #[.int .i64 (-1), .int .i64 0, .bool many, .int .i64 0, .slice none 0 0, .int .i64 (-1), .int .i64 0, .slice none 0 0] 46)
  rw [← h6] at h
  have h := h.alloc (.cells #[.int .i64 1, .int .i64 0, .slice (some ⟨w.heap.size + 1, 0, none⟩) 1 1, .slice none 0 0, .slice (some ⟨w.heap.size + 1 + 1, 0, none⟩) 2 2] 40)
  rw [← h7] at h
  exact h
 have b5 : Blk w7 (w.heap.size + 1 + 1 + 1 + 1 + 1) 46 #[.int .i64 (-1), .int .i64 0, .bool many, .int .i64 0, .slice none 0 0, .int .i64 (-1), .int .i64 0, .slice none 0 0] := by
  have h := Blk.new w5 46 #[.int .i64 (-1), .int .i64 0, .bool many, .int .i64 0, .slice none 0 0, .int .i64 (-1), .int .i64 0, .slice none 0 0]
  rw [← h6, s5] at h
  have q5 := h
  have h := h.alloc (.cells #[.int .i64 1, .int .i64 0, .slice (some ⟨w.heap.size + 1, 0, none⟩) 1 1, .slice none 0 0, .slice (some ⟨w.heap.size + 1 + 1, 0, none⟩) 2 2] 40)
  rw [← h7] at h
  exact h
 have b6 : Blk w7 (w.heap.size + 1 + 1 + 1 + 1 + 1 + 1) 40 #[.int .i64 1, .int .i64 0, .slice (some ⟨w.heap.size + 1, 0, none⟩) 1 1, .slice none 0 0, .slice (some ⟨w.heap.size + 1 + 1, 0, none⟩) 2 2] := by
  have h := Blk.new w6 40 #[.int .i64 1, .int .i64 0, .slice (some ⟨w.heap.size + 1, 0, none⟩) 1 1, .slice none 0 0, .slice (some ⟨w.heap.size + 1 + 1, 0, none⟩) 2 2]
  rw [← h7, s6] at h
  have q6 := h
  exact h
 have e : (((((((w.alloc (.cells #[.int .i64 3, .slice none 0 0, .slice (some ⟨w.heap.size + 1 + 1 + 1 + 1, 0, none⟩) 1 1, .int .i64 0, .int .i64 1, .int .i64 1, .slice (some ⟨w.heap.size + 1 + 1 + 1 + 1 + 1, 0, none⟩) 1 1, .slice (some ⟨w.heap.size + 1 + 1 + 1 + 1 + 1 + 1, 0, none⟩) 1 1] 27)).alloc (.cells #[.int .i64 25, .int .i64 1, .int .i64 0, .int .i64 0] 70)).alloc (.cells #[.int .i64 50, .int .i64 0, .int .i64 0, .int .i64 0, .int .i64 52, .int .i64 0, .int .i64 0, .int .i64 0] 75)).alloc (.cells #[.int .i64 1, .int .i64 0, .slice (some ⟨w.heap.size + 1, 0, none⟩) 1 1, .slice none 0 0, .slice (some ⟨w.heap.size + 1 + 1, 0, none⟩) 2 2] 40)).alloc (.cells #[.slice none 0 0] 22)).alloc (.cells #[.int .i64 (-1), .int .i64 0, .bool many, .int .i64 0, .slice none 0 0, .int .i64 (-1), .int .i64 0, .slice none 0 0] 46)).alloc (.cells #[.int .i64 1, .int .i64 0, .slice (some ⟨w.heap.size + 1, 0, none⟩) 1 1, .slice none 0 0, .slice (some ⟨w.heap.size + 1 + 1, 0, none⟩) 2 2] 40)) = w7 := by rw [h7, h6, h5, h4, h3, h2, h1, h0]
 rw [e]
 have hb : Below w.heap.size w w7 := by
  rw [← e]
  exact (((((((Below.refl _ _).alloc (Nat.le_refl _) _).alloc (by simp) _).alloc (by simp; omega) _).alloc (by simp; omega) _).alloc (by simp; omega) _).alloc (by simp; omega) _).alloc (by simp; omega) _
 clear e
 have q2 : SlQ (fun b => w.heap.size ≤ b) 4 InsC w7 (.slice (some ⟨w.heap.size + 1 + 1, 0, none⟩) 2 2) smallC.list := by
  refine ⟨some ⟨w.heap.size + 1 + 1, 0, none⟩, 2, rfl, Nat.le_refl _, by decide, fun _ => ⟨w.heap.size + 1 + 1, 0, rfl, (by omega), fun i x hx => ?_⟩⟩
  match i, hx with
  | 0, hx =>
   have hx : some (⟨50, 0, 0, 0⟩ : TIns) = some x := hx
   injection hx with hx; subst hx
   refine ⟨[.int .i64 50, .int .i64 0, .int .i64 0, .int .i64 0], rfl, ⟨rfl, rfl, rfl, rfl, rfl⟩, fun j u hu => ?_⟩
   have hj : j < 4 := (List.getElem?_eq_some_iff.1 hu).1
   rw [show 0 + 0 * 4 + j = j by omega, b2.cell j]
   match j, hj, hu with
   | 0, _, hu => exact hu
   | 1, _, hu => exact hu
   | 2, _, hu => exact hu
   | 3, _, hu => exact hu
  | 1, hx =>
   have hx : some (⟨52, 0, 0, 0⟩ : TIns) = some x := hx
   injection hx with hx; subst hx
   refine ⟨[.int .i64 52, .int .i64 0, .int .i64 0, .int .i64 0], rfl, ⟨rfl, rfl, rfl, rfl, rfl⟩, fun j u hu => ?_⟩
   have hj : j < 4 := (List.getElem?_eq_some_iff.1 hu).1
   rw [show 0 + 1 * 4 + j = j + 4 by omega, b2.cell (j + 4)]
   match j, hj, hu with
   | 0, _, hu => exact hu
   | 1, _, hu => exact hu
   | 2, _, hu => exact hu
   | 3, _, hu => exact hu
  | i + 2, hx => simp [smallC] at hx
 have q1 : SlQ (fun b => w.heap.size ≤ b) 4 InpC w7 (.slice (some ⟨w.heap.size + 1, 0, none⟩) 1 1) smallC.inputs := by
  refine ⟨some ⟨w.heap.size + 1, 0, none⟩, 1, rfl, Nat.le_refl _, by decide, fun _ => ⟨w.heap.size + 1, 0, rfl, (by omega), fun i x hx => ?_⟩⟩
  match i, hx with
  | 0, hx =>
   have hx : some (⟨25, 1, 0, 0⟩ : TInp) = some x := hx
   injection hx with hx; subst hx
   refine ⟨[.int .i64 25, .int .i64 1, .int .i64 0, .int .i64 0], rfl, ⟨rfl, rfl, rfl, rfl, rfl⟩, fun j u hu => ?_⟩
   rw [show 0 + 0 * 4 + j = j by omega, b1.cell j, ← Array.getElem?_toList]
   exact hu
  | i + 1, hx => simp [smallC] at hx
 have qc : CodeQ (fun b => w.heap.size ≤ b) w7 [.int .i64 1, .int .i64 0, .slice (some ⟨w.heap.size + 1, 0, none⟩) 1 1, .slice none 0 0, .slice (some ⟨w.heap.size + 1 + 1, 0, none⟩) 2 2] smallC := ⟨_, _, _, rfl, q1, SlQ.nil _ _ _, q2, rfl, rfl⟩
 exact ⟨⟨SlR.nil _ _ _, slr_one b4 rfl ⟨_, rfl, SlR.nil _ _ _⟩, slr_one b5 rfl ⟨_, _, rfl, SlR.nil _ _ _, SlR.nil _ _ _, rfl, rfl, rfl, rfl, rfl⟩, slr_one b6 rfl qc.out, rfl, rfl, rfl, rfl⟩, hb, b6, qc⟩
set_option maxRecDepth 100000 in
set_option maxHeartbeats 4000000 in
theorem small_any (many : Bool) (w : World) : Calls Try.prog 15 #[.bool many] w (SmallP many w) := by
 have HS := Lib.hid (small_mem many w)
 go_enter Try.func15, Try.ntmps15
 go_wp2_with fail
 exact bodyPost_ret (v := .agg #[.int .i64 3, .slice none 0 0, .slice (some ⟨w.heap.size + 1 + 1 + 1 + 1, 0, none⟩) 1 1, .int .i64 0, .int .i64 1, .int .i64 1, .slice (some ⟨w.heap.size + 1 + 1 + 1 + 1 + 1, 0, none⟩) 1 1, .slice (some ⟨w.heap.size + 1 + 1 + 1 + 1 + 1 + 1, 0, none⟩) 1 1]) (by simp [results, Try.results15, go_sem]) rfl ⟨_, _, _, _, rfl, HS.out.1, HS.out.2.1, _, _, _, rfl, by omega, HS.out.2.2.1, HS.out.2.2.2⟩
theorem small_yes : verT (smallT true) = true := by decide
theorem small_no : verT (smallT false) = false := by decide
theorem small_path : (pathT (smallT true).states 0).length = 1 := by decide
end Go.Proofs.Ytioocaicmiggoaa
namespace Go.Proofs.Ytioocaicmiggoaa
set_option linter.unusedVariables false
set_option linter.unusedSimpArgs false
open Go.RowKit Go.Deep Go.Maps
theorem awake_any (w : World) : Calls Try.prog 8 #[] w (BoolP w true) := by
 have C1 := Lib.hid (fun W => small_any true W)
 have C2 := Lib.hid (fun W => small_any false W)
 have V1 : Hid (∀ vk vkk vs vc W, TabX W (smallT true) vk vkk vs vc → Calls Try.prog 10 #[.agg #[.int .i64 3, vk, vkk, .int .i64 0, .int .i64 1, .int .i64 1, vs, vc]] W (VerP W true)) := Lib.hid (fun vk vkk vs vc W h => by have := verify_any (smallT true) vk vkk vs vc W h; rw [small_yes] at this; exact this)
 have V2 : Hid (∀ vk vkk vs vc W, TabX W (smallT false) vk vkk vs vc → Calls Try.prog 10 #[.agg #[.int .i64 3, vk, vkk, .int .i64 0, .int .i64 1, .int .i64 1, vs, vc]] W (VerP W false)) := Lib.hid (fun vk vkk vs vc W h => by have := verify_any (smallT false) vk vkk vs vc W h; rw [small_no] at this; exact this)
 have P1 : Hid (∀ vk vkk vs vc W, TabX W (smallT true) vk vkk vs vc → Calls Try.prog 13 #[.agg #[.int .i64 3, vk, vkk, .int .i64 0, .int .i64 1, .int .i64 1, vs, vc], .int .i64 0] W (PathP W (pathT (smallT true).states 0))) := Lib.hid (fun vk vkk vs vc W h => path_any (smallT true) vk vkk vs vc (by decide) 0 W h)
 go_enter Try.func8, Try.ntmps8
 go_wp2_with fail
 refine (C1.out _).mono ?_
 rintro e w1 ⟨vk, vkk, vs, vc, rfl, hx, hb1, _⟩
 have HX := Lib.hid hx
 have HB1 := Lib.hid hb1
 clear hx hb1
 go_wp2_with fail
 refine (V1.out _ _ _ _ _ HX.out).mono ?_
 rintro e w2 ⟨rfl, hb2⟩
 have HB2 := Lib.hid (HB1.out.trans (hb2.mono HB1.out.size))
 clear hb2 HX HB1
 go_wp2_with fail
 refine (C2.out _).mono ?_
 rintro e w3 ⟨vk, vkk, vs, vc, rfl, hx, hb3, _⟩
 have HX := Lib.hid hx
 have HB3 := Lib.hid (HB2.out.trans (hb3.mono HB2.out.size))
 clear hx hb3 HB2
 go_wp2_with fail
 refine (V2.out _ _ _ _ _ HX.out).mono ?_
 rintro e w4 ⟨rfl, hb4⟩
 have HB4 := Lib.hid (HB3.out.trans (hb4.mono HB3.out.size))
 clear hb4 HX HB3
 go_wp2_with fail
 refine (C1.out _).mono ?_
 rintro e w5 ⟨vk, vkk, vs, vc, rfl, hx, hb5, _⟩
 have HX := Lib.hid hx
 have HB5 := Lib.hid (HB4.out.trans (hb5.mono HB4.out.size))
 clear hx hb5 HB4
 go_wp2_with fail
 refine (P1.out _ _ _ _ _ HX.out).mono ?_
 rintro e w6 ⟨v, rfl, ho, hb6⟩
 obtain ⟨A9, c9, rfl⟩ := own_slice ho
 have HB6 := Lib.hid (HB5.out.trans (hb6.mono HB5.out.size))
 rw [small_path]
 clear ho hb6 HX HB5
 go_wp2_with fail
 go_ret
 exact ⟨rfl, HB6.out⟩
end Go.Proofs.Ytioocaicmiggoaa

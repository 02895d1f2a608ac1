/-
  The walk of the document's Same of two tables that read alike.
-/
import Derived.Test.YtioocaicmiggoaaSpl
import Derived.Test.YtioocaicmiggoaaSsc
import Derived.Test.YtioocaicmiggoaaTxs
import Derived.Test.YtioocaicmiggoaaTill
namespace Go.Proofs.Ytioocaicmiggoaa
set_option linter.unusedVariables false
set_option linter.unusedSimpArgs false
open Go.RowKit Go.Deep

theorem madeV_shape {w w' : World} {l : List UInt8} {e : Ending} (h : MadeV w l e w') (hl : 0 < l.length) : ∃ g cap, e = .returned (.slice (some ⟨g, 0, none⟩) l.length cap) ∧ Kept w' g l ∧ Below w.heap.size w w' := by
  obtain ⟨v, rfl, ho, hb⟩ := h
  obtain ⟨g, cap, rfl, _⟩ := own_shape ho hl
  exact ⟨g, cap, rfl, Kept.of_own ho hl, hb⟩
theorem plainBy_pos (T : TTab) : 0 < (plainBy T).length := by
  have := vb_flat_len [T.strategy, T.syms, T.runs, T.cells, (T.keys.length : Int)]
  unfold plainBy
  simp only [List.length_append, List.length_cons, List.length_nil] at this ⊢
  omega
def SameS (H : Nat) (a0 a1 a2 a3 a4 a5 a6 a7 b0 b1 b2 b3 b4 b5 b6 b7 : Value) (W : World) : Prop := (W.cell? ⟨H, 0, none⟩ = some a0 ∧ W.cell? ⟨H, 1, none⟩ = some a1 ∧ W.cell? ⟨H, 2, none⟩ = some a2 ∧ W.cell? ⟨H, 3, none⟩ = some a3 ∧ W.cell? ⟨H, 4, none⟩ = some a4 ∧ W.cell? ⟨H, 5, none⟩ = some a5 ∧ W.cell? ⟨H, 6, none⟩ = some a6 ∧ W.cell? ⟨H, 7, none⟩ = some a7) ∧
  W.cell? ⟨H + 1, 0, none⟩ = some b0 ∧ W.cell? ⟨H + 1, 1, none⟩ = some b1 ∧ W.cell? ⟨H + 1, 2, none⟩ = some b2 ∧ W.cell? ⟨H + 1, 3, none⟩ = some b3 ∧ W.cell? ⟨H + 1, 4, none⟩ = some b4 ∧ W.cell? ⟨H + 1, 5, none⟩ = some b5 ∧ W.cell? ⟨H + 1, 6, none⟩ = some b6 ∧ W.cell? ⟨H + 1, 7, none⟩ = some b7
theorem sameS_of {W1 W : World} {H : Nat} {t : TypeId} {a0 a1 a2 a3 a4 a5 a6 a7 b0 b1 b2 b3 b4 b5 b6 b7 : Value} (h : Blk W1 H t #[a0, a1, a2, a3, a4, a5, a6, a7]) (k : Blk W1 (H + 1) t #[b0, b1, b2, b3, b4, b5, b6, b7]) (hb : Below W1.heap.size W1 W) : SameS H a0 a1 a2 a3 a4 a5 a6 a7 b0 b1 b2 b3 b4 b5 b6 b7 W :=
  ⟨blk8s (h.below hb h.lt), blk8s (k.below hb k.lt)⟩
def CodeS (g i : Nat) (a0 a1 a2 a3 a4 : Value) (W : World) : Prop := W.cell? ⟨g, i, none⟩ = some a0 ∧ W.cell? ⟨g, i + 1, none⟩ = some a1 ∧ W.cell? ⟨g, i + 2, none⟩ = some a2 ∧ W.cell? ⟨g, i + 3, none⟩ = some a3 ∧ W.cell? ⟨g, i + 4, none⟩ = some a4

set_option maxRecDepth 100000 in
set_option maxHeartbeats 4000000 in
theorem same_any (T : TTab) (vk vkk vs vc uk ukk us uc : Value) (w : World) (h : TabX w T vk vkk vs vc) (k : TabX w T uk ukk us uc) (hlb : (plainBy T).length ≤ 1000000000) :
    Calls Try.prog 12 #[.agg #[.int .i64 T.strategy, vk, vkk, .int .i64 T.syms, .int .i64 T.runs, .int .i64 T.cells, vs, vc], .agg #[.int .i64 T.strategy, uk, ukk, .int .i64 T.syms, .int .i64 T.runs, .int .i64 T.cells, us, uc]] w fun e w' => e = .returned (.bool true) ∧ Below w.heap.size w w' := by
  obtain ⟨A1, a1, rfl, _, _⟩ := h.keys.slice
  obtain ⟨B1, b1, rfl, _, _⟩ := h.kinds.slice
  obtain ⟨C1, c1, rfl, _, _⟩ := h.states.slice
  obtain ⟨D1, d1, rfl, hd1, hd2⟩ := h.codes.slice
  obtain ⟨A2, a2, rfl, _, _⟩ := k.keys.slice
  obtain ⟨B2, b2, rfl, _, _⟩ := k.kinds.slice
  obtain ⟨C2, c2, rfl, _, _⟩ := k.states.slice
  obtain ⟨D2, d2, rfl, _, _⟩ := k.codes.slice
  unfold maxLen at hd2
  obtain ⟨W, hW⟩ : ∃ W, W = (w.alloc (.cells #[.int .i64 T.strategy, .slice A1 T.keys.length a1, .slice B1 T.kinds.length b1, .int .i64 T.syms, .int .i64 T.runs, .int .i64 T.cells, .slice C1 T.states.length c1, .slice D1 T.codes.length d1] 27)).alloc (.cells #[.int .i64 T.strategy, .slice A2 T.keys.length a2, .slice B2 T.kinds.length b2, .int .i64 T.syms, .int .i64 T.runs, .int .i64 T.cells, .slice C2 T.states.length c2, .slice D2 T.codes.length d2] 27) := ⟨_, rfl⟩
  have hb : Below w.heap.size w W := by rw [hW]; exact ((Below.refl _ _).alloc (Nat.le_refl _) _).alloc (by simp) _
  have hk1 : Blk W w.heap.size 27 #[.int .i64 T.strategy, .slice A1 T.keys.length a1, .slice B1 T.kinds.length b1, .int .i64 T.syms, .int .i64 T.runs, .int .i64 T.cells, .slice C1 T.states.length c1, .slice D1 T.codes.length d1] := by rw [hW]; exact (Blk.new _ _ _).alloc _
  have hk2 : Blk W (w.heap.size + 1) 27 #[.int .i64 T.strategy, .slice A2 T.keys.length a2, .slice B2 T.kinds.length b2, .int .i64 T.syms, .int .i64 T.runs, .int .i64 T.cells, .slice C2 T.states.length c2, .slice D2 T.codes.length d2] := by
    have h := Blk.new (w.alloc (.cells #[.int .i64 T.strategy, .slice A1 T.keys.length a1, .slice B1 T.kinds.length b1, .int .i64 T.syms, .int .i64 T.runs, .int .i64 T.cells, .slice C1 T.states.length c1, .slice D1 T.codes.length d1] 27)) 27 #[.int .i64 T.strategy, .slice A2 T.keys.length a2, .slice B2 T.kinds.length b2, .int .i64 T.syms, .int .i64 T.runs, .int .i64 T.cells, .slice C2 T.states.length c2, .slice D2 T.codes.length d2]
    rw [World.size_alloc] at h
    rw [hW]; exact h
  have HB := Lib.hid hb
  have BA := Lib.hid hk1
  have BB := Lib.hid hk2
  have HX := Lib.hid (h.below hb)
  have KX := Lib.hid (k.below hb)
  have HL := Lib.hid hlb
  have PP := Lib.hid (plainBy_pos T)
  obtain ⟨x0, x1, x2, x3, x4, x5, x6, x7⟩ := blk8s hk1
  obtain ⟨y0, y1, y2, y3, y4, y5, y6, y7⟩ := blk8s hk2
  have nn : (0 : Int) ≤ (T.codes.length : Int) := by omega
  clear h k hb hk1 hk2 hlb
  go_enter Try.func12, Try.ntmps12
  go_upto_region 1 with fail
  try simp only [World.size_alloc]
  rw [← hW]
  clear hW
  go_wp2_with fail
  clear x0 x1 x2 x3 x4 x5 x6 x7 y0 y1 y2 y3 y4 y5 y6 y7
  go_loopw [16] (fun s wr => ∃ r : Nat, r ≤ T.codes.length ∧ s = .int .i64 r ∧ Hid (Below W.heap.size W wr)) (fun s _ => T.codes.length - (intOf s).toNat)
  case atStart => exact ⟨0, Nat.zero_le _, rfl, Lib.hid (Below.refl _ _)⟩
  case round =>
    obtain ⟨r, hr, rfl, hq⟩ := hrel
    by_cases hlt : r < T.codes.length
    · obtain ⟨y, hy⟩ : ∃ y, T.codes[r]? = some y := ⟨_, List.getElem?_eq_getElem hlt⟩
      obtain ⟨g1, o1, e1, ui, uc, ul, ha, _, _, m0, m1, m2, m3, m4, s1, s2, s3, _⟩ := codes_get HX.out.codes hy
      obtain ⟨g2, o2, e2, vi, vc, vl, hb, _, _, n0, n1, n2, n3, n4, t1, t2, t3, _⟩ := codes_get KX.out.codes hy
      injection ha with ha _ ha2
      injection hb with hb _ hb2
      subst ha ha2 hb hb2
      obtain ⟨p1, p2, rfl, _, _⟩ := s1.slice
      obtain ⟨p3, p4, rfl, _, _⟩ := s2.slice
      obtain ⟨p5, p6, rfl, _, _⟩ := s3.slice
      obtain ⟨q1, q2, rfl, _, _⟩ := t1.slice
      obtain ⟨q3, q4, rfl, _, _⟩ := t2.slice
      obtain ⟨q5, q6, rfl, _, _⟩ := t3.slice
      have CS := Lib.hid (fun V (hv : Below W.heap.size W V) => by
        have kp := KeepC.of_below hv
        exact (⟨⟨kp _ _ m0, kp _ _ m1, kp _ _ m2, kp _ _ m3, kp _ _ m4⟩, ⟨kp _ _ n0, kp _ _ n1, kp _ _ n2, kp _ _ n3, kp _ _ n4⟩⟩ : CodeS g1 (o1 + r * 5) _ _ _ _ _ V ∧ CodeS g2 (o2 + r * 5) _ _ _ _ _ V))
      have CC := Lib.hid (fun V (hv : Below W.heap.size W V) => by
        have kp := KeepC.of_below hv
        exact same_code y _ _ _ _ _ _ V (keep_inps kp s1) (keep_vals kp s2) (keep_inss kp s3) (keep_inps kp t1) (keep_vals kp t2) (keep_inss kp t3))
      clear m0 m1 m2 m3 m4 n0 n1 n2 n3 n4 s1 s2 s3 t1 t2 t3 hy
      have i1 : (0 : Int) ≤ (r : Int) := by omega
      have i2 : (r : Int) < (T.codes.length : Int) := by omega
      go_upto_region 6 with fail
      obtain ⟨yo, hyo⟩ : ∃ yo, yo = World.drew wr := ⟨_, rfl⟩
      have HBO : Hid (Below W.heap.size W yo) := Lib.hid (by rw [hyo]; exact ⟨hq.out.os, hq.out.tape, hq.out.output, hq.out.size, hq.out.block⟩)
      have HS := Lib.hid (And.intro (sameS_of BA.out BB.out HBO.out) (CS.out yo HBO.out))
      refine region_till (fun W => SameS w.heap.size (.int .i64 T.strategy) (.slice A1 T.keys.length a1) (.slice B1 T.kinds.length b1) (.int .i64 T.syms) (.int .i64 T.runs) (.int .i64 T.cells) (.slice C1 T.states.length c1) (.slice (some ⟨g1, o1, none⟩) T.codes.length d1) (.int .i64 T.strategy) (.slice A2 T.keys.length a2) (.slice B2 T.kinds.length b2) (.int .i64 T.syms) (.int .i64 T.runs) (.int .i64 T.cells) (.slice C2 T.states.length c2) (.slice (some ⟨g2, o2, none⟩) T.codes.length d2) W ∧ CodeS g1 (o1 + r * 5) (.int .i64 y.regs) (.int .i64 y.slots) (.slice p1 y.inputs.length p2) (.slice p3 y.consts.length p4) (.slice p5 y.list.length p6) W ∧ CodeS g2 (o2 + r * 5) (.int .i64 y.regs) (.int .i64 y.slots) (.slice q1 y.inputs.length q2) (.slice q3 y.consts.length q4) (.slice q5 y.list.length q6) W) (fun j => !([0, 1, 2, 3, 4, 5, 6, 7, 8, 9, 10, 11] : List Nat).contains j) (by kernel_rfl) ?_
      rw [← hyo]
      clear hyo
      refine till_take (i := 0) (v := ?_) rfl (by kernel_rfl) (by kernel_rfl) (by kernel_rfl) (by kernel_rfl) (fun _ _ _ h => h) (Or.inl ⟨by kernel_rfl, ?_⟩) HS.out ?_
      rotate_left
      · (intro w' hSw; obtain ⟨⟨⟨x0, x1, x2, x3, x4, x5, x6, x7⟩, y0, y1, y2, y3, y4, y5, y6, y7⟩, ⟨m0, m1, m2, m3, m4⟩, n0, n1, n2, n3, n4⟩ := hSw; go_simp; try with_reducible rfl)
      refine till_take (i := 1) (v := ?_) rfl (by kernel_rfl) (by kernel_rfl) (by kernel_rfl) (by kernel_rfl) (fun _ _ _ h => h) (Or.inl ⟨by kernel_rfl, ?_⟩) HS.out ?_
      rotate_left
      · (intro w' hSw; obtain ⟨⟨⟨x0, x1, x2, x3, x4, x5, x6, x7⟩, y0, y1, y2, y3, y4, y5, y6, y7⟩, ⟨m0, m1, m2, m3, m4⟩, n0, n1, n2, n3, n4⟩ := hSw; go_simp; try with_reducible rfl)
      refine till_take (i := 2) (v := ?_) rfl (by kernel_rfl) (by kernel_rfl) (by kernel_rfl) (by kernel_rfl) (fun _ _ _ h => h) (Or.inl ⟨by kernel_rfl, ?_⟩) HS.out ?_
      rotate_left
      · (intro w' hSw; obtain ⟨⟨⟨x0, x1, x2, x3, x4, x5, x6, x7⟩, y0, y1, y2, y3, y4, y5, y6, y7⟩, ⟨m0, m1, m2, m3, m4⟩, n0, n1, n2, n3, n4⟩ := hSw; go_simp; try with_reducible rfl)
      refine till_take (i := 3) (v := ?_) rfl (by kernel_rfl) (by kernel_rfl) (by kernel_rfl) (by kernel_rfl) (fun _ _ _ h => h) (Or.inl ⟨by kernel_rfl, ?_⟩) HS.out ?_
      rotate_left
      · (intro w' hSw; obtain ⟨⟨⟨x0, x1, x2, x3, x4, x5, x6, x7⟩, y0, y1, y2, y3, y4, y5, y6, y7⟩, ⟨m0, m1, m2, m3, m4⟩, n0, n1, n2, n3, n4⟩ := hSw; go_simp; try with_reducible rfl)
      refine till_take (i := 4) (v := ?_) rfl (by kernel_rfl) (by kernel_rfl) (by kernel_rfl) (by kernel_rfl) (fun _ _ _ h => h) (Or.inl ⟨by kernel_rfl, ?_⟩) HS.out ?_
      rotate_left
      · (intro w' hSw; obtain ⟨⟨⟨x0, x1, x2, x3, x4, x5, x6, x7⟩, y0, y1, y2, y3, y4, y5, y6, y7⟩, ⟨m0, m1, m2, m3, m4⟩, n0, n1, n2, n3, n4⟩ := hSw; go_simp; try with_reducible rfl)
      refine till_take (i := 5) (v := ?_) rfl (by kernel_rfl) (by kernel_rfl) (by kernel_rfl) (by kernel_rfl) (fun _ _ _ h => h) (Or.inl ⟨by kernel_rfl, ?_⟩) HS.out ?_
      rotate_left
      · (intro w' hSw; obtain ⟨⟨⟨x0, x1, x2, x3, x4, x5, x6, x7⟩, y0, y1, y2, y3, y4, y5, y6, y7⟩, ⟨m0, m1, m2, m3, m4⟩, n0, n1, n2, n3, n4⟩ := hSw; go_simp; try with_reducible rfl)
      refine till_take (i := 6) (v := ?_) rfl (by kernel_rfl) (by kernel_rfl) (by kernel_rfl) (by kernel_rfl) (fun _ _ _ h => h) (Or.inl ⟨by kernel_rfl, ?_⟩) HS.out ?_
      rotate_left
      · (intro w' hSw; obtain ⟨⟨⟨x0, x1, x2, x3, x4, x5, x6, x7⟩, y0, y1, y2, y3, y4, y5, y6, y7⟩, ⟨m0, m1, m2, m3, m4⟩, n0, n1, n2, n3, n4⟩ := hSw; go_simp; try with_reducible rfl)
      refine till_take (i := 7) (v := ?_) rfl (by kernel_rfl) (by kernel_rfl) (by kernel_rfl) (by kernel_rfl) (fun _ _ _ h => h) (Or.inl ⟨by kernel_rfl, ?_⟩) HS.out ?_
      rotate_left
      · (intro w' hSw; obtain ⟨⟨⟨x0, x1, x2, x3, x4, x5, x6, x7⟩, y0, y1, y2, y3, y4, y5, y6, y7⟩, ⟨m0, m1, m2, m3, m4⟩, n0, n1, n2, n3, n4⟩ := hSw; go_simp; try with_reducible rfl)
      refine till_take (i := 8) (v := ?_) rfl (by kernel_rfl) (by kernel_rfl) (by kernel_rfl) (by kernel_rfl) (fun _ _ _ h => h) (Or.inl ⟨by kernel_rfl, ?_⟩) HS.out ?_
      rotate_left
      · (intro w' hSw; obtain ⟨⟨⟨x0, x1, x2, x3, x4, x5, x6, x7⟩, y0, y1, y2, y3, y4, y5, y6, y7⟩, ⟨m0, m1, m2, m3, m4⟩, n0, n1, n2, n3, n4⟩ := hSw; go_simp; try with_reducible rfl)
      refine till_take (i := 9) (v := ?_) rfl (by kernel_rfl) (by kernel_rfl) (by kernel_rfl) (by kernel_rfl) (fun _ _ _ h => h) (Or.inl ⟨by kernel_rfl, ?_⟩) HS.out ?_
      rotate_left
      · (intro w' hSw; obtain ⟨⟨⟨x0, x1, x2, x3, x4, x5, x6, x7⟩, y0, y1, y2, y3, y4, y5, y6, y7⟩, ⟨m0, m1, m2, m3, m4⟩, n0, n1, n2, n3, n4⟩ := hSw; go_simp; try with_reducible rfl)
      refine till_ready (rs := [10]) (by kernel_rfl) (by simp) ?_
      refine TillAll.cons rfl (fun K hK => ?_) TillAll.nil
      go_simp
      go_wp2_with (go_at_call 30; refine (CC.out yo HBO.out).mono ?_; rintro e w6 ⟨rfl, hb6⟩)
      have HB6 := Lib.hid (HBO.out.trans (hb6.mono HBO.out.size))
      clear hb6
      have HS := Lib.hid (And.intro (sameS_of BA.out BB.out HB6.out) (CS.out w6 HB6.out))
      (refine hK.out _ _ (fun _ => HS.out) ?_; clear hK K)
      refine till_take (i := 11) (v := ?_) rfl (by kernel_rfl) (by kernel_rfl) (by kernel_rfl) (by kernel_rfl) (fun _ _ _ h => h) (Or.inl ⟨by kernel_rfl, ?_⟩) HS.out ?_
      rotate_left
      · (intro w' hSw; obtain ⟨⟨⟨x0, x1, x2, x3, x4, x5, x6, x7⟩, y0, y1, y2, y3, y4, y5, y6, y7⟩, ⟨m0, m1, m2, m3, m4⟩, n0, n1, n2, n3, n4⟩ := hSw; go_simp; try with_reducible rfl)
      refine till_done (by kernel_rfl) ?_ _
      go_wp2_with fail
      go_roundw
      case rel => first | exact ⟨r + 1, by omega, by go_num, HB6⟩ | ((repeat apply Exists.intro); exact ⟨⟨r + 1, by omega, by go_num, HB6⟩, rfl⟩)
      case measure => simp [intOf]; omega
    · have hge : (T.codes.length : Int) ≤ (r : Int) := by omega
      obtain rfl : r = T.codes.length := by omega
      have hq2 := hq.out
      obtain ⟨x0, x1, x2, x3, x4, x5, x6, x7⟩ := blk8s (BA.out.below hq2 BA.out.lt)
      clear hq2
      go_upto_region 9 with fail
      obtain ⟨yo, hyo⟩ : ∃ yo, yo = World.drew wr := ⟨_, rfl⟩
      have HBO : Hid (Below W.heap.size W yo) := Lib.hid (by rw [hyo]; exact ⟨hq.out.os, hq.out.tape, hq.out.output, hq.out.size, hq.out.block⟩)
      have HS := Lib.hid (sameS_of BA.out BB.out HBO.out)
      have CP1 := Lib.hid (fun V (hv : Below W.heap.size W V) => plain_any T _ _ _ _ V (HX.out.below hv) HL.out)
      have CP2 := Lib.hid (fun V (hv : Below W.heap.size W V) => plain_any T _ _ _ _ V (KX.out.below hv) HL.out)
      clear x0 x1 x2 x3 x4 x5 x6 x7
      refine region_till (SameS w.heap.size (.int .i64 T.strategy) (.slice A1 T.keys.length a1) (.slice B1 T.kinds.length b1) (.int .i64 T.syms) (.int .i64 T.runs) (.int .i64 T.cells) (.slice C1 T.states.length c1) (.slice D1 T.codes.length d1) (.int .i64 T.strategy) (.slice A2 T.keys.length a2) (.slice B2 T.kinds.length b2) (.int .i64 T.syms) (.int .i64 T.runs) (.int .i64 T.cells) (.slice C2 T.states.length c2) (.slice D2 T.codes.length d2)) (fun j => !([0, 1, 2, 3, 4, 5, 6, 7] : List Nat).contains j) (by kernel_rfl) ?_
      rw [← hyo]
      clear hyo
      refine till_take (i := 0) (v := ?_) rfl (by kernel_rfl) (by kernel_rfl) (by kernel_rfl) (by kernel_rfl) (fun _ _ _ h => h) (Or.inl ⟨by kernel_rfl, ?_⟩) HS.out ?_
      rotate_left
      · (intro w' hSw; obtain ⟨⟨x0, x1, x2, x3, x4, x5, x6, x7⟩, y0, y1, y2, y3, y4, y5, y6, y7⟩ := hSw; go_simp; try with_reducible rfl)
      refine till_take (i := 3) (v := ?_) rfl (by kernel_rfl) (by kernel_rfl) (by kernel_rfl) (by kernel_rfl) (fun _ _ _ h => h) (Or.inl ⟨by kernel_rfl, ?_⟩) HS.out ?_
      rotate_left
      · (intro w' hSw; obtain ⟨⟨x0, x1, x2, x3, x4, x5, x6, x7⟩, y0, y1, y2, y3, y4, y5, y6, y7⟩ := hSw; go_simp; try with_reducible rfl)
      refine till_ready (rs := [1]) (by kernel_rfl) (by simp) ?_
      refine TillAll.cons rfl (fun K hK => ?_) TillAll.nil
      go_simp
      go_wp2_with (go_at_call 31; refine (CP1.out yo HBO.out).mono ?_; rintro e z1 hmv; obtain ⟨G1, K1, rfl, hkt, hbt⟩ := madeV_shape hmv PP.out; clear hmv)
      have HBz1 := Lib.hid (HBO.out.trans (hbt.mono HBO.out.size))
      have KT1 := Lib.hid hkt
      clear hkt hbt
      have HS := Lib.hid (sameS_of BA.out BB.out HBz1.out)
      (refine hK.out _ _ (fun _ => HS.out) ?_; clear hK K)
      refine till_ready (rs := [2, 4]) (by kernel_rfl) (by simp) ?_
      refine TillAll.cons rfl (fun K hK => ?_) ?_
      · skip
        have cv := KT1.out.text (cap := K1) (n := (plainBy T).length) rfl
        go_simp
        clear cv
        (refine hK.out _ _ (fun _ => HS.out) ?_; clear hK K)
        refine till_ready (rs := [4]) (by kernel_rfl) (by simp) ?_
        refine TillAll.cons rfl (fun K hK => ?_) TillAll.nil
        go_simp
        go_wp2_with (go_at_call 31; refine (CP2.out z1 HBz1.out).mono ?_; rintro e z14 hmv; obtain ⟨G4, K4, rfl, hkt, hbt⟩ := madeV_shape hmv PP.out; clear hmv)
        have HBz14 := Lib.hid (HBz1.out.trans (hbt.mono HBz1.out.size))
        have KT4 := Lib.hid hkt
        have KT1 := Lib.hid (KT1.out.below hbt)
        clear hkt hbt
        have HS := Lib.hid (sameS_of BA.out BB.out HBz14.out)
        (refine hK.out _ _ (fun _ => HS.out) ?_; clear hK K)
        refine till_ready (rs := [5]) (by kernel_rfl) (by simp) ?_
        refine TillAll.cons rfl (fun K hK => ?_) TillAll.nil
        have cv := KT4.out.text (cap := K4) (n := (plainBy T).length) rfl
        go_simp
        clear cv
        (refine hK.out _ _ (fun _ => HS.out) ?_; clear hK K)
        refine till_take (i := 6) (v := ?_) rfl (by kernel_rfl) (by kernel_rfl) (by kernel_rfl) (by kernel_rfl) (fun _ _ _ h => h) (Or.inl ⟨by kernel_rfl, ?_⟩) HS.out ?_
        rotate_left
        · (intro w' hSw; obtain ⟨⟨x0, x1, x2, x3, x4, x5, x6, x7⟩, y0, y1, y2, y3, y4, y5, y6, y7⟩ := hSw; go_simp; try with_reducible rfl)
        refine till_take (i := 7) (v := ?_) rfl (by kernel_rfl) (by kernel_rfl) (by kernel_rfl) (by kernel_rfl) (fun _ _ _ h => h) (Or.inl ⟨by kernel_rfl, ?_⟩) HS.out ?_
        rotate_left
        · (intro w' hSw; obtain ⟨⟨x0, x1, x2, x3, x4, x5, x6, x7⟩, y0, y1, y2, y3, y4, y5, y6, y7⟩ := hSw; go_simp; try with_reducible rfl)
        refine till_done (by kernel_rfl) ?_ _
        go_wp2_with fail
        go_ret
        exact ⟨rfl, HB.out.trans (HBz14.out.mono HB.out.size)⟩
      refine TillAll.cons rfl (fun K hK => ?_) TillAll.nil
      go_simp
      go_wp2_with (go_at_call 31; refine (CP2.out z1 HBz1.out).mono ?_; rintro e z14 hmv; obtain ⟨G4, K4, rfl, hkt, hbt⟩ := madeV_shape hmv PP.out; clear hmv)
      have HBz14 := Lib.hid (HBz1.out.trans (hbt.mono HBz1.out.size))
      have KT4 := Lib.hid hkt
      have KT1 := Lib.hid (KT1.out.below hbt)
      clear hkt hbt
      have HS := Lib.hid (sameS_of BA.out BB.out HBz14.out)
      (refine hK.out _ _ (fun _ => HS.out) ?_; clear hK K)
      refine till_ready (rs := [2, 5]) (by kernel_rfl) (by simp) ?_
      refine TillAll.cons rfl (fun K hK => ?_) ?_
      · skip
        have cv := KT1.out.text (cap := K1) (n := (plainBy T).length) rfl
        go_simp
        clear cv
        (refine hK.out _ _ (fun _ => HS.out) ?_; clear hK K)
        refine till_ready (rs := [5]) (by kernel_rfl) (by simp) ?_
        refine TillAll.cons rfl (fun K hK => ?_) TillAll.nil
        have cv := KT4.out.text (cap := K4) (n := (plainBy T).length) rfl
        go_simp
        clear cv
        (refine hK.out _ _ (fun _ => HS.out) ?_; clear hK K)
        refine till_take (i := 6) (v := ?_) rfl (by kernel_rfl) (by kernel_rfl) (by kernel_rfl) (by kernel_rfl) (fun _ _ _ h => h) (Or.inl ⟨by kernel_rfl, ?_⟩) HS.out ?_
        rotate_left
        · (intro w' hSw; obtain ⟨⟨x0, x1, x2, x3, x4, x5, x6, x7⟩, y0, y1, y2, y3, y4, y5, y6, y7⟩ := hSw; go_simp; try with_reducible rfl)
        refine till_take (i := 7) (v := ?_) rfl (by kernel_rfl) (by kernel_rfl) (by kernel_rfl) (by kernel_rfl) (fun _ _ _ h => h) (Or.inl ⟨by kernel_rfl, ?_⟩) HS.out ?_
        rotate_left
        · (intro w' hSw; obtain ⟨⟨x0, x1, x2, x3, x4, x5, x6, x7⟩, y0, y1, y2, y3, y4, y5, y6, y7⟩ := hSw; go_simp; try with_reducible rfl)
        refine till_done (by kernel_rfl) ?_ _
        go_wp2_with fail
        go_ret
        exact ⟨rfl, HB.out.trans (HBz14.out.mono HB.out.size)⟩
      refine TillAll.cons rfl (fun K hK => ?_) TillAll.nil
      have cv := KT4.out.text (cap := K4) (n := (plainBy T).length) rfl
      go_simp
      clear cv
      (refine hK.out _ _ (fun _ => HS.out) ?_; clear hK K)
      refine till_ready (rs := [2]) (by kernel_rfl) (by simp) ?_
      refine TillAll.cons rfl (fun K hK => ?_) TillAll.nil
      have cv := KT1.out.text (cap := K1) (n := (plainBy T).length) rfl
      go_simp
      clear cv
      (refine hK.out _ _ (fun _ => HS.out) ?_; clear hK K)
      refine till_take (i := 6) (v := ?_) rfl (by kernel_rfl) (by kernel_rfl) (by kernel_rfl) (by kernel_rfl) (fun _ _ _ h => h) (Or.inl ⟨by kernel_rfl, ?_⟩) HS.out ?_
      rotate_left
      · (intro w' hSw; obtain ⟨⟨x0, x1, x2, x3, x4, x5, x6, x7⟩, y0, y1, y2, y3, y4, y5, y6, y7⟩ := hSw; go_simp; try with_reducible rfl)
      refine till_take (i := 7) (v := ?_) rfl (by kernel_rfl) (by kernel_rfl) (by kernel_rfl) (by kernel_rfl) (fun _ _ _ h => h) (Or.inl ⟨by kernel_rfl, ?_⟩) HS.out ?_
      rotate_left
      · (intro w' hSw; obtain ⟨⟨x0, x1, x2, x3, x4, x5, x6, x7⟩, y0, y1, y2, y3, y4, y5, y6, y7⟩ := hSw; go_simp; try with_reducible rfl)
      refine till_done (by kernel_rfl) ?_ _
      go_wp2_with fail
      go_ret
      exact ⟨rfl, HB.out.trans (HBz14.out.mono HB.out.size)⟩
end Go.Proofs.Ytioocaicmiggoaa

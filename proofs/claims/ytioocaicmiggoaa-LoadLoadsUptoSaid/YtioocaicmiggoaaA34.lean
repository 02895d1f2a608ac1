/- Dcd: texts merged for a claim by a program of mine. -/
import Derived.Test.YtioocaicmiggoaaA33
namespace Go.Proofs.Ytioocaicmiggoaa
set_option linter.unusedVariables false
set_option linter.unusedSimpArgs false
open Go.RowKit Go.Deep
set_option maxRecDepth 100000 in
set_option maxHeartbeats 16000000 in
theorem in_code (I : Nat) (l : List UInt8) (s : Option Nat) (w : World) (h : InD w I l s) :
  Calls Try.prog 57 #[.pointer (some ⟨I, 0, none⟩)] w fun e w' => ∃ (t : Option Nat) (y : TCode) (cs : List Value), e = .returned (.agg cs.toArray) ∧ InD w' I l t ∧ w.grownBy w' (some I) ∧ StepD codeF zCode l s t y ∧ cs.length = 5 ∧ CodeQ (fun b => w.heap.size ≤ b ∧ b < w'.heap.size) w' cs y := by
 obtain ⟨i1, hi1, hz1, hsz1, hb1⟩ := info_parts info_inp
 obtain ⟨i2, hi2, hz2, hsz2, hb2⟩ := info_parts info_val
 obtain ⟨i3, hi3, hz3, hsz3, hb3⟩ := info_parts info_ins
 obtain ⟨W1, hW1⟩ : ∃ W, W = w.alloc (.cells #[.int .i64 0, .int .i64 0, .slice none 0 0, .slice none 0 0, .slice none 0 0] 40) := ⟨_, rfl⟩
 have hI1 : InD W1 I l s := by rw [hW1]; exact h.below ((Below.refl _ _).alloc (Nat.le_refl _) _)
 have HIW := Lib.hid h.blk
 have HZ1 : Hid (Blk W1 w.heap.size 40 #[.int .i64 0, .int .i64 0, .slice none 0 0, .slice none 0 0, .slice none 0 0]) := Lib.hid (by rw [hW1]; exact Blk.new _ _ _)
 have HG1 : Hid (w.grownBy W1 (some I)) := Lib.hid (by rw [hW1]; exact only_alloc (World.grownBy.refl _ _) _)
 have C1 := Lib.hid (in_num I l s W1 hI1)
 have HW1 := Lib.hid hW1
 clear h hI1 hW1
 go_enter Try.func57, Try.ntmps57
 go_upto_region 1 with fail
 rw [← HW1.out]
 clear HW1
 go_wp2_with fail
 refine C1.out.mono ?_
 rintro e w2 ⟨s1, a, rfl, hi, hg, hst, hy1, hy2⟩
 have HSA := Lib.hid hst
 have HWA := Lib.hid (wfi_num hy1 hy2)
 have HZ2 := Lib.hid (HZ1.out.grown hg (by have := HIW.out; intro e; injection e with e; omega))
 obtain ⟨G, hG⟩ : ∃ G, G = w2.heap.size := ⟨_, rfl⟩
 obtain ⟨W3, hW3⟩ : ∃ W, W = w2.alloc (.cells #[.int .i64 a, .int .i64 0, .slice none 0 0, .slice none 0 0, .slice none 0 0] 40) := ⟨_, rfl⟩
 have HB3 : Hid (BoxX w I l G 40 W3 s1 #[.int .i64 a, .int .i64 0, .slice none 0 0, .slice none 0 0, .slice none 0 0] (fun W => Blk W w.heap.size 40 #[.int .i64 0, .int .i64 0, .slice none 0 0, .slice none 0 0, .slice none 0 0])) := Lib.hid (by
  rw [hW3, hG]
  exact BoxX.start hi (only_tr HG1.out hg) HIW.out (HZ2.out.alloc _) (KeepsP.blk (by have := HIW.out; omega) (by have := HZ2.out.lt; omega)))
 have HGW : Hid (w.heap.size < G) := Lib.hid (by rw [hG]; exact HZ2.out.lt)
 have C2 := Lib.hid (in_num I l s1 W3 HB3.out.in_)
 clear C1 hi hg hst hy1 hy2 HZ2 HZ1 HG1
 go_upto_region 2 with fail
 rw [← hW3, ← hG]
 clear hW3 hG
 go_wp2_with fail
 refine C2.out.mono ?_
 rintro e w4 ⟨s2, b, rfl, hi, hg, hst, hy1, hy2⟩
 have HSB := Lib.hid hst
 have HWB := Lib.hid (wfi_num hy1 hy2)
 have HB4 := Lib.hid (HB3.out.call hg hi)
 obtain ⟨g0, g1, g2, g3, g4⟩ := blk5 HB4.out.blk
 have gz := HB4.out.blk.frozen 1
 obtain ⟨W5, hW5⟩ : ∃ W, W = w4.setCell ⟨G, 1, none⟩ (.int .i64 b) := ⟨_, rfl⟩
 have HB5 : Hid (BoxX w I l G 40 W5 s2 #[.int .i64 a, .int .i64 b, .slice none 0 0, .slice none 0 0, .slice none 0 0] (fun W => Blk W w.heap.size 40 #[.int .i64 0, .int .i64 0, .slice none 0 0, .slice none 0 0, .slice none 0 0])) := Lib.hid (by rw [hW5]; simpa using HB4.out.set_ 1 (.int .i64 b))
 have C3 := Lib.hid (in_count I l s2 W5 HB5.out.in_)
 have HAT2 := Lib.hid HB5.out.in_.at_
 clear C2 hi hg hst hy1 hy2 HB4 HB3
 go_upto_region 3 with fail
 rw [← hW5]
 clear hW5 g0 g1 g2 g3 g4 gz
 go_wp2_with fail
 refine C3.out.mono ?_
 rintro e w6 ⟨m1, n1, rfl, hi, hg, hc⟩
 have HC1 := Lib.hid hc
 have HB6 := Lib.hid (HB5.out.call hg hi)
 clear C3 hi hg hc HB5
 go_wp2_with fail
 have HKP1 := Lib.hid HB6.out.lt
 have HBG1 : Hid (G < w6.heap.size) := Lib.hid HB6.out.blk.lt
 go_loopw [4] (fun j wr => ∃ v, LpD w6.heap.size 70 4 (fun _ => InpC) inpF zInp l I G n1 m1 w6 wr v j ∧ Blk wr G 40 #[.int .i64 a, .int .i64 b, v, .slice none 0 0, .slice none 0 0]) (fun j _ => (intOf j).toNat)
 case atStart => exact ⟨_, LpD.start w6 HB6.out.in_, HB6.out.blk⟩
 case round =>
  obtain ⟨v, ⟨K1, t1, ys1, css1, rfl, hk, hyl, hacc, hi, hgr, hrun⟩, hbg⟩ := hrel
  obtain ⟨Av1, cv1, hv⟩ := own_slice hacc.1
  rw [hyl] at hv
  subst hv
  have HACC := Lib.hid hacc
  have HGR := Lib.hid hgr
  have HRUN := Lib.hid hrun
  have HI2 := Lib.hid hi
  have HYL := Lib.hid hyl
  have HBG := Lib.hid hbg
  obtain ⟨A0, m0, c0, k0, k1, f0, f1⟩ := hi.cells
  have hn := HC1.out.1
  clear hacc hgr hrun hi hbg
  by_cases hgo : K1 < n1 ∧ t1.isSome = true
  ·obtain ⟨hlt, hts⟩ := hgo
   have hpos : (0 : Int) < (n1 : Int) - (K1 : Int) := by omega
   rw [hts] at k1
   have CN0 := Lib.hid (in_num I l t1 wr HI2.out)
   go_wp2_with fail
   refine CN0.out.mono ?_
   rintro e x0 ⟨u0, a0, rfl, hi, hg, hst, hy1, hy2⟩
   have HST0 := Lib.hid hst
   have HWF0 := Lib.hid (wfi_num hy1 hy2)
   clear hst hy1 hy2 CN0
   obtain ⟨X, hX⟩ : ∃ X, X = x0.heap.size := ⟨_, rfl⟩
   obtain ⟨y0, hy⟩ : ∃ W, W = x0.alloc (.cells #[.int .i64 a0, .int .i64 0, .int .i64 0, .int .i64 0] 70) := ⟨_, rfl⟩
   have HE0 : Hid (BoxX wr I l X 70 y0 u0 #[.int .i64 a0, .int .i64 0, .int .i64 0, .int .i64 0] (fun _ => True)) := Lib.hid (by rw [hy, hX]; exact BoxX.start hi hg (Nat.lt_of_lt_of_le HI2.out.blk (Nat.le_refl _)) trivial KeepsP.true_)
   clear hi hg k0 k1 f0 f1
   have CN1 := Lib.hid (in_num I l u0 y0 HE0.out.in_)
   go_upto_region 7 with fail
   rw [← hy, ← hX]
   clear hy hX
   go_wp2_with fail
   refine CN1.out.mono ?_
   rintro e x1 ⟨u1, a1, rfl, hi, hg, hst, hy1, hy2⟩
   have HST1 := Lib.hid hst
   have HWF1 := Lib.hid (wfi_num hy1 hy2)
   clear hst hy1 hy2 CN1
   have HF1 := Lib.hid (HE0.out.call hg hi)
   obtain ⟨p0, p1, p2, p3, z0, z1, z2, z3⟩ := blk4f HF1.out.blk
   obtain ⟨y1, hy⟩ : ∃ W, W = x1.setCell ⟨X, 1, none⟩ (.int .i64 a1) := ⟨_, rfl⟩
   have HE1 : Hid (BoxX wr I l X 70 y1 u1 #[.int .i64 a0, .int .i64 a1, .int .i64 0, .int .i64 0] (fun _ => True)) := Lib.hid (by rw [hy]; simpa using HF1.out.set_ 1 (.int .i64 a1))
   clear hi hg HF1 HE0
   have CN2 := Lib.hid (in_num I l u1 y1 HE1.out.in_)
   go_upto_region 8 with fail
   rw [← hy]
   clear hy p0 z0 p1 z1 p2 z2 p3 z3
   go_wp2_with fail
   refine CN2.out.mono ?_
   rintro e x2 ⟨u2, a2, rfl, hi, hg, hst, hy1, hy2⟩
   have HST2 := Lib.hid hst
   have HWF2 := Lib.hid (wfi_num hy1 hy2)
   clear hst hy1 hy2 CN2
   have HF2 := Lib.hid (HE1.out.call hg hi)
   obtain ⟨p0, p1, p2, p3, z0, z1, z2, z3⟩ := blk4f HF2.out.blk
   obtain ⟨y2, hy⟩ : ∃ W, W = x2.setCell ⟨X, 2, none⟩ (.int .i64 a2) := ⟨_, rfl⟩
   have HE2 : Hid (BoxX wr I l X 70 y2 u2 #[.int .i64 a0, .int .i64 a1, .int .i64 a2, .int .i64 0] (fun _ => True)) := Lib.hid (by rw [hy]; simpa using HF2.out.set_ 2 (.int .i64 a2))
   clear hi hg HF2 HE1
   have CN3 := Lib.hid (in_num I l u2 y2 HE2.out.in_)
   go_upto_region 9 with fail
   rw [← hy]
   clear hy p0 z0 p1 z1 p2 z2 p3 z3
   go_wp2_with fail
   refine CN3.out.mono ?_
   rintro e x3 ⟨u3, a3, rfl, hi, hg, hst, hy1, hy2⟩
   have HST3 := Lib.hid hst
   have HWF3 := Lib.hid (wfi_num hy1 hy2)
   clear hst hy1 hy2 CN3
   have HF3 := Lib.hid (HE2.out.call hg hi)
   obtain ⟨p0, p1, p2, p3, z0, z1, z2, z3⟩ := blk4f HF3.out.blk
   obtain ⟨y3, hy⟩ : ∃ W, W = x3.setCell ⟨X, 3, none⟩ (.int .i64 a3) := ⟨_, rfl⟩
   have HE3 : Hid (BoxX wr I l X 70 y3 u3 #[.int .i64 a0, .int .i64 a1, .int .i64 a2, .int .i64 a3] (fun _ => True)) := Lib.hid (by rw [hy]; simpa using HF3.out.set_ 3 (.int .i64 a3))
   clear hi hg HF3 HE2
   go_upto_region 10 with fail
   rw [← hy]
   clear hy p0 z0 p1 z1 p2 z2 p3 z3
   obtain ⟨p0, p1, p2, p3, z0, z1, z2, z3⟩ := blk4f HE3.out.blk
   have HBR2 := Lib.hid (HBG.out.grown HE3.out.gr (by have := HKP1.out; intro e; injection e with e; omega))
   obtain ⟨g0, g1, g2, g3, g4⟩ := blk5 HBR2.out
   have gz := HBR2.out.frozen 2
   have HSW := Lib.hid HGR.out.size
   have HO2 : Hid ((y3.alloc (.cells #[.int .i64 a0, .int .i64 a1, .int .i64 a2, .int .i64 a3] 70)).ownsRow w6.heap.size 70 4 (.slice Av1 K1 cv1) K1 css1.flatten) := Lib.hid (LpD.own HYL.out HACC.out (Nat.lt_of_lt_of_le HKP1.out (Nat.le_of_lt HBG1.out)) (only_alloc HE3.out.gr (.cells #[.int .i64 a0, .int .i64 a1, .int .i64 a2, .int .i64 a3] 70)))
   have HSY : Hid (w6.heap.size ≤ (y3.alloc (.cells #[.int .i64 a0, .int .i64 a1, .int .i64 a2, .int .i64 a3] 70)).heap.size) := Lib.hid (by rw [World.size_alloc]; have := HSW.out; have := HE3.out.gr.size; omega)
   go_wp2_with (at_builtin; refine wpList_append_any _ rfl (.tmp 41) (.tmp 43) 36 rfl w6.heap.size 70 i1 _ 4 32 Try.underlying36 hi1 hz1 hsz1 hb1 rfl (by omega) (.slice Av1 K1 cv1) K1 css1.flatten rfl HO2.out (y3.heap.size + 1) (some ⟨y3.heap.size, 0, none⟩) 1 1 [.int .i64 a0, .int .i64 a1, .int .i64 a2, .int .i64 a3] rfl (reads_lit _ _ 4 rfl _ _) (by intro u hu; simp at hu; rcases hu with rfl | rfl | rfl | rfl <;> rfl) (by unfold maxLen; omega) (by omega) HSY.out ?_; intro v9 w3 ho hg hat; obtain ⟨A9, c9, rfl⟩ := own_slice ho; have HO3 := Lib.hid ho; have HG6 := Lib.hid hg; have HAT4 := Lib.hid hat; have HBR3 := Lib.hid ((HBR2.out.alloc (.cells #[.int .i64 a0, .int .i64 a1, .int .i64 a2, .int .i64 a3] 70)).grown hg (fun e => by have h1 := (own_lt2 HO2.out e.symm).2; have := HBG1.out; omega)); have gz := HBR3.out.frozen 2; obtain ⟨g0, g1, g2, g3, g4⟩ := blk5 HBR3.out; clear ho hg hat)
   have HL : Hid (LpD w6.heap.size 70 4 (fun _ => InpC) inpF zInp l I G n1 m1 w6 w3 (.slice A9 (K1 + 1) c9) (.int .i64 ((n1 : Int) - (K1 : Int) - 1))) := Lib.hid (LpD.next keeps_inp hlt HYL.out HACC.out HGR.out HRUN.out (Nat.lt_of_lt_of_le HKP1.out (Nat.le_of_lt HBG1.out)) HSW.out (only_alloc HE3.out.gr _) (HE3.out.alloc _).in_ (step_inp HST0.out HST1.out HST2.out HST3.out) rfl ⟨rfl, HWF0.out, HWF1.out, HWF2.out, HWF3.out⟩ HO3.out HG6.out HAT4.out)
   have HL2 := Lib.hid (HL.out.set_ keeps_inp HBG1.out HKP1.out 2 (.slice A9 (K1 + 1) c9))
   have HBR4 : Hid (Blk (w3.setCell ⟨G, 2, none⟩ (.slice A9 (K1 + 1) c9)) G 40 #[.int .i64 a, .int .i64 b, .slice A9 (K1 + 1) c9, .slice none 0 0, .slice none 0 0]) := Lib.hid (by simpa using HBR3.out.set_ 2 (.slice A9 (K1 + 1) c9))
   go_wp2_with fail
   clear g0 g1 g2 g3 g4 gz p0 z0 p1 z1 p2 z2 p3 z3
   go_roundw
   case rel => first | exact ⟨_, HL2.out, HBR4.out⟩ | ((repeat apply Exists.intro); exact ⟨⟨_, HL2.out, HBR4.out⟩, rfl⟩)
   case measure => simp [intOf]; omega
  ·have HBK := Lib.hid (HB6.out.loop HGR.out HBG.out HI2.out)
   have HSL : Hid (SlP G 4 (fun _ => InpC) (.slice Av1 K1 cv1) ys1 wr) := Lib.hid (SlP.of_acc HACC.out keeps_inp HBG1.out)
   have HBY1 := Lib.hid (HBK.out.add HSL.out (KeepsP.sl HKP1.out keeps_inp))
   have HQ1 : Hid (StepD (listF inpF zInp) [] l s2 t1 ys1) := Lib.hid (HRUN.out.done codec_inp HAT2.out HC1.out HB6.out.in_.at_ hk (by rcases t1 with _ | p; exact .inr rfl; exact .inl (by simp at hgo; omega)))
   clear HACC HGR HRUN HI2 HBG HBK HSL
   have HEX0 : True := trivial
   have HEX : ((0 : Int) < (n1 : Int) - (K1 : Int) → t1.isSome = false) := fun h => by rcases t1 with _ | p; rfl; simp at hgo; omega
   obtain ⟨bb1, hb⟩ : ∃ bb, t1.isSome = bb := ⟨_, rfl⟩
   rw [hb] at k1 HEX
   clear hgo
   clear HEX0
   go_upto_region 4 with fail
   go_cut [25] (fun x wx => x = .bool false ∧ wx = wr)
   case first =>
    by_cases hp : (0 : Int) < (n1 : Int) - (K1 : Int)
    ·have hbf := HEX hp
     subst hbf
     go_wp2_with fail
     go_meet
     exact ⟨rfl, rfl⟩
    ·have hp2 : (n1 : Int) - (K1 : Int) ≤ 0 := by omega
     go_wp2_with fail
     go_meet
     exact ⟨rfl, rfl⟩
   case rest =>
    obtain ⟨rfl, hcw⟩ := hcut
    subst hcw
    obtain ⟨V1, hV⟩ : ∃ V, V = wc := ⟨wc, rfl⟩
    subst hV
    clear k0 k1 f0 f1 HEX hb
    have C1 := Lib.hid (in_count I l t1 V1 HBY1.out.in_)
    have HAT3 := Lib.hid HBY1.out.in_.at_
    go_wp2_with fail
    refine C1.out.mono ?_
    rintro e w7 ⟨m2, n2, rfl, hi, hg, hc⟩
    have HC2 := Lib.hid hc
    have HB7 := Lib.hid (HBY1.out.call hg hi)
    clear C1 hi hg hc HBY1
    go_wp2_with fail
    have HKP2 := Lib.hid HB7.out.lt
    have HBG2 : Hid (G < w7.heap.size) := Lib.hid HB7.out.blk.lt
    go_loopw [6] (fun j wr => ∃ v, LpD w7.heap.size 88 2 (fun _ => ValC) valF zVal l I G n2 m2 w7 wr v j ∧ Blk wr G 40 #[.int .i64 a, .int .i64 b, .slice Av1 K1 cv1, v, .slice none 0 0]) (fun j _ => (intOf j).toNat)
    case atStart => exact ⟨_, LpD.start w7 HB7.out.in_, HB7.out.blk⟩
    case round =>
     obtain ⟨v, ⟨K2, t2, ys2, css2, rfl, hk, hyl, hacc, hi, hgr, hrun⟩, hbg⟩ := hrel
     obtain ⟨Av2, cv2, hv⟩ := own_slice hacc.1
     rw [hyl] at hv
     subst hv
     have HACC := Lib.hid hacc
     have HGR := Lib.hid hgr
     have HRUN := Lib.hid hrun
     have HI2 := Lib.hid hi
     have HYL := Lib.hid hyl
     have HBG := Lib.hid hbg
     obtain ⟨A0, m0, c0, k0, k1, f0, f1⟩ := hi.cells
     have hn := HC2.out.1
     clear hacc hgr hrun hi hbg
     by_cases hgo : K2 < n2 ∧ t2.isSome = true
     ·obtain ⟨hlt, hts⟩ := hgo
      have hpos : (0 : Int) < (n2 : Int) - (K2 : Int) := by omega
      rw [hts] at k1
      have CN0 := Lib.hid (in_num I l t2 wr HI2.out)
      go_wp2_with fail
      refine CN0.out.mono ?_
      rintro e x0 ⟨u0, a0, rfl, hi, hg, hst, hy1, hy2⟩
      have HST0 := Lib.hid hst
      have HWF0 := Lib.hid (wfi_num hy1 hy2)
      clear hst hy1 hy2 CN0
      obtain ⟨X, hX⟩ : ∃ X, X = x0.heap.size := ⟨_, rfl⟩
      obtain ⟨y0, hy⟩ : ∃ W, W = x0.alloc (.cells #[.int .i64 a0, .int .u64 0] 88) := ⟨_, rfl⟩
      have HE0 : Hid (BoxX wr I l X 88 y0 u0 #[.int .i64 a0, .int .u64 0] (fun _ => True)) := Lib.hid (by rw [hy, hX]; exact BoxX.start hi hg (Nat.lt_of_lt_of_le HI2.out.blk (Nat.le_refl _)) trivial KeepsP.true_)
      clear hi hg k0 k1 f0 f1
      have CN1 := Lib.hid (in_uint I l u0 y0 HE0.out.in_)
      go_upto_region 15 with fail
      rw [← hy, ← hX]
      clear hy hX
      go_wp2_with fail
      refine CN1.out.mono ?_
      rintro e x1 ⟨u1, a1, rfl, hi, hg, hv, hs1, hs2⟩
      have HST1 := Lib.hid (step_bits hs1 hs2)
      have HWF1 := Lib.hid (wfu_nat hv)
      clear hs1 hs2 hv CN1
      have HF1 := Lib.hid (HE0.out.call hg hi)
      obtain ⟨p0, p1, z0, z1⟩ := blk2f HF1.out.blk
      obtain ⟨y1, hy⟩ : ∃ W, W = x1.setCell ⟨X, 1, none⟩ (.int .u64 (a1 : Int)) := ⟨_, rfl⟩
      have HE1 : Hid (BoxX wr I l X 88 y1 u1 #[.int .i64 a0, .int .u64 (a1 : Int)] (fun _ => True)) := Lib.hid (by rw [hy]; simpa using HF1.out.set_ 1 (.int .u64 (a1 : Int)))
      clear hi hg HF1 HE0
      go_upto_region 16 with fail
      rw [← hy]
      clear hy p0 z0 p1 z1
      obtain ⟨p0, p1, z0, z1⟩ := blk2f HE1.out.blk
      have HBR2 := Lib.hid (HBG.out.grown HE1.out.gr (by have := HKP2.out; intro e; injection e with e; omega))
      obtain ⟨g0, g1, g2, g3, g4⟩ := blk5 HBR2.out
      have gz := HBR2.out.frozen 3
      have HSW := Lib.hid HGR.out.size
      have HO2 : Hid ((y1.alloc (.cells #[.int .i64 a0, .int .u64 (a1 : Int)] 88)).ownsRow w7.heap.size 88 2 (.slice Av2 K2 cv2) K2 css2.flatten) := Lib.hid (LpD.own HYL.out HACC.out (Nat.lt_of_lt_of_le HKP2.out (Nat.le_of_lt HBG2.out)) (only_alloc HE1.out.gr (.cells #[.int .i64 a0, .int .u64 (a1 : Int)] 88)))
      have HSY : Hid (w7.heap.size ≤ (y1.alloc (.cells #[.int .i64 a0, .int .u64 (a1 : Int)] 88)).heap.size) := Lib.hid (by rw [World.size_alloc]; have := HSW.out; have := HE1.out.gr.size; omega)
      go_wp2_with (at_builtin; refine wpList_append_any _ rfl (.tmp 65) (.tmp 67) 37 rfl w7.heap.size 88 i2 _ 2 16 Try.underlying37 hi2 hz2 hsz2 hb2 rfl (by omega) (.slice Av2 K2 cv2) K2 css2.flatten rfl HO2.out (y1.heap.size + 1) (some ⟨y1.heap.size, 0, none⟩) 1 1 [.int .i64 a0, .int .u64 (a1 : Int)] rfl (reads_lit _ _ 2 rfl _ _) (by intro u hu; simp at hu; rcases hu with rfl | rfl <;> rfl) (by unfold maxLen; omega) (by omega) HSY.out ?_; intro v9 w3 ho hg hat; obtain ⟨A9, c9, rfl⟩ := own_slice ho; have HO3 := Lib.hid ho; have HG6 := Lib.hid hg; have HAT4 := Lib.hid hat; have HBR3 := Lib.hid ((HBR2.out.alloc (.cells #[.int .i64 a0, .int .u64 (a1 : Int)] 88)).grown hg (fun e => by have h1 := (own_lt2 HO2.out e.symm).2; have := HBG2.out; omega)); have gz := HBR3.out.frozen 3; obtain ⟨g0, g1, g2, g3, g4⟩ := blk5 HBR3.out; clear ho hg hat)
      have HL : Hid (LpD w7.heap.size 88 2 (fun _ => ValC) valF zVal l I G n2 m2 w7 w3 (.slice A9 (K2 + 1) c9) (.int .i64 ((n2 : Int) - (K2 : Int) - 1))) := Lib.hid (LpD.next keeps_val hlt HYL.out HACC.out HGR.out HRUN.out (Nat.lt_of_lt_of_le HKP2.out (Nat.le_of_lt HBG2.out)) HSW.out (only_alloc HE1.out.gr _) (HE1.out.alloc _).in_ (step_val HST0.out HST1.out) rfl ⟨rfl, HWF0.out, HWF1.out⟩ HO3.out HG6.out HAT4.out)
      have HL2 := Lib.hid (HL.out.set_ keeps_val HBG2.out HKP2.out 3 (.slice A9 (K2 + 1) c9))
      have HBR4 : Hid (Blk (w3.setCell ⟨G, 3, none⟩ (.slice A9 (K2 + 1) c9)) G 40 #[.int .i64 a, .int .i64 b, .slice Av1 K1 cv1, .slice A9 (K2 + 1) c9, .slice none 0 0]) := Lib.hid (by simpa using HBR3.out.set_ 3 (.slice A9 (K2 + 1) c9))
      go_wp2_with fail
      clear g0 g1 g2 g3 g4 gz p0 z0 p1 z1
      go_roundw
      case rel => first | exact ⟨_, HL2.out, HBR4.out⟩ | ((repeat apply Exists.intro); exact ⟨⟨_, HL2.out, HBR4.out⟩, rfl⟩)
      case measure => simp [intOf]; omega
     ·have HBK := Lib.hid (HB7.out.loop HGR.out HBG.out HI2.out)
      have HSL : Hid (SlP G 2 (fun _ => ValC) (.slice Av2 K2 cv2) ys2 wr) := Lib.hid (SlP.of_acc HACC.out keeps_val HBG2.out)
      have HBY2 := Lib.hid (HBK.out.add HSL.out (KeepsP.sl HKP2.out keeps_val))
      have HQ2 : Hid (StepD (listF valF zVal) [] l t1 t2 ys2) := Lib.hid (HRUN.out.done codec_val HAT3.out HC2.out HB7.out.in_.at_ hk (by rcases t2 with _ | p; exact .inr rfl; exact .inl (by simp at hgo; omega)))
      clear HACC HGR HRUN HI2 HBG HBK HSL
      have HEX0 : True := trivial
      have HEX : ((0 : Int) < (n2 : Int) - (K2 : Int) → t2.isSome = false) := fun h => by rcases t2 with _ | p; rfl; simp at hgo; omega
      obtain ⟨bb2, hb⟩ : ∃ bb, t2.isSome = bb := ⟨_, rfl⟩
      rw [hb] at k1 HEX
      clear hgo
      clear HEX0
      go_upto_region 12 with fail
      go_cut [55] (fun x wx => x = .bool false ∧ wx = wr)
      case first =>
       by_cases hp : (0 : Int) < (n2 : Int) - (K2 : Int)
       ·have hbf := HEX hp
        subst hbf
        go_wp2_with fail
        go_meet
        exact ⟨rfl, rfl⟩
       ·have hp2 : (n2 : Int) - (K2 : Int) ≤ 0 := by omega
        go_wp2_with fail
        go_meet
        exact ⟨rfl, rfl⟩
      case rest =>
       obtain ⟨rfl, hcw⟩ := hcut
       subst hcw
       obtain ⟨V2, hV⟩ : ∃ V, V = wc := ⟨wc, rfl⟩
       subst hV
       clear k0 k1 f0 f1 HEX hb
       have C2 := Lib.hid (in_count I l t2 V2 HBY2.out.in_)
       have HAT4 := Lib.hid HBY2.out.in_.at_
       go_wp2_with fail
       refine C2.out.mono ?_
       rintro e w8 ⟨m3, n3, rfl, hi, hg, hc⟩
       have HC3 := Lib.hid hc
       have HB8 := Lib.hid (HBY2.out.call hg hi)
       clear C2 hi hg hc HBY2
       go_wp2_with fail
       have HKP3 := Lib.hid HB8.out.lt
       have HBG3 : Hid (G < w8.heap.size) := Lib.hid HB8.out.blk.lt
       go_loopw [8] (fun j wr => ∃ v, LpD w8.heap.size 75 4 (fun _ => InsC) insF zIns l I G n3 m3 w8 wr v j ∧ Blk wr G 40 #[.int .i64 a, .int .i64 b, .slice Av1 K1 cv1, .slice Av2 K2 cv2, v]) (fun j _ => (intOf j).toNat)
       case atStart => exact ⟨_, LpD.start w8 HB8.out.in_, HB8.out.blk⟩
       case round =>
        obtain ⟨v, ⟨K3, t3, ys3, css3, rfl, hk, hyl, hacc, hi, hgr, hrun⟩, hbg⟩ := hrel
        obtain ⟨Av3, cv3, hv⟩ := own_slice hacc.1
        rw [hyl] at hv
        subst hv
        have HACC := Lib.hid hacc
        have HGR := Lib.hid hgr
        have HRUN := Lib.hid hrun
        have HI2 := Lib.hid hi
        have HYL := Lib.hid hyl
        have HBG := Lib.hid hbg
        obtain ⟨A0, m0, c0, k0, k1, f0, f1⟩ := hi.cells
        have hn := HC3.out.1
        clear hacc hgr hrun hi hbg
        by_cases hgo : K3 < n3 ∧ t3.isSome = true
        ·obtain ⟨hlt, hts⟩ := hgo
         have hpos : (0 : Int) < (n3 : Int) - (K3 : Int) := by omega
         rw [hts] at k1
         have CN0 := Lib.hid (in_num I l t3 wr HI2.out)
         go_wp2_with fail
         refine CN0.out.mono ?_
         rintro e x0 ⟨u0, a0, rfl, hi, hg, hst, hy1, hy2⟩
         have HST0 := Lib.hid hst
         have HWF0 := Lib.hid (wfi_num hy1 hy2)
         clear hst hy1 hy2 CN0
         obtain ⟨X, hX⟩ : ∃ X, X = x0.heap.size := ⟨_, rfl⟩
         obtain ⟨y0, hy⟩ : ∃ W, W = x0.alloc (.cells #[.int .i64 a0, .int .i64 0, .int .i64 0, .int .i64 0] 75) := ⟨_, rfl⟩
         have HE0 : Hid (BoxX wr I l X 75 y0 u0 #[.int .i64 a0, .int .i64 0, .int .i64 0, .int .i64 0] (fun _ => True)) := Lib.hid (by rw [hy, hX]; exact BoxX.start hi hg (Nat.lt_of_lt_of_le HI2.out.blk (Nat.le_refl _)) trivial KeepsP.true_)
         clear hi hg k0 k1 f0 f1
         have CN1 := Lib.hid (in_num I l u0 y0 HE0.out.in_)
         go_upto_region 21 with fail
         rw [← hy, ← hX]
         clear hy hX
         go_wp2_with fail
         refine CN1.out.mono ?_
         rintro e x1 ⟨u1, a1, rfl, hi, hg, hst, hy1, hy2⟩
         have HST1 := Lib.hid hst
         have HWF1 := Lib.hid (wfi_num hy1 hy2)
         clear hst hy1 hy2 CN1
         have HF1 := Lib.hid (HE0.out.call hg hi)
         obtain ⟨p0, p1, p2, p3, z0, z1, z2, z3⟩ := blk4f HF1.out.blk
         obtain ⟨y1, hy⟩ : ∃ W, W = x1.setCell ⟨X, 1, none⟩ (.int .i64 a1) := ⟨_, rfl⟩
         have HE1 : Hid (BoxX wr I l X 75 y1 u1 #[.int .i64 a0, .int .i64 a1, .int .i64 0, .int .i64 0] (fun _ => True)) := Lib.hid (by rw [hy]; simpa using HF1.out.set_ 1 (.int .i64 a1))
         clear hi hg HF1 HE0
         have CN2 := Lib.hid (in_num I l u1 y1 HE1.out.in_)
         go_upto_region 22 with fail
         rw [← hy]
         clear hy p0 z0 p1 z1 p2 z2 p3 z3
         go_wp2_with fail
         refine CN2.out.mono ?_
         rintro e x2 ⟨u2, a2, rfl, hi, hg, hst, hy1, hy2⟩
         have HST2 := Lib.hid hst
         have HWF2 := Lib.hid (wfi_num hy1 hy2)
         clear hst hy1 hy2 CN2
         have HF2 := Lib.hid (HE1.out.call hg hi)
         obtain ⟨p0, p1, p2, p3, z0, z1, z2, z3⟩ := blk4f HF2.out.blk
         obtain ⟨y2, hy⟩ : ∃ W, W = x2.setCell ⟨X, 2, none⟩ (.int .i64 a2) := ⟨_, rfl⟩
         have HE2 : Hid (BoxX wr I l X 75 y2 u2 #[.int .i64 a0, .int .i64 a1, .int .i64 a2, .int .i64 0] (fun _ => True)) := Lib.hid (by rw [hy]; simpa using HF2.out.set_ 2 (.int .i64 a2))
         clear hi hg HF2 HE1
         have CN3 := Lib.hid (in_num I l u2 y2 HE2.out.in_)
         go_upto_region 23 with fail
         rw [← hy]
         clear hy p0 z0 p1 z1 p2 z2 p3 z3
         go_wp2_with fail
         refine CN3.out.mono ?_
         rintro e x3 ⟨u3, a3, rfl, hi, hg, hst, hy1, hy2⟩
         have HST3 := Lib.hid hst
         have HWF3 := Lib.hid (wfi_num hy1 hy2)
         clear hst hy1 hy2 CN3
         have HF3 := Lib.hid (HE2.out.call hg hi)
         obtain ⟨p0, p1, p2, p3, z0, z1, z2, z3⟩ := blk4f HF3.out.blk
         obtain ⟨y3, hy⟩ : ∃ W, W = x3.setCell ⟨X, 3, none⟩ (.int .i64 a3) := ⟨_, rfl⟩
         have HE3 : Hid (BoxX wr I l X 75 y3 u3 #[.int .i64 a0, .int .i64 a1, .int .i64 a2, .int .i64 a3] (fun _ => True)) := Lib.hid (by rw [hy]; simpa using HF3.out.set_ 3 (.int .i64 a3))
         clear hi hg HF3 HE2
         go_upto_region 24 with fail
         rw [← hy]
         clear hy p0 z0 p1 z1 p2 z2 p3 z3
         obtain ⟨p0, p1, p2, p3, z0, z1, z2, z3⟩ := blk4f HE3.out.blk
         have HBR2 := Lib.hid (HBG.out.grown HE3.out.gr (by have := HKP3.out; intro e; injection e with e; omega))
         obtain ⟨g0, g1, g2, g3, g4⟩ := blk5 HBR2.out
         have gz := HBR2.out.frozen 4
         have HSW := Lib.hid HGR.out.size
         have HO2 : Hid ((y3.alloc (.cells #[.int .i64 a0, .int .i64 a1, .int .i64 a2, .int .i64 a3] 75)).ownsRow w8.heap.size 75 4 (.slice Av3 K3 cv3) K3 css3.flatten) := Lib.hid (LpD.own HYL.out HACC.out (Nat.lt_of_lt_of_le HKP3.out (Nat.le_of_lt HBG3.out)) (only_alloc HE3.out.gr (.cells #[.int .i64 a0, .int .i64 a1, .int .i64 a2, .int .i64 a3] 75)))
         have HSY : Hid (w8.heap.size ≤ (y3.alloc (.cells #[.int .i64 a0, .int .i64 a1, .int .i64 a2, .int .i64 a3] 75)).heap.size) := Lib.hid (by rw [World.size_alloc]; have := HSW.out; have := HE3.out.gr.size; omega)
         go_wp2_with (at_builtin; refine wpList_append_any _ rfl (.tmp 95) (.tmp 97) 38 rfl w8.heap.size 75 i3 _ 4 32 Try.underlying38 hi3 hz3 hsz3 hb3 rfl (by omega) (.slice Av3 K3 cv3) K3 css3.flatten rfl HO2.out (y3.heap.size + 1) (some ⟨y3.heap.size, 0, none⟩) 1 1 [.int .i64 a0, .int .i64 a1, .int .i64 a2, .int .i64 a3] rfl (reads_lit _ _ 4 rfl _ _) (by intro u hu; simp at hu; rcases hu with rfl | rfl | rfl | rfl <;> rfl) (by unfold maxLen; omega) (by omega) HSY.out ?_; intro v9 w3 ho hg hat; obtain ⟨A9, c9, rfl⟩ := own_slice ho; have HO3 := Lib.hid ho; have HG6 := Lib.hid hg; have HAT4 := Lib.hid hat; have HBR3 := Lib.hid ((HBR2.out.alloc (.cells #[.int .i64 a0, .int .i64 a1, .int .i64 a2, .int .i64 a3] 75)).grown hg (fun e => by have h1 := (own_lt2 HO2.out e.symm).2; have := HBG3.out; omega)); have gz := HBR3.out.frozen 4; obtain ⟨g0, g1, g2, g3, g4⟩ := blk5 HBR3.out; clear ho hg hat)
         have HL : Hid (LpD w8.heap.size 75 4 (fun _ => InsC) insF zIns l I G n3 m3 w8 w3 (.slice A9 (K3 + 1) c9) (.int .i64 ((n3 : Int) - (K3 : Int) - 1))) := Lib.hid (LpD.next keeps_ins hlt HYL.out HACC.out HGR.out HRUN.out (Nat.lt_of_lt_of_le HKP3.out (Nat.le_of_lt HBG3.out)) HSW.out (only_alloc HE3.out.gr _) (HE3.out.alloc _).in_ (step_ins HST0.out HST1.out HST2.out HST3.out) rfl ⟨rfl, HWF0.out, HWF1.out, HWF2.out, HWF3.out⟩ HO3.out HG6.out HAT4.out)
         have HL2 := Lib.hid (HL.out.set_ keeps_ins HBG3.out HKP3.out 4 (.slice A9 (K3 + 1) c9))
         have HBR4 : Hid (Blk (w3.setCell ⟨G, 4, none⟩ (.slice A9 (K3 + 1) c9)) G 40 #[.int .i64 a, .int .i64 b, .slice Av1 K1 cv1, .slice Av2 K2 cv2, .slice A9 (K3 + 1) c9]) := Lib.hid (by simpa using HBR3.out.set_ 4 (.slice A9 (K3 + 1) c9))
         go_wp2_with fail
         clear g0 g1 g2 g3 g4 gz p0 z0 p1 z1 p2 z2 p3 z3
         go_roundw
         case rel => first | exact ⟨_, HL2.out, HBR4.out⟩ | ((repeat apply Exists.intro); exact ⟨⟨_, HL2.out, HBR4.out⟩, rfl⟩)
         case measure => simp [intOf]; omega
        ·have HBK := Lib.hid (HB8.out.loop HGR.out HBG.out HI2.out)
         have HSL : Hid (SlP G 4 (fun _ => InsC) (.slice Av3 K3 cv3) ys3 wr) := Lib.hid (SlP.of_acc HACC.out keeps_ins HBG3.out)
         have HBY3 := Lib.hid (HBK.out.add HSL.out (KeepsP.sl HKP3.out keeps_ins))
         have HQ3 : Hid (StepD (listF insF zIns) [] l t2 t3 ys3) := Lib.hid (HRUN.out.done codec_ins HAT4.out HC3.out HB8.out.in_.at_ hk (by rcases t3 with _ | p; exact .inr rfl; exact .inl (by simp at hgo; omega)))
         clear HACC HGR HRUN HI2 HBG HBK HSL
         have HEX0 : True := trivial
         have HEX : ((0 : Int) < (n3 : Int) - (K3 : Int) → t3.isSome = false) := fun h => by rcases t3 with _ | p; rfl; simp at hgo; omega
         obtain ⟨bb3, hb⟩ : ∃ bb, t3.isSome = bb := ⟨_, rfl⟩
         rw [hb] at k1 HEX
         clear hgo
         clear HEX0
         go_upto_region 18 with fail
         go_cut [79] (fun x wx => x = .bool false ∧ wx = wr)
         case first =>
          by_cases hp : (0 : Int) < (n3 : Int) - (K3 : Int)
          ·have hbf := HEX hp
           subst hbf
           go_wp2_with fail
           go_meet
           exact ⟨rfl, rfl⟩
          ·have hp2 : (n3 : Int) - (K3 : Int) ≤ 0 := by omega
           go_wp2_with fail
           go_meet
           exact ⟨rfl, rfl⟩
         case rest =>
          obtain ⟨rfl, hcw⟩ := hcut
          subst hcw
          obtain ⟨V3, hV⟩ : ∃ V, V = wc := ⟨wc, rfl⟩
          subst hV
          clear k0 k1 f0 f1 HEX hb
          have HAB := Lib.hid HBY3.out.rest
          have HZ : Hid (Blk V3 w.heap.size 40 #[.int .i64 0, .int .i64 0, .slice none 0 0, .slice none 0 0, .slice none 0 0]) := Lib.hid HAB.out.1.1.1
          obtain ⟨g0, g1, g2, g3, g4⟩ := blk5 HBY3.out.blk
          obtain ⟨h0, h1, h2, h3, h4⟩ := blk5 HZ.out
          have y0 := HZ.out.frozen 0
          have y1 := HZ.out.frozen 1
          have y2 := HZ.out.frozen 2
          have y3 := HZ.out.frozen 3
          have y4 := HZ.out.frozen 4
          have HBX : Hid (BoxX w I l w.heap.size 40 V3 t3 #[.int .i64 0, .int .i64 0, .slice none 0 0, .slice none 0 0, .slice none 0 0] (fun W => (SlP w.heap.size 4 (fun _ => InpC) (.slice Av1 K1 cv1) ys1 W ∧ SlP w.heap.size 2 (fun _ => ValC) (.slice Av2 K2 cv2) ys2 W) ∧ SlP w.heap.size 4 (fun _ => InsC) (.slice Av3 K3 cv3) ys3 W)) := Lib.hid
           ⟨HIW.out, Nat.le_refl _, HZ.out, HBY3.out.in_, HBY3.out.gr, ⟨⟨HAB.out.1.1.2.low keeps_inp (Nat.le_of_lt HGW.out), HAB.out.1.2.low keeps_val (Nat.le_of_lt HGW.out)⟩, HAB.out.2.low keeps_ins (Nat.le_of_lt HGW.out)⟩, ((KeepsP.sl HIW.out keeps_inp).and_ (KeepsP.sl HIW.out keeps_val)).and_ (KeepsP.sl HIW.out keeps_ins)⟩
          go_wp2_with fail
          have hbx := ((((HBX.out.set_ 0 (.int .i64 a)).set_ 1 (.int .i64 b)).set_ 2 (.slice Av1 K1 cv1)).set_ 3 (.slice Av2 K2 cv2)).set_ 4 (.slice Av3 K3 cv3)
          generalize ((((V3.setCell ⟨w.heap.size, 0, none⟩ (.int .i64 a)).setCell ⟨w.heap.size, 1, none⟩ (.int .i64 b)).setCell ⟨w.heap.size, 2, none⟩ (.slice Av1 K1 cv1)).setCell ⟨w.heap.size, 3, none⟩ (.slice Av2 K2 cv2)).setCell ⟨w.heap.size, 4, none⟩ (.slice Av3 K3 cv3) = X at hbx ⊢
          have hbk : Blk X w.heap.size 40 #[.int .i64 a, .int .i64 b, .slice Av1 K1 cv1, .slice Av2 K2 cv2, .slice Av3 K3 cv3] := by simpa using hbx.blk
          obtain ⟨q0, q1, q2, q3, q4⟩ := blk5 hbk
          refine bodyPost_ret (v := .agg #[.int .i64 a, .int .i64 b, .slice Av1 K1 cv1, .slice Av2 K2 cv2, .slice Av3 K3 cv3]) (by simp [results, Try.results57, go_sem, q0, q1, q2, q3, q4]) rfl ?_
          refine ⟨t3, ⟨a, b, ys1, ys2, ys3⟩, [.int .i64 a, .int .i64 b, .slice Av1 K1 cv1, .slice Av2 K2 cv2, .slice Av3 K3 cv3], rfl, hbx.in_, hbx.gr, step_code HSA.out HSB.out HQ1.out HQ2.out HQ3.out, rfl, ⟨_, _, _, rfl, hbx.rest.1.1.le keeps_inp, hbx.rest.1.2.le keeps_val, hbx.rest.2.le keeps_ins, HWA.out, HWB.out⟩⟩
end Go.Proofs.Ytioocaicmiggoaa

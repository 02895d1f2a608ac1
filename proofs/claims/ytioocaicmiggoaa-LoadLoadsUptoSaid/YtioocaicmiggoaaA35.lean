/- Dde: texts merged for a claim by a program of mine. -/
import Derived.Test.YtioocaicmiggoaaA18
import Derived.Test.YtioocaicmiggoaaA33
import Derived.Test.YtioocaicmiggoaaA34
import Derived.Test.YtioocaicmiggoaaA08
import Derived.Test.YtioocaicmiggoaaA05
namespace Go.Proofs.Ytioocaicmiggoaa
set_option linter.unusedVariables false
set_option linter.unusedSimpArgs false
open Go.RowKit Go.Deep
attribute [local go_sem ↓] Go.wp_at_zero Go.wp_at_succ
theorem step_tab {l : List UInt8} {s0 s1 s2 s3 s4 s5 s6 s7 s8 : Option Nat} {a c d f : Int} {b : List Int} {k : List (List Int)} {g : List TRow} {h : List TCode} (h1 : StepD num 0 l s0 s1 a) (h2 : StepD (listF intF 0) [] l s1 s2 b) (h3 : StepD (listF (listF intF 0) []) [] l s2 s3 k) (h4 : StepD num 0 l s3 s4 c) (h5 : StepD num 0 l s4 s5 d) (h6 : StepD num 0 l s5 s6 f) (h7 : StepD (listF rowF zRow) [] l s6 s7 g) (h8 : StepD (listF codeF zCode) [] l s7 s8 h) : StepD tabF zTab l s0 s8 ⟨a, b, k, c, d, f, g, h⟩ :=
 ((h1.pair (h2.pair (h3.pair (h4.pair (h5.pair (h6.pair (h7.pair h8))))))).map_ (fun x : TTab => (x.strategy, x.keys, x.kinds, x.syms, x.runs, x.cells, x.states, x.codes)) (fun p => ⟨p.1, p.2.1, p.2.2.1, p.2.2.2.1, p.2.2.2.2.1, p.2.2.2.2.2.1, p.2.2.2.2.2.2.1, p.2.2.2.2.2.2.2⟩) zTab rfl).congr fun st x => by
  simp only [tabF, run1_bind, run3_bind, mapF, pairF, Option.bind_assoc, Option.bind_some, List.getD_cons_zero, List.getD_cons_succ]
theorem itab_end {lb : List UInt8} {t : Option Nat} {y z : TTab} (h : StepD tabF zTab lb (some 0) t y) (hz : Img z lb) : t = some lb.length := by
 have h1 := hz.par 0 none lb.length 0 lb 0 [] rfl (Nat.zero_le _) (by simp)
 have h2 := h.2 0 rfl
 unfold rdS at h2
 rw [h1] at h2
 rcases t with _ | q
 ·cases h2
 ·simp only [Option.map_some, Option.some.injEq, Prod.mk.injEq, FSt.rd.injEq, true_and, Nat.zero_add] at h2
  rw [h2.1]
theorem itab_img {lb : List UInt8} {y : TTab} (h : StepD tabF zTab lb (some 0) (some lb.length) y) : Img y lb := by
 have h2 := h.2 0 rfl
 unfold rdS at h2
 obtain ⟨m, rest, h3, h4, h5⟩ := img_got rfl (Nat.zero_le _) h2
 simp only [FSt.rd.injEq, true_and, Nat.zero_add, List.drop_zero] at h5 h3
 have h6 := congrArg List.length h3
 rw [List.length_append] at h6
 have h7 : rest = [] := List.eq_nil_of_length_eq_zero (by omega)
 rw [h7, List.append_nil] at h3
 rw [h3]
 exact h4
theorem keepQ_dSet8 {Q : Nat → Prop} {w : World} {g : Nat} (hQ : ∀ b, Q b → b ≠ g) (v0 v1 v2 v3 v4 v5 v6 v7 : Value) : KeepQ Q w (dSet8 w g v0 v1 v2 v3 v4 v5 v6 v7) := by
 unfold dSet8
 exact (((((((KeepQ.of_set hQ).trans (KeepQ.of_set hQ)).trans (KeepQ.of_set hQ)).trans (KeepQ.of_set hQ)).trans (KeepQ.of_set hQ)).trans (KeepQ.of_set hQ)).trans (KeepQ.of_set hQ)).trans (KeepQ.of_set hQ)
theorem sum_same (l s : List UInt8) (k : Nat) : ((⟨(l.take k ++ s).toArray⟩ : ByteArray).toList == (⟨l.toArray⟩ : ByteArray).toList) = decide (l.drop k = s) := by
 rw [ByteArray.toList_eq, ByteArray.toList_eq, Bool.eq_iff_iff, beq_iff_eq, decide_eq_true_iff]
 show l.take k ++ s = l ↔ l.drop k = s
 constructor
 ·intro h
  have h2 : l.take k ++ s = l.take k ++ l.drop k := h.trans (List.take_append_drop k l).symm
  exact (List.append_cancel_left h2).symm
 ·intro h
  rw [← h, List.take_append_drop]
set_option maxRecDepth 100000 in
set_option maxHeartbeats 16000000 in
theorem rdecode_any (A : Option Addr) (n c : Nat) (l : List UInt8) (w : World) (hn : l.length = n) (hc : n ≤ c) (hm : c ≤ 9223372036854775807) (hR : Reads w w.heap.size 1 A n (bv l)) :
  Calls Try.prog 33 #[.slice A n c] w (DecP l w) := by
 obtain ⟨W1, hW1⟩ : ∃ W, W = w.alloc (.cells #[.int .i64 0, .slice none 0 0, .slice none 0 0, .int .i64 0, .int .i64 0, .int .i64 0, .slice none 0 0, .slice none 0 0] 27) := ⟨_, rfl⟩
 have ha1 : Below w.heap.size w W1 := by rw [hW1]; exact (Below.refl _ _).alloc (Nat.le_refl _) _
 have hbz : Blk W1 w.heap.size 27 #[.int .i64 0, .slice none 0 0, .slice none 0 0, .int .i64 0, .int .i64 0, .int .i64 0, .slice none 0 0, .slice none 0 0] := by rw [hW1]; exact Blk.new _ _ _
 have HA1 := Lib.hid ha1
 have HBZ := Lib.hid hbz
 have HNL := Lib.hid hn
 have hR1 : Reads W1 w.heap.size 1 A n (bv l) := hR.below ha1
 have HR1 := Lib.hid hR1
 have z0 := hbz.frozen 0
 have z1 := hbz.frozen 1
 have z2 := hbz.frozen 2
 have z3 := hbz.frozen 3
 have z4 := hbz.frozen 4
 have z5 := hbz.frozen 5
 have z6 := hbz.frozen 6
 have z7 := hbz.frozen 7
 obtain ⟨x0, x1, x2, x3, x4, x5, x6, x7⟩ := blk8s hbz
 have RET : ∀ (W : World) (ec : Int), Below w.heap.size w W → Blk W w.heap.size 27 #[.int .i64 0, .slice none 0 0, .slice none 0 0, .int .i64 0, .int .i64 0, .int .i64 0, .slice none 0 0, .slice none 0 0] → (∀ y, ¬ IsImg y l) → ec = decErr l → DecP l w (.returned (.tuple #[.agg #[.int .i64 0, .slice none 0 0, .slice none 0 0, .int .i64 0, .int .i64 0, .int .i64 0, .slice none 0 0, .slice none 0 0], .int .i64 ec])) W := fun W ec h1 h2 h3 h4 => ⟨h1, .inr ⟨h3, by rw [h4]⟩⟩
 have HRET := Lib.hid RET
 have nn : (0 : Int) ≤ (n : Int) := by omega
 have HW1 := Lib.hid hW1
 clear ha1 hbz hR hR1 RET hn hW1
 go_enter Try.func33, Try.ntmps33
 go_upto_region 1 with fail
 rw [← HW1.out]
 clear HW1
 by_cases c1 : 65536 < n
 ·have HNO : Hid (∀ y, ¬ IsImg y l) := Lib.hid (fun y h => by have := (img_parts h).1; have := HNL.out; omega)
  have HEC : Hid ((2 : Int) = decErr l) := Lib.hid (by unfold decErr; rw [if_pos (by rw [HNL.out]; exact c1)])
  have d1 : (65536 : Int) < (n : Int) := by omega
  clear c1
  go_wp2_with fail
  obtain ⟨X, hX⟩ : ∃ X, X = dSet8 W1 w.heap.size (.int .i64 0) (.slice none 0 0) (.slice none 0 0) (.int .i64 0) (.int .i64 0) (.int .i64 0) (.slice none 0 0) (.slice none 0 0) := ⟨_, rfl⟩
  have HBX := Lib.hid (dSet8_blk HBZ.out (.int .i64 0) (.slice none 0 0) (.slice none 0 0) (.int .i64 0) (.int .i64 0) (.int .i64 0) (.slice none 0 0) (.slice none 0 0))
  have HAX := Lib.hid (dSet8_below HA1.out (Nat.le_refl _) (.int .i64 0) (.slice none 0 0) (.slice none 0 0) (.int .i64 0) (.int .i64 0) (.int .i64 0) (.slice none 0 0) (.slice none 0 0))
  rw [← hX] at HBX HAX
  unfold dSet8 at hX
  rw [← hX]
  clear hX
  obtain ⟨q0, q1, q2, q3, q4, q5, q6, q7⟩ := blk8s HBX.out
  exact bodyPost_ret (v := .tuple #[.agg #[.int .i64 0, .slice none 0 0, .slice none 0 0, .int .i64 0, .int .i64 0, .int .i64 0, .slice none 0 0, .slice none 0 0], .int .i64 2]) (by simp [results, Try.results33, go_sem, q0, q1, q2, q3, q4, q5, q6, q7]) rfl (HRET.out X 2 HAX.out HBX.out HNO.out HEC.out)
 ·have HC1 := Lib.hid c1
  have d1 : (n : Int) ≤ 65536 := by omega
  clear c1
  by_cases c2 : n < 8
  ·have HNO : Hid (∀ y, ¬ IsImg y l) := Lib.hid (fun y h => by have := (img_parts h).2.1; have := HNL.out; omega)
   have HEC : Hid ((30 : Int) = decErr l) := Lib.hid (by unfold decErr; rw [if_neg (by rw [HNL.out]; exact HC1.out), if_pos (by rw [HNL.out]; exact c2)])
   have d2 : (n : Int) < 8 := by omega
   clear c2
   go_wp2_with fail
   obtain ⟨X, hX⟩ : ∃ X, X = dSet8 W1 w.heap.size (.int .i64 0) (.slice none 0 0) (.slice none 0 0) (.int .i64 0) (.int .i64 0) (.int .i64 0) (.slice none 0 0) (.slice none 0 0) := ⟨_, rfl⟩
   have HBX := Lib.hid (dSet8_blk HBZ.out (.int .i64 0) (.slice none 0 0) (.slice none 0 0) (.int .i64 0) (.int .i64 0) (.int .i64 0) (.slice none 0 0) (.slice none 0 0))
   have HAX := Lib.hid (dSet8_below HA1.out (Nat.le_refl _) (.int .i64 0) (.slice none 0 0) (.slice none 0 0) (.int .i64 0) (.int .i64 0) (.int .i64 0) (.slice none 0 0) (.slice none 0 0))
   rw [← hX] at HBX HAX
   unfold dSet8 at hX
   rw [← hX]
   clear hX
   obtain ⟨q0, q1, q2, q3, q4, q5, q6, q7⟩ := blk8s HBX.out
   exact bodyPost_ret (v := .tuple #[.agg #[.int .i64 0, .slice none 0 0, .slice none 0 0, .int .i64 0, .int .i64 0, .int .i64 0, .slice none 0 0, .slice none 0 0], .int .i64 30]) (by simp [results, Try.results33, go_sem, q0, q1, q2, q3, q4, q5, q6, q7]) rfl (HRET.out X 30 HAX.out HBX.out HNO.out HEC.out)
  ·have HC2 := Lib.hid c2
   have d2 : (8 : Int) ≤ (n : Int) := by omega
   have d4 : (4 : Int) ≤ (c : Int) := by omega
   clear c2
   have hcv := reads_text (cap := c) (HR1.out.take HNL.out 4 (by omega)) (by rw [List.length_take]; have := HNL.out; omega)
   by_cases c3 : l.take 4 = magicB
   ·rw [c3] at hcv
    have HC3 := Lib.hid c3
    clear c3
    have hne : ((⟨magicB.toArray⟩ : ByteArray).toList == [65, 85, 83, 80]) = true := by rw [ByteArray.toList_eq]; rfl
    obtain ⟨BS, hBS⟩ : ∃ BS : ByteArray, BS = ⟨magicB.toArray⟩ := ⟨_, rfl⟩
    rw [← hBS] at hcv hne
    clear hBS
    obtain ⟨k, hk⟩ : ∃ k, n = k + 4 := ⟨n - 4, by omega⟩
    have e4 : (n : Int) - 4 = (k : Int) := by omega
    have k1 : (k : Int) ≤ (c : Int) := by omega
    have k2 : (4 : Int) ≤ (k : Int) := by omega
    have HK := Lib.hid hk
    have kw : IntKind.i64.wrap (k : Int) = (k : Int) := by rw [IntKind.wrap_i64]; omega
    have k0 : (0 : Int) ≤ (k : Int) := by omega
    have CS := Lib.hid (fun W (hb : Below W1.heap.size W1 W) => summed_any A k c (l.take k) W (by rw [List.length_take]; have := HNL.out; omega) (by omega) hm (by omega) (((HR1.out.take HNL.out k (by omega)).more HA1.out.size).below hb |>.more hb.size))
    have HCB : Hid (∀ W, Below W1.heap.size W1 W → (convert 47 9 (.slice A n c)).run Try.prog W = .ok (.string ⟨l.toArray⟩) W) := Lib.hid (fun W hb => reads_text (HR1.out.below (hb.mono HA1.out.size)) HNL.out)
    have HKL : Hid (l.length - 4 = k) := Lib.hid (by have := HNL.out; omega)
    obtain ⟨BL, hBL⟩ : ∃ BL : ByteArray, BL = ⟨l.toArray⟩ := ⟨_, rfl⟩
    rw [← hBL] at HCB
    have HBL := Lib.hid hBL
    have HCC := Lib.hid hc
    have HM := Lib.hid hm
    clear hk hBL hc hm
    go_upto_region 7 with fail
    clear hcv hne x0 x1 x2 x3 x4 x5 x6 x7 z0 z1 z2 z3 z4 z5 z6 z7
    go_cut [31] (fun q wx => q = .bool (!decide (l.drop k = sumBy (l.take k))) ∧ Below W1.heap.size W1 wx)
    case first =>
     obtain ⟨yo, hyo⟩ : ∃ yo, yo = World.drew W1 := ⟨_, rfl⟩
     have HBO : Hid (Below W1.heap.size W1 yo) := Lib.hid (by rw [hyo]; exact ⟨rfl, rfl, rfl, Nat.le_refl _, fun _ _ => rfl⟩)
     have HS := Lib.hid (HCB.out yo HBO.out)
     refine region_till (fun W => (convert 47 9 (.slice A n c)).run Try.prog W = .ok (.string BL) W) (fun j => !([0, 1, 2, 3, 4, 5, 6, 7, 8, 9] : List Nat).contains j) (by kernel_rfl) ?_
     rw [← hyo]
     clear hyo
     refine till_take (i := 0) (v := ?_) rfl (by kernel_rfl) (by kernel_rfl) (by kernel_rfl) (by kernel_rfl) (fun _ _ _ h => h) (Or.inl ⟨by kernel_rfl, ?_⟩) HS.out ?_
     rotate_left
     ·(intro w' hSw; obtain hc0 := hSw; go_simp; try with_reducible rfl)
     refine till_take (i := 1) (v := ?_) rfl (by kernel_rfl) (by kernel_rfl) (by kernel_rfl) (by kernel_rfl) (fun _ _ _ h => h) (Or.inl ⟨by kernel_rfl, ?_⟩) HS.out ?_
     rotate_left
     ·(intro w' hSw; obtain hc0 := hSw; go_simp; try with_reducible rfl)
     refine till_take (i := 2) (v := ?_) rfl (by kernel_rfl) (by kernel_rfl) (by kernel_rfl) (by kernel_rfl) (fun _ _ _ h => h) (Or.inl ⟨by kernel_rfl, ?_⟩) HS.out ?_
     rotate_left
     ·(intro w' hSw; obtain hc0 := hSw; go_simp; try with_reducible rfl)
     refine till_take (i := 3) (v := ?_) rfl (by kernel_rfl) (by kernel_rfl) (by kernel_rfl) (by kernel_rfl) (fun _ _ _ h => h) (Or.inl ⟨by kernel_rfl, ?_⟩) HS.out ?_
     rotate_left
     ·(intro w' hSw; obtain hc0 := hSw; go_simp; try with_reducible rfl)
     refine till_take (i := 4) (v := ?_) rfl (by kernel_rfl) (by kernel_rfl) (by kernel_rfl) (by kernel_rfl) (fun _ _ _ h => h) (Or.inl ⟨by kernel_rfl, ?_⟩) HS.out ?_
     rotate_left
     ·(intro w' hSw; obtain hc0 := hSw; go_simp; try with_reducible rfl)
     refine till_take (i := 7) (v := ?_) rfl (by kernel_rfl) (by kernel_rfl) (by kernel_rfl) (by kernel_rfl) (fun _ _ _ h => h) (Or.inl ⟨by kernel_rfl, ?_⟩) HS.out ?_
     rotate_left
     ·(intro w' hSw; obtain hc0 := hSw; go_simp; try with_reducible rfl)
     refine till_take (i := 8) (v := ?_) rfl (by kernel_rfl) (by kernel_rfl) (by kernel_rfl) (by kernel_rfl) (fun _ _ _ h => h) (Or.inl ⟨by kernel_rfl, ?_⟩) HS.out ?_
     rotate_left
     ·(intro w' hSw; obtain hc0 := hSw; go_simp; try with_reducible rfl)
     refine till_ready (rs := [5]) (by kernel_rfl) (by simp) ?_
     refine TillAll.cons rfl (fun K hK => ?_) TillAll.nil
     go_simp
     go_wp2_with (go_at_call 38; refine (CS.out yo HBO.out).mono ?_; rintro e w2 ⟨v2, rfl, ho2, hb2⟩)
     obtain ⟨L2, hL2⟩ : ∃ L, l.take k ++ sumBy (l.take k) = L := ⟨_, rfl⟩
     rw [hL2] at ho2
     obtain ⟨N2, hN2⟩ : ∃ N, L2.length = N := ⟨_, rfl⟩
     rw [hN2] at ho2
     obtain ⟨A2, c2, rfl⟩ := own_slice ho2
     have HL2 := Lib.hid hL2
     have HB2 := Lib.hid (HBO.out.trans (hb2.mono HBO.out.size))
     have hcv2 := reads_text (cap := c2) (Reads.of_own ho2) hN2
     obtain ⟨B2, hB2⟩ : ∃ B2 : ByteArray, B2 = ⟨L2.toArray⟩ := ⟨_, rfl⟩
     rw [← hB2] at hcv2
     have HBB := Lib.hid hB2
     clear ho2 hb2 hB2 hL2 hN2
     have HS := Lib.hid (HCB.out w2 HB2.out)
     (refine hK.out _ _ (fun _ => HS.out) ?_; clear hK K)
     refine till_ready (rs := [6]) (by kernel_rfl) (by simp) ?_
     refine TillAll.cons rfl (fun K hK => ?_) TillAll.nil
     go_simp
     (refine hK.out _ _ (fun _ => HS.out) ?_; clear hK K)
     clear hcv2
     refine till_take (i := 9) (v := ?_) rfl (by kernel_rfl) (by kernel_rfl) (by kernel_rfl) (by kernel_rfl) (fun _ _ _ h => h) (Or.inl ⟨by kernel_rfl, ?_⟩) HS.out ?_
     rotate_left
     ·(intro w' hSw; obtain hc0 := hSw; go_simp; try with_reducible rfl)
     refine till_done (by kernel_rfl) ?_ _
     go_wp2_with fail
     go_meet
     refine ⟨?_, HB2.out⟩
     rw [HBB.out, HBL.out, ← HL2.out]
     exact congrArg (fun b => Value.bool !b) (sum_same l (sumBy (l.take k)) k)
    case rest =>
     obtain ⟨rfl, hbc⟩ := hcut
     have HBC := Lib.hid (HA1.out.trans (hbc.mono HA1.out.size))
     have HZC := Lib.hid (HBZ.out.below hbc HBZ.out.lt)
     have HRC := Lib.hid (HR1.out.below (hbc.mono HA1.out.size))
     clear hbc CS HCB
     by_cases c4 : l.drop k = sumBy (l.take k)
     ·rw [decide_eq_true c4]
      have HC4 := Lib.hid c4
      clear c4
      obtain ⟨lb, hlb⟩ : ∃ lb, (l.take k).drop 4 = lb := ⟨_, rfl⟩
      have HLB := Lib.hid hlb
      have hlen : lb.length = k - 4 := by rw [← hlb, List.length_drop, List.length_take]; have := HNL.out; have := HK.out; omega
      have HLL := Lib.hid hlen
      have hc4 : ¬ c = 4 := by have := HCC.out; omega
      have hAA : A.map (·.add 4) = A.map (fun x => ({ block := x.block, off := x.off + 4 } : Addr)) := by cases A <;> rfl
      have hc5 : (c = 4) = False := eq_false hc4
      obtain ⟨I, hI⟩ : ∃ I, I = wc.heap.size := ⟨_, rfl⟩
      obtain ⟨W9, hW9⟩ : ∃ W, W = wc.alloc (.cells #[.slice (A.map (fun x => ({ block := x.block, off := x.off + 4 } : Addr))) (k - 4) (c - 4), .bool true] 114) := ⟨_, rfl⟩
      have HA9 : Hid (Below w.heap.size w W9) := Lib.hid (by rw [hW9]; exact HBC.out.alloc HBC.out.size _)
      have HZ9 := Lib.hid (show Blk W9 w.heap.size 27 #[.int .i64 0, .slice none 0 0, .slice none 0 0, .int .i64 0, .int .i64 0, .int .i64 0, .slice none 0 0, .slice none 0 0] by rw [hW9]; exact HZC.out.alloc _)
      have HIZ : Hid (w.heap.size < I) := Lib.hid (by rw [hI]; exact HZC.out.lt)
      have HI9 : Hid (InD W9 I lb (some 0)) := Lib.hid (by
       rw [hW9, hI, ← hAA]
       have h1 : Reads wc wc.heap.size 1 (A.map (·.add 4)) (k - 4) (bv lb) := by
        have h2 := ((HRC.out.take HNL.out k (by omega)).cut (k := 4) (cap := c) (by omega) (by have := HCC.out; omega))
        rw [if_neg hc4, Nat.mul_one, bv_drop, hlb] at h2
        exact h2.more HBC.out.size
       refine ⟨A.map (·.add 4), c - 4, lb, ?_, by rw [hlen]; have := HCC.out; omega, by have := HM.out; omega, by rw [hlen]; exact h1.alloc (Nat.le_refl _) _, fun p hp => by cases hp; exact ⟨Nat.zero_le _, rfl⟩⟩
       rw [hlen]
       exact Blk.new _ _ _)
      have CX := Lib.hid (in_num I lb (some 0) W9 HI9.out)
      have HIW : Hid (I < W9.heap.size) := Lib.hid HI9.out.blk
      clear hlb hlen hAA
      go_upto_region 10 with fail
      rw [← hI, ← hW9]
      clear hW9 hI
      go_wp2_with fail
      refine CX.out.mono ?_
      rintro e w10 ⟨s1, a, rfl, hi, hg, hst, hy1, hy2⟩
      have HS1 := Lib.hid hst
      have HWA := Lib.hid (wfi_num hy1 hy2)
      have HZ2 := Lib.hid (HZ9.out.grown hg (by have := HIZ.out; intro e; injection e with e; omega))
      obtain ⟨G, hG⟩ : ∃ G, G = w10.heap.size := ⟨_, rfl⟩
      obtain ⟨y1, hy⟩ : ∃ W, W = w10.alloc (.cells #[.int .i64 a, .slice none 0 0, .slice none 0 0, .int .i64 0, .int .i64 0, .int .i64 0, .slice none 0 0, .slice none 0 0] 27) := ⟨_, rfl⟩
      have HB1 : Hid (BoxX W9 I lb G 27 y1 s1 #[.int .i64 a, .slice none 0 0, .slice none 0 0, .int .i64 0, .int .i64 0, .int .i64 0, .slice none 0 0, .slice none 0 0] (fun W => Blk W w.heap.size 27 #[.int .i64 0, .slice none 0 0, .slice none 0 0, .int .i64 0, .int .i64 0, .int .i64 0, .slice none 0 0, .slice none 0 0])) := Lib.hid (by
       rw [hy, hG]
       exact BoxX.start hi hg HIW.out (HZ2.out.alloc _) (KeepsP.blk (by have := HIZ.out; omega) (by have := HZ2.out.lt; omega)))
      have HGW : Hid (w.heap.size < G) := Lib.hid (by rw [hG]; exact HZ2.out.lt)
      clear CX hi hg hst hy1 hy2 HZ2 HZ9 HI9
      have CX := Lib.hid (in_ints I lb s1 y1 HB1.out.in_)
      go_upto_region 11 with fail
      rw [← hy, ← hG]
      clear hy hG
      go_wp2_with fail
      refine CX.out.mono ?_
      rintro e w11 ⟨s2, b, v2, rfl, hi, hg, hst, hsl⟩
      obtain ⟨Ab, cb, rfl, _⟩ := id hsl
      have HS2 := Lib.hid hst
      have HGB := Lib.hid HB1.out.blk.lt
      have HSL : Hid (SlP G 1 (fun _ => IntC) (.slice Ab b.length cb) b w11) := Lib.hid (hsl.keep (fun p u _ h => h) (fun b h => ⟨by have := HGB.out; omega, h.2⟩) (fun _ _ h => h))
      clear hst hsl CX
      have HF := Lib.hid ((HB1.out.call hg hi).add HSL.out (KeepsP.sl HB1.out.lt keeps_int))
      obtain ⟨p0, p1, p2, p3, p4, p5, p6, p7⟩ := blk8s HF.out.blk
      have z := HF.out.blk.frozen 1
      obtain ⟨y2, hy⟩ : ∃ W, W = w11.setCell ⟨G, 1, none⟩ (.slice Ab b.length cb) := ⟨_, rfl⟩
      have HB2 : Hid (BoxX W9 I lb G 27 y2 s2 #[.int .i64 a, .slice Ab b.length cb, .slice none 0 0, .int .i64 0, .int .i64 0, .int .i64 0, .slice none 0 0, .slice none 0 0] (fun W => Blk W w.heap.size 27 #[.int .i64 0, .slice none 0 0, .slice none 0 0, .int .i64 0, .int .i64 0, .int .i64 0, .slice none 0 0, .slice none 0 0] ∧ SlP G 1 (fun _ => IntC) (.slice Ab b.length cb) b W)) := Lib.hid (by rw [hy]; simpa using HF.out.set_ 1 (.slice Ab b.length cb))
      clear hi hg HF HB1
      have CX := Lib.hid (in_count I lb s2 y2 HB2.out.in_)
      go_upto_region 12 with fail
      rw [← hy]
      clear hy p0 p1 p2 p3 p4 p5 p6 p7 z
      go_wp2_with fail
      refine CX.out.mono ?_
      rintro e w12 ⟨m1, n1, rfl, hi, hg, hc⟩
      have HC1k := Lib.hid hc
      have HAT1 := Lib.hid HB2.out.in_.at_
      have HB3 := Lib.hid (HB2.out.call hg hi)
      clear CX hi hg hc HB2
      obtain ⟨i1, hi1, hz1, hsz1, hb1⟩ := info_parts info_ints
      obtain ⟨i2, hi2, hz2, hsz2, hb2⟩ := info_parts info_row
      obtain ⟨i3, hi3, hz3, hsz3, hb3⟩ := info_parts info_code
      go_wp2_with fail
      have HKP1 := Lib.hid HB3.out.lt
      have HBG1 : Hid (G < w12.heap.size) := Lib.hid HB3.out.blk.lt
      go_loopw [6] (fun j wr => ∃ v, LpD w12.heap.size 22 1 IntsQ (listF intF 0) [] lb I G n1 m1 w12 wr v j ∧ Blk wr G 27 #[.int .i64 a, .slice Ab b.length cb, v, .int .i64 0, .int .i64 0, .int .i64 0, .slice none 0 0, .slice none 0 0]) (fun j _ => (intOf j).toNat)
      case atStart => exact ⟨_, LpD.start w12 HB3.out.in_, HB3.out.blk⟩
      case round =>
       obtain ⟨v, ⟨K1, t1, ys1, css1, rfl, hk, hyl, hacc, hi, hgr, hrun⟩, hbg⟩ := hrel
       obtain ⟨Av1, cv1, hv⟩ := own_slice hacc.1
       rw [hyl] at hv
       subst hv
       have HACC := Lib.hid hacc
       have HGR := Lib.hid hgr
       have HRUN := Lib.hid hrun
       have HI2 := Lib.hid hi
       have HYL := Lib.hid hyl
       have HBG := Lib.hid hbg
       obtain ⟨A0, m0, c0, k0, k1, f0, f1⟩ := hi.cells
       have hn := HC1k.out.1
       clear hacc hgr hrun hi hbg
       by_cases hgo : K1 < n1 ∧ t1.isSome = true
       ·obtain ⟨hlt, hts⟩ := hgo
        have hpos : (0 : Int) < (n1 : Int) - (K1 : Int) := by omega
        rw [hts] at k1
        have HSW := Lib.hid HGR.out.size
        go_upto_region 15 with fail
        obtain ⟨yo, hyo⟩ : ∃ yo, yo = World.drew wr := ⟨_, rfl⟩
        have HBO : Hid (Below wr.heap.size wr yo) := Lib.hid (by rw [hyo]; exact ⟨rfl, rfl, rfl, Nat.le_refl _, fun _ _ => rfl⟩)
        have HBY := Lib.hid (HBG.out.below HBO.out HBG.out.lt)
        have HS : Hid (yo.cell? ⟨G, 2, none⟩ = some (.slice Av1 K1 cv1)) := Lib.hid (HBY.out.cell 2)
        have CN := Lib.hid (in_ints I lb t1 yo (HI2.out.below HBO.out))
        clear k0 k1 f0 f1
        refine region_till (fun W => W.cell? ⟨G, 2, none⟩ = some (.slice Av1 K1 cv1)) (fun j => !([0, 1, 2, 3, 4, 5, 6] : List Nat).contains j) (by kernel_rfl) ?_
        rw [← hyo]
        clear hyo
        refine till_take (i := 0) (v := ?_) rfl (by kernel_rfl) (by kernel_rfl) (by kernel_rfl) (by kernel_rfl) (fun _ _ _ h => h) (Or.inl ⟨by kernel_rfl, ?_⟩) HS.out ?_
        rotate_left
        ·(intro w' hSw; obtain hc0 := hSw; go_simp; try with_reducible rfl)
        refine till_take (i := 1) (v := ?_) rfl (by kernel_rfl) (by kernel_rfl) (by kernel_rfl) (by kernel_rfl) (fun _ _ _ h => h) (Or.inl ⟨by kernel_rfl, ?_⟩) HS.out ?_
        rotate_left
        ·(intro w' hSw; obtain hc0 := hSw; go_simp; try with_reducible rfl)
        refine till_take (i := 2) (v := ?_) rfl (by kernel_rfl) (by kernel_rfl) (by kernel_rfl) (by kernel_rfl) (fun _ _ _ h => h) (Or.inl ⟨by kernel_rfl, ?_⟩) HS.out ?_
        rotate_left
        ·(intro w' hSw; obtain hc0 := hSw; go_simp; try with_reducible rfl)
        refine till_ready (rs := [3]) (by kernel_rfl) (by simp) ?_
        refine TillAll.cons rfl (fun K hK => ?_) TillAll.nil
        go_simp
        go_wp2_with (go_at_call 54; refine CN.out.mono ?_; rintro e x0 ⟨u0, a0, v0, rfl, hi, hg, hst, hsl⟩)
        obtain ⟨Ae, ce, rfl, _⟩ := id hsl
        have HST := Lib.hid hst
        have HI3 := Lib.hid hi
        have HG3 := Lib.hid (only_tr (only_of_below HBO.out (some I)) hg)
        have HQ := Lib.hid (show IntsQ (fun b => yo.heap.size ≤ b ∧ b < x0.heap.size) x0 [.slice Ae a0.length ce] a0 from ⟨_, rfl, hsl⟩)
        have HBR2 := Lib.hid (HBY.out.grown hg (by have := HKP1.out; intro e; injection e with e; omega))
        clear hst hi hg hsl CN
        have HS : Hid (x0.cell? ⟨G, 2, none⟩ = some (.slice Av1 K1 cv1)) := Lib.hid (HBR2.out.cell 2)
        (refine hK.out _ _ (fun _ => HS.out) ?_; clear hK K)
        refine till_ready (rs := [4]) (by kernel_rfl) (by simp) ?_
        refine TillAll.cons rfl (fun K hK => ?_) TillAll.nil
        go_simp
        have HS : Hid ((x0.alloc (.cells #[.slice Ae a0.length ce] 22)).cell? ⟨G, 2, none⟩ = some (.slice Av1 K1 cv1)) := Lib.hid ((HBR2.out.alloc _).cell 2)
        (refine hK.out _ _ (fun _ => HS.out) ?_; clear hK K)
        refine till_ready (rs := [5]) (by kernel_rfl) (by simp) ?_
        refine TillAll.cons rfl (fun K hK => ?_) TillAll.nil
        have HO2 : Hid ((x0.alloc (.cells #[.slice Ae a0.length ce] 22)).ownsRow w12.heap.size 22 1 (.slice Av1 K1 cv1) K1 css1.flatten) := Lib.hid (LpD.own HYL.out HACC.out (Nat.lt_of_lt_of_le HKP1.out (Nat.le_of_lt HBG1.out)) (only_alloc HG3.out (.cells #[.slice Ae a0.length ce] 22)))
        have HSY : Hid (w12.heap.size ≤ (x0.alloc (.cells #[.slice Ae a0.length ce] 22)).heap.size) := Lib.hid (by rw [World.size_alloc]; have := HSW.out; have := HG3.out.size; omega)
        refine step_append_any _ (by rfl) (.tmp 59) (.tmp 62) 23 (by rfl) w12.heap.size 22 i1 _ 1 24 Try.underlying23 hi1 hz1 hsz1 hb1 rfl (by omega) _ _ _ (by rfl) HO2.out (x0.heap.size + 1) (some ⟨x0.heap.size, 0, none⟩) 1 1 [.slice Ae a0.length ce] (by rfl) (reads_lit _ _ 1 rfl _ _) (by intro u hu; simp at hu; subst hu; rfl) (by unfold maxLen; omega) (by omega) HSY.out ?_
        intro v9 w3 ho hg hat
        obtain ⟨A9, c9, rfl⟩ := own_slice ho
        have HO3 := Lib.hid ho
        have HG6 := Lib.hid hg
        have HAT4 := Lib.hid hat
        have HBR3 := Lib.hid ((HBR2.out.alloc (.cells #[.slice Ae a0.length ce] 22)).grown hg (fun e => by have h1 := (own_lt2 HO2.out e.symm).2; have := HBG1.out; omega))
        clear ho hg hat
        have HS : Hid (w3.cell? ⟨G, 2, none⟩ = some (.slice Av1 K1 cv1)) := Lib.hid (HBR3.out.cell 2)
        (refine hK.out _ _ (fun _ => HS.out) ?_; clear hK K)
        refine till_take (i := 6) (v := ?_) rfl (by kernel_rfl) (by kernel_rfl) (by kernel_rfl) (by kernel_rfl) (fun _ _ _ h => h) (Or.inl ⟨by kernel_rfl, ?_⟩) HS.out ?_
        rotate_left
        ·(intro w' hSw; obtain hc0 := hSw; go_simp; try with_reducible rfl)
        refine till_ready (rs := [7]) (by kernel_rfl) (by simp) ?_
        refine TillAll.cons rfl (fun K hK => ?_) TillAll.nil
        have p0 := HBR3.out.cell 2
        have q0 := HBR3.out.frozen 2
        go_simp
        (refine hK.out _ _ (fun h => absurd h (by decide)) ?_; clear hK K)
        clear p0 q0
        refine till_done (by kernel_rfl) ?_ _
        have HL : Hid (LpD w12.heap.size 22 1 IntsQ (listF intF 0) [] lb I G n1 m1 w12 w3 (.slice A9 (K1 + 1) c9) (.int .i64 ((n1 : Int) - (K1 : Int) - 1))) := Lib.hid (LpD.next keeps_ints hlt HYL.out HACC.out HGR.out HRUN.out (Nat.lt_of_lt_of_le HKP1.out (Nat.le_of_lt HBG1.out)) HSW.out (only_alloc HG3.out (.cells #[.slice Ae a0.length ce] 22)) (HI3.out.below ((Below.refl _ _).alloc (Nat.le_refl _) _)) HST.out rfl (keeps_ints _ _ _ _ _ _ HQ.out (KeepQ.of_below ((Below.refl x0.heap.size x0).alloc (Nat.le_refl _) (.cells #[.slice Ae a0.length ce] 22)) (fun b hb => hb.2)) (fun b hb => ⟨Nat.le_trans HBO.out.size hb.1, by rw [World.size_alloc]; exact Nat.lt_succ_of_lt hb.2⟩)) HO3.out HG6.out HAT4.out)
        have HL2 := Lib.hid (HL.out.set_ keeps_ints HBG1.out HKP1.out 2 (.slice A9 (K1 + 1) c9))
        have HBR4 : Hid (Blk (w3.setCell ⟨G, 2, none⟩ (.slice A9 (K1 + 1) c9)) G 27 #[.int .i64 a, .slice Ab b.length cb, .slice A9 (K1 + 1) c9, .int .i64 0, .int .i64 0, .int .i64 0, .slice none 0 0, .slice none 0 0]) := Lib.hid (by simpa using HBR3.out.set_ 2 (.slice A9 (K1 + 1) c9))
        clear HS HO2 HSY HBR2 HBR3 HO3 HG6 HAT4 HQ HI3 HG3 HST
        try simp only [Exit.then]
        go_wp2_with fail
        go_roundw
        case rel => first | exact ⟨_, HL2.out, HBR4.out⟩ | ((repeat apply Exists.intro); exact ⟨⟨_, HL2.out, HBR4.out⟩, rfl⟩)
        case measure => simp [intOf]; omega
       ·have HBK := Lib.hid (HB3.out.loop HGR.out HBG.out HI2.out)
        have HSL : Hid (SlP G 1 IntsQ (.slice Av1 K1 cv1) ys1 wr) := Lib.hid (SlP.of_acc HACC.out keeps_ints HBG1.out)
        have HBY1 := Lib.hid (HBK.out.add HSL.out (KeepsP.sl HKP1.out keeps_ints))
        have HYL1 := Lib.hid HYL.out
        have HQ1 : Hid (StepD (listF (listF intF 0) []) [] lb s2 t1 ys1) := Lib.hid (HRUN.out.done (codec_list codec_int) HAT1.out HC1k.out HB3.out.in_.at_ hk (by rcases t1 with _ | p; exact .inr rfl; exact .inl (by simp at hgo; omega)))
        clear HACC HGR HRUN HI2 HBG HBK HSL HYL
        have HEX : ((0 : Int) < (n1 : Int) - (K1 : Int) → t1.isSome = false) := fun h => by rcases t1 with _ | p; rfl; simp at hgo; omega
        obtain ⟨bb1, hb⟩ : ∃ bb, t1.isSome = bb := ⟨_, rfl⟩
        rw [hb] at k1 HEX
        clear hgo
        go_upto_region 13 with fail
        go_cut [55] (fun x wx => x = .bool false ∧ wx = wr)
        case first =>
         by_cases hp : (0 : Int) < (n1 : Int) - (K1 : Int)
         ·have hbf := HEX hp
          subst hbf
          go_wp2_with fail
          go_meet
          exact ⟨rfl, rfl⟩
         ·have hp2 : (n1 : Int) - (K1 : Int) ≤ 0 := by omega
          go_wp2_with fail
          go_meet
          exact ⟨rfl, rfl⟩
        case rest =>
         obtain ⟨rfl, hcw⟩ := hcut
         subst hcw
         obtain ⟨V1, hV⟩ : ∃ V, V = wc := ⟨wc, rfl⟩
         subst hV
         clear k0 k1 f0 f1 HEX hb
         have HB16 := Lib.hid HBY1.out
         clear HBY1
         have CX := Lib.hid (in_num I lb t1 V1 HB16.out.in_)
         go_wp2_with fail
         refine CX.out.mono ?_
         rintro e w16 ⟨s4, c4, rfl, hi, hg, hst, hy1, hy2⟩
         have HS4 := Lib.hid hst
         have HW4 := Lib.hid (wfi_num hy1 hy2)
         clear CX hst hy1 hy2
         have HF := Lib.hid ((HB16.out.call hg hi))
         obtain ⟨p0, p1, p2, p3, p4, p5, p6, p7⟩ := blk8s HF.out.blk
         have z := HF.out.blk.frozen 3
         obtain ⟨y17, hy⟩ : ∃ W, W = w16.setCell ⟨G, 3, none⟩ (.int .i64 c4) := ⟨_, rfl⟩
         have HB17 : Hid (BoxX W9 I lb G 27 y17 s4 #[.int .i64 a, .slice Ab b.length cb, .slice Av1 K1 cv1, .int .i64 c4, .int .i64 0, .int .i64 0, .slice none 0 0, .slice none 0 0] (fun W => (Blk W w.heap.size 27 #[.int .i64 0, .slice none 0 0, .slice none 0 0, .int .i64 0, .int .i64 0, .int .i64 0, .slice none 0 0, .slice none 0 0] ∧ SlP G 1 (fun _ => IntC) (.slice Ab b.length cb) b W) ∧ SlP G 1 IntsQ (.slice Av1 K1 cv1) ys1 W)) := Lib.hid (by rw [hy]; simpa using HF.out.set_ 3 (.int .i64 c4))
         clear hi hg HF HB16
         have CX := Lib.hid (in_num I lb s4 y17 HB17.out.in_)
         go_upto_region 17 with fail
         rw [← hy]
         clear hy p0 p1 p2 p3 p4 p5 p6 p7 z
         go_wp2_with fail
         refine CX.out.mono ?_
         rintro e w17 ⟨s5, c5, rfl, hi, hg, hst, hy1, hy2⟩
         have HS5 := Lib.hid hst
         have HW5 := Lib.hid (wfi_num hy1 hy2)
         clear CX hst hy1 hy2
         have HF := Lib.hid ((HB17.out.call hg hi))
         obtain ⟨p0, p1, p2, p3, p4, p5, p6, p7⟩ := blk8s HF.out.blk
         have z := HF.out.blk.frozen 4
         obtain ⟨y18, hy⟩ : ∃ W, W = w17.setCell ⟨G, 4, none⟩ (.int .i64 c5) := ⟨_, rfl⟩
         have HB18 : Hid (BoxX W9 I lb G 27 y18 s5 #[.int .i64 a, .slice Ab b.length cb, .slice Av1 K1 cv1, .int .i64 c4, .int .i64 c5, .int .i64 0, .slice none 0 0, .slice none 0 0] (fun W => (Blk W w.heap.size 27 #[.int .i64 0, .slice none 0 0, .slice none 0 0, .int .i64 0, .int .i64 0, .int .i64 0, .slice none 0 0, .slice none 0 0] ∧ SlP G 1 (fun _ => IntC) (.slice Ab b.length cb) b W) ∧ SlP G 1 IntsQ (.slice Av1 K1 cv1) ys1 W)) := Lib.hid (by rw [hy]; simpa using HF.out.set_ 4 (.int .i64 c5))
         clear hi hg HF HB17
         have CX := Lib.hid (in_num I lb s5 y18 HB18.out.in_)
         go_upto_region 18 with fail
         rw [← hy]
         clear hy p0 p1 p2 p3 p4 p5 p6 p7 z
         go_wp2_with fail
         refine CX.out.mono ?_
         rintro e w18 ⟨s6, c6, rfl, hi, hg, hst, hy1, hy2⟩
         have HS6 := Lib.hid hst
         have HW6 := Lib.hid (wfi_num hy1 hy2)
         clear CX hst hy1 hy2
         have HF := Lib.hid ((HB18.out.call hg hi))
         obtain ⟨p0, p1, p2, p3, p4, p5, p6, p7⟩ := blk8s HF.out.blk
         have z := HF.out.blk.frozen 5
         obtain ⟨y19, hy⟩ : ∃ W, W = w18.setCell ⟨G, 5, none⟩ (.int .i64 c6) := ⟨_, rfl⟩
         have HB19 : Hid (BoxX W9 I lb G 27 y19 s6 #[.int .i64 a, .slice Ab b.length cb, .slice Av1 K1 cv1, .int .i64 c4, .int .i64 c5, .int .i64 c6, .slice none 0 0, .slice none 0 0] (fun W => (Blk W w.heap.size 27 #[.int .i64 0, .slice none 0 0, .slice none 0 0, .int .i64 0, .int .i64 0, .int .i64 0, .slice none 0 0, .slice none 0 0] ∧ SlP G 1 (fun _ => IntC) (.slice Ab b.length cb) b W) ∧ SlP G 1 IntsQ (.slice Av1 K1 cv1) ys1 W)) := Lib.hid (by rw [hy]; simpa using HF.out.set_ 5 (.int .i64 c6))
         clear hi hg HF HB18
         have CX := Lib.hid (in_count I lb s6 y19 HB19.out.in_)
         go_upto_region 19 with fail
         rw [← hy]
         clear hy p0 p1 p2 p3 p4 p5 p6 p7 z
         go_wp2_with fail
         refine CX.out.mono ?_
         rintro e w19 ⟨m2, n2, rfl, hi, hg, hc⟩
         have HC2k := Lib.hid hc
         have HAT2 := Lib.hid HB19.out.in_.at_
         have HB20 := Lib.hid (HB19.out.call hg hi)
         clear CX hi hg hc HB19
         go_wp2_with fail
         have HKP2 := Lib.hid HB20.out.lt
         have HBG2 : Hid (G < w19.heap.size) := Lib.hid HB20.out.blk.lt
         go_loopw [7] (fun j wr => ∃ v, LpD w19.heap.size 46 8 RowQ rowF zRow lb I G n2 m2 w19 wr v j ∧ Blk wr G 27 #[.int .i64 a, .slice Ab b.length cb, .slice Av1 K1 cv1, .int .i64 c4, .int .i64 c5, .int .i64 c6, v, .slice none 0 0]) (fun j _ => (intOf j).toNat)
         case atStart => exact ⟨_, LpD.start w19 HB20.out.in_, HB20.out.blk⟩
         case round =>
          obtain ⟨v, ⟨K2, t2, ys2, css2, rfl, hk, hyl, hacc, hi, hgr, hrun⟩, hbg⟩ := hrel
          obtain ⟨Av2, cv2, hv⟩ := own_slice hacc.1
          rw [hyl] at hv
          subst hv
          have HACC := Lib.hid hacc
          have HGR := Lib.hid hgr
          have HRUN := Lib.hid hrun
          have HI2 := Lib.hid hi
          have HYL := Lib.hid hyl
          have HBG := Lib.hid hbg
          obtain ⟨A0, m0, c0, k0, k1, f0, f1⟩ := hi.cells
          have hn := HC2k.out.1
          clear hacc hgr hrun hi hbg
          by_cases hgo : K2 < n2 ∧ t2.isSome = true
          ·obtain ⟨hlt, hts⟩ := hgo
           have hpos : (0 : Int) < (n2 : Int) - (K2 : Int) := by omega
           rw [hts] at k1
           have HSW := Lib.hid HGR.out.size
           go_upto_region 22 with fail
           obtain ⟨yo, hyo⟩ : ∃ yo, yo = World.drew wr := ⟨_, rfl⟩
           have HBO : Hid (Below wr.heap.size wr yo) := Lib.hid (by rw [hyo]; exact ⟨rfl, rfl, rfl, Nat.le_refl _, fun _ _ => rfl⟩)
           have HBY := Lib.hid (HBG.out.below HBO.out HBG.out.lt)
           have HS : Hid (yo.cell? ⟨G, 6, none⟩ = some (.slice Av2 K2 cv2)) := Lib.hid (HBY.out.cell 6)
           have CN := Lib.hid (in_row I lb t2 yo (HI2.out.below HBO.out))
           clear k0 k1 f0 f1
           refine region_till (fun W => W.cell? ⟨G, 6, none⟩ = some (.slice Av2 K2 cv2)) (fun j => !([0, 1, 2, 3, 4, 5, 6] : List Nat).contains j) (by kernel_rfl) ?_
           rw [← hyo]
           clear hyo
           refine till_take (i := 0) (v := ?_) rfl (by kernel_rfl) (by kernel_rfl) (by kernel_rfl) (by kernel_rfl) (fun _ _ _ h => h) (Or.inl ⟨by kernel_rfl, ?_⟩) HS.out ?_
           rotate_left
           ·(intro w' hSw; obtain hc0 := hSw; go_simp; try with_reducible rfl)
           refine till_take (i := 1) (v := ?_) rfl (by kernel_rfl) (by kernel_rfl) (by kernel_rfl) (by kernel_rfl) (fun _ _ _ h => h) (Or.inl ⟨by kernel_rfl, ?_⟩) HS.out ?_
           rotate_left
           ·(intro w' hSw; obtain hc0 := hSw; go_simp; try with_reducible rfl)
           refine till_take (i := 2) (v := ?_) rfl (by kernel_rfl) (by kernel_rfl) (by kernel_rfl) (by kernel_rfl) (fun _ _ _ h => h) (Or.inl ⟨by kernel_rfl, ?_⟩) HS.out ?_
           rotate_left
           ·(intro w' hSw; obtain hc0 := hSw; go_simp; try with_reducible rfl)
           refine till_ready (rs := [3]) (by kernel_rfl) (by simp) ?_
           refine TillAll.cons rfl (fun K hK => ?_) TillAll.nil
           go_simp
           go_wp2_with (go_at_call 56; refine CN.out.mono ?_; rintro e x0 ⟨u0, a0, cs0, rfl, hi, hg, hst, hcl, hq⟩)
           obtain ⟨vb, ve, rfl, hsb, hse, hwf⟩ := id hq
           obtain ⟨Ae, ce, rfl, _⟩ := id hsb
           obtain ⟨Af, cf, rfl, _⟩ := id hse
           have HST := Lib.hid hst
           have HI3 := Lib.hid hi
           have HG3 := Lib.hid (only_tr (only_of_below HBO.out (some I)) hg)
           have HQ := Lib.hid hq
           have HBR2 := Lib.hid (HBY.out.grown hg (by have := HKP2.out; intro e; injection e with e; omega))
           clear hst hi hg hsb hse hwf hcl hq CN
           have HS : Hid (x0.cell? ⟨G, 6, none⟩ = some (.slice Av2 K2 cv2)) := Lib.hid (HBR2.out.cell 6)
           (refine hK.out _ _ (fun _ => HS.out) ?_; clear hK K)
           refine till_ready (rs := [4]) (by kernel_rfl) (by simp) ?_
           refine TillAll.cons rfl (fun K hK => ?_) TillAll.nil
           go_simp
           have HS : Hid ((x0.alloc (.cells #[.int .i64 a0.par, .int .i64 a0.ty, .bool a0.many, .int .i64 a0.win, .slice Ae a0.bars.length ce, .int .i64 a0.leave, .int .i64 a0.guard, .slice Af a0.ends.length cf] 46)).cell? ⟨G, 6, none⟩ = some (.slice Av2 K2 cv2)) := Lib.hid ((HBR2.out.alloc _).cell 6)
           (refine hK.out _ _ (fun _ => HS.out) ?_; clear hK K)
           refine till_ready (rs := [5]) (by kernel_rfl) (by simp) ?_
           refine TillAll.cons rfl (fun K hK => ?_) TillAll.nil
           have HO2 : Hid ((x0.alloc (.cells #[.int .i64 a0.par, .int .i64 a0.ty, .bool a0.many, .int .i64 a0.win, .slice Ae a0.bars.length ce, .int .i64 a0.leave, .int .i64 a0.guard, .slice Af a0.ends.length cf] 46)).ownsRow w19.heap.size 46 8 (.slice Av2 K2 cv2) K2 css2.flatten) := Lib.hid (LpD.own HYL.out HACC.out (Nat.lt_of_lt_of_le HKP2.out (Nat.le_of_lt HBG2.out)) (only_alloc HG3.out (.cells #[.int .i64 a0.par, .int .i64 a0.ty, .bool a0.many, .int .i64 a0.win, .slice Ae a0.bars.length ce, .int .i64 a0.leave, .int .i64 a0.guard, .slice Af a0.ends.length cf] 46)))
           have HSY : Hid (w19.heap.size ≤ (x0.alloc (.cells #[.int .i64 a0.par, .int .i64 a0.ty, .bool a0.many, .int .i64 a0.win, .slice Ae a0.bars.length ce, .int .i64 a0.leave, .int .i64 a0.guard, .slice Af a0.ends.length cf] 46)).heap.size) := Lib.hid (by rw [World.size_alloc]; have := HSW.out; have := HG3.out.size; omega)
           refine step_append_any _ (by rfl) (.tmp 87) (.tmp 90) 24 (by rfl) w19.heap.size 46 i2 _ 8 96 Try.underlying24 hi2 hz2 hsz2 hb2 rfl (by omega) _ _ _ (by rfl) HO2.out (x0.heap.size + 1) (some ⟨x0.heap.size, 0, none⟩) 1 1 [.int .i64 a0.par, .int .i64 a0.ty, .bool a0.many, .int .i64 a0.win, .slice Ae a0.bars.length ce, .int .i64 a0.leave, .int .i64 a0.guard, .slice Af a0.ends.length cf] (by rfl) (reads_lit _ _ 8 rfl _ _) (by intro u hu; simp at hu; rcases hu with rfl | rfl | rfl | rfl | rfl | rfl | rfl | rfl <;> rfl) (by unfold maxLen; omega) (by omega) HSY.out ?_
           intro v9 w3 ho hg hat
           obtain ⟨A9, c9, rfl⟩ := own_slice ho
           have HO3 := Lib.hid ho
           have HG6 := Lib.hid hg
           have HAT4 := Lib.hid hat
           have HBR3 := Lib.hid ((HBR2.out.alloc (.cells #[.int .i64 a0.par, .int .i64 a0.ty, .bool a0.many, .int .i64 a0.win, .slice Ae a0.bars.length ce, .int .i64 a0.leave, .int .i64 a0.guard, .slice Af a0.ends.length cf] 46)).grown hg (fun e => by have h1 := (own_lt2 HO2.out e.symm).2; have := HBG2.out; omega))
           clear ho hg hat
           have HS : Hid (w3.cell? ⟨G, 6, none⟩ = some (.slice Av2 K2 cv2)) := Lib.hid (HBR3.out.cell 6)
           (refine hK.out _ _ (fun _ => HS.out) ?_; clear hK K)
           refine till_take (i := 6) (v := ?_) rfl (by kernel_rfl) (by kernel_rfl) (by kernel_rfl) (by kernel_rfl) (fun _ _ _ h => h) (Or.inl ⟨by kernel_rfl, ?_⟩) HS.out ?_
           rotate_left
           ·(intro w' hSw; obtain hc0 := hSw; go_simp; try with_reducible rfl)
           refine till_ready (rs := [7]) (by kernel_rfl) (by simp) ?_
           refine TillAll.cons rfl (fun K hK => ?_) TillAll.nil
           have p0 := HBR3.out.cell 6
           have q0 := HBR3.out.frozen 6
           go_simp
           (refine hK.out _ _ (fun h => absurd h (by decide)) ?_; clear hK K)
           clear p0 q0
           refine till_done (by kernel_rfl) ?_ _
           have HL : Hid (LpD w19.heap.size 46 8 RowQ rowF zRow lb I G n2 m2 w19 w3 (.slice A9 (K2 + 1) c9) (.int .i64 ((n2 : Int) - (K2 : Int) - 1))) := Lib.hid (LpD.next keeps_row hlt HYL.out HACC.out HGR.out HRUN.out (Nat.lt_of_lt_of_le HKP2.out (Nat.le_of_lt HBG2.out)) HSW.out (only_alloc HG3.out (.cells #[.int .i64 a0.par, .int .i64 a0.ty, .bool a0.many, .int .i64 a0.win, .slice Ae a0.bars.length ce, .int .i64 a0.leave, .int .i64 a0.guard, .slice Af a0.ends.length cf] 46)) (HI3.out.below ((Below.refl _ _).alloc (Nat.le_refl _) _)) HST.out rfl (keeps_row _ _ _ _ _ _ HQ.out (KeepQ.of_below ((Below.refl x0.heap.size x0).alloc (Nat.le_refl _) (.cells #[.int .i64 a0.par, .int .i64 a0.ty, .bool a0.many, .int .i64 a0.win, .slice Ae a0.bars.length ce, .int .i64 a0.leave, .int .i64 a0.guard, .slice Af a0.ends.length cf] 46)) (fun b hb => hb.2)) (fun b hb => ⟨Nat.le_trans HBO.out.size hb.1, by rw [World.size_alloc]; exact Nat.lt_succ_of_lt hb.2⟩)) HO3.out HG6.out HAT4.out)
           have HL2 := Lib.hid (HL.out.set_ keeps_row HBG2.out HKP2.out 6 (.slice A9 (K2 + 1) c9))
           have HBR4 : Hid (Blk (w3.setCell ⟨G, 6, none⟩ (.slice A9 (K2 + 1) c9)) G 27 #[.int .i64 a, .slice Ab b.length cb, .slice Av1 K1 cv1, .int .i64 c4, .int .i64 c5, .int .i64 c6, .slice A9 (K2 + 1) c9, .slice none 0 0]) := Lib.hid (by simpa using HBR3.out.set_ 6 (.slice A9 (K2 + 1) c9))
           clear HS HO2 HSY HBR2 HBR3 HO3 HG6 HAT4 HQ HI3 HG3 HST
           try simp only [Exit.then]
           go_wp2_with fail
           go_roundw
           case rel => first | exact ⟨_, HL2.out, HBR4.out⟩ | ((repeat apply Exists.intro); exact ⟨⟨_, HL2.out, HBR4.out⟩, rfl⟩)
           case measure => simp [intOf]; omega
          ·have HBK := Lib.hid (HB20.out.loop HGR.out HBG.out HI2.out)
           have HSL : Hid (SlP G 8 RowQ (.slice Av2 K2 cv2) ys2 wr) := Lib.hid (SlP.of_acc HACC.out keeps_row HBG2.out)
           have HBY2 := Lib.hid (HBK.out.add HSL.out (KeepsP.sl HKP2.out keeps_row))
           have HYL2 := Lib.hid HYL.out
           have HQ2 : Hid (StepD (listF rowF zRow) [] lb s6 t2 ys2) := Lib.hid (HRUN.out.done codec_row HAT2.out HC2k.out HB20.out.in_.at_ hk (by rcases t2 with _ | p; exact .inr rfl; exact .inl (by simp at hgo; omega)))
           clear HACC HGR HRUN HI2 HBG HBK HSL HYL
           have HEX : ((0 : Int) < (n2 : Int) - (K2 : Int) → t2.isSome = false) := fun h => by rcases t2 with _ | p; rfl; simp at hgo; omega
           obtain ⟨bb2, hb⟩ : ∃ bb, t2.isSome = bb := ⟨_, rfl⟩
           rw [hb] at k1 HEX
           clear hgo
           go_upto_region 20 with fail
           go_cut [83] (fun x wx => x = .bool false ∧ wx = wr)
           case first =>
            by_cases hp : (0 : Int) < (n2 : Int) - (K2 : Int)
            ·have hbf := HEX hp
             subst hbf
             go_wp2_with fail
             go_meet
             exact ⟨rfl, rfl⟩
            ·have hp2 : (n2 : Int) - (K2 : Int) ≤ 0 := by omega
             go_wp2_with fail
             go_meet
             exact ⟨rfl, rfl⟩
           case rest =>
            obtain ⟨rfl, hcw⟩ := hcut
            subst hcw
            obtain ⟨V2, hV⟩ : ∃ V, V = wc := ⟨wc, rfl⟩
            subst hV
            clear k0 k1 f0 f1 HEX hb
            have CX := Lib.hid (in_count I lb t2 V2 HBY2.out.in_)
            go_wp2_with fail
            refine CX.out.mono ?_
            rintro e w23 ⟨m3, n3, rfl, hi, hg, hc⟩
            have HC3k := Lib.hid hc
            have HAT3 := Lib.hid HBY2.out.in_.at_
            have HB24 := Lib.hid (HBY2.out.call hg hi)
            clear CX hi hg hc HBY2
            go_wp2_with fail
            have HKP3 := Lib.hid HB24.out.lt
            have HBG3 : Hid (G < w23.heap.size) := Lib.hid HB24.out.blk.lt
            go_loopw [8] (fun j wr => ∃ v, LpD w23.heap.size 40 5 CodeQ codeF zCode lb I G n3 m3 w23 wr v j ∧ Blk wr G 27 #[.int .i64 a, .slice Ab b.length cb, .slice Av1 K1 cv1, .int .i64 c4, .int .i64 c5, .int .i64 c6, .slice Av2 K2 cv2, v]) (fun j _ => (intOf j).toNat)
            case atStart => exact ⟨_, LpD.start w23 HB24.out.in_, HB24.out.blk⟩
            case round =>
             obtain ⟨v, ⟨K3, t3, ys3, css3, rfl, hk, hyl, hacc, hi, hgr, hrun⟩, hbg⟩ := hrel
             obtain ⟨Av3, cv3, hv⟩ := own_slice hacc.1
             rw [hyl] at hv
             subst hv
             have HACC := Lib.hid hacc
             have HGR := Lib.hid hgr
             have HRUN := Lib.hid hrun
             have HI2 := Lib.hid hi
             have HYL := Lib.hid hyl
             have HBG := Lib.hid hbg
             obtain ⟨A0, m0, c0, k0, k1, f0, f1⟩ := hi.cells
             have hn := HC3k.out.1
             clear hacc hgr hrun hi hbg
             by_cases hgo : K3 < n3 ∧ t3.isSome = true
             ·obtain ⟨hlt, hts⟩ := hgo
              have hpos : (0 : Int) < (n3 : Int) - (K3 : Int) := by omega
              rw [hts] at k1
              have HSW := Lib.hid HGR.out.size
              go_upto_region 26 with fail
              obtain ⟨yo, hyo⟩ : ∃ yo, yo = World.drew wr := ⟨_, rfl⟩
              have HBO : Hid (Below wr.heap.size wr yo) := Lib.hid (by rw [hyo]; exact ⟨rfl, rfl, rfl, Nat.le_refl _, fun _ _ => rfl⟩)
              have HBY := Lib.hid (HBG.out.below HBO.out HBG.out.lt)
              have HS : Hid (yo.cell? ⟨G, 7, none⟩ = some (.slice Av3 K3 cv3)) := Lib.hid (HBY.out.cell 7)
              have CN := Lib.hid (in_code I lb t3 yo (HI2.out.below HBO.out))
              clear k0 k1 f0 f1
              refine region_till (fun W => W.cell? ⟨G, 7, none⟩ = some (.slice Av3 K3 cv3)) (fun j => !([0, 1, 2, 3, 4, 5, 6] : List Nat).contains j) (by kernel_rfl) ?_
              rw [← hyo]
              clear hyo
              refine till_take (i := 0) (v := ?_) rfl (by kernel_rfl) (by kernel_rfl) (by kernel_rfl) (by kernel_rfl) (fun _ _ _ h => h) (Or.inl ⟨by kernel_rfl, ?_⟩) HS.out ?_
              rotate_left
              ·(intro w' hSw; obtain hc0 := hSw; go_simp; try with_reducible rfl)
              refine till_take (i := 1) (v := ?_) rfl (by kernel_rfl) (by kernel_rfl) (by kernel_rfl) (by kernel_rfl) (fun _ _ _ h => h) (Or.inl ⟨by kernel_rfl, ?_⟩) HS.out ?_
              rotate_left
              ·(intro w' hSw; obtain hc0 := hSw; go_simp; try with_reducible rfl)
              refine till_take (i := 2) (v := ?_) rfl (by kernel_rfl) (by kernel_rfl) (by kernel_rfl) (by kernel_rfl) (fun _ _ _ h => h) (Or.inl ⟨by kernel_rfl, ?_⟩) HS.out ?_
              rotate_left
              ·(intro w' hSw; obtain hc0 := hSw; go_simp; try with_reducible rfl)
              refine till_ready (rs := [3]) (by kernel_rfl) (by simp) ?_
              refine TillAll.cons rfl (fun K hK => ?_) TillAll.nil
              go_simp
              go_wp2_with (go_at_call 57; refine CN.out.mono ?_; rintro e x0 ⟨u0, a0, cs0, rfl, hi, hg, hst, hcl, hq⟩)
              obtain ⟨vi, vq, vl, rfl, hsb, hse, hsf, hwf⟩ := id hq
              obtain ⟨Ae, ce, rfl, _⟩ := id hsb
              obtain ⟨Af, cf, rfl, _⟩ := id hse
              obtain ⟨Ag, cg, rfl, _⟩ := id hsf
              have HST := Lib.hid hst
              have HI3 := Lib.hid hi
              have HG3 := Lib.hid (only_tr (only_of_below HBO.out (some I)) hg)
              have HQ := Lib.hid hq
              have HBR2 := Lib.hid (HBY.out.grown hg (by have := HKP3.out; intro e; injection e with e; omega))
              clear hst hi hg hsb hse hsf hwf hcl hq CN
              have HS : Hid (x0.cell? ⟨G, 7, none⟩ = some (.slice Av3 K3 cv3)) := Lib.hid (HBR2.out.cell 7)
              (refine hK.out _ _ (fun _ => HS.out) ?_; clear hK K)
              refine till_ready (rs := [4]) (by kernel_rfl) (by simp) ?_
              refine TillAll.cons rfl (fun K hK => ?_) TillAll.nil
              go_simp
              have HS : Hid ((x0.alloc (.cells #[.int .i64 a0.regs, .int .i64 a0.slots, .slice Ae a0.inputs.length ce, .slice Af a0.consts.length cf, .slice Ag a0.list.length cg] 40)).cell? ⟨G, 7, none⟩ = some (.slice Av3 K3 cv3)) := Lib.hid ((HBR2.out.alloc _).cell 7)
              (refine hK.out _ _ (fun _ => HS.out) ?_; clear hK K)
              refine till_ready (rs := [5]) (by kernel_rfl) (by simp) ?_
              refine TillAll.cons rfl (fun K hK => ?_) TillAll.nil
              have HO2 : Hid ((x0.alloc (.cells #[.int .i64 a0.regs, .int .i64 a0.slots, .slice Ae a0.inputs.length ce, .slice Af a0.consts.length cf, .slice Ag a0.list.length cg] 40)).ownsRow w23.heap.size 40 5 (.slice Av3 K3 cv3) K3 css3.flatten) := Lib.hid (LpD.own HYL.out HACC.out (Nat.lt_of_lt_of_le HKP3.out (Nat.le_of_lt HBG3.out)) (only_alloc HG3.out (.cells #[.int .i64 a0.regs, .int .i64 a0.slots, .slice Ae a0.inputs.length ce, .slice Af a0.consts.length cf, .slice Ag a0.list.length cg] 40)))
              have HSY : Hid (w23.heap.size ≤ (x0.alloc (.cells #[.int .i64 a0.regs, .int .i64 a0.slots, .slice Ae a0.inputs.length ce, .slice Af a0.consts.length cf, .slice Ag a0.list.length cg] 40)).heap.size) := Lib.hid (by rw [World.size_alloc]; have := HSW.out; have := HG3.out.size; omega)
              refine step_append_any _ (by rfl) (.tmp 106) (.tmp 109) 25 (by rfl) w23.heap.size 40 i3 _ 5 88 Try.underlying25 hi3 hz3 hsz3 hb3 rfl (by omega) _ _ _ (by rfl) HO2.out (x0.heap.size + 1) (some ⟨x0.heap.size, 0, none⟩) 1 1 [.int .i64 a0.regs, .int .i64 a0.slots, .slice Ae a0.inputs.length ce, .slice Af a0.consts.length cf, .slice Ag a0.list.length cg] (by rfl) (reads_lit _ _ 5 rfl _ _) (by intro u hu; simp at hu; rcases hu with rfl | rfl | rfl | rfl | rfl <;> rfl) (by unfold maxLen; omega) (by omega) HSY.out ?_
              intro v9 w3 ho hg hat
              obtain ⟨A9, c9, rfl⟩ := own_slice ho
              have HO3 := Lib.hid ho
              have HG6 := Lib.hid hg
              have HAT4 := Lib.hid hat
              have HBR3 := Lib.hid ((HBR2.out.alloc (.cells #[.int .i64 a0.regs, .int .i64 a0.slots, .slice Ae a0.inputs.length ce, .slice Af a0.consts.length cf, .slice Ag a0.list.length cg] 40)).grown hg (fun e => by have h1 := (own_lt2 HO2.out e.symm).2; have := HBG3.out; omega))
              clear ho hg hat
              have HS : Hid (w3.cell? ⟨G, 7, none⟩ = some (.slice Av3 K3 cv3)) := Lib.hid (HBR3.out.cell 7)
              (refine hK.out _ _ (fun _ => HS.out) ?_; clear hK K)
              refine till_take (i := 6) (v := ?_) rfl (by kernel_rfl) (by kernel_rfl) (by kernel_rfl) (by kernel_rfl) (fun _ _ _ h => h) (Or.inl ⟨by kernel_rfl, ?_⟩) HS.out ?_
              rotate_left
              ·(intro w' hSw; obtain hc0 := hSw; go_simp; try with_reducible rfl)
              refine till_ready (rs := [7]) (by kernel_rfl) (by simp) ?_
              refine TillAll.cons rfl (fun K hK => ?_) TillAll.nil
              have p0 := HBR3.out.cell 7
              have q0 := HBR3.out.frozen 7
              go_simp
              (refine hK.out _ _ (fun h => absurd h (by decide)) ?_; clear hK K)
              clear p0 q0
              refine till_done (by kernel_rfl) ?_ _
              have HL : Hid (LpD w23.heap.size 40 5 CodeQ codeF zCode lb I G n3 m3 w23 w3 (.slice A9 (K3 + 1) c9) (.int .i64 ((n3 : Int) - (K3 : Int) - 1))) := Lib.hid (LpD.next keeps_code hlt HYL.out HACC.out HGR.out HRUN.out (Nat.lt_of_lt_of_le HKP3.out (Nat.le_of_lt HBG3.out)) HSW.out (only_alloc HG3.out (.cells #[.int .i64 a0.regs, .int .i64 a0.slots, .slice Ae a0.inputs.length ce, .slice Af a0.consts.length cf, .slice Ag a0.list.length cg] 40)) (HI3.out.below ((Below.refl _ _).alloc (Nat.le_refl _) _)) HST.out rfl (keeps_code _ _ _ _ _ _ HQ.out (KeepQ.of_below ((Below.refl x0.heap.size x0).alloc (Nat.le_refl _) (.cells #[.int .i64 a0.regs, .int .i64 a0.slots, .slice Ae a0.inputs.length ce, .slice Af a0.consts.length cf, .slice Ag a0.list.length cg] 40)) (fun b hb => hb.2)) (fun b hb => ⟨Nat.le_trans HBO.out.size hb.1, by rw [World.size_alloc]; exact Nat.lt_succ_of_lt hb.2⟩)) HO3.out HG6.out HAT4.out)
              have HL2 := Lib.hid (HL.out.set_ keeps_code HBG3.out HKP3.out 7 (.slice A9 (K3 + 1) c9))
              have HBR4 : Hid (Blk (w3.setCell ⟨G, 7, none⟩ (.slice A9 (K3 + 1) c9)) G 27 #[.int .i64 a, .slice Ab b.length cb, .slice Av1 K1 cv1, .int .i64 c4, .int .i64 c5, .int .i64 c6, .slice Av2 K2 cv2, .slice A9 (K3 + 1) c9]) := Lib.hid (by simpa using HBR3.out.set_ 7 (.slice A9 (K3 + 1) c9))
              clear HS HO2 HSY HBR2 HBR3 HO3 HG6 HAT4 HQ HI3 HG3 HST
              try simp only [Exit.then]
              go_wp2_with fail
              go_roundw
              case rel => first | exact ⟨_, HL2.out, HBR4.out⟩ | ((repeat apply Exists.intro); exact ⟨⟨_, HL2.out, HBR4.out⟩, rfl⟩)
              case measure => simp [intOf]; omega
             ·have HBK := Lib.hid (HB24.out.loop HGR.out HBG.out HI2.out)
              have HSL : Hid (SlP G 5 CodeQ (.slice Av3 K3 cv3) ys3 wr) := Lib.hid (SlP.of_acc HACC.out keeps_code HBG3.out)
              have HBY3 := Lib.hid (HBK.out.add HSL.out (KeepsP.sl HKP3.out keeps_code))
              have HYL3 := Lib.hid HYL.out
              have HQ3 : Hid (StepD (listF codeF zCode) [] lb t2 t3 ys3) := Lib.hid (HRUN.out.done codec_code HAT3.out HC3k.out HB24.out.in_.at_ hk (by rcases t3 with _ | p; exact .inr rfl; exact .inl (by simp at hgo; omega)))
              clear HACC HGR HRUN HI2 HBG HBK HSL HYL
              have HEX : ((0 : Int) < (n3 : Int) - (K3 : Int) → t3.isSome = false) := fun h => by rcases t3 with _ | p; rfl; simp at hgo; omega
              obtain ⟨bb3, hb⟩ : ∃ bb, t3.isSome = bb := ⟨_, rfl⟩
              rw [hb] at k1 HEX
              clear hgo
              go_upto_region 24 with fail
              go_cut [102] (fun x wx => x = .bool false ∧ wx = wr)
              case first =>
               by_cases hp : (0 : Int) < (n3 : Int) - (K3 : Int)
               ·have hbf := HEX hp
                subst hbf
                go_wp2_with fail
                go_meet
                exact ⟨rfl, rfl⟩
               ·have hp2 : (n3 : Int) - (K3 : Int) ≤ 0 := by omega
                go_wp2_with fail
                go_meet
                exact ⟨rfl, rfl⟩
              case rest =>
               obtain ⟨rfl, hcw⟩ := hcut
               subst hcw
               obtain ⟨V3, hV⟩ : ∃ V, V = wc := ⟨wc, rfl⟩
               subst hV
               clear k0 k1 f0 f1 HEX hb
               have HAB := Lib.hid HBY3.out.rest
               have HZV : Hid (Blk V3 w.heap.size 27 #[.int .i64 0, .slice none 0 0, .slice none 0 0, .int .i64 0, .int .i64 0, .int .i64 0, .slice none 0 0, .slice none 0 0]) := Lib.hid HAB.out.1.1.1.1
               have HAV : Hid (Below w.heap.size w V3) := Lib.hid (HA9.out.grown HBY3.out.gr HA9.out.size (fun q hq => by injection hq with hq; have := HIZ.out; omega))
               have HSTEP : Hid (StepD tabF zTab lb (some 0) t3 ⟨a, b, ys1, c4, c5, c6, ys2, ys3⟩) := Lib.hid (step_tab HS1.out HS2.out HQ1.out HS4.out HS5.out HS6.out HQ2.out HQ3.out)
               have HIMG : Hid (∀ z, IsImg z l → t3 = some lb.length) := Lib.hid (fun z h => itab_end HSTEP.out (by
                have h1 := (img_parts h).2.2.2.2
                rw [HKL.out, HLB.out] at h1
                exact h1))
               have HEC : Hid ((32 : Int) = decErr l) := Lib.hid (by unfold decErr; rw [if_neg (by rw [HNL.out]; exact HC1.out), if_neg (by rw [HNL.out]; exact HC2.out), if_neg (by rw [HC3.out]; exact fun h => h rfl), if_neg (by rw [HKL.out]; exact fun h => h HC4.out)])
               obtain ⟨AI, cI, rI, hbI, _, _, _, hpI⟩ := HBY3.out.in_
               obtain ⟨g0, g1, g2, g3, g4, g5, g6, g7⟩ := blk8s HBY3.out.blk
               obtain ⟨x0, x1, x2, x3, x4, x5, x6, x7⟩ := blk8s HZV.out
               have z0 := HZV.out.frozen 0
               have z1 := HZV.out.frozen 1
               have z2 := HZV.out.frozen 2
               have z3 := HZV.out.frozen 3
               have z4 := HZV.out.frozen 4
               have z5 := HZV.out.frozen 5
               have z6 := HZV.out.frozen 6
               have z7 := HZV.out.frozen 7
               have i0 := hbI.cell 0
               have i1 := hbI.cell 1
               have HPI := Lib.hid hpI
               clear hbI hpI
               rcases t3 with _ | q
               ·have HNO : Hid (∀ y, ¬ IsImg y l) := Lib.hid (fun y h => by cases HIMG.out y h)
                have ii : V3.cell? ⟨I, 1, none⟩ = some (.bool false) := i1
                clear i1
                go_wp2_with fail
                obtain ⟨X, hX⟩ : ∃ X, X = dSet8 V3 w.heap.size (.int .i64 0) (.slice none 0 0) (.slice none 0 0) (.int .i64 0) (.int .i64 0) (.int .i64 0) (.slice none 0 0) (.slice none 0 0) := ⟨_, rfl⟩
                have HBX := Lib.hid (dSet8_blk HZV.out (.int .i64 0) (.slice none 0 0) (.slice none 0 0) (.int .i64 0) (.int .i64 0) (.int .i64 0) (.slice none 0 0) (.slice none 0 0))
                have HAX := Lib.hid (dSet8_below HAV.out (Nat.le_refl _) (.int .i64 0) (.slice none 0 0) (.slice none 0 0) (.int .i64 0) (.int .i64 0) (.int .i64 0) (.slice none 0 0) (.slice none 0 0))
                rw [← hX] at HBX HAX
                unfold dSet8 at hX
                rw [← hX]
                clear hX
                obtain ⟨q0, q1, q2, q3, q4, q5, q6, q7⟩ := blk8s HBX.out
                exact bodyPost_ret (v := .tuple #[.agg #[.int .i64 0, .slice none 0 0, .slice none 0 0, .int .i64 0, .int .i64 0, .int .i64 0, .slice none 0 0, .slice none 0 0], .int .i64 32]) (by simp [results, Try.results33, go_sem, q0, q1, q2, q3, q4, q5, q6, q7]) rfl (HRET.out X 32 HAX.out HBX.out HNO.out HEC.out)
               ·have ii : V3.cell? ⟨I, 1, none⟩ = some (.bool true) := i1
                have hq := HPI.out q rfl
                have hrl : rI.length = lb.length - q := by rw [hq.2, List.length_drop]
                have HQL := Lib.hid hq.1
                have hr0 : (0 : Int) ≤ (rI.length : Int) := by omega
                clear i1 hq
                by_cases hlast : q = lb.length
                ·have hr1 : rI.length = 0 := by omega
                 have IMG : Hid (IsImg ⟨a, b, ys1, c4, c5, c6, ys2, ys3⟩ l) := Lib.hid (by
                  have h1 := HSTEP.out
                  rw [hlast] at h1
                  refine img_whole (by have := HNL.out; omega) (by have := HNL.out; omega) HC3.out (by rw [HKL.out]; exact HC4.out) ?_
                  rw [HKL.out, HLB.out]
                  exact itab_img h1)
                 rw [hr1] at i0
                 clear hrl hr0 hr1 hlast
                 go_wp2_with fail
                 obtain ⟨X, hX⟩ : ∃ X, X = dSet8 V3 w.heap.size (.int .i64 a) (.slice Ab b.length cb) (.slice Av1 K1 cv1) (.int .i64 c4) (.int .i64 c5) (.int .i64 c6) (.slice Av2 K2 cv2) (.slice Av3 K3 cv3) := ⟨_, rfl⟩
                 have HBX := Lib.hid (dSet8_blk HZV.out (.int .i64 a) (.slice Ab b.length cb) (.slice Av1 K1 cv1) (.int .i64 c4) (.int .i64 c5) (.int .i64 c6) (.slice Av2 K2 cv2) (.slice Av3 K3 cv3))
                 have HAX := Lib.hid (dSet8_below HAV.out (Nat.le_refl _) (.int .i64 a) (.slice Ab b.length cb) (.slice Av1 K1 cv1) (.int .i64 c4) (.int .i64 c5) (.int .i64 c6) (.slice Av2 K2 cv2) (.slice Av3 K3 cv3))
                 have HKX : Hid (KeepQ (fun b => G < b ∧ b < V3.heap.size) V3 X) := Lib.hid (by rw [hX]; exact keepQ_dSet8 (fun b hb => by have := HGW.out; omega) _ _ _ _ _ _ _ _)
                 rw [← hX] at HBX HAX
                 unfold dSet8 at hX
                 rw [← hX]
                 clear hX
                 obtain ⟨q0, q1, q2, q3, q4, q5, q6, q7⟩ := blk8s HBX.out
                 have e1 := HYL1.out
                 have e2 := HYL2.out
                 have e3 := HYL3.out
                 refine bodyPost_ret (v := .tuple #[.agg #[.int .i64 a, .slice Ab b.length cb, .slice Av1 K1 cv1, .int .i64 c4, .int .i64 c5, .int .i64 c6, .slice Av2 K2 cv2, .slice Av3 K3 cv3], .int .i64 0]) (by simp [results, Try.results33, go_sem, q0, q1, q2, q3, q4, q5, q6, q7]) rfl ⟨HAX.out, .inl ⟨⟨a, b, ys1, c4, c5, c6, ys2, ys3⟩, _, _, _, _, IMG.out, rfl, ?_⟩⟩
                 have hk : ∀ b, (G < b ∧ b < V3.heap.size) → w.heap.size ≤ b := fun b h => by have := HGW.out; omega
                 exact ⟨_, _, _, _, rfl, SlQ.keep HAB.out.1.1.1.2 HKX.out hk (fun _ _ h => h), SlQ.keep HAB.out.1.1.2 HKX.out hk (fun cs x h => keeps_ints _ _ _ _ _ _ h HKX.out hk), SlQ.keep HAB.out.1.2 HKX.out hk (fun cs x h => keeps_row _ _ _ _ _ _ h HKX.out hk), SlQ.keep HAB.out.2 HKX.out hk (fun cs x h => keeps_code _ _ _ _ _ _ h HKX.out hk), HWA.out, HW4.out, HW5.out, HW6.out⟩
                ·have HNO : Hid (∀ y, ¬ IsImg y l) := Lib.hid (fun y h => hlast (by have h1 := HIMG.out y h; injection h1))
                 have hr1 : (0 : Int) < (rI.length : Int) := by have := HQL.out; omega
                 clear hrl hr0 hlast
                 go_wp2_with fail
                 obtain ⟨X, hX⟩ : ∃ X, X = dSet8 V3 w.heap.size (.int .i64 0) (.slice none 0 0) (.slice none 0 0) (.int .i64 0) (.int .i64 0) (.int .i64 0) (.slice none 0 0) (.slice none 0 0) := ⟨_, rfl⟩
                 have HBX := Lib.hid (dSet8_blk HZV.out (.int .i64 0) (.slice none 0 0) (.slice none 0 0) (.int .i64 0) (.int .i64 0) (.int .i64 0) (.slice none 0 0) (.slice none 0 0))
                 have HAX := Lib.hid (dSet8_below HAV.out (Nat.le_refl _) (.int .i64 0) (.slice none 0 0) (.slice none 0 0) (.int .i64 0) (.int .i64 0) (.int .i64 0) (.slice none 0 0) (.slice none 0 0))
                 rw [← hX] at HBX HAX
                 unfold dSet8 at hX
                 rw [← hX]
                 clear hX
                 obtain ⟨q0, q1, q2, q3, q4, q5, q6, q7⟩ := blk8s HBX.out
                 exact bodyPost_ret (v := .tuple #[.agg #[.int .i64 0, .slice none 0 0, .slice none 0 0, .int .i64 0, .int .i64 0, .int .i64 0, .slice none 0 0, .slice none 0 0], .int .i64 32]) (by simp [results, Try.results33, go_sem, q0, q1, q2, q3, q4, q5, q6, q7]) rfl (HRET.out X 32 HAX.out HBX.out HNO.out HEC.out)
     ·rw [decide_eq_false c4]
      have HNO : Hid (∀ y, ¬ IsImg y l) := Lib.hid (fun y h => c4 (by have h1 := (img_parts h).2.2.2.1; rw [HKL.out] at h1; exact h1))
      have HEC : Hid ((31 : Int) = decErr l) := Lib.hid (by unfold decErr; rw [if_neg (by rw [HNL.out]; exact HC1.out), if_neg (by rw [HNL.out]; exact HC2.out), if_neg (by rw [HC3.out]; exact fun h => h rfl), if_pos (by rw [HKL.out]; exact c4)])
      clear c4
      obtain ⟨x0, x1, x2, x3, x4, x5, x6, x7⟩ := blk8s HZC.out
      have z0 := HZC.out.frozen 0
      have z1 := HZC.out.frozen 1
      have z2 := HZC.out.frozen 2
      have z3 := HZC.out.frozen 3
      have z4 := HZC.out.frozen 4
      have z5 := HZC.out.frozen 5
      have z6 := HZC.out.frozen 6
      have z7 := HZC.out.frozen 7
      go_wp2_with fail
      obtain ⟨X, hX⟩ : ∃ X, X = dSet8 wc w.heap.size (.int .i64 0) (.slice none 0 0) (.slice none 0 0) (.int .i64 0) (.int .i64 0) (.int .i64 0) (.slice none 0 0) (.slice none 0 0) := ⟨_, rfl⟩
      have HBX := Lib.hid (dSet8_blk HZC.out (.int .i64 0) (.slice none 0 0) (.slice none 0 0) (.int .i64 0) (.int .i64 0) (.int .i64 0) (.slice none 0 0) (.slice none 0 0))
      have HAX := Lib.hid (dSet8_below HBC.out (Nat.le_refl _) (.int .i64 0) (.slice none 0 0) (.slice none 0 0) (.int .i64 0) (.int .i64 0) (.int .i64 0) (.slice none 0 0) (.slice none 0 0))
      rw [← hX] at HBX HAX
      unfold dSet8 at hX
      rw [← hX]
      clear hX
      obtain ⟨q0, q1, q2, q3, q4, q5, q6, q7⟩ := blk8s HBX.out
      exact bodyPost_ret (v := .tuple #[.agg #[.int .i64 0, .slice none 0 0, .slice none 0 0, .int .i64 0, .int .i64 0, .int .i64 0, .slice none 0 0, .slice none 0 0], .int .i64 31]) (by simp [results, Try.results33, go_sem, q0, q1, q2, q3, q4, q5, q6, q7]) rfl (HRET.out X 31 HAX.out HBX.out HNO.out HEC.out)
   ·have HNO : Hid (∀ y, ¬ IsImg y l) := Lib.hid (fun y h => c3 (img_parts h).2.2.1)
    have HEC : Hid ((32 : Int) = decErr l) := Lib.hid (by unfold decErr; rw [if_neg (by rw [HNL.out]; exact HC1.out), if_neg (by rw [HNL.out]; exact HC2.out), if_pos c3])
    have hne : ((⟨(l.take 4).toArray⟩ : ByteArray).toList == [65, 85, 83, 80]) = false := by
     rw [beq_eq_false_iff_ne, ByteArray.toList_eq]; exact c3
    obtain ⟨BS, hBS⟩ : ∃ BS : ByteArray, BS = ⟨(l.take 4).toArray⟩ := ⟨_, rfl⟩
    rw [← hBS] at hcv hne
    clear c3 hBS
    go_wp2_with fail
    obtain ⟨X, hX⟩ : ∃ X, X = dSet8 W1 w.heap.size (.int .i64 0) (.slice none 0 0) (.slice none 0 0) (.int .i64 0) (.int .i64 0) (.int .i64 0) (.slice none 0 0) (.slice none 0 0) := ⟨_, rfl⟩
    have HBX := Lib.hid (dSet8_blk HBZ.out (.int .i64 0) (.slice none 0 0) (.slice none 0 0) (.int .i64 0) (.int .i64 0) (.int .i64 0) (.slice none 0 0) (.slice none 0 0))
    have HAX := Lib.hid (dSet8_below HA1.out (Nat.le_refl _) (.int .i64 0) (.slice none 0 0) (.slice none 0 0) (.int .i64 0) (.int .i64 0) (.int .i64 0) (.slice none 0 0) (.slice none 0 0))
    rw [← hX] at HBX HAX
    unfold dSet8 at hX
    rw [← hX]
    clear hX
    obtain ⟨q0, q1, q2, q3, q4, q5, q6, q7⟩ := blk8s HBX.out
    exact bodyPost_ret (v := .tuple #[.agg #[.int .i64 0, .slice none 0 0, .slice none 0 0, .int .i64 0, .int .i64 0, .int .i64 0, .slice none 0 0, .slice none 0 0], .int .i64 32]) (by simp [results, Try.results33, go_sem, q0, q1, q2, q3, q4, q5, q6, q7]) rfl (HRET.out X 32 HAX.out HBX.out HNO.out HEC.out)
end Go.Proofs.Ytioocaicmiggoaa

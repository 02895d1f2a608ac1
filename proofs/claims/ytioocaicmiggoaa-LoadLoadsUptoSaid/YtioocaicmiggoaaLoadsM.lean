/-
  LoadLoads: for every input of the statement's bulk the Go function answers true, and the input reads as it did. No other condition.
-/
import Derived.Test.YtioocaicmiggoaaRows
import Derived.Test.YtioocaicmiggoaaA01
import Derived.JoinedCond
import Derived.Test.YtioocaicmiggoaaA36
import Derived.Test.YtioocaicmiggoaaA37
import Derived.Test.YtioocaicmiggoaaA39
import Derived.Test.YtioocaicmiggoaaA05
import Derived.Test.YtioocaicmiggoaaA40
import Derived.Deep.DeepCutAuto
namespace Go.Proofs.Ytioocaicmiggoaa.loadLoads
open Go.ChangeShapes Go.WideShapes Go.ChangeAt Go.RowKit
open Go.ChangeMaps (open_string shut_string)
set_option linter.unusedVariables false
set_option linter.unusedSimpArgs false

theorem own : ownKnob Try.prog.godebug = none := by kernel_rfl
theorem laidOut : laidOutB Try.prog = true := by kernel_rfl

open Go.Deep
set_option maxRecDepth 100000
set_option maxHeartbeats 8000000 in
/-- the walk: the Go text answers true and writes nothing that was there -/
theorem walk (w : World) (a0 : Option Addr) (n0 c0 : Nat) (z0 : List Int) (w0 : InRow .u8 1 w a0 n0 c0 z0) (s0 : c0 ≤ 1048576) (A1 : Array Value) (T1 : TTab) (w1 : TabC w A1.toList T1) (s1 : szTab T1 ≤ 1048576) :
    Calls Try.prog 6 #[.slice a0 n0 c0, .agg A1] w fun e w' => e = .returned (.bool true) ∧ Below w.heap.size w w' := by
  obtain ⟨l0, hl0, hc0, hm0, hR0⟩ := w0.bytes
  obtain ⟨vk, vkk, vs, vc, rfl, hx⟩ := TabX.of w1
  obtain ⟨hlb, hlp⟩ := len_tab s1
  obtain ⟨W1, hW1⟩ : ∃ W1, W1 = w.alloc (.cells #[.int .i64 T1.strategy, vk, vkk, .int .i64 T1.syms, .int .i64 T1.runs, .int .i64 T1.cells, vs, vc] 27) := ⟨_, rfl⟩
  have B0 : Below w.heap.size w W1 := by rw [hW1]; exact (Below.refl w.heap.size w).alloc (Nat.le_refl _) _
  have BT : Blk W1 w.heap.size 27 #[.int .i64 T1.strategy, vk, vkk, .int .i64 T1.syms, .int .i64 T1.runs, .int .i64 T1.cells, vs, vc] := by rw [hW1]; exact Blk.new w _ _
  have X1 := hx.below B0
  have CF := Lib.hid (few_any T1 vk vkk vs vc W1 X1)
  have CA := Lib.hid (fun W => awake_any W)
  have HX := Lib.hid (fun W (hb : Below W1.heap.size W1 W) => X1.below hb)
  have HR0 := Lib.hid (fun W (hb : Below w.heap.size w W) => (hR0.below hb).more hb.size)
  have CL := Lib.hid (fun W h => load_any a0 n0 c0 l0 W hl0 hc0 (by omega) h)
  have CR := Lib.hid (fun W h => rload_any a0 n0 c0 l0 W hl0 hc0 (by omega) h)
  have CL2 := Lib.hid (fun l A n c W h1 h2 h3 h4 => load_any A n c l W h1 h2 h3 h4)
  have CR2 := Lib.hid (fun l A n c W h1 h2 h3 h4 => rload_any A n c l W h1 h2 h3 h4)
  have CE := Lib.hid (fun a b c d W h => rencode_any T1 a b c d W h hlb)
  have CS := Lib.hid (fun T a b c d e f g h W h1 h2 h3 => same_any T a b c d e f g h W h1 h2 h3)
  have HB0 := Lib.hid B0
  have HBT := Lib.hid BT
  obtain ⟨k0, k1, k2, k3, k4, k5, k6, k7⟩ := blk8 BT
  have HW1 := Lib.hid hW1
  clear hx B0 BT X1 w1 s1 hW1 hlb hlp hR0 hl0
  go_enter Try.func6, Try.ntmps6
  go_upto_region 1 with fail
  rw [← HW1.out]
  clear HW1
  go_wp2_with fail
  refine CF.out.mono ?_
  rintro e W2 ⟨fb, rfl, hb2⟩
  have HB2 := Lib.hid hb2
  clear k0 k1 k2 k3 k4 k5 k6 k7 CF hb2
  cases fb with
  | false =>
    go_wp2_with fail
    refine (CA.out _).mono ?_
    rintro e W3 ⟨rfl, hb3⟩
    have HB3 := Lib.hid (HB0.out.trans ((HB2.out.trans (hb3.mono HB2.out.size)).mono HB0.out.size))
    clear hb3
    go_wp2_with fail
    go_ret
    exact ⟨rfl, HB3.out⟩
  | true =>
    have HBT2 := Lib.hid (HBT.out.below HB2.out HBT.out.lt)
    have HB20 := Lib.hid (HB0.out.trans (HB2.out.mono HB0.out.size))
    have C3 := Lib.hid (CL.out W2 (HR0.out W2 HB20.out))
    go_wp2_with fail
    refine C3.out.mono ?_
    intro e w3 hp
    obtain ⟨T, uk, ukk, us, uc, ec, rfl, htf, hb3, hr3⟩ := hp
    have htx := htf.tab
    obtain ⟨P1, P5, rfl, _, _⟩ := htx.keys.slice
    obtain ⟨P2, P6, rfl, _, _⟩ := htx.kinds.slice
    obtain ⟨P3, P7, rfl, _, _⟩ := htx.states.slice
    obtain ⟨P4, P8, rfl, _, _⟩ := htx.codes.slice
    obtain ⟨G5, hG5⟩ : ∃ G, G = w3.heap.size := ⟨_, rfl⟩
    obtain ⟨W4, hW4⟩ : ∃ W, W = w3.alloc (.cells #[.int .i64 T.strategy, .slice P1 T.keys.length P5, .slice P2 T.kinds.length P6, .int .i64 T.syms, .int .i64 T.runs, .int .i64 T.cells, .slice P3 T.states.length P7, .slice P4 T.codes.length P8] 27) := ⟨_, rfl⟩
    have ha4 : Below w3.heap.size w3 W4 := by rw [hW4]; exact (Below.refl _ _).alloc (Nat.le_refl _) _
    have HBI : Hid (Blk W4 G5 27 #[.int .i64 T.strategy, .slice P1 T.keys.length P5, .slice P2 T.kinds.length P6, .int .i64 T.syms, .int .i64 T.runs, .int .i64 T.cells, .slice P3 T.states.length P7, .slice P4 T.codes.length P8]) := Lib.hid (by rw [hW4, hG5]; exact Blk.new _ _ _)
    have h24 := hb3.trans (ha4.mono hb3.size)
    have HG5 : Hid (w.heap.size ≤ G5) := Lib.hid (by rw [hG5]; have := hb3.size; have := HB20.out.size; omega)
    have HT4 := Lib.hid (htx.below ha4)
    have HB4 := Lib.hid (HB2.out.trans (h24.mono HB2.out.size))
    have HBT4 := Lib.hid (HBT2.out.below h24 HBT2.out.lt)
    have HR3 := Lib.hid hr3
    clear C3 hb3 htf htx ha4 h24 hr3
    go_upto_region 4 with fail
    rw [← hG5, ← hW4]
    clear hW4 hG5
    have HB40 := Lib.hid (HB0.out.trans (HB4.out.mono HB0.out.size))
    have C5 := Lib.hid (CR.out W4 (HR0.out W4 HB40.out))
    go_wp2_with fail
    refine C5.out.mono ?_
    intro e w5 hp
    obtain ⟨U, uk, ukk, us, uc, eb, rfl, htf, hb5, hr5⟩ := hp
    obtain ⟨rfl, rfl, hpl⟩ := loadr_same HR3.out hr5
    have HPL := Lib.hid hpl
    have htx := htf.tab
    obtain ⟨Q1, Q5, rfl, _, _⟩ := htx.keys.slice
    obtain ⟨Q2, Q6, rfl, _, _⟩ := htx.kinds.slice
    obtain ⟨Q3, Q7, rfl, _, _⟩ := htx.states.slice
    obtain ⟨Q4, Q8, rfl, _, _⟩ := htx.codes.slice
    obtain ⟨G7, hG7⟩ : ∃ G, G = w5.heap.size := ⟨_, rfl⟩
    obtain ⟨W6, hW6⟩ : ∃ W, W = w5.alloc (.cells #[.int .i64 U.strategy, .slice Q1 U.keys.length Q5, .slice Q2 U.kinds.length Q6, .int .i64 U.syms, .int .i64 U.runs, .int .i64 U.cells, .slice Q3 U.states.length Q7, .slice Q4 U.codes.length Q8] 27) := ⟨_, rfl⟩
    have ha6 : Below w5.heap.size w5 W6 := by rw [hW6]; exact (Below.refl _ _).alloc (Nat.le_refl _) _
    have HBJ : Hid (Blk W6 G7 27 #[.int .i64 U.strategy, .slice Q1 U.keys.length Q5, .slice Q2 U.kinds.length Q6, .int .i64 U.syms, .int .i64 U.runs, .int .i64 U.cells, .slice Q3 U.states.length Q7, .slice Q4 U.codes.length Q8]) := Lib.hid (by rw [hW6, hG7]; exact Blk.new _ _ _)
    have h46 := hb5.trans (ha6.mono hb5.size)
    have HBI6 := Lib.hid (HBI.out.below h46 HBI.out.lt)
    have HG57 : Hid (G5 < G7) := Lib.hid (by rw [hG7]; have := HBI.out.lt; have := hb5.size; omega)
    have HT6 := Lib.hid (HT4.out.below h46)
    have HU6 := Lib.hid (htx.below ha6)
    have HB6 := Lib.hid (HB4.out.trans (h46.mono HB4.out.size))
    have HBT6 := Lib.hid (HBT4.out.below h46 HBT4.out.lt)
    clear C5 hb5 htf htx ha6 h46 hr5 hpl HR3 HT4 HBI HBT4
    go_upto_region 5 with fail
    rw [← hG7, ← hW6]
    clear hW6 hG7
    go_wp2_with fail
    refine (CA.out _).mono ?_
    rintro e w7 ⟨rfl, hb7⟩
    have HB7 := Lib.hid (HB6.out.trans (hb7.mono HB6.out.size))
    have HBI7 := Lib.hid (HBI6.out.below hb7 HBI6.out.lt)
    have HBJ7 := Lib.hid (HBJ.out.below hb7 HBJ.out.lt)
    have HBT7 := Lib.hid (HBT6.out.below hb7 HBT6.out.lt)
    have C8 := Lib.hid (CS.out U _ _ _ _ _ _ _ _ w7 (HT6.out.below hb7) (HU6.out.below hb7) HPL.out)
    obtain ⟨k0, k1, k2, k3, k4, k5, k6, k7⟩ := blk8 HBI7.out
    obtain ⟨j0, j1, j2, j3, j4, j5, j6, j7⟩ := blk8 HBJ7.out
    have e1 : (eb != eb) = false := by simp
    clear hb7 HBI6 HBJ HBT6 HT6 HU6
    go_wp2_with fail
    refine C8.out.mono ?_
    rintro e w8 ⟨rfl, hb8⟩
    have HB8 := Lib.hid (HB7.out.trans (hb8.mono HB7.out.size))
    have HBI8 := Lib.hid (HBI7.out.below hb8 HBI7.out.lt)
    have HBJ8 := Lib.hid (HBJ7.out.below hb8 HBJ7.out.lt)
    have HBT8 := Lib.hid (HBT7.out.below hb8 HBT7.out.lt)
    have C9 := Lib.hid (CE.out _ _ _ _ w8 (HX.out w8 HB8.out))
    clear hb8 C8 k0 k1 k2 k3 k4 k5 k6 k7 j0 j1 j2 j3 j4 j5 j6 j7 HBI7 HBJ7 HBT7
    obtain ⟨k0, k1, k2, k3, k4, k5, k6, k7⟩ := blk8 HBT8.out
    go_wp2_with fail
    refine C9.out.mono ?_
    intro e w9 hp
    obtain ⟨l, Al, nl, cl, fc, hnl, rfl, hb9, ho9⟩ := encp_own hp
    have HB9 := Lib.hid (HB8.out.trans (hb9.mono HB8.out.size))
    have HBI9 := Lib.hid (HBI8.out.below hb9 HBI8.out.lt)
    have HBJ9 := Lib.hid (HBJ8.out.below hb9 HBJ8.out.lt)
    have HNL := Lib.hid hnl
    have HS89 := Lib.hid hb9.size
    clear hp C9 k0 k1 k2 k3 k4 k5 k6 k7 hnl
    by_cases hf : fc = 0
    · subst hf
      have HO9 := Lib.hid (ho9 rfl)
      have HOC := Lib.hid (own_caps HO9.out)
      have C10 := Lib.hid (CL2.out l Al nl cl w9 HNL.out HOC.out.1 (by have := HOC.out.2; unfold maxLen at this; omega) (Reads.of_own HO9.out))
      have HG5S : Hid (G5 < w8.heap.size) := Lib.hid HBI8.out.lt
      have HG7S : Hid (G7 < w8.heap.size) := Lib.hid HBJ8.out.lt
      clear ho9 hb9
      have ncl : (0 : Int) ≤ (nl : Int) := by omega
      go_wp2_with fail
      refine C10.out.mono ?_
      intro e w10 hp
      obtain ⟨T2, uk, ukk, us, uc, ec2, rfl, htf, hb10, hr10⟩ := hp
      have htx := htf.tab
      obtain ⟨D1, D5, rfl, _, _⟩ := htx.keys.slice
      obtain ⟨D2, D6, rfl, _, _⟩ := htx.kinds.slice
      obtain ⟨D3, D7, rfl, _, _⟩ := htx.states.slice
      obtain ⟨D4, D8, rfl, _, _⟩ := htx.codes.slice
      have HBI10 := Lib.hid (HBI9.out.below hb10 HBI9.out.lt)
      have HBJ10 := Lib.hid (HBJ9.out.below hb10 HBJ9.out.lt)
      have HB10 := Lib.hid (HB9.out.trans (hb10.mono HB9.out.size))
      have HO10 := Lib.hid (own_below2 HO9.out hb10)
      have HR10 := Lib.hid hr10
      have HTF := Lib.hid htf
      have HS910 := Lib.hid hb10.size
      have z0 := HBI10.out.frozen 0
      have z1 := HBI10.out.frozen 1
      have z2 := HBI10.out.frozen 2
      have z3 := HBI10.out.frozen 3
      have z4 := HBI10.out.frozen 4
      have z5 := HBI10.out.frozen 5
      have z6 := HBI10.out.frozen 6
      have z7 := HBI10.out.frozen 7
      obtain ⟨y0, y1, y2, y3, y4, y5, y6, y7⟩ := blk8 HBI10.out
      clear C10 hb10 hr10 htf htx
      go_upto_region 11 with fail
      obtain ⟨X, hX⟩ : ∃ X, X = dSet8 w10 G5 (.int .i64 T2.strategy) (.slice D1 T2.keys.length D5) (.slice D2 T2.kinds.length D6) (.int .i64 T2.syms) (.int .i64 T2.runs) (.int .i64 T2.cells) (.slice D3 T2.states.length D7) (.slice D4 T2.codes.length D8) := ⟨_, rfl⟩
      have HBX : Hid (Blk X G5 27 #[.int .i64 T2.strategy, .slice D1 T2.keys.length D5, .slice D2 T2.kinds.length D6, .int .i64 T2.syms, .int .i64 T2.runs, .int .i64 T2.cells, .slice D3 T2.states.length D7, .slice D4 T2.codes.length D8]) := Lib.hid (by rw [hX]; exact dSet8_blk HBI10.out _ _ _ _ _ _ _ _)
      have HBJX : Hid (Blk X G7 27 #[.int .i64 U.strategy, .slice Q1 U.keys.length Q5, .slice Q2 U.kinds.length Q6, .int .i64 U.syms, .int .i64 U.runs, .int .i64 U.cells, .slice Q3 U.states.length Q7, .slice Q4 U.codes.length Q8]) := Lib.hid (by rw [hX]; exact dSet8_far HBJ10.out (by have := HG57.out; omega) _ _ _ _ _ _ _ _)
      have HOX : Hid (X.ownsRow w8.heap.size 5 1 (.slice Al nl cl) nl (bv l)) := Lib.hid (by rw [hX]; exact dSet8_own HO10.out HG5S.out _ _ _ _ _ _ _ _)
      have HTX : Hid (TabF w9.heap.size X T2 _ _ _ _) := Lib.hid (by rw [hX]; exact TabF.keep HTF.out (keepQ_dSet8 (fun b hb => by have := HG5S.out; have := HS89.out; omega) _ _ _ _ _ _ _ _) (Nat.le_refl _))
      have HAX : Hid (Below w.heap.size w X) := Lib.hid (by rw [hX]; exact dSet8_below (HB0.out.trans (HB10.out.mono HB0.out.size)) HG5.out _ _ _ _ _ _ _ _)
      have HSX : Hid (X.heap.size = w10.heap.size) := Lib.hid (by rw [hX]; exact dSet8_size _ _ _ _ _ _ _ _ _ _)
      unfold dSet8 at hX
      rw [← hX]
      clear hX z0 z1 z2 z3 z4 z5 z6 z7 y0 y1 y2 y3 y4 y5 y6 y7 HBI10 HBJ10 HO10 HTF
      have C11 := Lib.hid (CR2.out l Al nl cl X HNL.out HOC.out.1 (by have := HOC.out.2; unfold maxLen at this; omega) (Reads.of_own HOX.out))
      go_wp2_with fail
      refine C11.out.mono ?_
      intro e w12 hp
      obtain ⟨U2, uk, ukk, us, uc, eb2, rfl, htf, hb12, hr12⟩ := hp
      obtain ⟨rfl, rfl, hpl⟩ := loadr_same HR10.out hr12
      have HPL2 := Lib.hid hpl
      have htx := htf.tab
      obtain ⟨E1, E5, rfl, _, _⟩ := htx.keys.slice
      obtain ⟨E2, E6, rfl, _, _⟩ := htx.kinds.slice
      obtain ⟨E3, E7, rfl, _, _⟩ := htx.states.slice
      obtain ⟨E4, E8, rfl, _, _⟩ := htx.codes.slice
      have HBX12 := Lib.hid (HBX.out.below hb12 HBX.out.lt)
      have HBJ12 := Lib.hid (HBJX.out.below hb12 HBJX.out.lt)
      have HA12 := Lib.hid (HAX.out.trans (hb12.mono HAX.out.size))
      have HTX12 := Lib.hid (HTX.out.below hb12)
      have HTF := Lib.hid htf
      have z0 := HBJ12.out.frozen 0
      have z1 := HBJ12.out.frozen 1
      have z2 := HBJ12.out.frozen 2
      have z3 := HBJ12.out.frozen 3
      have z4 := HBJ12.out.frozen 4
      have z5 := HBJ12.out.frozen 5
      have z6 := HBJ12.out.frozen 6
      have z7 := HBJ12.out.frozen 7
      obtain ⟨y0, y1, y2, y3, y4, y5, y6, y7⟩ := blk8 HBJ12.out
      clear C11 hb12 hr12 htf htx hpl HBX HBJX HTX
      go_upto_region 12 with fail
      obtain ⟨Y, hY⟩ : ∃ Y, Y = dSet8 w12 G7 (.int .i64 U2.strategy) (.slice E1 U2.keys.length E5) (.slice E2 U2.kinds.length E6) (.int .i64 U2.syms) (.int .i64 U2.runs) (.int .i64 U2.cells) (.slice E3 U2.states.length E7) (.slice E4 U2.codes.length E8) := ⟨_, rfl⟩
      have HBY : Hid (Blk Y G7 27 #[.int .i64 U2.strategy, .slice E1 U2.keys.length E5, .slice E2 U2.kinds.length E6, .int .i64 U2.syms, .int .i64 U2.runs, .int .i64 U2.cells, .slice E3 U2.states.length E7, .slice E4 U2.codes.length E8]) := Lib.hid (by rw [hY]; exact dSet8_blk HBJ12.out _ _ _ _ _ _ _ _)
      have HBXY : Hid (Blk Y G5 27 #[.int .i64 U2.strategy, .slice D1 U2.keys.length D5, .slice D2 U2.kinds.length D6, .int .i64 U2.syms, .int .i64 U2.runs, .int .i64 U2.cells, .slice D3 U2.states.length D7, .slice D4 U2.codes.length D8]) := Lib.hid (by rw [hY]; exact dSet8_far HBX12.out (by have := HG57.out; omega) _ _ _ _ _ _ _ _)
      have HTY : Hid (TabF w9.heap.size Y U2 _ _ _ _) := Lib.hid (by rw [hY]; exact TabF.keep HTX12.out (keepQ_dSet8 (fun b hb => by have := HG7S.out; have := HS89.out; omega) _ _ _ _ _ _ _ _) (Nat.le_refl _))
      have HUY : Hid (TabF X.heap.size Y U2 _ _ _ _) := Lib.hid (by rw [hY]; exact TabF.keep HTF.out (keepQ_dSet8 (fun b hb => by have := HG7S.out; have := HS89.out; have := HSX.out; have := HS910.out; omega) _ _ _ _ _ _ _ _) (Nat.le_refl _))
      have HAY : Hid (Below w.heap.size w Y) := Lib.hid (by rw [hY]; exact dSet8_below HA12.out (by have := HG5.out; have := HG57.out; omega) _ _ _ _ _ _ _ _)
      unfold dSet8 at hY
      rw [← hY]
      clear hY z0 z1 z2 z3 z4 z5 z6 z7 y0 y1 y2 y3 y4 y5 y6 y7 HBX12 HBJ12 HTX12 HTF
      obtain ⟨k0, k1, k2, k3, k4, k5, k6, k7⟩ := blk8 HBXY.out
      obtain ⟨j0, j1, j2, j3, j4, j5, j6, j7⟩ := blk8 HBY.out
      have C13 := Lib.hid (CS.out U2 _ _ _ _ _ _ _ _ Y HTY.out.tab HUY.out.tab HPL2.out)
      have e2 : (eb2 == eb2) = true := by simp
      go_wp2_with fail
      refine C13.out.mono ?_
      rintro e w13 ⟨rfl, hb13⟩
      have HA13 := Lib.hid (HAY.out.trans (hb13.mono HAY.out.size))
      clear hb13 k0 k1 k2 k3 k4 k5 k6 k7 j0 j1 j2 j3 j4 j5 j6 j7
      go_wp2_with fail
      go_ret
      exact ⟨rfl, HA13.out⟩
    · have e2 : (fc != 0) = true := by simpa using hf
      have HA9 := Lib.hid (HB0.out.trans (HB9.out.mono HB0.out.size))
      clear hf ho9 hb9
      go_wp2_with fail
      go_ret
      exact ⟨rfl, HA9.out⟩

set_option maxRecDepth 100000 in
theorem lifted (os : Os) (started : os.Started) (H : Type) (enc : TypeId × Value → H) (F : Stop.Interp) :
    ReturnsInHanded {} Try.checked os 6 .any ((Rows.OpenSpec.upto Rows.loadLoadsSpec).pre6 enc Try.prog Try.f6 Rows.loadLoadsUptoRow.domain false) (((Rows.OpenSpec.upto Rows.loadLoadsSpec).at F).post enc Try.prog Try.f6 false true false false) := by
  refine returnsInHanded_of_cond (C := Try.checked) (s := Rows.OpenSpec.upto Rows.loadLoadsSpec) (k := Rows.uptoSmall) rfl own started (by kernel_rfl) Try.func6
    (OpenSpec.witness (enc := enc) (C := Try.checked) (s := Rows.OpenSpec.upto Rows.loadLoadsSpec) (k := Rows.uptoSmall) rfl false ⟨#[], #[.slice none 0 0, .agg #[.int .i64 0, .slice none 0 0, .slice none 0 0, .int .i64 0, .int .i64 0, .int .i64 0, .slice none 0 0, .slice none 0 0]], []⟩ 8 (by kernel_rfl) (by kernel_rfl) (by kernel_rfl)
      (x := ([.nil, .agg [.lit (.int .i64 0), .nil, .nil, .lit (.int .i64 0), .lit (.int .i64 0), .lit (.int .i64 0), .nil, .nil]], [], [])) (by kernel_rfl) rfl (by kernel_rfl)) ?_
  intro W base args ds gs before hval0 hW hcnd hk _
  have hval : ∀ (j : Nat) t v, Try.f6.params[j]? = some t → args[j]? = some v → Value.okWide Try.prog W .any base t v := hval0
  have hW' := hW
  obtain ⟨p, q, hA0, hV, rfl, hfz, hnd⟩ := hW
  have hA : DataW.TrodAll enc Try.prog W 0 (fun _ => true) true Try.f6.params.toList args.toList ds p := hA0
  rw [Try.params6] at hA hval
  obtain ⟨v0, vs0, d0, ds0, p0, q0, hargs, rfl, rfl, h0, r0⟩ := trodAll_cons hA
  obtain ⟨v1, vs1, d1, ds1, p1, q1, rfl, rfl, rfl, h1, r1⟩ := trodAll_cons r0
  obtain ⟨rfl, rfl, rfl⟩ := trodAll_nil r1
  obtain rfl : args = #[v0, v1] := by cases args; simp_all
  obtain ⟨rfl, rfl⟩ := trodVars_none hV
  clear hA0 hval0
  have hb : Rows.uptoBulkAll ([d0, d1] ++ []) ≤ 1048576 := of_decide_eq_true hk
  simp only [List.append_nil, Rows.uptoBulkAll] at hb
  obtain ⟨a0, n0, c0, rfl⟩ := okWide_slice Try.underlying47 (hval 0 47 v0 rfl rfl)
  have k0 := h0
  have lt0 : ∀ x ∈ p0, x.block < W.heap.size := by obtain ⟨m, hm⟩ := k0; exact DataW.trod_lt m _ _ _ hm
  obtain ⟨z0, w0, s0⟩ : ∃ zs, InRow .u8 1 W a0 n0 c0 zs ∧ c0 ≤ 1048576 := by
    obtain ⟨fuel, hf⟩ := h0
    rcases open_ints Try.underlying47 Try.underlying5 (by kernel_rfl) hf with ⟨hcs, _⟩ | ⟨x, l, c, zs, hcs, _, hl, hm, hz, hx, hcell, hwz⟩
    · simp [Value.cells] at hcs
      obtain ⟨rfl, rfl, rfl⟩ := hcs
      exact ⟨[], InRow.nil _ _ _, by omega⟩
    · simp [Value.cells] at hcs
      obtain ⟨rfl, rfl, rfl⟩ := hcs
      simp only [Prod.mk.injEq] at hx
      obtain ⟨rfl, rfl⟩ := hx
      simp only [if_true] at hz
      have hs := slice_le (lits IntKind.u8 (List.take n0 zs)) (lits (H := H) IntKind.u8 (List.drop n0 zs))
      simp only [lits, List.length_map, List.length_take, List.length_drop] at hs hb
      exact ⟨zs.take _, InRow.of_open hl hm hz (by omega) hcell hwz (fun y hy => lt0 y hy), by omega⟩
  obtain ⟨A1, rfl, hz1⟩ := okWide_struct Try.underlying27 (hval 1 27 v1 rfl rfl)
  have k1 := h1
  have lt1 : ∀ x ∈ p1, x.block < W.heap.size := by obtain ⟨m, hm⟩ := k1; exact DataW.trod_lt m _ _ _ hm
  obtain ⟨T1, w1, s1⟩ : ∃ T, TabC W A1.toList T ∧ szTab T ≤ 1048576 := by
    obtain ⟨fuel, hf⟩ := h1
    obtain ⟨_, T, hT, hs⟩ := opens_tab fuel A1.toList (d1, p1) (by simpa [Value.cells] using hf) lt1
    exact ⟨T, hT, by have hs : szTab T + 1 ≤ Rows.uptoBulk d1 := hs; omega⟩
  simp only [List.append_nil] at hW'
  refine (walk W a0 n0 c0 z0 w0 s0 A1 T1 w1 s1).mono fun e W' ⟨he, bel⟩ => ?_
  subst he
  exact ⟨_, rfl, _, _, _, [], _, [], hW', trodAll_mk1 (shut_bool Try.underlying4 _), (trodAll_cons_mk (Below.trod laidOut (by kernel_rfl) (of_decide_eq_true (by kernel_rfl)) k0 bel lt0) (trodAll_cons_mk (Below.trod laidOut (by kernel_rfl) (of_decide_eq_true (by kernel_rfl)) k1 bel lt1) trodAll_mk0)), rfl, bel.frame _, fun h => by cases h⟩

theorem proved : Rows.LoadLoadsUptoSaid :=
  OpenClaim.holds_of_cond 6 Try.f6 rfl rfl rfl rfl rfl rfl rfl ⟨rfl, rfl, rfl, rfl, rfl⟩ rfl rfl rfl rfl rfl (by kernel_rfl) Try.func6 (by kernel_rfl)
    (of_decide_eq_true (by kernel_rfl)) (by unfold Func.isWrapper; rw [if_neg (of_decide_eq_false (by kernel_rfl))]; exact ⟨rfl, rfl⟩)
    (fun os started H enc _ F => lifted os started H enc F)
#print axioms proved
end Go.Proofs.Ytioocaicmiggoaa.loadLoads

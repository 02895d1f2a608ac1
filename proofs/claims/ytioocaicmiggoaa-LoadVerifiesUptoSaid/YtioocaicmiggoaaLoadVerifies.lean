/-
  LoadVerifies: for every input of the statement's bulk the Go function answers true, and the input reads as it did. No other condition.
-/
import Derived.Test.YtioocaicmiggoaaRows
import Derived.Test.YtioocaicmiggoaaRow
import Derived.JoinedCond
import Derived.Test.YtioocaicmiggoaaMay
import Derived.Test.YtioocaicmiggoaaSsm
import Derived.Test.YtioocaicmiggoaaLaw
import Derived.Test.YtioocaicmiggoaaVsz
import Derived.Test.YtioocaicmiggoaaTbo
import Derived.Deep.DeepCutAuto
namespace Go.Proofs.Ytioocaicmiggoaa.loadVerifies
open Go.ChangeShapes Go.WideShapes Go.ChangeAt Go.RowKit
open Go.ChangeMaps (open_string shut_string)
set_option linter.unusedVariables false
set_option linter.unusedSimpArgs false

theorem own : ownKnob Try.prog.godebug = none := by kernel_rfl
theorem laidOut : laidOutB Try.prog = true := by kernel_rfl

open Go.Deep
set_option maxRecDepth 100000
set_option maxHeartbeats 8000000 in
/-- the walk: the Go text answers true and writes nothing that was there -/
theorem walk (w : World) (A0 : Array Value) (T0 : TTab) (w0 : TabC w A0.toList T0) (s0 : szTab T0 ≤ 1048576) :
    Calls Try.prog 3 #[.agg A0] w fun e w' => e = .returned (.bool true) ∧ Below w.heap.size w w' := by
  obtain ⟨vk, vkk, vs, vc, rfl, hx⟩ := TabX.of w0
  have hrc := rc_of_sz s0
  have hlp := plain_len s0
  obtain ⟨W1, hW1⟩ : ∃ W1, W1 = w.alloc (.cells #[.int .i64 T0.strategy, vk, vkk, .int .i64 T0.syms, .int .i64 T0.runs, .int .i64 T0.cells, vs, vc] 27) := ⟨_, rfl⟩
  have B0 : Below w.heap.size w W1 := by rw [hW1]; exact (Below.refl w.heap.size w).alloc (Nat.le_refl _) _
  have BT : Blk W1 w.heap.size 27 #[.int .i64 T0.strategy, vk, vkk, .int .i64 T0.syms, .int .i64 T0.runs, .int .i64 T0.cells, vs, vc] := by rw [hW1]; exact Blk.new w _ _
  have X1 := hx.below B0
  have CF := Lib.hid (few_any T0 vk vkk vs vc W1 X1)
  have CA := Lib.hid (fun W => awake_any W)
  have HX := Lib.hid (fun W (hb : Below W1.heap.size W1 W) => X1.below hb)
  have CT := Lib.hid (fun W h => twin_any T0 vk vkk vs vc W h hrc)
  have CV := Lib.hid (fun a b c d W h => verify_any T0 a b c d W h)
  have CM := Lib.hid (fun a b c d W h => may_any T0 a b c d W h s0)
  have CS := Lib.hid (fun a b c d e f g h W h1 h2 => same_any T0 a b c d e f g h W h1 h2 hlp)
  obtain ⟨vt, hvt⟩ : ∃ vt, verT T0 = vt := ⟨_, rfl⟩
  rw [may_same, hvt] at CM
  rw [hvt] at CV
  have HB0 := Lib.hid B0
  have HBT := Lib.hid BT
  obtain ⟨k0, k1, k2, k3, k4, k5, k6, k7⟩ := blk8 BT
  have HW1 := Lib.hid hW1
  clear hx B0 BT X1 w0 s0 hW1 hrc hlp hvt
  go_enter Try.func3, Try.ntmps3
  go_upto_region 1 with fail
  rw [← HW1.out]
  clear HW1
  go_wp2_with fail
  refine CF.out.mono ?_
  rintro e W2 ⟨fb, rfl, hb2⟩
  have HB2 := Lib.hid hb2
  clear k0 k1 k2 k3 k4 k5 k6 k7 CF hb2
  cases fb with
  | false =>
    go_wp2_with fail
    refine (CA.out _).mono ?_
    rintro e W3 ⟨rfl, hb3⟩
    have HB3 := Lib.hid (HB0.out.trans ((HB2.out.trans (hb3.mono HB2.out.size)).mono HB0.out.size))
    clear hb3
    go_wp2_with fail
    go_ret
    exact ⟨rfl, HB3.out⟩
  | true =>
    have HBT2 := Lib.hid (HBT.out.below HB2.out HBT.out.lt)
    obtain ⟨k0, k1, k2, k3, k4, k5, k6, k7⟩ := blk8 HBT2.out
    have C3 := Lib.hid (CT.out W2 (HX.out W2 HB2.out))
    have HB20 := Lib.hid (HB0.out.trans (HB2.out.mono HB0.out.size))
    clear CT
    go_wp2_with fail
    refine C3.out.mono ?_
    rintro e w3 ⟨uk, ukk, us, uc, rfl, htm, hb3⟩
    have htx := htm.tab
    obtain ⟨A1, n1, rfl, _, _⟩ := htx.keys.slice
    obtain ⟨A2, n2, rfl, _, _⟩ := htx.kinds.slice
    obtain ⟨A3, n3, rfl, _, _⟩ := htx.states.slice
    obtain ⟨A4, n4, rfl, _, _⟩ := htx.codes.slice
    have HB3 := Lib.hid (HB20.out.trans (hb3.mono HB20.out.size))
    have HB23 := Lib.hid (HB2.out.trans (hb3.mono HB2.out.size))
    obtain ⟨W4, hW4⟩ : ∃ W, W = w3.alloc (.cells #[.int .i64 T0.strategy, .slice A1 T0.keys.length n1, .slice A2 T0.kinds.length n2, .int .i64 T0.syms, .int .i64 T0.runs, .int .i64 T0.cells, .slice A3 T0.states.length n3, .slice A4 T0.codes.length n4] 27) := ⟨_, rfl⟩
    have ha4 : Below w3.heap.size w3 W4 := by rw [hW4]; exact (Below.refl _ _).alloc (Nat.le_refl _) _
    have HBI : Hid (Blk W4 w3.heap.size 27 #[.int .i64 T0.strategy, .slice A1 T0.keys.length n1, .slice A2 T0.kinds.length n2, .int .i64 T0.syms, .int .i64 T0.runs, .int .i64 T0.cells, .slice A3 T0.states.length n3, .slice A4 T0.codes.length n4]) := Lib.hid (by rw [hW4]; exact Blk.new _ _ _)
    have HT4 := Lib.hid (htx.below ha4)
    have HB4 := Lib.hid (HB3.out.trans (ha4.mono HB3.out.size))
    have HB14 := Lib.hid (HB23.out.trans (ha4.mono HB23.out.size))
    have HBT4 := Lib.hid ((HBT2.out.below hb3 HBT2.out.lt).below ha4 (Nat.lt_of_lt_of_le HBT2.out.lt hb3.size))
    have C5 := Lib.hid (CV.out _ _ _ _ W4 HT4.out)
    clear C3 k0 k1 k2 k3 k4 k5 k6 k7 hb3 htm htx ha4 HB3
    go_upto_region 4 with fail
    rw [← hW4]
    clear hW4
    obtain ⟨k0, k1, k2, k3, k4, k5, k6, k7⟩ := blk8 HBI.out
    go_wp2_with fail
    refine C5.out.mono ?_
    rintro e w5 ⟨rfl, hb5⟩
    have HB5 := Lib.hid (HB4.out.trans (hb5.mono HB4.out.size))
    have HB15 := Lib.hid (HB14.out.trans (hb5.mono HB14.out.size))
    have HT5 := Lib.hid (HT4.out.below hb5)
    have HBT5 := Lib.hid (HBT4.out.below hb5 HBT4.out.lt)
    have HBI5 := Lib.hid (HBI.out.below hb5 HBI.out.lt)
    clear C5 k0 k1 k2 k3 k4 k5 k6 k7 hb5 HT4 HBI HBT4
    obtain ⟨k0, k1, k2, k3, k4, k5, k6, k7⟩ := blk8 HBT5.out
    cases vt
    all_goals (
      go_wp2_with fail
      refine (CA.out _).mono ?_
      rintro e w6 ⟨rfl, hb6⟩
      have HB6 := Lib.hid (HB5.out.trans (hb6.mono HB5.out.size))
      have HB16 := Lib.hid (HB15.out.trans (hb6.mono HB15.out.size))
      have HT6 := Lib.hid (HT5.out.below hb6)
      have HBT6 := Lib.hid (HBT5.out.below hb6 HBT5.out.lt)
      have HBI6 := Lib.hid (HBI5.out.below hb6 HBI5.out.lt)
      clear hb6 k0 k1 k2 k3 k4 k5 k6 k7
      obtain ⟨k0, k1, k2, k3, k4, k5, k6, k7⟩ := blk8 HBT6.out
      go_wp2_with fail
      refine (CM.out _ _ _ _ w6 (HX.out w6 HB16.out)).mono ?_
      rintro e w7 ⟨rfl, hb7⟩
      have HB7 := Lib.hid (HB6.out.trans (hb7.mono HB6.out.size))
      have HB17 := Lib.hid (HB16.out.trans (hb7.mono HB16.out.size))
      have HT7 := Lib.hid (HT6.out.below hb7)
      have HBT7 := Lib.hid (HBT6.out.below hb7 HBT6.out.lt)
      have HBI7 := Lib.hid (HBI6.out.below hb7 HBI6.out.lt)
      clear hb7 k0 k1 k2 k3 k4 k5 k6 k7
      obtain ⟨k0, k1, k2, k3, k4, k5, k6, k7⟩ := blk8 HBT7.out
      obtain ⟨j0, j1, j2, j3, j4, j5, j6, j7⟩ := blk8 HBI7.out
      go_wp2_with fail
      refine (CS.out _ _ _ _ _ _ _ _ w7 HT7.out (HX.out w7 HB17.out)).mono ?_
      rintro e w8 ⟨rfl, hb8⟩
      have HB8 := Lib.hid (HB7.out.trans (hb8.mono HB7.out.size))
      clear hb8 k0 k1 k2 k3 k4 k5 k6 k7 j0 j1 j2 j3 j4 j5 j6 j7
      go_wp2_with fail
      go_ret
      exact ⟨rfl, HB8.out⟩)

set_option maxRecDepth 100000 in
theorem lifted (os : Os) (started : os.Started) (H : Type) (enc : TypeId × Value → H) (F : Stop.Interp) :
    ReturnsInHanded {} Try.checked os 3 .any ((Rows.OpenSpec.upto Rows.loadVerifiesSpec).pre6 enc Try.prog Try.f3 Rows.loadVerifiesUptoRow.domain false) (((Rows.OpenSpec.upto Rows.loadVerifiesSpec).at F).post enc Try.prog Try.f3 false true false false) := by
  refine returnsInHanded_of_cond (C := Try.checked) (s := Rows.OpenSpec.upto Rows.loadVerifiesSpec) (k := Rows.uptoSmall) rfl own started (by kernel_rfl) Try.func3
    (OpenSpec.witness (enc := enc) (C := Try.checked) (s := Rows.OpenSpec.upto Rows.loadVerifiesSpec) (k := Rows.uptoSmall) rfl false ⟨#[], #[.agg #[.int .i64 0, .slice none 0 0, .slice none 0 0, .int .i64 0, .int .i64 0, .int .i64 0, .slice none 0 0, .slice none 0 0]], []⟩ 8 (by kernel_rfl) (by kernel_rfl) (by kernel_rfl)
      (x := ([.agg [.lit (.int .i64 0), .nil, .nil, .lit (.int .i64 0), .lit (.int .i64 0), .lit (.int .i64 0), .nil, .nil]], [], [])) (by kernel_rfl) rfl (by kernel_rfl)) ?_
  intro W base args ds gs before hval0 hW hcnd hk _
  have hval : ∀ (j : Nat) t v, Try.f3.params[j]? = some t → args[j]? = some v → Value.okWide Try.prog W .any base t v := hval0
  have hW' := hW
  obtain ⟨p, q, hA0, hV, rfl, hfz, hnd⟩ := hW
  have hA : DataW.TrodAll enc Try.prog W 0 (fun _ => true) true Try.f3.params.toList args.toList ds p := hA0
  rw [Try.params3] at hA hval
  obtain ⟨v0, vs0, d0, ds0, p0, q0, hargs, rfl, rfl, h0, r0⟩ := trodAll_cons hA
  obtain ⟨rfl, rfl, rfl⟩ := trodAll_nil r0
  obtain rfl : args = #[v0] := by cases args; simp_all
  obtain ⟨rfl, rfl⟩ := trodVars_none hV
  clear hA0 hval0
  have hb : Rows.uptoBulkAll ([d0] ++ []) ≤ 1048576 := of_decide_eq_true hk
  simp only [List.append_nil, Rows.uptoBulkAll] at hb
  obtain ⟨A0, rfl, hz0⟩ := okWide_struct Try.underlying27 (hval 0 27 v0 rfl rfl)
  have k0 := h0
  have lt0 : ∀ x ∈ p0, x.block < W.heap.size := by obtain ⟨m, hm⟩ := k0; exact DataW.trod_lt m _ _ _ hm
  obtain ⟨T0, w0, s0⟩ : ∃ T, TabC W A0.toList T ∧ szTab T ≤ 1048576 := by
    obtain ⟨fuel, hf⟩ := h0
    obtain ⟨_, T, hT, hs⟩ := opens_tab fuel A0.toList (d0, p0) (by simpa [Value.cells] using hf) lt0
    exact ⟨T, hT, by have hs : szTab T + 1 ≤ Rows.uptoBulk d0 := hs; omega⟩
  simp only [List.append_nil] at hW'
  refine (walk W A0 T0 w0 s0).mono fun e W' ⟨he, bel⟩ => ?_
  subst he
  exact ⟨_, rfl, _, _, _, [], _, [], hW', trodAll_mk1 (shut_bool Try.underlying4 _), (trodAll_cons_mk (Below.trod laidOut (by kernel_rfl) (of_decide_eq_true (by kernel_rfl)) k0 bel lt0) trodAll_mk0), rfl, bel.frame _, fun h => by cases h⟩

theorem proved : Rows.LoadVerifiesUptoSaid :=
  OpenClaim.holds_of_cond 3 Try.f3 rfl rfl rfl rfl rfl rfl rfl ⟨rfl, rfl, rfl, rfl, rfl⟩ rfl rfl rfl rfl rfl (by kernel_rfl) Try.func3 (by kernel_rfl)
    (of_decide_eq_true (by kernel_rfl)) (by unfold Func.isWrapper; rw [if_neg (of_decide_eq_false (by kernel_rfl))]; exact ⟨rfl, rfl⟩)
    (fun os started H enc _ F => lifted os started H enc F)
#print axioms proved
end Go.Proofs.Ytioocaicmiggoaa.loadVerifies

import Derived.Test.YtmikopnfdldgnaaRows
import Derived.Test.YtmikopnfdldgnaaMath
import Derived.WalkKit
import Derived.WalkSpells
import Derived.WalkLawsBesides
import Derived.ProofKit
import Derived.Lib.Hide
namespace Go.Proofs.Ytmikopnfdldgnaa
set_option linter.unusedVariables false
set_option linter.unusedSimpArgs false
open Go.RowKit

theorem ret_int {k : IntKind} {a b : Int} (h : a = b) : Ending.returned (.int k a) = .returned (.int k b) := by rw [h]
theorem ret_bool {a b : Bool} (h : a = b) : Ending.returned (.bool a) = .returned (.bool b) := by rw [h]
theorem ret_f64 {a b : Nat} (h : a = b) : Ending.returned (.float .f64 a) = .returned (.float .f64 b) := by rw [h]

set_option maxHeartbeats 400000 in
theorem canon_any (a : Int) (w : World) (h0 : 0 ≤ a) (h1 : a ≤ 18446744073709551615) :
    Calls Try.prog 17 #[.int .u64 a] w fun e w' => e = .returned (.int .u64 (canon a)) ∧ w = w' := by
  go_enter Try.func17, Try.ntmps17
  go_wp2
  · go_ret
    exact ⟨ret_int (canon_nan (isNan_of (by assumption) h0 h1)).symm, rfl⟩
  · go_ret
    exact ⟨ret_int (canon_num (notNan_of (by assumption) h0 h1)).symm, rfl⟩

set_option maxHeartbeats 400000 in
theorem isNan_any (a : Int) (w : World) (h0 : 0 ≤ a) (h1 : a ≤ 18446744073709551615) :
    Calls Try.prog 46 #[.int .u64 a] w fun e w' => e = .returned (.bool (isNan a)) ∧ w = w' := by
  have h := Lib.hid (isNan_ref h0 h1)
  by_cases c1 : (bits BinOp.and IntKind.u64 (a / 4503599627370496) 2047 == 2047) = true
  all_goals
    go_enter Try.func46, Try.ntmps46
    go_wp2
    go_ret
    exact ⟨ret_bool (by rw [h.out]; simp [c1]), rfl⟩

theorem isNan_yes (a : Int) (w : World) (h0 : 0 ≤ a) (h1 : a ≤ 18446744073709551615) (h : isNan a = true) :
    Calls Try.prog 46 #[.int .u64 a] w fun e w' => e = .returned (.bool true) ∧ w = w' :=
  (isNan_any a w h0 h1).mono fun _ _ ⟨he, hw⟩ => ⟨he.trans (ret_bool h), hw⟩
theorem isNan_no (a : Int) (w : World) (h0 : 0 ≤ a) (h1 : a ≤ 18446744073709551615) (h : isNan a = false) :
    Calls Try.prog 46 #[.int .u64 a] w fun e w' => e = .returned (.bool false) ∧ w = w' :=
  (isNan_any a w h0 h1).mono fun _ _ ⟨he, hw⟩ => ⟨he.trans (ret_bool h), hw⟩

set_option maxHeartbeats 400000 in
theorem rcanon_any (a : Int) (w : World) (h0 : 0 ≤ a) (h1 : a ≤ 18446744073709551615) :
    Calls Try.prog 18 #[.int .u64 a] w fun e w' => e = .returned (.int .u64 (canon a)) ∧ w = w' := by
  cases hn : isNan a
  · have H := Lib.hid hn; clear hn
    go_enter Try.func18, Try.ntmps18
    go_wp2_with (go_at_call 46; refine (isNan_no _ _ (by omega) (by omega) H.out).mono ?_; rintro e w' ⟨rfl, rfl⟩)
    go_ret
    exact ⟨ret_int (canon_num H.out).symm, rfl⟩
  · have H := Lib.hid hn; clear hn
    go_enter Try.func18, Try.ntmps18
    go_wp2_with (go_at_call 46; refine (isNan_yes _ _ (by omega) (by omega) H.out).mono ?_; rintro e w' ⟨rfl, rfl⟩)
    go_ret
    exact ⟨ret_int (canon_nan H.out).symm, rfl⟩


theorem frombits_run (a : Int) (w : World) : (callFunc 52 #[.int .u64 a]).run Try.prog w = .ok (.value (.float .f64 a.toNat)) w := by
  rw [run_callFunc_extern (e := Extern.MathFloatBits.float64frombits) Try.func52 (by kernel_rfl) (by kernel_rfl) (by kernel_rfl) (by kernel_rfl)]
  rfl
theorem tobits_run (a : Nat) (w : World) : (callFunc 50 #[.float .f64 a]).run Try.prog w = .ok (.value (.int .u64 a)) w := by
  rw [run_callFunc_extern (e := Extern.MathFloatBits.float64bits) Try.func50 (by kernel_rfl) (by kernel_rfl) (by kernel_rfl) (by kernel_rfl)]
  rfl

set_option maxHeartbeats 400000 in
theorem of_any (a : Int) (w : World) (h0 : 0 ≤ a) (h1 : a ≤ 18446744073709551615) :
    Calls Try.prog 48 #[.int .u64 a] w fun e w' => e = .returned (.float .f64 (canon a).toNat) ∧ w = w' := by
  have hx := frombits_run
  have hy := tobits_run
  go_enter Try.func48, Try.ntmps48
  go_wp2_with (go_at_call 17; refine (canon_any _ _ (by omega) (by omega)).mono ?_; rintro e w' ⟨rfl, rfl⟩)
  go_ret
  exact ⟨rfl, rfl⟩

set_option maxHeartbeats 400000 in
theorem to_any (a : Nat) (w : World) (h1 : a ≤ 18446744073709551615) :
    Calls Try.prog 47 #[.float .f64 a] w fun e w' => e = .returned (.int .u64 (canon a)) ∧ w = w' := by
  have hx := frombits_run
  have hy := tobits_run
  go_enter Try.func47, Try.ntmps47
  go_wp2_with (go_at_call 17; refine (canon_any _ _ (by omega) (by omega)).mono ?_; rintro e w' ⟨rfl, rfl⟩)
  go_ret
  exact ⟨rfl, rfl⟩



set_option maxHeartbeats 400000 in
theorem add_any (a b : Int) (w : World) (h0 : 0 ≤ a) (h1 : a ≤ 18446744073709551615) (h2 : 0 ≤ b) (h3 : b ≤ 18446744073709551615) :
    Calls Try.prog 25 #[.int .u64 a, .int .u64 b] w fun e w' => e = .returned (.int .u64 (fop .add a b)) ∧ ∃ n, w' = w.drewN n := by
  obtain ⟨r, n, hb, hr, H⟩ := run_float_any (P := Try.prog) .add (by simp) a b w
  go_enter Try.func25, Try.ntmps25
  go_wp2_with (first | (go_at_call 48; refine (of_any _ _ (by omega) (by omega)).mono ?_; rintro e w' ⟨rfl, rfl⟩) | (go_at_call 47; refine (to_any _ _ (by omega)).mono ?_; rintro e w' ⟨rfl, rfl⟩))
  go_ret
  exact ⟨ret_int H.out, n, rfl⟩

set_option maxHeartbeats 400000 in
theorem sub_any (a b : Int) (w : World) (h0 : 0 ≤ a) (h1 : a ≤ 18446744073709551615) (h2 : 0 ≤ b) (h3 : b ≤ 18446744073709551615) :
    Calls Try.prog 27 #[.int .u64 a, .int .u64 b] w fun e w' => e = .returned (.int .u64 (fop .sub a b)) ∧ ∃ n, w' = w.drewN n := by
  obtain ⟨r, n, hb, hr, H⟩ := run_float_any (P := Try.prog) .sub (by simp) a b w
  go_enter Try.func27, Try.ntmps27
  go_wp2_with (first | (go_at_call 48; refine (of_any _ _ (by omega) (by omega)).mono ?_; rintro e w' ⟨rfl, rfl⟩) | (go_at_call 47; refine (to_any _ _ (by omega)).mono ?_; rintro e w' ⟨rfl, rfl⟩))
  go_ret
  exact ⟨ret_int H.out, n, rfl⟩

set_option maxHeartbeats 400000 in
theorem mul_any (a b : Int) (w : World) (h0 : 0 ≤ a) (h1 : a ≤ 18446744073709551615) (h2 : 0 ≤ b) (h3 : b ≤ 18446744073709551615) :
    Calls Try.prog 28 #[.int .u64 a, .int .u64 b] w fun e w' => e = .returned (.int .u64 (fop .mul a b)) ∧ ∃ n, w' = w.drewN n := by
  obtain ⟨r, n, hb, hr, H⟩ := run_float_any (P := Try.prog) .mul (by simp) a b w
  go_enter Try.func28, Try.ntmps28
  go_wp2_with (first | (go_at_call 48; refine (of_any _ _ (by omega) (by omega)).mono ?_; rintro e w' ⟨rfl, rfl⟩) | (go_at_call 47; refine (to_any _ _ (by omega)).mono ?_; rintro e w' ⟨rfl, rfl⟩))
  go_ret
  exact ⟨ret_int H.out, n, rfl⟩

set_option maxHeartbeats 400000 in
theorem div_any (a b : Int) (w : World) (h0 : 0 ≤ a) (h1 : a ≤ 18446744073709551615) (h2 : 0 ≤ b) (h3 : b ≤ 18446744073709551615) :
    Calls Try.prog 29 #[.int .u64 a, .int .u64 b] w fun e w' => e = .returned (.int .u64 (fop .quo a b)) ∧ ∃ n, w' = w.drewN n := by
  obtain ⟨r, n, hb, hr, H⟩ := run_float_any (P := Try.prog) .quo (by simp) a b w
  go_enter Try.func29, Try.ntmps29
  go_wp2_with (first | (go_at_call 48; refine (of_any _ _ (by omega) (by omega)).mono ?_; rintro e w' ⟨rfl, rfl⟩) | (go_at_call 47; refine (to_any _ _ (by omega)).mono ?_; rintro e w' ⟨rfl, rfl⟩))
  go_ret
  exact ⟨ret_int H.out, n, rfl⟩

set_option maxHeartbeats 400000 in
theorem float_any (a : Int) (w : World) (h0 : 0 ≤ a) (h1 : a ≤ 18446744073709551615) :
    Calls Try.prog 49 #[.int .u64 a] w fun e w' => e = .returned (.float .f64 (canon a).toNat) ∧ w = w' := by
  have hx := frombits_run
  go_enter Try.func49, Try.ntmps49
  go_wp2_with (go_at_call 18; refine (rcanon_any _ _ (by omega) (by omega)).mono ?_; rintro e w' ⟨rfl, rfl⟩)
  go_ret
  exact ⟨rfl, rfl⟩

set_option maxHeartbeats 400000 in
theorem do1_any (a b : Int) (w : World) (h0 : 0 ≤ a) (h1 : a ≤ 18446744073709551615) (h2 : 0 ≤ b) (h3 : b ≤ 18446744073709551615) :
    Calls Try.prog 26 #[.int .i64 1, .int .u64 a, .int .u64 b] w fun e w' => e = .returned (.int .u64 (fop .add a b)) ∧ ∃ n, w' = w.drewN n := by
  obtain ⟨r, n, hb, hr, H⟩ := run_float_any (P := Try.prog) .add (by simp) a b w
  have hy := tobits_run
  go_enter Try.func26, Try.ntmps26
  go_wp2_with (first | (go_at_call 49; refine (float_any _ _ (by omega) (by omega)).mono ?_; rintro e w' ⟨rfl, rfl⟩) | (go_at_call 18; refine (rcanon_any _ _ (by omega) (by omega)).mono ?_; rintro e w' ⟨rfl, rfl⟩))
  go_ret
  exact ⟨ret_int H.out, n, rfl⟩

set_option maxHeartbeats 400000 in
theorem do2_any (a b : Int) (w : World) (h0 : 0 ≤ a) (h1 : a ≤ 18446744073709551615) (h2 : 0 ≤ b) (h3 : b ≤ 18446744073709551615) :
    Calls Try.prog 26 #[.int .i64 2, .int .u64 a, .int .u64 b] w fun e w' => e = .returned (.int .u64 (fop .sub a b)) ∧ ∃ n, w' = w.drewN n := by
  obtain ⟨r, n, hb, hr, H⟩ := run_float_any (P := Try.prog) .add (by simp) a b w
  obtain ⟨r2, n2, hb2, hr2, H2⟩ := run_float_any (P := Try.prog) .sub (by simp) a b (w.drewN n)
  have hy := tobits_run
  go_enter Try.func26, Try.ntmps26
  go_wp2_with (first | (go_at_call 49; refine (float_any _ _ (by omega) (by omega)).mono ?_; rintro e w' ⟨rfl, rfl⟩) | (go_at_call 18; refine (rcanon_any _ _ (by omega) (by omega)).mono ?_; rintro e w' ⟨rfl, rfl⟩))
  go_ret
  exact ⟨ret_int H2.out, n + n2, by simp⟩

set_option maxHeartbeats 400000 in
theorem do3_any (a b : Int) (w : World) (h0 : 0 ≤ a) (h1 : a ≤ 18446744073709551615) (h2 : 0 ≤ b) (h3 : b ≤ 18446744073709551615) :
    Calls Try.prog 26 #[.int .i64 3, .int .u64 a, .int .u64 b] w fun e w' => e = .returned (.int .u64 (fop .mul a b)) ∧ ∃ n, w' = w.drewN n := by
  obtain ⟨r, n, hb, hr, H⟩ := run_float_any (P := Try.prog) .add (by simp) a b w
  obtain ⟨r2, n2, hb2, hr2, H2⟩ := run_float_any (P := Try.prog) .mul (by simp) a b (w.drewN n)
  have hy := tobits_run
  go_enter Try.func26, Try.ntmps26
  go_wp2_with (first | (go_at_call 49; refine (float_any _ _ (by omega) (by omega)).mono ?_; rintro e w' ⟨rfl, rfl⟩) | (go_at_call 18; refine (rcanon_any _ _ (by omega) (by omega)).mono ?_; rintro e w' ⟨rfl, rfl⟩))
  go_ret
  exact ⟨ret_int H2.out, n + n2, by simp⟩

set_option maxHeartbeats 400000 in
theorem do4_any (a b : Int) (w : World) (h0 : 0 ≤ a) (h1 : a ≤ 18446744073709551615) (h2 : 0 ≤ b) (h3 : b ≤ 18446744073709551615) :
    Calls Try.prog 26 #[.int .i64 4, .int .u64 a, .int .u64 b] w fun e w' => e = .returned (.int .u64 (fop .quo a b)) ∧ ∃ n, w' = w.drewN n := by
  obtain ⟨r, n, hb, hr, H⟩ := run_float_any (P := Try.prog) .add (by simp) a b w
  obtain ⟨r2, n2, hb2, hr2, H2⟩ := run_float_any (P := Try.prog) .quo (by simp) a b (w.drewN n)
  have hy := tobits_run
  go_enter Try.func26, Try.ntmps26
  go_wp2_with (first | (go_at_call 49; refine (float_any _ _ (by omega) (by omega)).mono ?_; rintro e w' ⟨rfl, rfl⟩) | (go_at_call 18; refine (rcanon_any _ _ (by omega) (by omega)).mono ?_; rintro e w' ⟨rfl, rfl⟩))
  go_ret
  exact ⟨ret_int H2.out, n + n2, by simp⟩
end Go.Proofs.Ytmikopnfdldgnaa

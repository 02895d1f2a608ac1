import Derived.Test.YtmikopnfdldgnaaArith
import Derived.Test.YtmikopnfdldgnaaCmp
import Derived.Deep.RegionWith
namespace Go.Proofs.Ytmikopnfdldgnaa
set_option linter.unusedVariables false
set_option linter.unusedSimpArgs false
open Go.RowKit

theorem isNan_is (a : Int) (v : Bool) (w : World) (h0 : 0 ≤ a) (h1 : a ≤ 18446744073709551615) (h : isNan a = v) :
    Calls Try.prog 46 #[.int .u64 a] w fun e w' => e = .returned (.bool v) ∧ w = w' :=
  (isNan_any a w h0 h1).mono fun _ _ ⟨he, hw⟩ => ⟨he.trans (ret_bool h), hw⟩

set_option maxHeartbeats 400000 in
theorem equal_any (a b : Int) (w : World) (h0 : 0 ≤ a) (h1 : a ≤ 18446744073709551615) (h2 : 0 ≤ b) (h3 : b ≤ 18446744073709551615) :
    Calls Try.prog 21 #[.int .u64 a, .int .u64 b] w fun e w' => e = .returned (.bool (feq a b)) ∧ w = w' := by
  go_enter Try.func21, Try.ntmps21
  go_wp2_with (go_at_call 48; refine (of_any _ _ (by omega) (by omega)).mono ?_; rintro e w' ⟨rfl, rfl⟩)
  go_ret
  exact ⟨rfl, rfl⟩

set_option maxHeartbeats 400000 in
theorem less_any (a b : Int) (w : World) (h0 : 0 ≤ a) (h1 : a ≤ 18446744073709551615) (h2 : 0 ≤ b) (h3 : b ≤ 18446744073709551615) :
    Calls Try.prog 23 #[.int .u64 a, .int .u64 b] w fun e w' => e = .returned (.bool (flt a b)) ∧ w = w' := by
  go_enter Try.func23, Try.ntmps23
  go_wp2_with (go_at_call 48; refine (of_any _ _ (by omega) (by omega)).mono ?_; rintro e w' ⟨rfl, rfl⟩)
  go_ret
  exact ⟨rfl, rfl⟩

set_option maxHeartbeats 400000 in
theorem nought_any (a : Int) (w : World) :
    Calls Try.prog 38 #[.int .u64 a] w fun e w' => e = .returned (.bool (nought a)) ∧ w = w' := by
  go_enter Try.func38, Try.ntmps38
  go_wp2
  all_goals (go_ret; exact ⟨ret_bool (by unfold nought; rw [Bool.eq_iff_iff]; simp; try omega), rfl⟩)

set_option maxHeartbeats 400000 in
theorem requal_any (a b : Int) (w : World) (h0 : 0 ≤ a) (h1 : a ≤ 18446744073709551615) (h2 : 0 ≤ b) (h3 : b ≤ 18446744073709551615) :
    Calls Try.prog 22 #[.int .u64 a, .int .u64 b] w fun e w' => e = .returned (.bool (feq a b)) ∧ w = w' := by
  have H := Lib.hid (feq_eq a b h0 h1 h2 h3)
  have H2 := Lib.hid (sg_eq a b h0 h2)
  cases na : isNan a <;> cases nb : isNan b
  all_goals
    have A := Lib.hid na
    have B := Lib.hid nb
    clear na nb
    go_enter Try.func22, Try.ntmps22
    go_wp2_with (first | (go_at_call_of 46 a; refine (isNan_is a _ _ h0 h1 A.out).mono ?_; rintro e w' ⟨rfl, rfl⟩) | (go_at_call_of 46 b; refine (isNan_is b _ _ h2 h3 B.out).mono ?_; rintro e w' ⟨rfl, rfl⟩) | (go_at_call 38; refine (nought_any _ _).mono ?_; rintro e w' ⟨rfl, rfl⟩))
    all_goals (go_ret; exact ⟨ret_bool (by rw [H.out, H2.out, A.out, B.out]; simp_all), rfl⟩)

set_option maxHeartbeats 400000 in
theorem rank_any (a : Int) (w : World) (h0 : 0 ≤ a) (h1 : a ≤ 18446744073709551615) :
    Calls Try.prog 51 #[.int .u64 a] w fun e w' => e = .returned (.int .u64 (rank a)) ∧ w = w' := by
  have c0 := canon_lo a h0
  have c1 := canon_hi a h1
  go_enter Try.func51, Try.ntmps51
  go_wp2_with (go_at_call 17; refine (canon_any _ _ (by omega) (by omega)).mono ?_; rintro e w' ⟨rfl, rfl⟩)
  all_goals go_ret
  · exact ⟨ret_int (by rw [not_u64 _ c0 c1]; unfold rank; rw [if_pos (by omega)]), rfl⟩
  · exact ⟨ret_int (by rw [or_sign _ c0 (by omega)]; unfold rank; rw [if_neg (by omega)]), rfl⟩

set_option maxHeartbeats 400000 in
theorem order_any (a b : Int) (w : World) (h0 : 0 ≤ a) (h1 : a ≤ 18446744073709551615) (h2 : 0 ≤ b) (h3 : b ≤ 18446744073709551615) :
    Calls Try.prog 36 #[.int .u64 a, .int .u64 b] w fun e w' => e = .returned (.int .i64 (ord a b)) ∧ w = w' := by
  go_enter Try.func36, Try.ntmps36
  go_wp2_with (go_at_call 51; refine (rank_any _ _ (by omega) (by omega)).mono ?_; rintro e w' ⟨rfl, rfl⟩)
  all_goals go_ret
  · exact ⟨ret_int (by unfold ord; rw [if_pos (by assumption)]), rfl⟩
  · exact ⟨ret_int (by unfold ord; rw [if_neg (by omega), if_pos (by assumption)]), rfl⟩
  · exact ⟨ret_int (by unfold ord; rw [if_neg (by omega), if_neg (by omega)]), rfl⟩

set_option maxHeartbeats 400000 in
theorem rorder_any (a b : Int) (w : World) (h0 : 0 ≤ a) (h1 : a ≤ 18446744073709551615) (h2 : 0 ≤ b) (h3 : b ≤ 18446744073709551615) :
    Calls Try.prog 37 #[.int .u64 a, .int .u64 b] w fun e w' => e = .returned (.int .i64 (ord a b)) ∧ w = w' := by
  have c0 := canon_lo a h0
  have c1 := canon_hi a h1
  have c2 := canon_lo b h2
  have c3 := canon_hi b h3
  go_enter Try.func37, Try.ntmps37
  go_wp2_with (go_at_call 18; refine (rcanon_any _ _ (by omega) (by omega)).mono ?_; rintro e w' ⟨rfl, rfl⟩)
  all_goals go_ret
  all_goals exact ⟨ret_int (by have n : canon a = canon b ∨ ¬ canon a = canon b := Classical.em _; simp only [beq_iff_eq, beq_eq_false_iff_ne] at *; unfold ord rank; split <;> (try split) <;> (try split) <;> omega), rfl⟩

set_option maxHeartbeats 400000 in
theorem neg_any (a : Int) (w : World) (h0 : 0 ≤ a) (h1 : a ≤ 18446744073709551615) :
    Calls Try.prog 30 #[.int .u64 a] w fun e w' => e = .returned (.int .u64 (neg a)) ∧ w = w' := by
  have c0 := canon_lo a h0
  have c1 := canon_hi a h1
  have X : bits BinOp.xor IntKind.u64 (canon a) 9223372036854775808 = flip a := (xor_sign _ c0 c1).trans rfl
  have F := flip_range a h0 h1
  go_enter Try.func30, Try.ntmps30
  go_wp2_with (first | (go_at_call_of 17 (flip a); refine (canon_any _ _ F.1 F.2).mono ?_; rintro e w' ⟨rfl, rfl⟩) | (go_at_call_of 17 a; refine (canon_any _ _ h0 h1).mono ?_; rintro e w' ⟨rfl, rfl⟩))
  go_ret
  exact ⟨rfl, rfl⟩

set_option maxHeartbeats 400000 in
theorem rneg_any (a : Int) (w : World) (h0 : 0 ≤ a) (h1 : a ≤ 18446744073709551615) :
    Calls Try.prog 31 #[.int .u64 a] w fun e w' => e = .returned (.int .u64 (neg a)) ∧ w = w' := by
  cases na : isNan a
  · have A := Lib.hid na
    have N := Lib.hid (neg_num h0 h1 na)
    clear na
    go_enter Try.func31, Try.ntmps31
    go_wp2_with (go_at_call 46; refine (isNan_is a _ _ h0 h1 A.out).mono ?_; rintro e w' ⟨rfl, rfl⟩)
    · go_ret
      exact ⟨ret_int (by rw [N.out, if_pos (by omega)]), rfl⟩
    · go_ret
      exact ⟨ret_int (by rw [N.out, if_neg (by omega)]), rfl⟩
  · have A := Lib.hid na
    have N := Lib.hid (neg_nan na)
    clear na
    go_enter Try.func31, Try.ntmps31
    go_wp2_with (go_at_call 46; refine (isNan_is a _ _ h0 h1 A.out).mono ?_; rintro e w' ⟨rfl, rfl⟩)
    go_ret
    exact ⟨ret_int N.out.symm, rfl⟩
end Go.Proofs.Ytmikopnfdldgnaa

import Derived.Test.YtmikopnfdldgnaaComp
namespace Go.Proofs.Ytmikopnfdldgnaa
set_option linter.unusedVariables false
set_option linter.unusedSimpArgs false
open Go.RowKit

set_option maxHeartbeats 400000 in
theorem rless_any (a b : Int) (w : World) (h0 : 0 ≤ a) (h1 : a ≤ 18446744073709551615) (h2 : 0 ≤ b) (h3 : b ≤ 18446744073709551615) :
    Calls Try.prog 24 #[.int .u64 a, .int .u64 b] w fun e w' => e = .returned (.bool (flt a b)) ∧ w = w' := by
  have H := Lib.hid (flt_eq a b h0 h1 h2 h3)
  have E := Lib.hid (feq_eq a b h0 h1 h2 h3)
  have S := Lib.hid (sg_eq a b h0 h2)
  have L := Lib.hid (sg_lt a b h0 h1 h2 h3)
  cases na : isNan a <;> cases nb : isNan b
  all_goals
    have A := Lib.hid na
    have B := Lib.hid nb
    clear na nb
    go_enter Try.func24, Try.ntmps24
    go_wp2_with (first | (go_at_call_of 46 a; refine (isNan_is a _ _ h0 h1 A.out).mono ?_; rintro e w' ⟨rfl, rfl⟩) | (go_at_call_of 46 b; refine (isNan_is b _ _ h2 h3 B.out).mono ?_; rintro e w' ⟨rfl, rfl⟩) | (go_at_call 22; refine (requal_any _ _ _ h0 h1 h2 h3).mono ?_; rintro e w' ⟨rfl, rfl⟩) | (go_at_call 37; refine (rorder_any _ _ _ h0 h1 h2 h3).mono ?_; rintro e w' ⟨rfl, rfl⟩))
    all_goals go_ret
    all_goals exact ⟨ret_bool (by first | exact (flt_nan a b (Or.inl A.out)).1.symm | exact (flt_nan a b (Or.inr B.out)).1.symm | exact (flt_of_feq a b h0 h1 h2 h3 (by assumption)).symm | exact (flt_of_not a b h0 h1 h2 h3 A.out B.out (by assumption)).symm), rfl⟩

set_option maxHeartbeats 400000 in
theorem min_any (a b : Int) (w : World) (h0 : 0 ≤ a) (h1 : a ≤ 18446744073709551615) (h2 : 0 ≤ b) (h3 : b ≤ 18446744073709551615) :
    Calls Try.prog 43 #[.int .u64 a, .int .u64 b] w fun e w' => e = .returned (.int .u64 (pick a b false)) ∧ w = w' := by
  have c0 := canon_lo a h0
  have c1 := canon_hi a h1
  have c2 := canon_lo b h2
  have c3 := canon_hi b h3
  go_enter Try.func43, Try.ntmps43
  go_wp2_with (first | (go_at_call 17; refine (canon_any _ _ (by omega) (by omega)).mono ?_; rintro e w' ⟨rfl, rfl⟩) | (go_at_call 36; refine (order_any _ _ _ (by omega) (by omega) (by omega) (by omega)).mono ?_; rintro e w' ⟨rfl, rfl⟩))
  all_goals go_ret
  · exact ⟨ret_int (min_nan1 a b h0 h1 (by assumption)).symm, rfl⟩
  · exact ⟨ret_int (min_nan2 a b h0 h1 h2 h3 (by assumption)).symm, rfl⟩
  · exact ⟨ret_int (min_a a b h0 h1 h2 h3 (by assumption) (by assumption)).symm, rfl⟩
  · exact ⟨ret_int (min_b a b h0 h1 h2 h3 (by assumption) (by assumption)).symm, rfl⟩

set_option maxHeartbeats 400000 in
theorem max_any (a b : Int) (w : World) (h0 : 0 ≤ a) (h1 : a ≤ 18446744073709551615) (h2 : 0 ≤ b) (h3 : b ≤ 18446744073709551615) :
    Calls Try.prog 45 #[.int .u64 a, .int .u64 b] w fun e w' => e = .returned (.int .u64 (pick a b true)) ∧ w = w' := by
  have c0 := canon_lo a h0
  have c1 := canon_hi a h1
  have c2 := canon_lo b h2
  have c3 := canon_hi b h3
  go_enter Try.func45, Try.ntmps45
  go_wp2_with (first | (go_at_call 17; refine (canon_any _ _ (by omega) (by omega)).mono ?_; rintro e w' ⟨rfl, rfl⟩) | (go_at_call 36; refine (order_any _ _ _ (by omega) (by omega) (by omega) (by omega)).mono ?_; rintro e w' ⟨rfl, rfl⟩))
  all_goals go_ret
  · exact ⟨ret_int (max_a a b h0 h1 h2 h3 (by assumption)).symm, rfl⟩
  · exact ⟨ret_int (max_b a b h0 h1 h2 h3 (by assumption)).symm, rfl⟩

set_option maxHeartbeats 400000 in
theorem pick_any (a b : Int) (l : Bool) (w : World) (h0 : 0 ≤ a) (h1 : a ≤ 18446744073709551615) (h2 : 0 ≤ b) (h3 : b ≤ 18446744073709551615) :
    Calls Try.prog 44 #[.int .u64 a, .int .u64 b, .bool l] w fun e w' => e = .returned (.int .u64 (pick a b l)) ∧ w = w' := by
  cases na : isNan a <;> cases nb : isNan b
  all_goals
    have A := Lib.hid na
    have B := Lib.hid nb
    clear na nb
    go_enter Try.func44, Try.ntmps44
    go_wp2_with (first | (go_at_call_of 46 a; refine (isNan_is a _ _ h0 h1 A.out).mono ?_; rintro e w' ⟨rfl, rfl⟩) | (go_at_call_of 46 b; refine (isNan_is b _ _ h2 h3 B.out).mono ?_; rintro e w' ⟨rfl, rfl⟩) | (go_at_call 37; refine (rorder_any _ _ _ h0 h1 h2 h3).mono ?_; rintro e w' ⟨rfl, rfl⟩))
    all_goals go_ret
    all_goals exact ⟨ret_int (by first | exact (pick_nan a b _ (Or.inl A.out)).symm | exact (pick_nan a b _ (Or.inr B.out)).symm | exact (pick_b a b l A.out B.out (by assumption)).symm | exact (pick_a a b l A.out B.out (by assumption)).symm), rfl⟩

theorem bd_u64 {a : Int} (h : (Lit.int .u64 a).wf = true) : 0 ≤ a ∧ a ≤ 18446744073709551615 := by
  simpa [Lit.wf, IntKind.min, IntKind.max, IntKind.bits, IntKind.signed] using h
theorem bd_i64 {a : Int} (h : (Lit.int .i64 a).wf = true) : -9223372036854775808 ≤ a ∧ a ≤ 9223372036854775807 := by
  simpa [Lit.wf, IntKind.min, IntKind.max, IntKind.bits, IntKind.signed] using h
theorem grown_drewN (w : World) (n : Nat) : Grown w (w.drewN n) := Grown.refl w

set_option maxHeartbeats 400000 in
theorem equal_c (a b : Int) (v : Bool) (w : World) (h0 : 0 ≤ a) (h1 : a ≤ 18446744073709551615) (h2 : 0 ≤ b) (h3 : b ≤ 18446744073709551615) (h : feq a b = v) :
    Calls Try.prog 21 #[.int .u64 a, .int .u64 b] w fun e w' => e = .returned (.bool v) ∧ w = w' :=
  (equal_any a b w h0 h1 h2 h3).mono fun _ _ ⟨he, hw⟩ => ⟨he.trans (ret_bool h), hw⟩
theorem less_c (a b : Int) (v : Bool) (w : World) (h0 : 0 ≤ a) (h1 : a ≤ 18446744073709551615) (h2 : 0 ≤ b) (h3 : b ≤ 18446744073709551615) (h : flt a b = v) :
    Calls Try.prog 23 #[.int .u64 a, .int .u64 b] w fun e w' => e = .returned (.bool v) ∧ w = w' :=
  (less_any a b w h0 h1 h2 h3).mono fun _ _ ⟨he, hw⟩ => ⟨he.trans (ret_bool h), hw⟩
end Go.Proofs.Ytmikopnfdldgnaa

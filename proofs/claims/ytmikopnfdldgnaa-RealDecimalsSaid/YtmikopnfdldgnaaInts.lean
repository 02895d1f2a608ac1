import Derived.Test.YtmikopnfdldgnaaComp2
import Derived.Test.YtmikopnfdldgnaaNear
namespace Go.Proofs.Ytmikopnfdldgnaa
set_option linter.unusedVariables false
set_option linter.unusedSimpArgs false
open Go.RowKit

set_option maxHeartbeats 400000 in
theorem ofInt_any (n : Int) (w : World) (h0 : -9223372036854775808 ≤ n) (h1 : n ≤ 9223372036854775807) :
    Calls Try.prog 19 #[.int .i64 n] w fun e w' => e = .returned (.int .u64 (ofInt n)) ∧ w = w' := by
  have r := Lib.hid (ofInt_range n h0 h1)
  have q : floatOfInt .f64 n ≤ 18446744073709551615 := by have := r.out.2.1; unfold ofInt at this; omega
  go_enter Try.func19, Try.ntmps19
  go_wp2_with (go_at_call 47; refine (to_any _ _ q).mono ?_; rintro e w' ⟨rfl, rfl⟩)
  go_ret
  exact ⟨ret_int r.out.2.2, rfl⟩

set_option maxHeartbeats 400000 in
theorem rofInt_any (n : Int) (w : World) (h0 : -9223372036854775808 ≤ n) (h1 : n ≤ 9223372036854775807) :
    Calls Try.prog 20 #[.int .i64 n] w fun e w' => e = .returned (.int .u64 (ofInt n)) ∧ w = w' := by
  by_cases hz : n = 0
  · subst hz
    go_enter Try.func20, Try.ntmps20
    go_wp2
    go_ret
    exact ⟨ret_int ofInt_zero.symm, rfl⟩
  · obtain ⟨A, hA, hAn⟩ : ∃ A : Nat, A ≠ 0 ∧ A = n.natAbs := ⟨_, by omega, rfl⟩
    have hA2 : A ≤ 9223372036854775808 := by omega
    have hAn := Lib.hid hAn
    have hzb : (n == 0) = false := by rw [beq_eq_false_iff_ne]; exact hz
    by_cases hn : n < 0
    · have hw := wrap_abs n hn h0
      rw [← hAn.out] at hw
      go_enter Try.func20, Try.ntmps20
      go_wp2
      go_loop [3, 5] (fun m e => ∃ M k : Nat, Hid (M = A * 2 ^ k) ∧ M < 18446744073709551616 ∧ k ≤ 63 ∧ m = .int .u64 M ∧ e = .int .i64 (63 - k)) (fun _ e => (intOf e).toNat)
      case atStart => exact ⟨A, 0, (by simp : A = A * 2 ^ 0), by omega, by omega, by rw [hAn.out], rfl⟩
      case round =>
        obtain ⟨M, k, hM, hM2, hk, rfl, rfl⟩ := hrel
        clear hw
        by_cases hlt : M < 9223372036854775808
        · have ht : ((M : Int) / 9223372036854775808 == 0) = true := by rw [beq_iff_eq]; omega
          have hk63 : k < 63 := by
            apply Classical.byContradiction; intro h
            have : k = 63 := by omega
            subst this; have := hM.out; omega
          go_wp2
          go_round
          case rel => exact ⟨M * 2, k + 1, (by rw [hM.out, Nat.pow_succ, Nat.mul_assoc] : M * 2 = A * 2 ^ (k + 1)), by omega, by omega, by congr 1, by congr 1; omega⟩
          case measure => simp [intOf]; omega
        · have ht : ((M : Int) / 9223372036854775808 == 0) = false := by rw [beq_eq_false_iff_ne]; omega
          have hfin := Lib.hid (near_of hz h0 h1 hAn.out hM.out (by omega) hM2)
          have b1 := and_low M hM2
          have b2 := and_one M hM2
          by_cases c : 1024 < (M : Int) % 2048 ∨ (M : Int) % 2048 = 1024 ∧ (M : Int) / 2048 % 2 = 1
          · have hr := Lib.hid (round_up c)
            by_cases c1 : 1024 < (M : Int) % 2048
            · go_wp2
              go_ret
              exact ⟨ret_int (by rw [hfin.out, hr.out, if_pos hn]), rfl⟩
            · have c2 : ((M : Int) % 2048 == 1024) = true := by rw [beq_iff_eq]; omega
              have c3 : ((M : Int) / 2048 % 2 == 1) = true := by rw [beq_iff_eq]; omega
              go_wp2
              go_ret
              exact ⟨ret_int (by rw [hfin.out, hr.out, if_pos hn]), rfl⟩
          · have hr := Lib.hid (round_dn c)
            have c1 : ¬ 1024 < (M : Int) % 2048 := fun h => c (Or.inl h)
            by_cases c2 : ((M : Int) % 2048 == 1024) = true
            · have c3 : ((M : Int) / 2048 % 2 == 1) = false := by rw [beq_iff_eq] at c2; rw [beq_eq_false_iff_ne]; omega
              clear c
              go_wp2
              go_ret
              exact ⟨ret_int (by rw [hfin.out, hr.out, if_pos hn]), rfl⟩
            · have c4 : ((M : Int) % 2048 == 1024) = false := by simpa using c2
              clear c c2
              go_wp2
              go_ret
              exact ⟨ret_int (by rw [hfin.out, hr.out, if_pos hn]), rfl⟩
    · go_enter Try.func20, Try.ntmps20
      go_wp2
      go_loop [3, 5] (fun m e => ∃ M k : Nat, Hid (M = A * 2 ^ k) ∧ M < 18446744073709551616 ∧ k ≤ 63 ∧ m = .int .u64 M ∧ e = .int .i64 (63 - k)) (fun _ e => (intOf e).toNat)
      case atStart => exact ⟨A, 0, (by simp : A = A * 2 ^ 0), by omega, by omega, by rw [hAn.out]; congr 1; omega, rfl⟩
      case round =>
        obtain ⟨M, k, hM, hM2, hk, rfl, rfl⟩ := hrel
        skip
        by_cases hlt : M < 9223372036854775808
        · have ht : ((M : Int) / 9223372036854775808 == 0) = true := by rw [beq_iff_eq]; omega
          have hk63 : k < 63 := by
            apply Classical.byContradiction; intro h
            have : k = 63 := by omega
            subst this; have := hM.out; omega
          go_wp2
          go_round
          case rel => exact ⟨M * 2, k + 1, (by rw [hM.out, Nat.pow_succ, Nat.mul_assoc] : M * 2 = A * 2 ^ (k + 1)), by omega, by omega, by congr 1, by congr 1; omega⟩
          case measure => simp [intOf]; omega
        · have ht : ((M : Int) / 9223372036854775808 == 0) = false := by rw [beq_eq_false_iff_ne]; omega
          have hfin := Lib.hid (near_of hz h0 h1 hAn.out hM.out (by omega) hM2)
          have b1 := and_low M hM2
          have b2 := and_one M hM2
          by_cases c : 1024 < (M : Int) % 2048 ∨ (M : Int) % 2048 = 1024 ∧ (M : Int) / 2048 % 2 = 1
          · have hr := Lib.hid (round_up c)
            by_cases c1 : 1024 < (M : Int) % 2048
            · go_wp2
              go_ret
              exact ⟨ret_int (by rw [hfin.out, hr.out, if_neg (by omega)]; omega), rfl⟩
            · have c2 : ((M : Int) % 2048 == 1024) = true := by rw [beq_iff_eq]; omega
              have c3 : ((M : Int) / 2048 % 2 == 1) = true := by rw [beq_iff_eq]; omega
              go_wp2
              go_ret
              exact ⟨ret_int (by rw [hfin.out, hr.out, if_neg (by omega)]; omega), rfl⟩
          · have hr := Lib.hid (round_dn c)
            have c1 : ¬ 1024 < (M : Int) % 2048 := fun h => c (Or.inl h)
            by_cases c2 : ((M : Int) % 2048 == 1024) = true
            · have c3 : ((M : Int) / 2048 % 2 == 1) = false := by rw [beq_iff_eq] at c2; rw [beq_eq_false_iff_ne]; omega
              clear c
              go_wp2
              go_ret
              exact ⟨ret_int (by rw [hfin.out, hr.out, if_neg (by omega)]; omega), rfl⟩
            · have c4 : ((M : Int) % 2048 == 1024) = false := by simpa using c2
              clear c c2
              go_wp2
              go_ret
              exact ⟨ret_int (by rw [hfin.out, hr.out, if_neg (by omega)]; omega), rfl⟩
end Go.Proofs.Ytmikopnfdldgnaa

import Derived.Test.YtmikopnfdldgnaaInts
import Derived.Test.YtmikopnfdldgnaaTens
namespace Go.Proofs.Ytmikopnfdldgnaa
set_option linter.unusedVariables false
set_option linter.unusedSimpArgs false
open Go.RowKit

theorem ret_dec {a b : Int} (h : a = b) : Ending.returned (.tuple #[.int .u64 a, .bool true]) = .returned (.tuple #[.int .u64 b, .bool true]) := by rw [h]

set_option maxHeartbeats 400000 in
theorem decimal_yes (n : Int) (k : Nat) (w : World) (h0 : 0 ≤ n) (h1 : n ≤ 999999999999999) (hk : k ≤ 15) :
    Calls Try.prog 32 #[.int .i64 n, .int .i64 k] w fun e w' => e = .returned (.tuple #[.int .u64 (dec n k), .bool true]) ∧ ∃ m, w' = w.drewN m := by
  have p := p10_range k hk
  obtain ⟨r, m, hq, hr, H⟩ := run_quo (P := Try.prog) n (p10 k) w (by omega) (by omega) (by omega) (by omega)
  go_enter Try.func32, Try.ntmps32
  go_wp2
  go_loop [6, 22] (fun t i => ∃ j : Nat, j ≤ k ∧ t = .int .i64 (p10 j) ∧ i = .int .i64 j) (fun _ i => k - (intOf i).toNat)
  case atStart => exact ⟨0, by omega, rfl, rfl⟩
  case round =>
    obtain ⟨j, hj, rfl, rfl⟩ := hrel
    have q := p10_range j (by omega)
    have S := Lib.hid (p10_succ j)
    by_cases hlt : j < k
    · go_wp2
      go_round
      case rel => exact ⟨j + 1, by omega, by rw [S.out], by go_num⟩
      case measure => simp [intOf]; omega
    · obtain rfl : j = k := by omega
      clear hlt
      go_wp2_with (go_at_call 47; refine (to_any _ _ (by omega)).mono ?_; rintro e w' ⟨rfl, rfl⟩)
      go_ret2
      exact ⟨ret_dec H.out, m, rfl⟩

set_option maxHeartbeats 400000 in
theorem rdecimal_yes (n : Int) (k : Nat) (w : World) (h0 : 0 ≤ n) (h1 : n ≤ 999999999999999) (hk : k ≤ 15) :
    Calls Try.prog 33 #[.int .i64 n, .int .i64 k] w fun e w' => e = .returned (.tuple #[.int .u64 (dec n k), .bool true]) ∧ ∃ m, w' = w.drewN m := by
  have t1 := ofInt_range 10 (by decide) (by decide)
  obtain ⟨t2, t3, _⟩ := t1
  have t4 := ofInt_range n (by omega) (by omega)
  obtain ⟨t5, t6, _⟩ := t4
  go_enter Try.func33, Try.ntmps33
  go_wp2
  go_loopw [6, 7] (fun d i wr => ∃ j m : Nat, j ≤ k ∧ d = .int .u64 (f10 j) ∧ i = .int .i64 j ∧ wr = w.drewN m) (fun _ i _ => k - (intOf i).toNat)
  case atStart => exact ⟨0, 0, by omega, by rw [f10_zero], rfl, rfl⟩
  case round =>
    obtain ⟨j, m, hj, rfl, rfl, rfl⟩ := hrel
    obtain ⟨q1, q2⟩ := f10_range j (by omega)
    by_cases hlt : j < k
    · have S := Lib.hid (f10_succ j (by omega))
      go_wp2_with (first | (go_at_call 20; refine (rofInt_any _ _ (by decide) (by decide)).mono ?_; rintro e w' ⟨rfl, rfl⟩) | (go_at_call 26; refine (do3_any _ _ _ (by omega) (by omega) (by omega) (by omega)).mono ?_; rintro e w' ⟨rfl, n2, rfl⟩))
      go_roundw
      case rel => exact ⟨j + 1, _, by omega, by rw [S.out], by go_num, rfl⟩
      case measure => simp [intOf]; omega
    · obtain rfl : j = k := by omega
      clear hlt
      go_wp2_with (first | (go_at_call 20; refine (rofInt_any _ _ (by omega) (by omega)).mono ?_; rintro e w' ⟨rfl, rfl⟩) | (go_at_call 26; refine (do4_any _ _ _ (by omega) (by omega) (by omega) (by omega)).mono ?_; rintro e w' ⟨rfl, n2, rfl⟩))
      go_ret2
      exact ⟨rfl, _, rfl⟩

set_option maxHeartbeats 400000 in
theorem decimal_no (n s : Int) (w : World) (b0 : -9223372036854775808 ≤ n) (b1 : n ≤ 9223372036854775807) (h : (n < 0 ∨ 999999999999999 < n) ∨ (s < 0 ∨ 15 < s)) :
    Calls Try.prog 32 #[.int .i64 n, .int .i64 s] w fun e w' => e = .returned (.tuple #[.int .u64 0, .bool false]) ∧ ∃ m, w' = w.drewN m := by
  by_cases c1 : n < 0
  · clear h
    go_enter Try.func32, Try.ntmps32
    go_wp2
    go_ret2
    exact ⟨rfl, 0, rfl⟩
  by_cases c2 : 999999999999999 < n
  · clear h
    go_enter Try.func32, Try.ntmps32
    go_wp2
    go_ret2
    exact ⟨rfl, 0, rfl⟩
  by_cases c3 : s < 0
  · clear h
    go_enter Try.func32, Try.ntmps32
    go_wp2
    go_ret2
    exact ⟨rfl, 0, rfl⟩
  · have c4 : 15 < s := by omega
    clear h
    go_enter Try.func32, Try.ntmps32
    go_wp2
    go_ret2
    exact ⟨rfl, 0, rfl⟩

set_option maxHeartbeats 400000 in
theorem rdecimal_no (n s : Int) (w : World) (b0 : -9223372036854775808 ≤ n) (b1 : n ≤ 9223372036854775807) (h : (n < 0 ∨ 999999999999999 < n) ∨ (s < 0 ∨ 15 < s)) :
    Calls Try.prog 33 #[.int .i64 n, .int .i64 s] w fun e w' => e = .returned (.tuple #[.int .u64 0, .bool false]) ∧ ∃ m, w' = w.drewN m := by
  by_cases c1 : n < 0
  · clear h
    go_enter Try.func33, Try.ntmps33
    go_wp2
    go_ret2
    exact ⟨rfl, 0, rfl⟩
  by_cases c2 : 999999999999999 < n
  · clear h
    go_enter Try.func33, Try.ntmps33
    go_wp2
    go_ret2
    exact ⟨rfl, 0, rfl⟩
  by_cases c3 : s < 0
  · clear h
    go_enter Try.func33, Try.ntmps33
    go_wp2
    go_ret2
    exact ⟨rfl, 0, rfl⟩
  · have c4 : 15 < s := by omega
    clear h
    go_enter Try.func33, Try.ntmps33
    go_wp2
    go_ret2
    exact ⟨rfl, 0, rfl⟩
end Go.Proofs.Ytmikopnfdldgnaa

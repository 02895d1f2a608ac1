import Derived.Test.YtmikopnfdldgnaaComp2
namespace Go.Proofs.Ytmikopnfdldgnaa
set_option linter.unusedVariables false
set_option linter.unusedSimpArgs false
open Go.RowKit

/-- floats added one behind the other: the first j + 1 -/
def sumTo (f : Nat → Int) : Nat → Int
  | 0 => canon (f 0)
  | j + 1 => fop .add (sumTo f j) (f (j + 1))
theorem sumTo_range (f : Nat → Int) (n : Nat) (hx : ∀ j, j ≤ n → 0 ≤ f j ∧ f j ≤ 18446744073709551615) (j : Nat) (hj : j ≤ n) : 0 ≤ sumTo f j ∧ sumTo f j ≤ 18446744073709551615 := by
  cases j with
  | zero => have := hx 0 (by omega); exact ⟨canon_lo _ this.1, canon_hi _ this.2⟩
  | succ j => exact ⟨fop_lo _ _ _, fop_hi _ _ _⟩
/-- the sum of the first i, nothing of none -/
def sumOf (f : Nat → Int) (i : Nat) : Int := if i = 0 then 0 else sumTo f (i - 1)
theorem sumOf_range (f : Nat → Int) (n : Nat) (hx : ∀ j, j ≤ n → 0 ≤ f j ∧ f j ≤ 18446744073709551615) (j : Nat) (hj : j ≤ n + 1) : 0 ≤ sumOf f j ∧ sumOf f j ≤ 18446744073709551615 := by
  unfold sumOf; split
  · omega
  · exact sumTo_range f n hx _ (by omega)
theorem sumOf_succ (f : Nat → Int) (i : Nat) (h : i ≠ 0) : sumOf f (i + 1) = fop .add (sumOf f i) (f i) := by
  obtain ⟨j, rfl⟩ : ∃ j, i = j + 1 := ⟨i - 1, by omega⟩
  unfold sumOf; rw [if_neg (by omega), if_neg (by omega)]; rfl
theorem sumOf_one (f : Nat → Int) : sumOf f 1 = canon (f 0) := rfl
theorem sumOf_end (f : Nat → Int) (n : Nat) : sumOf f (n + 1) = sumTo f n := rfl

theorem ret_sum {a b : Int} (h : a = b) : Ending.returned (.tuple #[.int .u64 a, .bool true]) = .returned (.tuple #[.int .u64 b, .bool true]) := by rw [h]

set_option maxHeartbeats 400000 in
theorem sum_some (b off n c : Nat) (f : Nat → Int) (w : World) (hn : n < c) (hm : c ≤ 9223372036854775807)
    (hc : ∀ j, j ≤ n → w.cell? ⟨b, off + j, none⟩ = some (.int .u64 (f j))) (hx : ∀ j, j ≤ n → 0 ≤ f j ∧ f j ≤ 18446744073709551615) :
    Calls Try.prog 34 #[.slice (some ⟨b, off, none⟩) (n + 1) c] w fun e w' => e = .returned (.tuple #[.int .u64 (sumTo f n), .bool true]) ∧ ∃ m, w' = w.drewN m := by
  have h0 := hc 0 (by omega)
  obtain ⟨b1, b2⟩ := hx 0 (by omega)
  rw [Nat.add_zero] at h0
  by_cases hc1 : c = 1
  · obtain rfl : n = 0 := by omega
    subst hc1
    clear hc hx
    go_enter Try.func34, Try.ntmps34
    go_wp2_with (go_at_call 17; refine (canon_any _ _ b1 b2).mono ?_; rintro e w' ⟨rfl, rfl⟩)
    refine wp_loop_rounds 1 ?_
    rw [rounds_succ]
    go_wp2
    go_ret2
    exact ⟨rfl, 0, rfl⟩
  · have Hc := Lib.hid hc
    have Hx := Lib.hid hx
    clear hc hx
    have hc2 : 1 < c := by omega
    clear hc1
    have hz : ((n : Int) + 1 == 0) = false := by rw [beq_eq_false_iff_ne]; omega
    go_enter Try.func34, Try.ntmps34
    go_wp2_with (go_at_call 17; refine (canon_any _ _ b1 b2).mono ?_; rintro e w' ⟨rfl, rfl⟩)
    go_loopw [4, 17] (fun s i wr => ∃ j m : Nat, j ≤ n ∧ s = .int .u64 (sumTo f j) ∧ i = .int .i64 j ∧ wr = w.drewN m) (fun _ i _ => n - (intOf i).toNat)
    case atStart => exact ⟨0, 0, by omega, rfl, rfl, rfl⟩
    case round =>
      obtain ⟨j, m, hj, rfl, rfl, rfl⟩ := hrel
      obtain ⟨r1, r2⟩ := sumTo_range f n Hx.out j hj
      by_cases hlt : j < n
      · have hcell : w.cell? ⟨b, off + 1 + j, none⟩ = some (.int .u64 (f (j + 1))) := by
          rw [show off + 1 + j = off + (j + 1) by omega]; exact Hc.out (j + 1) (by omega)
        obtain ⟨x1, x2⟩ := Hx.out (j + 1) (by omega)
        go_wp2_with (go_at_call 25; refine (add_any _ _ _ r1 r2 x1 x2).mono ?_; rintro e w' ⟨rfl, n2, rfl⟩)
        go_roundw
        case rel => exact ⟨j + 1, _, by omega, rfl, by go_num, rfl⟩
        case measure => simp [intOf]; omega
      · obtain rfl : j = n := by omega
        go_wp2
        go_ret2
        exact ⟨rfl, m, rfl⟩

set_option maxHeartbeats 400000 in
theorem rsum_some (b off n c : Nat) (f : Nat → Int) (w : World) (hn : n < c) (hm : c ≤ 9223372036854775807)
    (hc : ∀ j, j ≤ n → w.cell? ⟨b, off + j, none⟩ = some (.int .u64 (f j))) (hx : ∀ j, j ≤ n → 0 ≤ f j ∧ f j ≤ 18446744073709551615) :
    Calls Try.prog 35 #[.slice (some ⟨b, off, none⟩) (n + 1) c] w fun e w' => e = .returned (.tuple #[.int .u64 (sumTo f n), .bool true]) ∧ ∃ m, w' = w.drewN m := by
  have Hc := Lib.hid hc
  have Hx := Lib.hid hx
  clear hc hx
  go_enter Try.func35, Try.ntmps35
  go_wp2
  go_loopw [4, 9] (fun s i wr => ∃ j m : Nat, j ≤ n + 1 ∧ s = .int .u64 (sumOf f j) ∧ i = .int .i64 j ∧ wr = w.drewN m) (fun _ i _ => n + 1 - (intOf i).toNat)
  case atStart => exact ⟨0, 0, by omega, rfl, rfl, rfl⟩
  case round =>
    obtain ⟨j, m, hj, rfl, rfl, rfl⟩ := hrel
    obtain ⟨r1, r2⟩ := sumOf_range f n Hx.out j hj
    by_cases hlt : j ≤ n
    · have hcell := Hc.out j hlt
      obtain ⟨x1, x2⟩ := Hx.out j (by omega)
      by_cases hj0 : j = 0
      · subst hj0
        rw [Nat.add_zero] at hcell
        go_wp2_with (go_at_call 18; refine (rcanon_any _ _ x1 x2).mono ?_; rintro e w' ⟨rfl, rfl⟩)
        go_roundw
        case rel => exact ⟨1, _, by omega, rfl, rfl, rfl⟩
        case measure => simp [intOf]
      · have hz : ((j : Int) == 0) = false := by rw [beq_eq_false_iff_ne]; omega
        have S := Lib.hid (sumOf_succ f j hj0)
        go_wp2_with (go_at_call 26; refine (do1_any _ _ _ r1 r2 x1 x2).mono ?_; rintro e w' ⟨rfl, n2, rfl⟩)
        go_roundw
        case rel => exact ⟨j + 1, _, by omega, by rw [S.out], by go_num, rfl⟩
        case measure => simp [intOf]; omega
    · obtain rfl : j = n + 1 := by omega
      go_wp2
      go_ret2
      exact ⟨ret_sum (sumOf_end f n), m, rfl⟩

set_option maxHeartbeats 400000 in
theorem sum_none (a : Option Addr) (c : Nat) (w : World) :
    Calls Try.prog 34 #[.slice a 0 c] w fun e w' => e = .returned (.tuple #[.int .u64 0, .bool false]) ∧ ∃ m, w' = w.drewN m := by
  go_enter Try.func34, Try.ntmps34
  go_wp2
  go_ret2
  exact ⟨rfl, 0, rfl⟩
set_option maxHeartbeats 400000 in
theorem rsum_none (a : Option Addr) (c : Nat) (w : World) :
    Calls Try.prog 35 #[.slice a 0 c] w fun e w' => e = .returned (.tuple #[.int .u64 0, .bool false]) ∧ ∃ m, w' = w.drewN m := by
  go_enter Try.func35, Try.ntmps35
  go_wp2
  refine wp_loop_rounds 1 ?_
  rw [rounds_succ]
  go_wp2
  go_ret2
  exact ⟨rfl, 0, rfl⟩
end Go.Proofs.Ytmikopnfdldgnaa

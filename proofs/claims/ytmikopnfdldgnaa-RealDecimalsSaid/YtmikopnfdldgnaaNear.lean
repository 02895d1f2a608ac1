/- The float nearest to a whole number, by its bits: no program in sight. -/
import Derived.Test.YtmikopnfdldgnaaLaws
namespace Go.Proofs.Ytmikopnfdldgnaa
set_option linter.unusedVariables false
set_option linter.unusedSimpArgs false
open Go Ieee

/-- the upper 53 of 64 bits, rounded -/
def round11 (m : Nat) : Nat := m / 2048 + (if 1024 < m % 2048 ∨ m % 2048 = 1024 ∧ m / 2048 % 2 = 1 then 1 else 0)

theorem round11_le (m : Nat) (h : m < 18446744073709551616) : round11 m ≤ 9007199254740992 := by unfold round11; split <;> omega

theorem cut_even (neg : Bool) (n d : Nat) (hd : d ≤ n.log2 + 2) : Toward.even.cut neg n d = n / 2 ^ d + (if 2 ^ d < 2 * (n % 2 ^ d) ∨ 2 ^ d = 2 * (n % 2 ^ d) ∧ n / 2 ^ d % 2 = 1 then 1 else 0) := by
  unfold Toward.cut
  have e : (1 : Nat) <<< min d (n.log2 + 2) = 2 ^ d := by rw [Nat.min_eq_left hd, Nat.one_shiftLeft]
  simp only [e]
  congr 1
  by_cases c : 2 ^ d < 2 * (n % 2 ^ d) ∨ 2 ^ d = 2 * (n % 2 ^ d) ∧ n / 2 ^ d % 2 = 1
  · rw [if_pos c]
    have : (decide (2 ^ d < 2 * (n % 2 ^ d)) || (2 ^ d == 2 * (n % 2 ^ d) && n / 2 ^ d % 2 == 1)) = true := by simpa using c
    rw [this]; rfl
  · rw [if_neg c]
    have : (decide (2 ^ d < 2 * (n % 2 ^ d)) || (2 ^ d == 2 * (n % 2 ^ d) && n / 2 ^ d % 2 == 1)) = false := by
      rw [Bool.eq_false_iff]; intro h; apply c; simpa using h
    rw [this]; rfl

theorem log_lo {m : Nat} (h : m ≠ 0) : 2 ^ m.log2 ≤ m := Nat.log2_self_le h
theorem log_hi (m : Nat) : m < 2 ^ (m.log2 + 1) := Nat.lt_log2_self

theorem kept_small (neg : Bool) (m : Nat) (h : m ≠ 0) (hL : m.log2 ≤ 52) : Toward.even.cut neg (m * 2 ^ (52 - m.log2)) 0 = round11 (m * 2 ^ (63 - m.log2)) := by
  rw [cut_even _ _ _ (by omega)]
  have e : m * 2 ^ (63 - m.log2) = m * 2 ^ (52 - m.log2) * 2048 := by
    rw [show (2048 : Nat) = 2 ^ 11 from rfl, Nat.mul_assoc, ← Nat.pow_add]; congr 2; omega
  rw [e]
  generalize m * 2 ^ (52 - m.log2) = A
  unfold round11
  rw [if_neg (by simp; omega), if_neg (by omega)]; simp

theorem kept_great (neg : Bool) (m : Nat) (h : m ≠ 0) (hL : 52 < m.log2) (hL2 : m.log2 ≤ 63) : Toward.even.cut neg m (m.log2 - 52) = round11 (m * 2 ^ (63 - m.log2)) := by
  rw [cut_even _ _ _ (by omega)]
  obtain ⟨L, hl⟩ : ∃ L, m.log2 = L := ⟨_, rfl⟩
  rw [hl] at hL hL2 ⊢
  clear hl h
  unfold round11
  have hd : L = 53 ∨ L = 54 ∨ L = 55 ∨ L = 56 ∨ L = 57 ∨ L = 58 ∨ L = 59 ∨ L = 60 ∨ L = 61 ∨ L = 62 ∨ L = 63 := by omega
  rcases hd with rfl | rfl | rfl | rfl | rfl | rfl | rfl | rfl | rfl | rfl | rfl
  all_goals
    simp only [Nat.reduceSub, Nat.reducePow, Nat.mul_one]
    split <;> split <;> omega

theorem nearest_int (neg : Bool) (m : Nat) (h : m ≠ 0) (hm : m < 18446744073709551616) : double.nearest neg m 0 = double.word neg ((1022 + m.log2) * 4503599627370496 + round11 (m * 2 ^ (63 - m.log2))) := by
  have hL : m.log2 ≤ 63 := by
    have := (Nat.log2_lt h).2 (show m < 2 ^ 64 by omega)
    omega
  unfold Format.nearest
  rw [if_neg h, dbl_least, dbl_binade, dbl_inf]
  have hmax : max (0 + (m.log2 : Int) - double.fractionBits) (-1074) = (m.log2 : Int) - 52 := by
    show max (0 + (m.log2 : Int) - (52 : Nat)) (-1074) = _
    omega
  simp only [hmax]
  have hk : Toward.even.cut neg (m <<< (0 - ((m.log2 : Int) - 52)).toNat) ((m.log2 : Int) - 52 - 0).toNat = round11 (m * 2 ^ (63 - m.log2)) := by
    by_cases hs : m.log2 ≤ 52
    · have e1 : (0 - ((m.log2 : Int) - 52)).toNat = 52 - m.log2 := by omega
      have e2 : ((m.log2 : Int) - 52 - 0).toNat = 0 := by omega
      rw [e1, e2, Nat.shiftLeft_eq]
      exact kept_small neg m h hs
    · have e1 : (0 - ((m.log2 : Int) - 52)).toNat = 0 := by omega
      have e2 : ((m.log2 : Int) - 52 - 0).toNat = m.log2 - 52 := by omega
      rw [e1, e2, Nat.shiftLeft_zero]
      exact kept_great neg m h (by omega) hL
  rw [hk]
  congr 1
  have hlt : m * 2 ^ (63 - m.log2) < 18446744073709551616 := by
    have h1 := log_hi m
    have h2 : m * 2 ^ (63 - m.log2) < 2 ^ (m.log2 + 1) * 2 ^ (63 - m.log2) := Nat.mul_lt_mul_of_pos_right h1 (Nat.two_pow_pos _)
    rw [← Nat.pow_add, show m.log2 + 1 + (63 - m.log2) = 64 by omega] at h2
    exact h2
  have hr := round11_le _ hlt
  have e3 : ((m.log2 : Int) - 52 - -1074).toNat = 1022 + m.log2 := by omega
  rw [e3]
  generalize round11 (m * 2 ^ (63 - m.log2)) = R at hr
  omega

/-- the bits of the float nearest to a whole number -/
def ofInt (n : Int) : Int := (floatOfInt .f64 n : Int)
/-- what the reference reckons -/
def near (n : Int) : Int := (if n < 0 then 9223372036854775808 else 0) + ((1022 + n.natAbs.log2) * 4503599627370496 + round11 (n.natAbs * 2 ^ (63 - n.natAbs.log2)) : Nat)

theorem ofInt_zero : ofInt 0 = 0 := by decide
theorem norm_lt (m : Nat) (hm : m < 18446744073709551616) : m * 2 ^ (63 - m.log2) < 18446744073709551616 := by
  by_cases h : m = 0
  · subst h; decide
  have hL : m.log2 ≤ 63 := by
    have := (Nat.log2_lt h).2 (show m < 2 ^ 64 by omega)
    omega
  have h1 := log_hi m
  have h2 : m * 2 ^ (63 - m.log2) < 2 ^ (m.log2 + 1) * 2 ^ (63 - m.log2) := Nat.mul_lt_mul_of_pos_right h1 (Nat.two_pow_pos _)
  rw [← Nat.pow_add, show m.log2 + 1 + (63 - m.log2) = 64 by omega] at h2
  exact h2
theorem log_63 (m : Nat) (h : m ≠ 0) (hm : m < 18446744073709551616) : m.log2 ≤ 63 := by
  have := (Nat.log2_lt h).2 (show m < 2 ^ 64 by omega)
  omega
theorem ofInt_near (n : Int) (h : n ≠ 0) (h0 : -9223372036854775808 ≤ n) (h1 : n ≤ 9223372036854775807) : ofInt n = near n := by
  show ((double.nearest (decide (n < 0)) n.natAbs 0 : Nat) : Int) = near n
  rw [nearest_int _ _ (by omega) (by omega)]
  unfold Format.word near
  rw [dbl_sign]
  by_cases hn : n < 0
  · rw [if_pos (by simpa using hn), if_pos hn]; omega
  · rw [if_neg (by simpa using hn), if_neg hn]; omega
theorem near_range (n : Int) (h : n ≠ 0) (h0 : -9223372036854775808 ≤ n) (h1 : n ≤ 9223372036854775807) : 0 ≤ near n ∧ near n % 9223372036854775808 ≤ 9218868437227405312 ∧ near n ≤ 18446744073709551615 := by
  have a := round11_le _ (norm_lt n.natAbs (by omega))
  have b := log_63 n.natAbs (by omega) (by omega)
  unfold near
  generalize round11 (n.natAbs * 2 ^ (63 - n.natAbs.log2)) = R at *
  generalize n.natAbs.log2 = L at *
  split <;> omega
theorem ofInt_range (n : Int) (h0 : -9223372036854775808 ≤ n) (h1 : n ≤ 9223372036854775807) : 0 ≤ ofInt n ∧ ofInt n ≤ 18446744073709551615 ∧ canon (ofInt n) = ofInt n := by
  by_cases h : n = 0
  · subst h; decide
  · rw [ofInt_near n h h0 h1]
    have := near_range n h h0 h1
    refine ⟨this.1, this.2.2, ?_⟩
    unfold canon; rw [if_neg (by omega)]

theorem wrap_abs (n : Int) (h : n < 0) (h0 : -9223372036854775808 ≤ n) : IntKind.u64.wrap (-IntKind.u64.wrap n) = (n.natAbs : Int) := by
  rw [IntKind.wrap_u64, IntKind.wrap_u64]; omega
/-- where the highest digit stands at place 63 the shift is done -/
theorem shift_done (A M k : Nat) (hA : A ≠ 0) (hM : M = A * 2 ^ k) (h1 : 9223372036854775808 ≤ M) (h2 : M < 18446744073709551616) : k = 63 - A.log2 ∧ A.log2 ≤ 63 := by
  have hl : M.log2 = 63 := by
    rw [Nat.log2_eq_iff (by omega)]; exact ⟨h1, h2⟩
  have hm : M.log2 = A.log2 + k := by
    rw [hM, Nat.log2_eq_iff (by rw [← hM]; omega)]
    constructor
    · rw [Nat.pow_add]; exact Nat.mul_le_mul_right _ (log_lo hA)
    · rw [show A.log2 + k + 1 = A.log2 + 1 + k by omega, Nat.pow_add]; exact Nat.mul_lt_mul_of_pos_right (log_hi A) (Nat.two_pow_pos _)
  omega

theorem and_low (M : Nat) (h : M < 18446744073709551616) : bits BinOp.and IntKind.u64 (M : Int) 2047 = (M : Int) % 2048 := by
  rw [u64_and _ 2047 (by omega) (by omega) (by decide) (by decide)]
  have : (M : Int).toNat &&& (2047 : Int).toNat = (M : Int).toNat % 2 ^ 11 := Nat.and_two_pow_sub_one_eq_mod _ 11
  rw [this]; omega
theorem and_one (M : Nat) (h : M < 18446744073709551616) : bits BinOp.and IntKind.u64 ((M : Int) / 2048) 1 = (M : Int) / 2048 % 2 := by
  rw [u64_and _ 1 (by omega) (by omega) (by decide) (by decide)]
  have : ((M : Int) / 2048).toNat &&& (1 : Int).toNat = ((M : Int) / 2048).toNat % 2 ^ 1 := Nat.and_two_pow_sub_one_eq_mod _ 1
  rw [this]; omega
theorem near_of {n : Int} {A M k : Nat} (hn0 : n ≠ 0) (h0 : -9223372036854775808 ≤ n) (h1 : n ≤ 9223372036854775807) (hA : A = n.natAbs) (hM : M = A * 2 ^ k) (g1 : 9223372036854775808 ≤ M) (g2 : M < 18446744073709551616) :
    ofInt n = (if n < 0 then 9223372036854775808 else 0) + (1022 + (63 - (k : Int))) * 4503599627370496 + (round11 M : Int) := by
  obtain ⟨e1, e2⟩ := shift_done A M k (by omega) hM g1 g2
  rw [ofInt_near n hn0 h0 h1]
  unfold near
  rw [← hA, ← e1, ← hM]
  generalize round11 M = R
  split <;> omega
theorem round_up {M : Nat} (h : 1024 < (M : Int) % 2048 ∨ (M : Int) % 2048 = 1024 ∧ (M : Int) / 2048 % 2 = 1) : (round11 M : Int) = (M : Int) / 2048 + 1 := by
  unfold round11; rw [if_pos (by omega)]; omega
theorem round_dn {M : Nat} (h : ¬ (1024 < (M : Int) % 2048 ∨ (M : Int) % 2048 = 1024 ∧ (M : Int) / 2048 % 2 = 1)) : (round11 M : Int) = (M : Int) / 2048 := by
  unfold round11; rw [if_neg (by omega)]; omega
end Go.Proofs.Ytmikopnfdldgnaa

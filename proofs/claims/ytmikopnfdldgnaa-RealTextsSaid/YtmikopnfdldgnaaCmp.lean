/- Less, equal, ranks: plain facts on whole numbers from 0 to 2 to the 64th less 1. -/
import Derived.Test.YtmikopnfdldgnaaMath
import Derived.Test.YtmikopnfdldgnaaOrd
namespace Go.Proofs.Ytmikopnfdldgnaa
set_option linter.unusedVariables false
set_option linter.unusedSimpArgs false
open Go

/-- as floats compare -/
def flt (a b : Int) : Bool := FloatKind.f64.format.order (canon a).toNat (canon b).toNat == some .lt
def feq (a b : Int) : Bool := FloatKind.f64.format.order (canon a).toNat (canon b).toNat == some .eq

/-- the rung with its sign -/
def sg (a : Int) : Int := if 9223372036854775808 ≤ a then 9223372036854775808 - a else a
/-- where bits stand in order -/
def rank (a : Int) : Int := if 9223372036854775808 ≤ canon a then 18446744073709551615 - canon a else canon a + 9223372036854775808
def ord (a b : Int) : Int := if rank a < rank b then -1 else if rank b < rank a then 1 else 0
def nought (a : Int) : Bool := decide (a = 0 ∨ a = 9223372036854775808)

theorem rung_of (a : Int) (h0 : 0 ≤ a) (h1 : a ≤ 18446744073709551615) : (rung a.toNat : Int) = a % 9223372036854775808 := by unfold rung; omega
theorem sgn_of (a : Int) (h0 : 0 ≤ a) (h1 : a ≤ 18446744073709551615) : sgn a.toNat = sg a := by
  unfold sgn sg
  rw [rung_of a h0 h1]
  have : top a.toNat = decide (9223372036854775808 ≤ a) := by unfold top; rw [Bool.eq_iff_iff]; simp; omega
  rw [this]
  by_cases h : 9223372036854775808 ≤ a
  · rw [if_pos (by simpa using h), if_pos h]; omega
  · rw [if_neg (by simpa using h), if_neg h]; omega

theorem flt_nan (a b : Int) (h : isNan a = true ∨ isNan b = true) : flt a b = false ∧ feq a b = false := by
  have e : FloatKind.f64.format.order (canon a).toNat (canon b).toNat = none := by
    apply order_nan
    rcases h with h | h
    · left; rw [canon_nan h]; decide
    · right; rw [canon_nan h]; decide
  unfold flt feq; rw [e]; exact ⟨rfl, rfl⟩
theorem flt_num (a b : Int) (h0 : 0 ≤ a) (h1 : a ≤ 18446744073709551615) (h2 : 0 ≤ b) (h3 : b ≤ 18446744073709551615) (na : isNan a = false) (nb : isNan b = false) :
    flt a b = decide (sg a < sg b) ∧ feq a b = decide (sg a = sg b) := by
  have e := order_lt (canon a).toNat (canon b).toNat
  rw [canon_num na, canon_num nb] at e
  have ra := rung_of a h0 h1
  have rb := rung_of b h2 h3
  have na' : a % 9223372036854775808 ≤ 9218868437227405312 := by unfold isNan at na; simpa using na
  have nb' : b % 9223372036854775808 ≤ 9218868437227405312 := by unfold isNan at nb; simpa using nb
  have e2 := e (by omega) (by omega)
  rw [sgn_of a h0 h1, sgn_of b h2 h3] at e2
  unfold flt feq
  rw [canon_num na, canon_num nb]
  exact e2

/-- 'less' and 'equal' as the reference has them -/
theorem flt_eq (a b : Int) (h0 : 0 ≤ a) (h1 : a ≤ 18446744073709551615) (h2 : 0 ≤ b) (h3 : b ≤ 18446744073709551615) :
    flt a b = (!isNan a && !isNan b && decide (sg a < sg b)) := by
  cases ha : isNan a
  · cases hb : isNan b
    · rw [(flt_num a b h0 h1 h2 h3 ha hb).1]; rfl
    · rw [(flt_nan a b (Or.inr hb)).1]; rfl
  · rw [(flt_nan a b (Or.inl ha)).1]; rfl
theorem feq_eq (a b : Int) (h0 : 0 ≤ a) (h1 : a ≤ 18446744073709551615) (h2 : 0 ≤ b) (h3 : b ≤ 18446744073709551615) :
    feq a b = (!isNan a && !isNan b && decide (sg a = sg b)) := by
  cases ha : isNan a
  · cases hb : isNan b
    · rw [(flt_num a b h0 h1 h2 h3 ha hb).2]; rfl
    · rw [(flt_nan a b (Or.inr hb)).2]; rfl
  · rw [(flt_nan a b (Or.inl ha)).2]; rfl
theorem sg_eq (a b : Int) (h0 : 0 ≤ a) (h2 : 0 ≤ b) : decide (sg a = sg b) = (decide (a = b) || nought a && nought b) := by
  unfold sg nought; rw [Bool.eq_iff_iff]; simp; split <;> split <;> omega
theorem sg_lt (a b : Int) (h0 : 0 ≤ a) (h1 : a ≤ 18446744073709551615) (h2 : 0 ≤ b) (h3 : b ≤ 18446744073709551615) (na : isNan a = false) (nb : isNan b = false) : decide (sg a < sg b) = (decide (ord a b = -1) && !(nought a && nought b)) := by
  unfold sg nought ord rank; rw [canon_num na, canon_num nb, Bool.eq_iff_iff]; simp; split <;> split <;> split <;> (try split) <;> omega
theorem rank_inj (a b : Int) (h0 : 0 ≤ a) (h1 : a ≤ 18446744073709551615) (h2 : 0 ≤ b) (h3 : b ≤ 18446744073709551615) : rank a = rank b ↔ canon a = canon b := by
  have := canon_lo a h0; have := canon_hi a h1; have := canon_lo b h2; have := canon_hi b h3
  unfold rank; split <;> split <;> omega
theorem rank_range (a : Int) (h0 : 0 ≤ a) (h1 : a ≤ 18446744073709551615) : 0 ≤ rank a ∧ rank a ≤ 18446744073709551615 := by
  have := canon_lo a h0; have := canon_hi a h1
  unfold rank; split <;> omega

theorem not_u64 (a : Int) (h0 : 0 ≤ a) (h1 : a ≤ 18446744073709551615) : bits BinOp.xor IntKind.u64 IntKind.u64.max a = 18446744073709551615 - a := by
  rw [show IntKind.u64.max = 18446744073709551615 from by decide, u64_xor _ a (by decide) (by decide) h0 (by omega)]
  have e : (18446744073709551615 : Int).toNat ^^^ a.toNat = 18446744073709551615 - a.toNat := by
    have h := Nat.testBit_two_pow_sub_succ (n := 64) (x := a.toNat) (by omega : a.toNat < 2 ^ 64)
    apply Nat.eq_of_testBit_eq
    intro i
    rw [Nat.testBit_xor, show (18446744073709551615 : Int).toNat = 2 ^ 64 - 1 from rfl, Nat.testBit_two_pow_sub_one, show 18446744073709551615 - a.toNat = 2 ^ 64 - (a.toNat + 1) from by omega, h]
    by_cases hi : i < 64
    · simp [hi]
    · have : a.toNat.testBit i = false := Nat.testBit_lt_two_pow (Nat.lt_of_lt_of_le (by omega : a.toNat < 2 ^ 64) (Nat.pow_le_pow_right (by decide) (by omega)))
      simp [hi, this]
  rw [e]; omega
theorem or_sign (a : Int) (h0 : 0 ≤ a) (h1 : a < 9223372036854775808) : bits BinOp.or IntKind.u64 a 9223372036854775808 = a + 9223372036854775808 := by
  rw [u64_or a _ h0 (by omega) (by decide) (by decide)]
  have e : a.toNat ||| (9223372036854775808 : Int).toNat = 9223372036854775808 + a.toNat := by
    rw [Nat.or_comm]; exact nat_join 63 9223372036854775808 a.toNat (by decide) (by omega)
  rw [e]; omega
theorem xor_sign (a : Int) (h0 : 0 ≤ a) (h1 : a ≤ 18446744073709551615) : bits BinOp.xor IntKind.u64 a 9223372036854775808 = if 9223372036854775808 ≤ a then a - 9223372036854775808 else a + 9223372036854775808 := by
  rw [u64_xor a _ h0 (by omega) (by decide) (by decide)]
  have low : ∀ n : Nat, n < 2 ^ 63 → n ^^^ 9223372036854775808 = n + 9223372036854775808 := by
    intro n hn
    have e : n ^^^ 9223372036854775808 = 9223372036854775808 ||| n := by
      apply Nat.eq_of_testBit_eq
      intro i
      rw [Nat.testBit_xor, Nat.testBit_or, show (9223372036854775808 : Nat) = 2 ^ 63 from rfl, Nat.testBit_two_pow]
      by_cases hi : 63 = i
      · subst hi
        have : n.testBit 63 = false := Nat.testBit_lt_two_pow hn
        simp [this]
      · simp [hi]
    rw [e, nat_join 63 9223372036854775808 n (by decide) hn]; omega
  split
  · have := low (a - 9223372036854775808).toNat (by omega)
    have e : a.toNat ^^^ (9223372036854775808 : Int).toNat = (a - 9223372036854775808).toNat := by
      rw [show a.toNat = (a - 9223372036854775808).toNat + 9223372036854775808 from by omega, ← this, show (9223372036854775808 : Int).toNat = 9223372036854775808 from rfl, Nat.xor_assoc, Nat.xor_self, Nat.xor_zero]
    rw [e]; omega
  · rw [show (9223372036854775808 : Int).toNat = 9223372036854775808 from rfl, low a.toNat (by omega)]; omega

/-- the other sign -/
def flip (a : Int) : Int := if 9223372036854775808 ≤ canon a then canon a - 9223372036854775808 else canon a + 9223372036854775808
def neg (a : Int) : Int := canon (flip a)
theorem flip_range (a : Int) (h0 : 0 ≤ a) (h1 : a ≤ 18446744073709551615) : 0 ≤ flip a ∧ flip a ≤ 18446744073709551615 := by
  have := canon_lo a h0; have := canon_hi a h1
  unfold flip; split <;> omega
theorem neg_nan {a : Int} (h : isNan a = true) : neg a = 9221120237041090560 := by
  unfold neg flip; rw [canon_nan h]; decide
theorem neg_num {a : Int} (h0 : 0 ≤ a) (h1 : a ≤ 18446744073709551615) (h : isNan a = false) : neg a = if 9223372036854775808 ≤ a then a - 9223372036854775808 else a + 9223372036854775808 := by
  unfold neg flip; rw [canon_num h]
  unfold isNan at h
  have h' : a % 9223372036854775808 ≤ 9218868437227405312 := by simpa using h
  split
  · unfold canon; rw [if_neg (by omega)]
  · unfold canon; rw [if_neg (by omega)]
theorem neg_range (a : Int) (h0 : 0 ≤ a) (h1 : a ≤ 18446744073709551615) : 0 ≤ neg a ∧ neg a ≤ 18446744073709551615 := by
  have := flip_range a h0 h1
  unfold neg; exact ⟨canon_lo _ this.1, canon_hi _ this.2⟩

theorem flt_of_feq (a b : Int) (h0 : 0 ≤ a) (h1 : a ≤ 18446744073709551615) (h2 : 0 ≤ b) (h3 : b ≤ 18446744073709551615) (h : feq a b = true) : flt a b = false := by
  rw [flt_eq a b h0 h1 h2 h3]; rw [feq_eq a b h0 h1 h2 h3] at h
  simp only [Bool.and_eq_true, decide_eq_true_eq] at h
  simp only [Bool.and_eq_false_iff, decide_eq_false_iff_not]; right; omega
theorem flt_of_not (a b : Int) (h0 : 0 ≤ a) (h1 : a ≤ 18446744073709551615) (h2 : 0 ≤ b) (h3 : b ≤ 18446744073709551615) (na : isNan a = false) (nb : isNan b = false) (h : ¬ feq a b = true) : flt a b = decide (ord a b < 0) := by
  rw [flt_eq a b h0 h1 h2 h3, na, nb, sg_lt a b h0 h1 h2 h3 na nb]; rw [feq_eq a b h0 h1 h2 h3, na, nb, sg_eq a b h0 h2] at h
  simp only [Bool.not_false, Bool.true_and, Bool.or_eq_true, decide_eq_true_eq, not_or] at h ⊢
  rw [Bool.eq_iff_iff]
  have e : ord a b < 0 ↔ ord a b = -1 := by unfold ord; split <;> (try split) <;> omega
  simp [e, h.2]
theorem rank_canon (a : Int) : rank (canon a) = rank a := by unfold rank; rw [canon_canon]
theorem ord_canon (a b : Int) : ord (canon a) (canon b) = ord a b := by unfold ord; rw [rank_canon, rank_canon]

def pick (a b : Int) (last : Bool) : Int := if (isNan a || isNan b) = true then 9221120237041090560 else if (decide (0 < ord a b) != last) = true then b else a
theorem isNan_iff (a : Int) (h0 : 0 ≤ a) (h1 : a ≤ 18446744073709551615) : canon a = 9221120237041090560 ↔ isNan a = true := by
  cases h : isNan a
  · rw [canon_num h]; unfold isNan at h
    have h' : a % 9223372036854775808 ≤ 9218868437227405312 := by simpa using h
    simp; omega
  · rw [canon_nan h]; simp
theorem rank_num (a : Int) (h0 : 0 ≤ a) (h1 : a ≤ 18446744073709551615) (h : isNan a = false) : rank a < 18444492273895866368 := by
  unfold rank; rw [canon_num h]; unfold isNan at h
  have h' : a % 9223372036854775808 ≤ 9218868437227405312 := by simpa using h
  split <;> omega
theorem rank_nan (a : Int) (h : isNan a = true) : rank a = 18444492273895866368 := by
  unfold rank; rw [canon_nan h]; decide
theorem ord_pos (a b : Int) : 0 < ord a b ↔ rank b < rank a := by unfold ord; split <;> (try split) <;> omega
theorem ord_neg (a b : Int) : ord a b < 0 ↔ rank a < rank b := by unfold ord; split <;> (try split) <;> omega

theorem pick_nan (a b : Int) (l : Bool) (h : isNan a = true ∨ isNan b = true) : pick a b l = 9221120237041090560 := by
  unfold pick; rw [if_pos (by simpa using h)]
theorem pick_num (a b : Int) (l : Bool) (na : isNan a = false) (nb : isNan b = false) : pick a b l = if (decide (0 < ord a b) != l) = true then b else a := by
  unfold pick; rw [na, nb, if_neg (by decide)]
theorem min_nan1 (a b : Int) (h0 : 0 ≤ a) (h1 : a ≤ 18446744073709551615) (h : canon a = 9221120237041090560) : pick a b false = 9221120237041090560 :=
  pick_nan a b _ (Or.inl ((isNan_iff a h0 h1).1 h))
theorem min_nan2 (a b : Int) (h0 : 0 ≤ a) (h1 : a ≤ 18446744073709551615) (h2 : 0 ≤ b) (h3 : b ≤ 18446744073709551615) (h : (canon a == 9221120237041090560) = true ∨ (canon b == 9221120237041090560) = true) : pick a b false = 9221120237041090560 := by
  rcases h with h | h
  · exact pick_nan a b _ (Or.inl ((isNan_iff a h0 h1).1 (by simpa using h)))
  · exact pick_nan a b _ (Or.inr ((isNan_iff b h2 h3).1 (by simpa using h)))
theorem nums (a b : Int) (h0 : 0 ≤ a) (h1 : a ≤ 18446744073709551615) (h2 : 0 ≤ b) (h3 : b ≤ 18446744073709551615) (h : (canon a == 9221120237041090560) = false ∧ (canon b == 9221120237041090560) = false) : isNan a = false ∧ isNan b = false := by
  have i1 := isNan_iff a h0 h1
  have i2 := isNan_iff b h2 h3
  constructor
  · cases e : isNan a
    · rfl
    · rw [i1.2 e] at h; simp at h
  · cases e : isNan b
    · rfl
    · rw [i2.2 e] at h; simp at h
theorem min_a (a b : Int) (h0 : 0 ≤ a) (h1 : a ≤ 18446744073709551615) (h2 : 0 ≤ b) (h3 : b ≤ 18446744073709551615) (h : (canon a == 9221120237041090560) = false ∧ (canon b == 9221120237041090560) = false) (ho : ord (canon a) (canon b) ≤ 0) : pick a b false = canon a := by
  have n := nums a b h0 h1 h2 h3 h
  rw [ord_canon] at ho
  rw [pick_num a b _ n.1 n.2, if_neg (by simpa using ho), canon_num n.1]
theorem min_b (a b : Int) (h0 : 0 ≤ a) (h1 : a ≤ 18446744073709551615) (h2 : 0 ≤ b) (h3 : b ≤ 18446744073709551615) (h : (canon a == 9221120237041090560) = false ∧ (canon b == 9221120237041090560) = false) (ho : 0 < ord (canon a) (canon b)) : pick a b false = canon b := by
  have n := nums a b h0 h1 h2 h3 h
  rw [ord_canon] at ho
  rw [pick_num a b _ n.1 n.2, if_pos (by simpa using ho), canon_num n.2]
theorem ord_zero (a b : Int) (h0 : 0 ≤ a) (h1 : a ≤ 18446744073709551615) (h2 : 0 ≤ b) (h3 : b ≤ 18446744073709551615) (h : ord a b = 0) : canon a = canon b := by
  rw [← rank_inj a b h0 h1 h2 h3]; unfold ord at h; split at h
  · omega
  · split at h <;> omega
theorem max_a (a b : Int) (h0 : 0 ≤ a) (h1 : a ≤ 18446744073709551615) (h2 : 0 ≤ b) (h3 : b ≤ 18446744073709551615) (ho : 0 ≤ ord (canon a) (canon b)) : pick a b true = canon a := by
  rw [ord_canon] at ho
  cases na : isNan a
  · cases nb : isNan b
    · rw [pick_num a b _ na nb]
      by_cases z : 0 < ord a b
      · rw [if_neg (by simp [z]), canon_num na]
      · rw [if_pos (by simpa using z), ord_zero a b h0 h1 h2 h3 (by omega), canon_num nb]
    · have r1 := rank_num a h0 h1 na
      have r2 := rank_nan b nb
      have := (ord_neg a b).2 (by omega)
      omega
  · rw [canon_nan na, pick_nan a b _ (Or.inl na)]
theorem max_b (a b : Int) (h0 : 0 ≤ a) (h1 : a ≤ 18446744073709551615) (h2 : 0 ≤ b) (h3 : b ≤ 18446744073709551615) (ho : ord (canon a) (canon b) < 0) : pick a b true = canon b := by
  rw [ord_canon] at ho
  cases na : isNan a
  · cases nb : isNan b
    · rw [pick_num a b _ na nb, if_pos (by simp; omega), canon_num nb]
    · rw [canon_nan nb, pick_nan a b _ (Or.inr nb)]
  · have r2 := rank_nan a na
    have o := (ord_neg a b).1 ho
    cases nb : isNan b
    · have r1 := rank_num b h2 h3 nb
      omega
    · rw [canon_nan nb, pick_nan a b _ (Or.inl na)]
theorem pick_b (a b : Int) (l : Bool) (na : isNan a = false) (nb : isNan b = false) (h : (!decide (0 < ord a b) == l) = true) : pick a b l = b := by
  rw [pick_num a b _ na nb]; revert h; cases l <;> cases decide (0 < ord a b) <;> simp
theorem pick_a (a b : Int) (l : Bool) (na : isNan a = false) (nb : isNan b = false) (h : (!decide (0 < ord a b) == l) = false) : pick a b l = a := by
  rw [pick_num a b _ na nb]; revert h; cases l <;> cases decide (0 < ord a b) <;> simp
end Go.Proofs.Ytmikopnfdldgnaa

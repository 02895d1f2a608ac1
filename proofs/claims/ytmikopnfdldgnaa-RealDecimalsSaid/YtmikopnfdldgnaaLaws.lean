/- More plain facts: the order is one; the other sign; less and ahead. -/
import Derived.Test.YtmikopnfdldgnaaCmp
namespace Go.Proofs.Ytmikopnfdldgnaa
set_option linter.unusedVariables false
set_option linter.unusedSimpArgs false
open Go Ieee

theorem ord_swap (a b : Int) : ord b a = -ord a b := by unfold ord; split <;> (try split) <;> omega
theorem ord_range (a b : Int) : -1 ≤ ord a b ∧ ord a b ≤ 1 := by unfold ord; split <;> (try split) <;> omega
theorem ord_zero_iff (a b : Int) (h0 : 0 ≤ a) (h1 : a ≤ 18446744073709551615) (h2 : 0 ≤ b) (h3 : b ≤ 18446744073709551615) : ord a b = 0 ↔ canon a = canon b := by
  rw [← rank_inj a b h0 h1 h2 h3]; unfold ord; split
  · omega
  · split <;> omega
theorem ord_trans (a b c : Int) : 0 < ord a b ∨ 0 < ord b c ∨ ord a c ≤ 0 := by
  rw [ord_pos, ord_pos]
  by_cases h : 0 < ord a c
  · rw [ord_pos] at h; omega
  · right; right; omega

theorem neg_neg (a : Int) (h0 : 0 ≤ a) (h1 : a ≤ 18446744073709551615) : neg (neg a) = canon a := by
  cases na : isNan a
  · have e := neg_num h0 h1 na
    have r := neg_range a h0 h1
    have n2 : isNan (neg a) = false := by
      unfold isNan at na ⊢
      have na' : a % 9223372036854775808 ≤ 9218868437227405312 := by simpa using na
      rw [e]
      have : (if 9223372036854775808 ≤ a then a - 9223372036854775808 else a + 9223372036854775808) % 9223372036854775808 ≤ 9218868437227405312 := by split <;> omega
      simpa using this
    rw [neg_num r.1 r.2 n2, e, canon_num na]
    split <;> split <;> omega
  · rw [neg_nan na, canon_nan na]; decide
theorem canon_neg (a : Int) : canon (neg a) = neg a := canon_canon _

theorem read_flip (x y : Nat) (hr : rung y = rung x) (ht : top y = !top x) : double.read y = (double.read x).opposite := by
  unfold Format.read
  rw [dbl_binade, dbl_sign, dbl_inf]
  change (if rung y < _ then Datum.number (top y) (rung y) _ else if rung y < _ then Datum.number (top y) (_ + rung y % _) (_ + (rung y / _ - 1 : Nat)) else if rung y = _ then Datum.infinity (top y) else Datum.nan (top y) (rung y - _)) = (if rung x < _ then Datum.number (top x) (rung x) _ else if rung x < _ then Datum.number (top x) (_ + rung x % _) (_ + (rung x / _ - 1 : Nat)) else if rung x = _ then Datum.infinity (top x) else Datum.nan (top x) (rung x - _)).opposite
  rw [hr, ht]
  split
  · rfl
  · split
    · rfl
    · split <;> rfl

theorem sub_neg (a b : Int) (h2 : 0 ≤ b) (h3 : b ≤ 18446744073709551615) : fop .sub a b = fop .add a (neg b) := by
  have e : floatBits .sub .f64 (canon a).toNat (canon b).toNat = floatBits .add .f64 (canon a).toNat (canon (neg b)).toNat := by
    rw [canon_neg]
    show (((double.read _).sum (double.read (canon b).toNat).opposite).map double.write) = (((double.read _).sum (double.read (neg b).toNat)).map double.write)
    cases nb : isNan b
    · have f : double.read (neg b).toNat = (double.read b.toNat).opposite := by
        rw [neg_num h2 h3 nb]
        apply read_flip
        · unfold rung; split <;> omega
        · unfold top; rw [Bool.eq_iff_iff]; simp; split <;> omega
      rw [canon_num nb, f]
    · rw [canon_nan nb, neg_nan nb]
      obtain ⟨f, hf⟩ := read_nan (9221120237041090560 : Int).toNat (by decide)
      rw [hf]
      cases double.read (canon a).toNat <;> rfl
  unfold fop; rw [e]

/-- what stands ahead is less but for noughts and NaN -/
theorem lt_ahead (a b : Int) (h0 : 0 ≤ a) (h1 : a ≤ 18446744073709551615) (h2 : 0 ≤ b) (h3 : b ≤ 18446744073709551615) (h : flt a b = true) : ord a b = -1 ∧ flt b a = false ∧ feq a b = false := by
  rw [flt_eq a b h0 h1 h2 h3] at h
  simp only [Bool.and_eq_true, Bool.not_eq_true', decide_eq_true_eq] at h
  obtain ⟨⟨na, nb⟩, hs⟩ := h
  have L := sg_lt a b h0 h1 h2 h3 na nb
  rw [decide_eq_true hs] at L
  simp only [Bool.true_eq, Bool.and_eq_true, decide_eq_true_eq] at L
  refine ⟨L.1, ?_, ?_⟩
  · rw [flt_eq b a h2 h3 h0 h1, decide_eq_false (by omega), Bool.and_false]
  · rw [feq_eq a b h0 h1 h2 h3, decide_eq_false (by omega), Bool.and_false]
theorem ahead_lt (a b : Int) (h0 : 0 ≤ a) (h1 : a ≤ 18446744073709551615) (h2 : 0 ≤ b) (h3 : b ≤ 18446744073709551615) (h : ord a b = -1) (hl : flt a b = false) : canon b = 9221120237041090560 ∨ feq a b = true ∧ nought a = true ∧ nought b = true := by
  cases nb : isNan b
  · cases na : isNan a
    · right
      rw [flt_eq a b h0 h1 h2 h3, na, nb, sg_lt a b h0 h1 h2 h3 na nb, h] at hl
      have n : nought a = true ∧ nought b = true := by simpa using hl
      refine ⟨?_, n⟩
      rw [feq_eq a b h0 h1 h2 h3, na, nb, sg_eq a b h0 h2, n.1, n.2]; simp
    · exfalso
      have r1 := rank_nan a na
      have r2 := rank_num b h2 h3 nb
      have := (ord_neg a b).1 (by omega)
      omega
  · left; exact canon_nan nb
theorem eq_self (a : Int) (h0 : 0 ≤ a) (h1 : a ≤ 18446744073709551615) : feq a a = decide (¬ canon a = 9221120237041090560) := by
  rw [feq_eq a a h0 h1 h0 h1]
  have i := isNan_iff a h0 h1
  cases na : isNan a
  · have : ¬ canon a = 9221120237041090560 := by rw [i, na]; simp
    simp [this]
  · have : canon a = 9221120237041090560 := i.2 na
    simp [this]

theorem tot {y c d x : Int} (s : x = -y) (z : x = 0 ↔ c = d) (h : (!(-y == 0) == (c == d)) = true) : False := by
  by_cases e : c = d
  · have : y = 0 := by have := z.2 e; omega
    subst this; simp [e] at h
  · have : ¬ y = 0 := by intro h0; exact e (z.1 (by omega))
    have e1 : (-y == 0) = false := by rw [beq_eq_false_iff_ne]; omega
    have e2 : (c == d) = false := by rw [beq_eq_false_iff_ne]; exact e
    rw [e1, e2] at h; exact absurd h (by decide)

theorem tot3 {x y z : Int} (h : (x < 0 ∨ 0 < y) ∨ z ≤ 0) : (decide (x < 0) || decide (0 < y) || decide (z ≤ 0)) = true := by simpa using h
theorem self_no {f : Bool} {c : Int} (e : f = decide (¬ c = 9221120237041090560)) (h : ¬ f = (c != 9221120237041090560)) : False := by
  subst e; by_cases hc : c = 9221120237041090560 <;> simp [hc] at h
theorem ahead_yes {o c : Int} {l f n m : Bool} (A : o = -1 → l = false → c = 9221120237041090560 ∨ f = true ∧ n = true ∧ m = true) (ho : o = -1) (hl : ¬ l = true) : (c == 9221120237041090560 || m) = true := by
  rcases A ho (by simpa using hl) with h | ⟨_, _, h⟩ <;> simp [h]
theorem ahead_no1 {o c : Int} {l f n m : Bool} (A : o = -1 → l = false → c = 9221120237041090560 ∨ f = true ∧ n = true ∧ m = true) (ho : o = -1) (hl : ¬ l = true) (hc : ¬ c = 9221120237041090560) (hn : ¬ n = true) : False := by
  rcases A ho (by simpa using hl) with h | ⟨_, h, _⟩ <;> contradiction
theorem ahead_no2 {o c : Int} {l f n m : Bool} (A : o = -1 → l = false → c = 9221120237041090560 ∨ f = true ∧ n = true ∧ m = true) (ho : o = -1) (hl : ¬ l = true) (hc : ¬ c = 9221120237041090560) (hf : ¬ f = true) : False := by
  rcases A ho (by simpa using hl) with h | ⟨h, _, _⟩ <;> contradiction
end Go.Proofs.Ytmikopnfdldgnaa

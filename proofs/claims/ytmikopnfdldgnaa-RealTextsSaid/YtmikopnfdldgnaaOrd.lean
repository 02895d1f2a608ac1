/- How two words of 64 bits stand to each other as floats: no program in sight. -/
import Derived.Laws.FloatArith
namespace Go.Proofs.Ytmikopnfdldgnaa
set_option linter.unusedVariables false
set_option linter.unusedSimpArgs false
open Ieee

/-- a rung's value, in units of the least place -/
def val (r : Nat) : Nat := if r < 4503599627370496 then r else (4503599627370496 + r % 4503599627370496) * 2 ^ (r / 4503599627370496 - 1)

theorem val_succ (r : Nat) : val r < val (r + 1) := by
  unfold val
  by_cases h : r + 1 < 4503599627370496
  · rw [if_pos (by omega), if_pos h]; omega
  · by_cases h2 : r < 4503599627370496
    · have : r = 4503599627370495 := by omega
      subst this; decide
    · rw [if_neg h2, if_neg (by omega)]
      by_cases h3 : r % 4503599627370496 + 1 < 4503599627370496
      · have e1 : (r + 1) / 4503599627370496 = r / 4503599627370496 := by omega
        have e2 : (r + 1) % 4503599627370496 = r % 4503599627370496 + 1 := by omega
        rw [e1, e2]
        exact Nat.mul_lt_mul_of_pos_right (by omega) (Nat.two_pow_pos _)
      · have e1 : (r + 1) / 4503599627370496 = r / 4503599627370496 + 1 := by omega
        have e2 : (r + 1) % 4503599627370496 = 0 := by omega
        obtain ⟨q, hq⟩ : ∃ q, r / 4503599627370496 = q + 1 := ⟨r / 4503599627370496 - 1, by omega⟩
        rw [e1, e2, hq]
        simp only [Nat.add_sub_cancel]
        rw [Nat.pow_succ]
        have hp : 0 < 2 ^ q := Nat.two_pow_pos q
        generalize 2 ^ q = P at hp
        have h4 : r % 4503599627370496 = 4503599627370495 := by omega
        rw [h4]; omega

theorem val_lt {r s : Nat} (h : r < s) : val r < val s := by
  induction s with
  | zero => omega
  | succ s ih =>
    by_cases e : r = s
    · subst e; exact val_succ r
    · exact Nat.lt_trans (ih (by omega)) (val_succ s)
theorem val_lt_iff (r s : Nat) : val r < val s ↔ r < s := by
  constructor
  · intro h
    rcases Nat.lt_trichotomy r s with h1 | h1 | h1
    · exact h1
    · subst h1; omega
    · have := val_lt h1; omega
  · exact val_lt
theorem val_zero : val 0 = 0 := rfl
theorem val_inj {r s : Nat} (h : val r = val s) : r = s := by
  rcases Nat.lt_trichotomy r s with h1 | h1 | h1
  · have := val_lt h1; omega
  · exact h1
  · have := val_lt h1; omega

def top (w : Nat) : Bool := w / 9223372036854775808 % 2 == 1
def rung (w : Nat) : Nat := w % 9223372036854775808

theorem dbl_binade : double.binade = 4503599627370496 := by decide
theorem dbl_sign : double.signWeight = 9223372036854775808 := by decide
theorem dbl_inf : double.infRung = 9218868437227405312 := by decide
theorem dbl_least : double.leastPlace = -1074 := by decide

theorem read_fin (w : Nat) (h : rung w < 9218868437227405312) :
    ∃ m p, double.read w = .number (top w) m p ∧ -1074 ≤ p ∧ m * 2 ^ (p + 1074).toNat = val (rung w) := by
  unfold Format.read
  rw [dbl_binade, dbl_sign, dbl_inf, dbl_least]
  change ∃ m p, (if rung w < 4503599627370496 then Datum.number (top w) (rung w) (-1074) else _) = _ ∧ _ ∧ _
  by_cases h1 : rung w < 4503599627370496
  · rw [if_pos h1]
    refine ⟨_, _, rfl, by decide, ?_⟩
    unfold val; rw [if_pos h1]; simp
  · rw [if_neg h1]
    refine ⟨4503599627370496 + rung w % 4503599627370496, -1074 + (rung w / 4503599627370496 - 1 : Nat), if_pos h, by omega, ?_⟩
    unfold val; rw [if_neg h1]
    congr 2; omega
theorem read_inf (w : Nat) (h : rung w = 9218868437227405312) : double.read w = .infinity (top w) := by
  unfold Format.read
  rw [dbl_binade, dbl_sign, dbl_inf]
  change (if rung w < _ then _ else if rung w < _ then _ else if rung w = _ then _ else _) = _
  rw [if_neg (by omega), if_neg (by omega), if_pos h]; rfl
theorem read_nan (w : Nat) (h : 9218868437227405312 < rung w) : ∃ f, double.read w = .nan (top w) f := by
  refine ⟨rung w - 9218868437227405312, ?_⟩
  unfold Format.read
  rw [dbl_binade, dbl_sign, dbl_inf]
  change (if rung w < _ then _ else if rung w < _ then _ else if rung w = _ then _ else _) = _
  rw [if_neg (by omega), if_neg (by omega), if_neg (by omega)]; rfl

/-- a word's rung with its sign -/
def sgn (w : Nat) : Int := if top w then -(rung w : Int) else rung w

theorem shl (m k : Nat) : m <<< k = m * 2 ^ k := Nat.shiftLeft_eq m k

theorem signed_scale (s : Bool) (m k j : Nat) : signed s m k * (2 ^ j : Nat) = if s then -((m * 2 ^ (k + j) : Nat) : Int) else (m * 2 ^ (k + j) : Nat) := by
  unfold signed; rw [shl, Nat.pow_add, ← Nat.mul_assoc]
  cases s <;> simp [Int.neg_mul]

theorem sval_lt (s t : Bool) (a b : Nat) : (if s then -(val a : Int) else val a) < (if t then -(val b : Int) else val b) ↔ (if s then -(a : Int) else a) < (if t then -(b : Int) else b) := by
  have h1 := val_lt_iff a b
  have h2 := val_lt_iff b a
  have h3 : a = 0 ↔ val a = 0 := ⟨fun h => by subst h; rfl, fun h => val_inj (h.trans val_zero.symm)⟩
  have h4 : b = 0 ↔ val b = 0 := ⟨fun h => by subst h; rfl, fun h => val_inj (h.trans val_zero.symm)⟩
  cases s <;> cases t <;> simp <;> omega
theorem sval_eq (s t : Bool) (a b : Nat) : (if s then -(val a : Int) else val a) = (if t then -(val b : Int) else val b) ↔ (if s then -(a : Int) else a) = (if t then -(b : Int) else b) := by
  have h1 := sval_lt s t a b
  have h2 := sval_lt t s b a
  generalize (if s then -(val a : Int) else (val a : Int)) = A at *
  generalize (if t then -(val b : Int) else (val b : Int)) = B at *
  generalize (if s then -(a : Int) else (a : Int)) = C at *
  generalize (if t then -(b : Int) else (b : Int)) = D at *
  omega

theorem cmp_lt (a b : Int) : (compare a b == .lt) = decide (a < b) := by
  show (compareOfLessAndEq a b == .lt) = _
  unfold compareOfLessAndEq; split
  · simp [*]
  · split <;> simp [*]
theorem cmp_eq (a b : Int) : (compare a b == .eq) = decide (a = b) := by
  show (compareOfLessAndEq a b == .eq) = _
  unfold compareOfLessAndEq; split
  · simp; omega
  · split <;> simp [*]

/-- two words that are no NaNs: as their signed rungs -/
theorem order_lt (x y : Nat) (hx : rung x ≤ 9218868437227405312) (hy : rung y ≤ 9218868437227405312) : (double.order x y == some .lt) = decide (sgn x < sgn y) ∧ (double.order x y == some .eq) = decide (sgn x = sgn y) := by
  unfold Format.order sgn
  by_cases h1 : rung x < 9218868437227405312
  · obtain ⟨m, i, e1, p1, q1⟩ := read_fin x h1
    by_cases h2 : rung y < 9218868437227405312
    · obtain ⟨n, j, e2, p2, q2⟩ := read_fin y h2
      rw [e1, e2]
      simp only [Datum.order]
      have hb1 : (i - min i j).toNat + (min i j + 1074).toNat = (i + 1074).toNat := by omega
      have hb2 : (j - min i j).toNat + (min i j + 1074).toNat = (j + 1074).toNat := by omega
      have s1 := signed_scale (top x) m (i - min i j).toNat (min i j + 1074).toNat
      have s2 := signed_scale (top y) n (j - min i j).toNat (min i j + 1074).toNat
      rw [hb1, q1] at s1
      rw [hb2, q2] at s2
      have hp : (0 : Int) < (2 ^ (min i j + 1074).toNat : Nat) := Int.natCast_pos.2 (Nat.two_pow_pos _)
      have l1 := sval_lt (top x) (top y) (rung x) (rung y)
      have l2 := sval_eq (top x) (top y) (rung x) (rung y)
      rw [← s1, ← s2] at l1 l2
      generalize signed (top x) m (i - min i j).toNat = A at *
      generalize signed (top y) n (j - min i j).toNat = B at *
      have k1 : A * ((2 ^ (min i j + 1074).toNat : Nat) : Int) < B * ((2 ^ (min i j + 1074).toNat : Nat) : Int) ↔ A < B := ⟨fun h => Int.lt_of_mul_lt_mul_right h (by omega), fun h => Int.mul_lt_mul_of_pos_right h hp⟩
      have k2 : A * ((2 ^ (min i j + 1074).toNat : Nat) : Int) = B * ((2 ^ (min i j + 1074).toNat : Nat) : Int) ↔ A = B := ⟨fun h => Int.eq_of_mul_eq_mul_right (by omega) h, fun h => by rw [h]⟩
      have c1 := cmp_lt A B
      have c2 := cmp_eq A B
      constructor
      · show (compare A B == .lt) = _
        rw [c1]; exact decide_eq_decide.2 (k1.symm.trans l1)
      · show (compare A B == .eq) = _
        rw [c2]; exact decide_eq_decide.2 (k2.symm.trans l2)
    · have h3 : rung y = 9218868437227405312 := by omega
      rw [e1, read_inf y h3]
      generalize rung x = X at *; generalize rung y = Y at *
      cases top x <;> cases top y <;> refine ⟨?_, ?_⟩ <;> first | exact (decide_eq_true (by simp only [if_true, if_false, Bool.false_eq_true]; omega)).symm | exact (decide_eq_false (by simp only [if_true, if_false, Bool.false_eq_true]; omega)).symm
  · have h4 : rung x = 9218868437227405312 := by omega
    rw [read_inf x h4]
    by_cases h2 : rung y < 9218868437227405312
    · obtain ⟨n, j, e2, p2, q2⟩ := read_fin y h2
      rw [e2]
      generalize rung x = X at *; generalize rung y = Y at *
      cases top x <;> cases top y <;> refine ⟨?_, ?_⟩ <;> first | exact (decide_eq_true (by simp only [if_true, if_false, Bool.false_eq_true]; omega)).symm | exact (decide_eq_false (by simp only [if_true, if_false, Bool.false_eq_true]; omega)).symm
    · have h3 : rung y = 9218868437227405312 := by omega
      rw [read_inf y h3, h3, h4]
      cases top x <;> cases top y <;> exact ⟨by decide, by decide⟩

theorem order_nan (x y : Nat) (h : 9218868437227405312 < rung x ∨ 9218868437227405312 < rung y) : double.order x y = none := by
  unfold Format.order
  by_cases hx : 9218868437227405312 < rung x
  · obtain ⟨f, e⟩ := read_nan x hx
    rw [e]; rfl
  · have hy : 9218868437227405312 < rung y := by omega
    obtain ⟨f, e⟩ := read_nan y hy
    rw [e]
    cases double.read x <;> rfl
end Go.Proofs.Ytmikopnfdldgnaa

/-
  Numbers as bytes, seven bits a byte, in one way each: plain facts. No program in sight.
-/
import Derived.Laws.BitsAllLaws
namespace Go.Proofs.Ytioocaicmiggoaa
set_option linter.unusedVariables false
set_option linter.unusedSimpArgs false
open Go

/-- digits to the base 128, with fuel -/
def vbF : Nat → Nat → List UInt8
  | 0, n => [n.toUInt8]
  | k + 1, n => if n < 128 then [n.toUInt8] else (n % 128 + 128).toUInt8 :: vbF k (n / 128)
/-- the bytes of a number below 2 to the 64th -/
def vb (n : Nat) : List UInt8 := vbF 9 n
theorem vbF_pos (k n : Nat) : vbF k n ≠ [] := by cases k <;> (unfold vbF; try split) <;> simp
theorem vbF_len (k n : Nat) : 1 ≤ (vbF k n).length ∧ (vbF k n).length ≤ k + 1 := by
  induction k generalizing n with
  | zero => simp [vbF]
  | succ k ih => unfold vbF; split
                 · simp
                 · have := ih (n / 128); simp; omega
theorem vb_len (n : Nat) : 1 ≤ (vb n).length ∧ (vb n).length ≤ 10 := vbF_len 9 n
theorem vbF_small (k n : Nat) (h : n < 128) : vbF k n = [n.toUInt8] := by cases k <;> unfold vbF <;> simp [h]
/-- fuel that is enough is enough -/
theorem vbF_fuel (k : Nat) : ∀ n, n < 128 ^ (k + 1) → vbF (k + 1) n = vbF k n := by
  induction k with
  | zero => intro n h; rw [vbF_small 1 n (by simpa using h), vbF_small 0 n (by simpa using h)]
  | succ k ih =>
    intro n h
    by_cases hs : n < 128
    · rw [vbF_small _ n hs, vbF_small _ n hs]
    · have hd : n / 128 < 128 ^ (k + 1) := by
        rw [Nat.pow_succ] at h
        exact Nat.div_lt_of_lt_mul (by rw [Nat.mul_comm]; exact h)
      show (if n < 128 then [n.toUInt8] else (n % 128 + 128).toUInt8 :: vbF (k + 1) (n / 128)) = (if n < 128 then [n.toUInt8] else (n % 128 + 128).toUInt8 :: vbF k (n / 128))
      rw [ih _ hd]

/-- the number with which bytes begin, and how many they are: behind i bytes that gave n -/
def dcF : Nat → Nat → Nat → List UInt8 → Option (Nat × Nat)
  | 0, _, _, _ => none
  | _ + 1, _, _, [] => none
  | k + 1, i, n, b :: l =>
    if (i = 9 ∧ 1 < b.toNat) ∨ (0 < i ∧ b.toNat = 0) then none
    else if b.toNat < 128 then some (n + b.toNat % 128 * 128 ^ i, i + 1) else dcF k (i + 1) (n + b.toNat % 128 * 128 ^ i) l
def dec (l : List UInt8) : Option (Nat × Nat) := dcF 10 0 0 l

theorem toU8 (x : Nat) (h : x < 256) : x.toUInt8.toNat = x := by
  rw [Nat.toUInt8_eq, UInt8.toNat_ofNat']; omega
/-- what is read of a number's bytes is it, whatever stands behind -/
theorem dcF_vbF (k : Nat) : ∀ (i m n : Nat) (t : List UInt8), i + k = 9 → m < 128 ^ (k + 1) → (k = 0 → m < 2) → (0 < i → 0 < m) → (∀ q, i + q = 9 → m / 128 ^ q < 2) →
    dcF (k + 1) i n (vbF k m ++ t) = some (n + m * 128 ^ i, i + (vbF k m).length) := by
  induction k with
  | zero =>
    intro i m n t hik hm h0 hi _
    have hm2 := h0 rfl
    unfold vbF dcF
    simp only [List.cons_append, List.nil_append]
    rw [toU8 m (by omega), if_neg (by omega), if_pos (by omega), Nat.mod_eq_of_lt (by omega)]; rfl
  | succ k ih =>
    intro i m n t hik hm h0 hi hq
    by_cases hs : m < 128
    · rw [vbF_small _ m hs]
      unfold dcF
      simp only [List.cons_append, List.nil_append]
      rw [toU8 m (by omega), if_neg (by omega), if_pos hs, Nat.mod_eq_of_lt hs]; rfl
    · have e : vbF (k + 1) m = (m % 128 + 128).toUInt8 :: vbF k (m / 128) := by
        show (if m < 128 then _ else _) = _
        rw [if_neg hs]
      rw [e]
      unfold dcF
      simp only [List.cons_append]
      rw [toU8 (m % 128 + 128) (by omega), if_neg (by omega), if_neg (by omega)]
      have hd : m / 128 < 128 ^ (k + 1) := by
        rw [Nat.pow_succ] at hm
        exact Nat.div_lt_of_lt_mul (by rw [Nat.mul_comm]; exact hm)
      rw [ih (i + 1) (m / 128) _ t (by omega) hd ?_ (fun _ => by omega) ?_]
      · congr 2
        · have : (m % 128 + 128) % 128 = m % 128 := by omega
          rw [this, Nat.pow_succ, Nat.add_assoc]
          congr 1
          have h2 : m = m / 128 * 128 + m % 128 := by omega
          conv => rhs; rw [h2]
          rw [Nat.add_mul, Nat.mul_assoc, Nat.mul_comm 128, Nat.mul_comm (128 ^ i) 128, Nat.add_comm]
        · simp; omega
      · intro hk0; subst hk0
        have := hq 1 (by omega)
        simpa using this
      · intro q hq9
        have := hq (q + 1) (by omega)
        rw [Nat.pow_succ, Nat.mul_comm, ← Nat.div_div_eq_div_mul] at this
        exact this
theorem vb_top (n : Nat) (h : n < 18446744073709551616) (q : Nat) (hq : 0 + q = 9) : n / 128 ^ q < 2 := by
  obtain rfl : q = 9 := by omega
  exact Nat.div_lt_of_lt_mul (by omega)
theorem dec_vb (n : Nat) (h : n < 18446744073709551616) (t : List UInt8) : dec (vb n ++ t) = some (n, (vb n).length) := by
  have := dcF_vbF 9 0 n 0 t rfl (by omega) (by omega) (by omega) (vb_top n h)
  simpa [dec, vb] using this
/-- what is read has just the bytes that were read -/
theorem dcF_take (k : Nat) : ∀ (i n v j : Nat) (l : List UInt8), i + k = 9 → dcF (k + 1) i n l = some (v, j) →
    ∃ m, v = n + m * 128 ^ i ∧ j = i + (vbF k m).length ∧ l.take (vbF k m).length = vbF k m ∧ (vbF k m).length ≤ l.length ∧ m < 128 ^ (k + 1) ∧ (0 < i → 0 < m) ∧ (∀ q, i + q = 9 → m / 128 ^ q < 2) := by
  have one : ∀ (b : UInt8), b.toNat.toUInt8 = b := fun b => by
    apply UInt8.toNat_inj.1; rw [toU8 _ (UInt8.toNat_lt b)]
  induction k with
  | zero =>
    intro i n v j l hik h
    cases l with
    | nil => simp [dcF] at h
    | cons b l =>
      unfold dcF at h
      by_cases c1 : (i = 9 ∧ 1 < b.toNat) ∨ (0 < i ∧ b.toNat = 0)
      · rw [if_pos c1] at h; cases h
      · rw [if_neg c1] at h
        have hb : b.toNat < 128 := by omega
        rw [if_pos hb] at h
        simp only [Option.some.injEq, Prod.mk.injEq] at h
        rw [Nat.mod_eq_of_lt hb] at h
        have e : vbF 0 b.toNat = [b] := by unfold vbF; rw [one]
        refine ⟨b.toNat, h.1.symm, ?_, ?_, ?_, by omega, by omega, ?_⟩
        · rw [e]; exact h.2.symm
        · rw [e]; rfl
        · rw [e]; simp
        · intro q hq
          obtain rfl : q = 0 := by omega
          simp; omega
  | succ k ih =>
    intro i n v j l hik h
    cases l with
    | nil => simp [dcF] at h
    | cons b l =>
      unfold dcF at h
      by_cases c1 : (i = 9 ∧ 1 < b.toNat) ∨ (0 < i ∧ b.toNat = 0)
      · rw [if_pos c1] at h; cases h
      · rw [if_neg c1] at h
        by_cases hb : b.toNat < 128
        · rw [if_pos hb] at h
          simp only [Option.some.injEq, Prod.mk.injEq] at h
          rw [Nat.mod_eq_of_lt hb] at h
          have e : vbF (k + 1) b.toNat = [b] := by rw [vbF_small _ _ hb, one]
          refine ⟨b.toNat, h.1.symm, ?_, ?_, ?_, ?_, by omega, ?_⟩
          · rw [e]; exact h.2.symm
          · rw [e]; rfl
          · rw [e]; simp
          · exact Nat.lt_of_lt_of_le hb (Nat.le_trans (by decide : 128 ≤ 128 ^ 1) (Nat.pow_le_pow_right (by decide) (by omega)))
          · intro q hq
            rw [Nat.div_eq_of_lt]
            · decide
            · exact Nat.lt_of_lt_of_le hb (Nat.le_trans (by decide : 128 ≤ 128 ^ 1) (Nat.pow_le_pow_right (by decide) (by omega)))
        · rw [if_neg hb] at h
          have hb2 := UInt8.toNat_lt b
          obtain ⟨m, h1, h2, h3, h4, h5, h6, h7⟩ := ih (i + 1) _ v j l (by omega) h
          have hm := h6 (by omega)
          have e : vbF (k + 1) (m * 128 + b.toNat % 128) = b :: vbF k m := by
            show (if m * 128 + b.toNat % 128 < 128 then _ else ((m * 128 + b.toNat % 128) % 128 + 128).toUInt8 :: vbF k ((m * 128 + b.toNat % 128) / 128)) = _
            rw [if_neg (by omega), show (m * 128 + b.toNat % 128) / 128 = m by omega, show (m * 128 + b.toNat % 128) % 128 + 128 = b.toNat by omega, one]
          refine ⟨m * 128 + b.toNat % 128, ?_, ?_, ?_, ?_, ?_, by omega, ?_⟩
          · rw [h1, Nat.pow_succ, Nat.add_mul, Nat.mul_assoc m 128, Nat.mul_comm 128 (128 ^ i)]; omega
          · rw [h2, e]; simp; omega
          · rw [e]; simp [h3]
          · rw [e]; simp; exact h4
          · rw [Nat.pow_succ]
            generalize 128 ^ (k + 1) = P at h5 ⊢
            omega
          · intro q hq
            cases q with
            | zero => omega
            | succ q =>
              rw [Nat.pow_succ, Nat.mul_comm (128 ^ q) 128, ← Nat.div_div_eq_div_mul, show (m * 128 + b.toNat % 128) / 128 = m by omega]
              exact h7 q (by omega)
theorem dec_take {l : List UInt8} {v k : Nat} (h : dec l = some (v, k)) : k ≤ l.length ∧ l.take k = vb v ∧ k = (vb v).length ∧ v < 18446744073709551616 := by
  obtain ⟨m, h1, h2, h3, h4, h5, _, h7⟩ := dcF_take 9 0 0 v k l rfl h
  have hv : v = m := by simpa using h1
  subst hv
  have hk : k = (vb v).length := by unfold vb; omega
  refine ⟨by unfold vb at hk; omega, by rw [hk]; exact h3, hk, ?_⟩
  have := h7 9 rfl
  have h8 : v < 2 * 128 ^ 9 := by
    rw [Nat.div_lt_iff_lt_mul (by decide)] at this; exact this
  omega
/-- no number's bytes begin another one's -/
theorem vb_prefix (n m : Nat) (hn : n < 18446744073709551616) (hm : m < 18446744073709551616) (h : (vb m).take (vb n).length = vb n) : n = m := by
  have e : vb m = vb n ++ (vb m).drop (vb n).length := by
    have := List.take_append_drop (vb n).length (vb m)
    rw [h] at this; exact this.symm
  have h1 := dec_vb m hm []
  rw [List.append_nil, e, dec_vb n hn] at h1
  simp only [Option.some.injEq, Prod.mk.injEq] at h1
  exact h1.1

/-- numbers with a sign -/
def zig (n : Int) : Nat := if n < 0 then (-2 * n - 1).toNat else (2 * n).toNat
def zag (n : Nat) : Int := if n % 2 = 1 then -((n / 2 : Nat) : Int) - 1 else ((n / 2 : Nat) : Int)
theorem zig_lt (n : Int) (h0 : -9223372036854775808 ≤ n) (h1 : n ≤ 9223372036854775807) : zig n < 18446744073709551616 := by unfold zig; split <;> omega
theorem zag_zig (n : Int) : zag (zig n) = n := by unfold zig zag; split <;> split <;> omega
theorem zig_zag (n : Nat) : zig (zag n) = n := by unfold zig zag; split <;> split <;> omega
theorem zag_range (n : Nat) (h : n < 18446744073709551616) : -9223372036854775808 ≤ zag n ∧ zag n ≤ 9223372036854775807 := by unfold zag; split <;> omega

/-- one byte more -/
theorem dcF_step {l : List UInt8} {j N : Nat} (h : j < l.length) (h10 : j < 10) (hD : dcF (10 - j) j N (l.drop j) = dec l) :
    dec l = if (j = 9 ∧ 1 < l[j].toNat) ∨ (0 < j ∧ l[j].toNat = 0) then none else if l[j].toNat < 128 then some (N + l[j].toNat % 128 * 128 ^ j, j + 1) else dcF (10 - (j + 1)) (j + 1) (N + l[j].toNat % 128 * 128 ^ j) (l.drop (j + 1)) := by
  rw [← hD, List.drop_eq_getElem_cons h, show 10 - j = (9 - j) + 1 by omega, show 10 - (j + 1) = 9 - j by omega]
  rfl
theorem dcF_stop {l : List UInt8} {j N C : Nat} (h : j < l.length) (h10 : j < 10) (hC : C = l[j].toNat) (hD : dcF (10 - j) j N (l.drop j) = dec l) (hs : (j = 9 ∧ 1 < C) ∨ (0 < j ∧ C = 0)) : dec l = none := by
  subst hC; rw [dcF_step h h10 hD, if_pos hs]
theorem dcF_done {l : List UInt8} {j N C : Nat} (h : j < l.length) (h10 : j < 10) (hC : C = l[j].toNat) (hD : dcF (10 - j) j N (l.drop j) = dec l) (hs : ¬ ((j = 9 ∧ 1 < C) ∨ (0 < j ∧ C = 0))) (h128 : C < 128) : dec l = some (N + C % 128 * 128 ^ j, j + 1) := by
  subst hC; rw [dcF_step h h10 hD, if_neg hs, if_pos h128]
theorem dcF_more {l : List UInt8} {j N C : Nat} (h : j < l.length) (h10 : j < 10) (hC : C = l[j].toNat) (hD : dcF (10 - j) j N (l.drop j) = dec l) (hs : ¬ ((j = 9 ∧ 1 < C) ∨ (0 < j ∧ C = 0))) (h128 : ¬ C < 128) : dcF (10 - (j + 1)) (j + 1) (N + C % 128 * 128 ^ j) (l.drop (j + 1)) = dec l := by
  subst hC; rw [dcF_step h h10 hD, if_neg hs, if_neg h128]
theorem dcF_ends {l : List UInt8} {j N : Nat} (h : l.length ≤ j) (h10 : j < 10) (hD : dcF (10 - j) j N (l.drop j) = dec l) : dec l = none := by
  rw [← hD, List.drop_eq_nil_of_le h, show 10 - j = (9 - j) + 1 by omega]; rfl
/-- the digit that a byte adds -/
theorem digit_add {j N C : Nat} (h10 : j < 10) (hN : N < 128 ^ j) (hC : C < 256) (h9 : j = 9 → C ≤ 1) : N + C % 128 * 128 ^ j < 18446744073709551616 ∧ N + C % 128 * 128 ^ j < 128 ^ (j + 1) := by
  have h2 : C % 128 < 128 := Nat.mod_lt _ (by decide)
  have h3 : N + C % 128 * 128 ^ j < 128 ^ (j + 1) := by
    rw [Nat.pow_succ]
    have : C % 128 * 128 ^ j ≤ 127 * 128 ^ j := Nat.mul_le_mul_right _ (by omega)
    omega
  refine ⟨?_, h3⟩
  by_cases e : j = 9
  · subst e
    have := h9 rfl
    have h4 : C % 128 ≤ 1 := by omega
    have : C % 128 * 128 ^ 9 ≤ 1 * 128 ^ 9 := Nat.mul_le_mul_right _ h4
    omega
  · have : (128 : Nat) ^ (j + 1) ≤ 128 ^ 9 := Nat.pow_le_pow_right (by decide) (by omega)
    omega
theorem shl_wrap {j C S : Nat} (hS : S = C % 128 * 128 ^ j) (hl : S < 18446744073709551616) : IntKind.u64.wrap ((C : Int) % 128 * 2 ^ (7 * j)) = (S : Int) := by
  have e : ((C : Int) % 128 * 2 ^ (7 * j)) = (S : Int) := by
    rw [hS, show (128 : Nat) ^ j = 2 ^ (7 * j) by rw [Nat.pow_mul]]
    rw [Int.natCast_mul, Int.natCast_pow]; rfl
  rw [e, IntKind.wrap_u64]; omega
theorem and_127 (C : Nat) (h : C < 256) : bits BinOp.and IntKind.u8 (C : Int) 127 = ((C % 128 : Nat) : Int) := by
  rw [show (127 : Int) = ((127 : Nat) : Int) from rfl, u8_and_nat C 127 h (by omega)]
  congr 1
  exact Nat.and_two_pow_sub_one_eq_mod C 7
theorem or_add {j N C S : Nat} (hN : N < 128 ^ j) (hS : C % 128 * 128 ^ j = S) (h : N + S < 18446744073709551616) : bits BinOp.or IntKind.u64 (N : Int) (S : Int) = ((N + S : Nat) : Int) := by
  rw [u64_or_nat _ _ (by omega) (by omega)]
  congr 1
  have e : (128 : Nat) ^ j = 2 ^ (7 * j) := by rw [Nat.pow_mul]
  rw [Nat.or_comm, Nat.add_comm]
  exact nat_join (7 * j) S N (by rw [← hS, e]; exact Nat.mul_mod_left _ _) (by rw [← e]; exact hN)
end Go.Proofs.Ytioocaicmiggoaa

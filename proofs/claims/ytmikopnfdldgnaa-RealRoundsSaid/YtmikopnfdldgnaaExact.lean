/- Whole numbers up to 2 to the 52nd are floats; their sums are exact: no program in sight. -/
import Derived.Test.YtmikopnfdldgnaaNear
namespace Go.Proofs.Ytmikopnfdldgnaa
set_option linter.unusedVariables false
set_option linter.unusedSimpArgs false
open Go Ieee

theorem log_scale (m k : Nat) (h : m ≠ 0) : (m * 2 ^ k).log2 = m.log2 + k := by
  have hp := Nat.two_pow_pos k
  have h2 : m * 2 ^ k ≠ 0 := by have := Nat.mul_pos (Nat.pos_of_ne_zero h) hp; omega
  rw [Nat.log2_eq_iff h2]
  constructor
  · rw [Nat.pow_add]; exact Nat.mul_le_mul_right _ (log_lo h)
  · rw [show m.log2 + k + 1 = m.log2 + 1 + k by omega, Nat.pow_add]; exact Nat.mul_lt_mul_of_pos_right (log_hi m) hp

theorem cut_scale (neg : Bool) (n d k : Nat) (h : n ≠ 0) : Toward.even.cut neg (n * 2 ^ k) (d + k) = Toward.even.cut neg n d := by
  unfold Toward.cut
  rw [log_scale n k h]
  have e : (1 : Nat) <<< min (d + k) (n.log2 + k + 2) = 1 <<< min d (n.log2 + 2) * 2 ^ k := by
    rw [Nat.one_shiftLeft, Nat.one_shiftLeft, ← Nat.pow_add]; congr 1; omega
  simp only [e]
  generalize (1 : Nat) <<< min d (n.log2 + 2) = g
  have hp := Nat.two_pow_pos k
  generalize 2 ^ k = K at hp
  rw [Nat.mul_div_mul_right _ _ hp, Nat.mul_mod_mul_right]
  congr 2
  have a1 : decide (g * K < 2 * (n % g * K)) = decide (g < 2 * (n % g)) := by
    rw [decide_eq_decide, ← Nat.mul_assoc]
    exact ⟨fun h => Nat.lt_of_mul_lt_mul_right h, fun h => Nat.mul_lt_mul_of_pos_right h hp⟩
  have a2 : (g * K == 2 * (n % g * K)) = (g == 2 * (n % g)) := by
    rw [Bool.eq_iff_iff, beq_iff_eq, beq_iff_eq, ← Nat.mul_assoc]
    exact ⟨fun h => Nat.eq_of_mul_eq_mul_right hp h, fun h => congrArg (· * K) h⟩
  rw [a1, a2]

theorem cut_whole (neg : Bool) (n k : Nat) (h : n ≠ 0) : Toward.even.cut neg (n * 2 ^ k) k = n := by
  have := cut_scale neg n 0 k h
  rw [Nat.zero_add] at this
  rw [this, cut_even _ _ _ (by omega)]; simp; omega

theorem nearest_scale (neg : Bool) (m : Nat) (p : Int) (k : Nat) : double.nearest neg (m * 2 ^ k) (p - k) = double.nearest neg m p := by
  by_cases h : m = 0
  · subst h; simp [Format.nearest]
  have hp := Nat.two_pow_pos k
  have h2 : m * 2 ^ k ≠ 0 := by have := Nat.mul_pos (Nat.pos_of_ne_zero h) hp; omega
  unfold Format.nearest
  rw [if_neg h, if_neg h2, log_scale m k h]
  have e : max (p - (k : Int) + ((m.log2 + k : Nat) : Int) - double.fractionBits) double.leastPlace = max (p + (m.log2 : Int) - double.fractionBits) double.leastPlace := by
    congr 1; omega
  simp only [e]
  generalize max (p + (m.log2 : Int) - double.fractionBits) double.leastPlace = last
  have hk : Toward.even.cut neg ((m * 2 ^ k) <<< (p - k - last).toNat) (last - (p - k)).toNat = Toward.even.cut neg (m <<< (p - last).toNat) (last - p).toNat := by
    rw [Nat.shiftLeft_eq, Nat.shiftLeft_eq]
    by_cases c1 : p < last
    · rw [show (p - k - last).toNat = 0 by omega, show (last - (p - k)).toNat = (last - p).toNat + k by omega, show (p - last).toNat = 0 by omega, Nat.pow_zero, Nat.mul_one, Nat.mul_one]
      exact cut_scale neg m _ k h
    · obtain ⟨s, hs⟩ : ∃ s : Nat, p = last + s := ⟨(p - last).toNat, by omega⟩
      subst hs
      rw [show (last + s - last).toNat = s by omega, show (last - (last + s)).toNat = 0 by omega]
      have hm : m * 2 ^ s ≠ 0 := by have := Nat.mul_pos (Nat.pos_of_ne_zero h) (Nat.two_pow_pos s); omega
      have c0 : Toward.even.cut neg (m * 2 ^ s) 0 = m * 2 ^ s := by have := cut_whole neg (m * 2 ^ s) 0 hm; simpa using this
      rw [c0]
      by_cases c2 : k ≤ s
      · rw [show (last + s - k - last).toNat = s - k by omega, show (last - (last + s - k)).toNat = 0 by omega, Nat.mul_assoc, ← Nat.pow_add, show k + (s - k) = s by omega]
        exact c0
      · rw [show (last + s - k - last).toNat = 0 by omega, show (last - (last + s - k)).toNat = k - s by omega, Nat.pow_zero, Nat.mul_one, show k = s + (k - s) by omega, Nat.pow_add, ← Nat.mul_assoc, show s + (k - s) - s = k - s by omega]
        exact cut_whole neg _ _ hm
  rw [hk]

theorem top_of (a : Int) (h0 : 0 ≤ a) (h1 : a ≤ 18446744073709551615) : top a.toNat = decide (9223372036854775808 ≤ a) := by
  unfold top; rw [Bool.eq_iff_iff]; simp; omega
theorem val_at (E R : Nat) (h1 : 4503599627370496 ≤ R) (h2 : R < 9007199254740992) : val (E * 4503599627370496 + R) = R * 2 ^ E := by
  have d : (E * 4503599627370496 + R) / 4503599627370496 - 1 = E := by omega
  have m : 4503599627370496 + (E * 4503599627370496 + R) % 4503599627370496 = R := by omega
  unfold val
  rw [if_neg (by omega), d, m]
/-- 1, in units of the least place -/
def expo : Nat := 1074
def unit : Nat := 2 ^ expo
theorem unit_pos : 0 < unit := Nat.two_pow_pos expo

/-- a whole number of at most 52 digits: what its bits stand for -/
theorem ofInt_reads (n : Int) (h0 : -4503599627370496 ≤ n) (h1 : n ≤ 4503599627370496) :
    rung (ofInt n).toNat < 9218868437227405312 ∧ top (ofInt n).toNat = decide (n < 0) ∧ val (rung (ofInt n).toNat) = n.natAbs * unit := by
  by_cases hz : n = 0
  · subst hz; exact ⟨by decide, by decide, by rw [show (ofInt 0).toNat = 0 from by decide]; simp [rung, val]⟩
  · obtain ⟨A, hA⟩ : ∃ A, n.natAbs = A := ⟨_, rfl⟩
    have hA0 : A ≠ 0 := by omega
    have hL : A.log2 ≤ 52 := by
      have := (Nat.log2_lt hA0).2 (show A < 2 ^ 53 by omega)
      omega
    have hR : round11 (A * 2 ^ (63 - A.log2)) = A * 2 ^ (52 - A.log2) := by
      rw [← kept_small false A hA0 hL]
      have := cut_whole false (A * 2 ^ (52 - A.log2)) 0 (by have := Nat.mul_pos (Nat.pos_of_ne_zero hA0) (Nat.two_pow_pos (52 - A.log2)); omega)
      simpa using this
    have r1 : 4503599627370496 ≤ A * 2 ^ (52 - A.log2) := by
      have := Nat.mul_le_mul_right (2 ^ (52 - A.log2)) (log_lo hA0)
      rw [← Nat.pow_add, show A.log2 + (52 - A.log2) = 52 by omega] at this
      exact this
    have r2 : A * 2 ^ (52 - A.log2) < 9007199254740992 := by
      have := Nat.mul_lt_mul_of_pos_right (log_hi A) (Nat.two_pow_pos (52 - A.log2))
      rw [← Nat.pow_add, show A.log2 + 1 + (52 - A.log2) = 53 by omega] at this
      exact this
    have hv : A * 2 ^ (52 - A.log2) * 2 ^ (1022 + A.log2) = A * unit := by
      unfold unit; rw [Nat.mul_assoc, ← Nat.pow_add, show 52 - A.log2 + (1022 + A.log2) = expo by unfold expo; omega]
    have Hv := Lib.hid hv
    clear hv
    have hn := ofInt_near n hz (by omega) (by omega)
    unfold near at hn
    rw [hA, hR] at hn
    generalize A * 2 ^ (52 - A.log2) = R at *
    generalize A.log2 = L at *
    have hrung : rung (ofInt n).toNat = (1022 + L) * 4503599627370496 + R := by
      rw [hn]; unfold rung; split <;> omega
    refine ⟨by rw [hrung]; omega, ?_, ?_⟩
    · rw [top_of _ (by rw [hn]; split <;> omega) (by rw [hn]; split <;> omega), decide_eq_decide, hn]; split <;> omega
    · rw [hrung, hA, ← Hv.out]
      exact val_at _ _ r1 r2
theorem ofInt_num (n : Int) (h0 : -4503599627370496 ≤ n) (h1 : n ≤ 4503599627370496) : isNan (ofInt n) = false := by
  have r := (ofInt_reads n h0 h1).1
  have q := ofInt_range n (by omega) (by omega)
  unfold isNan; have := rung_of (ofInt n) q.1 q.2.1
  simp; omega

theorem signed_val (s : Bool) (m k : Nat) : signed s m k = (if s then -1 else 1) * ((m * 2 ^ k : Nat) : Int) := by
  unfold signed; rw [Nat.shiftLeft_eq]; cases s <;> simp

theorem add_ofInt (n m : Int) (h0 : -4503599627370496 ≤ n) (h1 : n ≤ 4503599627370496) (h2 : -4503599627370496 ≤ m) (h3 : m ≤ 4503599627370496) : fop .add (ofInt n) (ofInt m) = ofInt (n + m) := by
  obtain ⟨a1, a2, a3⟩ := ofInt_reads n h0 h1
  obtain ⟨b1, b2, b3⟩ := ofInt_reads m h2 h3
  have qn := ofInt_range n (by omega) (by omega)
  have qm := ofInt_range m (by omega) (by omega)
  have qs := ofInt_range (n + m) (by omega) (by omega)
  obtain ⟨mg, i, e1, p1, v1⟩ := read_fin _ a1
  obtain ⟨mh, j, e2, p2, v2⟩ := read_fin _ b1
  rw [a2] at e1; rw [b2] at e2; rw [a3] at v1; rw [b3] at v2
  have key : floatBits .add .f64 (canon (ofInt n)).toNat (canon (ofInt m)).toNat = some (floatOfInt .f64 (n + m)) := by
    rw [qn.2.2, qm.2.2]
    show ((double.read _).sum (double.read _)).map double.write = some (double.nearest (decide (n + m < 0)) (n + m).natAbs 0)
    rw [e1, e2]
    simp only [Datum.sum, Option.map_some]
    congr 1
    obtain ⟨t, ht⟩ : ∃ t : Int, t = signed (decide (n < 0)) mg (i - min i j).toNat + signed (decide (m < 0)) mh (j - min i j).toNat := ⟨_, rfl⟩
    rw [← ht]
    have hs : ∀ (x : Int) (M : Nat) (p : Int), -1074 ≤ min i j → min i j ≤ p → M * 2 ^ (p + 1074).toNat = x.natAbs * unit → signed (decide (x < 0)) M (p - min i j).toNat * ((2 ^ (min i j + 1074).toNat : Nat) : Int) = x * (unit : Int) := by
      intro x M p hb hp hv
      rw [signed_scale, show (p - min i j).toNat + (min i j + 1074).toNat = (p + 1074).toNat by omega, hv]
      generalize unit = K
      by_cases hx : x < 0
      · rw [if_pos (by simpa using hx)]
        rw [Int.natCast_mul, ← Int.neg_mul]; congr 1; omega
      · rw [if_neg (by simpa using hx)]
        rw [Int.natCast_mul]; congr 1; omega
    have hsum : t * ((2 ^ (min i j + 1074).toNat : Nat) : Int) = (n + m) * (unit : Int) := by
      rw [ht, Int.add_mul, Int.add_mul, hs n mg i (by omega) (by omega) v1, hs m mh j (by omega) (by omega) v2]
    have hb : -1074 ≤ min i j := by omega
    generalize min i j = base at *
    have hneg : (if t = 0 then (decide (n < 0) && decide (m < 0)) else decide (t < 0)) = decide (n + m < 0) := by
      have hp1 : (0 : Int) < ((2 ^ (base + 1074).toNat : Nat) : Int) := Int.natCast_pos.2 (Nat.two_pow_pos _)
      have hp2 : (0 : Int) < (unit : Int) := Int.natCast_pos.2 unit_pos
      generalize ((2 ^ (base + 1074).toNat : Nat) : Int) = P at *
      generalize (unit : Int) = Q at *
      by_cases hz : t = 0
      · rw [if_pos hz]
        subst hz
        rw [Int.zero_mul] at hsum
        have : n + m = 0 := by
          rcases Int.mul_eq_zero.1 hsum.symm with h | h
          · exact h
          · omega
        rw [Bool.eq_iff_iff]; simp; omega
      · rw [if_neg hz]
        have : t < 0 ↔ n + m < 0 := by
          constructor
          · intro h
            have := Int.mul_neg_of_neg_of_pos h hp1
            rw [hsum] at this
            exact Int.lt_of_not_ge fun hge => by have := Int.mul_nonneg hge (by omega : 0 ≤ Q); omega
          · intro h
            have := Int.mul_neg_of_neg_of_pos h hp2
            rw [← hsum] at this
            exact Int.lt_of_not_ge fun hge => by have := Int.mul_nonneg hge (by omega : 0 ≤ P); omega
        exact decide_eq_decide.2 this
    show double.nearest (if t = 0 then (decide (n < 0) && decide (m < 0)) else decide (t < 0)) t.natAbs base = _
    rw [hneg]
    have hmag : t.natAbs * 2 ^ (base + 1074).toNat = (n + m).natAbs * unit := by
      have := congrArg Int.natAbs hsum
      rw [Int.natAbs_mul, Int.natAbs_mul, Int.natAbs_natCast, Int.natAbs_natCast] at this
      exact this
    have s1 := nearest_scale (decide (n + m < 0)) t.natAbs base (base + 1074).toNat
    have s2 : double.nearest (decide (n + m < 0)) ((n + m).natAbs * unit) (0 - (expo : Nat)) = double.nearest (decide (n + m < 0)) (n + m).natAbs 0 := nearest_scale (decide (n + m < 0)) (n + m).natAbs 0 expo
    have ee : base - ((base + 1074).toNat : Int) = 0 - (expo : Nat) := by unfold expo; omega
    rw [← s1, ← s2, hmag, ee]
  rw [fop_some key]
  exact qs.2.2

theorem lt_ofInt (n m : Int) (h0 : -4503599627370496 ≤ n) (h1 : n ≤ 4503599627370496) (h2 : -4503599627370496 ≤ m) (h3 : m ≤ 4503599627370496) : flt (ofInt n) (ofInt m) = decide (n < m) := by
  have qn := ofInt_range n (by omega) (by omega)
  have qm := ofInt_range m (by omega) (by omega)
  obtain ⟨a1, a2, a3⟩ := ofInt_reads n h0 h1
  obtain ⟨b1, b2, b3⟩ := ofInt_reads m h2 h3
  rw [(flt_num _ _ qn.1 qn.2.1 qm.1 qm.2.1 (ofInt_num n h0 h1) (ofInt_num m h2 h3)).1, ← sgn_of _ qn.1 qn.2.1, ← sgn_of _ qm.1 qm.2.1]
  unfold sgn
  rw [decide_eq_decide, ← sval_lt, a2, b2, a3, b3]
  have hp2 := unit_pos
  generalize unit = Q at hp2
  have hx : ∀ x : Int, (if decide (x < 0) = true then -((x.natAbs * Q : Nat) : Int) else ((x.natAbs * Q : Nat) : Int)) = x * (Q : Int) := by
    intro x
    by_cases hx : x < 0
    · rw [if_pos (by simpa using hx), Int.natCast_mul, ← Int.neg_mul]; congr 1; omega
    · rw [if_neg (by simpa using hx), Int.natCast_mul]; congr 1; omega
  rw [hx, hx]
  have hq : (0 : Int) < (Q : Int) := Int.natCast_pos.2 hp2
  exact ⟨fun h => Int.lt_of_mul_lt_mul_right h (by omega), fun h => Int.mul_lt_mul_of_pos_right h hq⟩
end Go.Proofs.Ytmikopnfdldgnaa

/- Ten to a power, as a float: no program in sight. -/
import Derived.Test.YtmikopnfdldgnaaNear
namespace Go.Proofs.Ytmikopnfdldgnaa
set_option linter.unusedVariables false
set_option linter.unusedSimpArgs false
open Go Ieee
def p10 (k : Nat) : Int := 10 ^ k
theorem p10_zero : p10 0 = 1 := rfl
theorem p10_succ (k : Nat) : p10 (k + 1) = p10 k * 10 := by unfold p10; rw [Int.pow_succ]
theorem p10_range (k : Nat) (h : k ≤ 15) : 1 ≤ p10 k ∧ p10 k ≤ 1000000000000000 := by
  have : ∀ j : Fin 16, 1 ≤ p10 j ∧ p10 j ≤ 1000000000000000 := by decide
  exact this ⟨k, by omega⟩
/-- the power as a float's bits -/
def f10 (k : Nat) : Int := ofInt (p10 k)
theorem f10_zero : f10 0 = 4607182418800017408 := by decide
theorem f10_succ (k : Nat) (h : k < 15) : fop .mul (f10 k) (ofInt 10) = f10 (k + 1) := by
  have : ∀ j : Fin 15, fop .mul (f10 j) (ofInt 10) = f10 (j + 1) := by decide +kernel
  exact this ⟨k, h⟩
theorem f10_range (k : Nat) (h : k ≤ 15) : 0 ≤ f10 k ∧ f10 k ≤ 18446744073709551615 := by
  have q := p10_range k h
  have r := ofInt_range (p10 k) (by omega) (by omega)
  exact ⟨r.1, r.2.1⟩
/-- the float nearest to n / 10 to the k -/
def dec (n : Int) (k : Nat) : Int := fop .quo (ofInt n) (f10 k)
theorem dec_one : dec 10 1 = 4607182418800017408 := by decide +kernel

theorem run_quo {P : Program} (a b : Int) (w : World) (h0 : -9223372036854775808 ≤ a) (h1 : a ≤ 9223372036854775807) (h2 : -9223372036854775808 ≤ b) (h3 : b ≤ 9223372036854775807) :
    ∃ r n : Nat, (∀ t, (binOp .quo t (.float .f64 (floatOfInt .f64 a)) (.float .f64 (floatOfInt .f64 b))).run P w = .ok (.float .f64 r) (w.drewN n)) ∧ r ≤ 18446744073709551615 ∧ RowKit.Hid (canon r = fop .quo (ofInt a) (ofInt b)) := by
  obtain ⟨r, n, h, hr, H⟩ := run_float_any (P := P) .quo (by simp) (ofInt a) (ofInt b) w
  refine ⟨r, n, ?_, hr, H⟩
  rw [(ofInt_range a h0 h1).2.2, (ofInt_range b h2 h3).2.2] at h
  exact h
end Go.Proofs.Ytmikopnfdldgnaa

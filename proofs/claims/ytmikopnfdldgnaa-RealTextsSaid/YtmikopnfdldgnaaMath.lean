/- Plain facts on the bits of floats: no program in sight. -/
import Derived.Laws.FloatArith
import Derived.Laws.BitsAllLaws
import Derived.Deep.Draws
import Derived.Lib.Hide
namespace Go.Proofs.Ytmikopnfdldgnaa
set_option linter.unusedVariables false
set_option linter.unusedSimpArgs false
open Go

/-- one NaN for all -/
def canon (a : Int) : Int := if 9218868437227405312 < a % 9223372036854775808 then 9221120237041090560 else a

theorem canon_lo (a : Int) (h : 0 ≤ a) : 0 ≤ canon a := by unfold canon; split <;> omega
theorem canon_hi (a : Int) (h : a ≤ 18446744073709551615) : canon a ≤ 18446744073709551615 := by unfold canon; split <;> omega
theorem canon_canon (a : Int) : canon (canon a) = canon a := by
  unfold canon; split
  · rfl
  · rfl

theorem andNot_sign (a : Int) (h0 : 0 ≤ a) (h1 : a ≤ 18446744073709551615) : bits BinOp.andNot IntKind.u64 a 9223372036854775808 = a % 9223372036854775808 := by
  rw [u64_andNot a 9223372036854775808 h0 (by omega) (by decide) (by decide)]
  have : a.toNat &&& (18446744073709551615 - (9223372036854775808 : Int).toNat) = a.toNat % 2 ^ 63 := Nat.and_two_pow_sub_one_eq_mod a.toNat 63
  rw [this]; omega

theorem and_frac (a : Int) (h0 : 0 ≤ a) (h1 : a ≤ 18446744073709551615) : bits BinOp.and IntKind.u64 a 4503599627370495 = a % 4503599627370496 := by
  rw [u64_and a 4503599627370495 h0 (by omega) (by decide) (by decide)]
  have : a.toNat &&& (4503599627370495 : Int).toNat = a.toNat % 2 ^ 52 := Nat.and_two_pow_sub_one_eq_mod a.toNat 52
  rw [this]; omega

theorem and_exp (a : Int) (h0 : 0 ≤ a) (h1 : a ≤ 18446744073709551615) : bits BinOp.and IntKind.u64 (a / 4503599627370496) 2047 = a / 4503599627370496 % 2048 := by
  rw [u64_and _ 2047 (by omega) (by omega) (by decide) (by decide)]
  have : (a / 4503599627370496).toNat &&& (2047 : Int).toNat = (a / 4503599627370496).toNat % 2 ^ 11 := Nat.and_two_pow_sub_one_eq_mod _ 11
  rw [this]; omega

/-- is it a NaN's? -/
def isNan (a : Int) : Bool := decide (9218868437227405312 < a % 9223372036854775808)

theorem canon_nan {a : Int} (h : isNan a = true) : canon a = 9221120237041090560 := by
  unfold canon; unfold isNan at h; rw [if_pos (by simpa using h)]
theorem canon_num {a : Int} (h : isNan a = false) : canon a = a := by
  unfold canon; unfold isNan at h; rw [if_neg (by simpa using h)]
theorem isNan_of {a : Int} (h : 9218868437227405312 < bits BinOp.andNot IntKind.u64 a 9223372036854775808) (h0 : 0 ≤ a) (h1 : a ≤ 18446744073709551615) : isNan a = true := by
  rw [andNot_sign a h0 h1] at h; unfold isNan; simpa using h
theorem notNan_of {a : Int} (h : bits BinOp.andNot IntKind.u64 a 9223372036854775808 ≤ 9218868437227405312) (h0 : 0 ≤ a) (h1 : a ≤ 18446744073709551615) : isNan a = false := by
  rw [andNot_sign a h0 h1] at h; unfold isNan; simpa using h
theorem isNan_ref {a : Int} (h0 : 0 ≤ a) (h1 : a ≤ 18446744073709551615) : isNan a = ((bits BinOp.and IntKind.u64 (a / 4503599627370496) 2047 == 2047) && (bits BinOp.and IntKind.u64 a 4503599627370495 != 0)) := by
  rw [and_exp a h0 h1, and_frac a h0 h1, Bool.eq_iff_iff]; unfold isNan; simp; omega

/-- the bits of an operation on canonical bits, made canonical -/
def fop (op : BinOp) (a b : Int) : Int :=
  match floatBits op .f64 (canon a).toNat (canon b).toNat with
  | some r => canon r
  | none => 9221120237041090560

theorem fop_some {op : BinOp} {a b : Int} {r : Nat} (h : floatBits op .f64 (canon a).toNat (canon b).toNat = some r) : fop op a b = canon r := by unfold fop; rw [h]
theorem fop_none {op : BinOp} {a b : Int} (h : floatBits op .f64 (canon a).toNat (canon b).toNat = none) : fop op a b = 9221120237041090560 := by unfold fop; rw [h]
theorem some_hi {op : BinOp} {x y r : Nat} (h : floatBits op .f64 x y = some r) : r ≤ 18446744073709551615 := by
  have := floatBits_wf h
  simp [Lit.wf] at this; omega
theorem fop_lo (op : BinOp) (a b : Int) : 0 ≤ fop op a b := by
  cases h : floatBits op .f64 (canon a).toNat (canon b).toNat with
  | none => rw [fop_none h]; decide
  | some r => rw [fop_some h]; exact canon_lo _ (by omega)
theorem fop_hi (op : BinOp) (a b : Int) : fop op a b ≤ 18446744073709551615 := by
  cases h : floatBits op .f64 (canon a).toNat (canon b).toNat with
  | none => rw [fop_none h]; decide
  | some r => rw [fop_some h]; exact canon_hi _ (by have := some_hi h; omega)

/-- the NaN that the tape gives -/
def tapeNan (x y : Nat) (w : World) : Nat := (Question.nanBits .f64 x y).cut (w.tape w.drawn (Question.nanBits .f64 x y))
theorem tapeNan_hi (x y : Nat) (w : World) : tapeNan x y w ≤ 18446744073709551615 := by unfold tapeNan Question.cut; simp only; omega
theorem tapeNan_nan (x y : Nat) (w : World) : canon (tapeNan x y w) = 9221120237041090560 := by
  unfold canon; rw [if_pos]
  unfold tapeNan Question.cut
  generalize w.tape w.drawn (Question.nanBits .f64 x y) = t
  show (9218868437227405312 : Int) < ((t % 2 * 9223372036854775808 + 9218868437227405312 + 1 + t / 2 % 4503599627370495 : Nat) : Int) % 9223372036854775808
  have h2 : t % 2 = 0 ∨ t % 2 = 1 := by omega
  rcases h2 with h | h <;> rw [h] <;> omega
theorem run_float_none {P : Program} (op : BinOp) (hop : op = .add ∨ op = .sub ∨ op = .mul ∨ op = .quo) (t : TypeId) (x y : Nat) (h : floatBits op .f64 x y = none) (w : World) :
    (binOp op t (.float .f64 x) (.float .f64 y)).run P w = .ok (.float .f64 (tapeNan x y w)) w.drew := by
  unfold floatBits at h
  rcases hop with rfl | rfl | rfl | rfl <;> simp only at h
  all_goals simp [binOp, Op.floatArith, h, Question.forced, tapeNan]
  all_goals rfl

/-- an operation on floats, whatever comes of it -/
theorem run_float_any {P : Program} (op : BinOp) (hop : op = .add ∨ op = .sub ∨ op = .mul ∨ op = .quo) (a b : Int) (w : World) :
    ∃ r n : Nat, (∀ t, (binOp op t (.float .f64 (canon a).toNat) (.float .f64 (canon b).toNat)).run P w = .ok (.float .f64 r) (w.drewN n)) ∧ r ≤ 18446744073709551615 ∧ RowKit.Hid (canon r = fop op a b) := by
  cases h : floatBits op .f64 (canon a).toNat (canon b).toNat with
  | some r => exact ⟨r, 0, fun t => run_float_arith (P := P) w op t .f64 _ _ _ h, some_hi h, (fop_some h).symm⟩
  | none => exact ⟨_, 1, fun t => run_float_none op hop t _ _ h w, tapeNan_hi _ _ _, (tapeNan_nan _ _ _).trans (fop_none h).symm⟩
end Go.Proofs.Ytmikopnfdldgnaa

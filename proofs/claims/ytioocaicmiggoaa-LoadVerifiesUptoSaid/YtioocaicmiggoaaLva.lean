/-
  Values cleaned: the walks of value.Clean, of the document's Clean, and of what they call.
-/
import Derived.Laws.BitsAllLaws
import Derived.IntWalk
import Derived.Test.YtioocaicmiggoaaLhe
namespace Go.Proofs.Ytioocaicmiggoaa
set_option linter.unusedVariables false
set_option linter.unusedSimpArgs false
open Go.RowKit Go.Deep

theorem ret_int {k : IntKind} {a b : Int} (h : a = b) : Ending.returned (.int k a) = .returned (.int k b) := by rw [h]
theorem ret_bool {a b : Bool} (h : a = b) : Ending.returned (.bool a) = .returned (.bool b) := by rw [h]
theorem wfu_lo {a : Int} (h : wfu a) : 0 ≤ a ∧ a ≤ 18446744073709551615 := by unfold wfu at h; simp only [Lit.wf, Bool.and_eq_true, decide_eq_true_eq] at h; exact h
theorem wfi_lo {a : Int} (h : wfi a) : -9223372036854775808 ≤ a ∧ a ≤ 9223372036854775807 := by unfold wfi at h; simp only [Lit.wf, Bool.and_eq_true, decide_eq_true_eq] at h; exact h
/-- one NaN for all -/
def canon (a : Int) : Int := if 9218868437227405312 < a % 9223372036854775808 then 9221120237041090560 else a
theorem canon_lo (a : Int) (h : 0 ≤ a) : 0 ≤ canon a := by unfold canon; split <;> omega
theorem canon_hi (a : Int) (h : a ≤ 18446744073709551615) : canon a ≤ 18446744073709551615 := by unfold canon; split <;> omega
theorem andNot_sign (a : Int) (h0 : 0 ≤ a) (h1 : a ≤ 18446744073709551615) : bits BinOp.andNot IntKind.u64 a 9223372036854775808 = a % 9223372036854775808 := by
  rw [u64_andNot a 9223372036854775808 h0 (by omega) (by decide) (by decide)]
  have : a.toNat &&& (18446744073709551615 - (9223372036854775808 : Int).toNat) = a.toNat % 2 ^ 63 := Nat.and_two_pow_sub_one_eq_mod a.toNat 63
  rw [this]; omega

theorem and_frac (a : Int) (h0 : 0 ≤ a) (h1 : a ≤ 18446744073709551615) : bits BinOp.and IntKind.u64 a 4503599627370495 = a % 4503599627370496 := by
  rw [u64_and a 4503599627370495 h0 (by omega) (by decide) (by decide)]
  have : a.toNat &&& (4503599627370495 : Int).toNat = a.toNat % 2 ^ 52 := Nat.and_two_pow_sub_one_eq_mod a.toNat 52
  rw [this]; omega

theorem and_exp (a : Int) (h0 : 0 ≤ a) (h1 : a ≤ 18446744073709551615) : bits BinOp.and IntKind.u64 (a / 4503599627370496) 2047 = a / 4503599627370496 % 2048 := by
  rw [u64_and _ 2047 (by omega) (by omega) (by decide) (by decide)]
  have : (a / 4503599627370496).toNat &&& (2047 : Int).toNat = (a / 4503599627370496).toNat % 2 ^ 11 := Nat.and_two_pow_sub_one_eq_mod _ 11
  rw [this]; omega

/-- is it a NaN's? -/
def isNan (a : Int) : Bool := decide (9218868437227405312 < a % 9223372036854775808)

theorem canon_nan {a : Int} (h : isNan a = true) : canon a = 9221120237041090560 := by
  unfold canon; unfold isNan at h; rw [if_pos (by simpa using h)]
theorem canon_num {a : Int} (h : isNan a = false) : canon a = a := by
  unfold canon; unfold isNan at h; rw [if_neg (by simpa using h)]
theorem isNan_of {a : Int} (h : 9218868437227405312 < bits BinOp.andNot IntKind.u64 a 9223372036854775808) (h0 : 0 ≤ a) (h1 : a ≤ 18446744073709551615) : isNan a = true := by
  rw [andNot_sign a h0 h1] at h; unfold isNan; simpa using h
theorem notNan_of {a : Int} (h : bits BinOp.andNot IntKind.u64 a 9223372036854775808 ≤ 9218868437227405312) (h0 : 0 ≤ a) (h1 : a ≤ 18446744073709551615) : isNan a = false := by
  rw [andNot_sign a h0 h1] at h; unfold isNan; simpa using h
theorem isNan_ref {a : Int} (h0 : 0 ≤ a) (h1 : a ≤ 18446744073709551615) : isNan a = ((bits BinOp.and IntKind.u64 (a / 4503599627370496) 2047 == 2047) && (bits BinOp.and IntKind.u64 a 4503599627370495 != 0)) := by
  rw [and_exp a h0 h1, and_frac a h0 h1, Bool.eq_iff_iff]; unfold isNan; simp; omega
set_option maxHeartbeats 400000 in
theorem canon_any (a : Int) (w : World) (h0 : 0 ≤ a) (h1 : a ≤ 18446744073709551615) :
    Calls Try.prog 62 #[.int .u64 a] w fun e w' => e = .returned (.int .u64 (canon a)) ∧ w = w' := by
  go_enter Try.func62, Try.ntmps62
  go_wp2
  · go_ret
    exact ⟨ret_int (canon_nan (isNan_of (by assumption) h0 h1)).symm, rfl⟩
  · go_ret
    exact ⟨ret_int (canon_num (notNan_of (by assumption) h0 h1)).symm, rfl⟩

set_option maxHeartbeats 400000 in
theorem isNan_any (a : Int) (w : World) (h0 : 0 ≤ a) (h1 : a ≤ 18446744073709551615) :
    Calls Try.prog 73 #[.int .u64 a] w fun e w' => e = .returned (.bool (isNan a)) ∧ w = w' := by
  have h := Lib.hid (isNan_ref h0 h1)
  by_cases c1 : (bits BinOp.and IntKind.u64 (a / 4503599627370496) 2047 == 2047) = true
  all_goals
    go_enter Try.func73, Try.ntmps73
    go_wp2
    go_ret
    exact ⟨ret_bool (by rw [h.out]; simp [c1]), rfl⟩

theorem isNan_yes (a : Int) (w : World) (h0 : 0 ≤ a) (h1 : a ≤ 18446744073709551615) (h : isNan a = true) :
    Calls Try.prog 73 #[.int .u64 a] w fun e w' => e = .returned (.bool true) ∧ w = w' :=
  (isNan_any a w h0 h1).mono fun _ _ ⟨he, hw⟩ => ⟨he.trans (ret_bool h), hw⟩
theorem isNan_no (a : Int) (w : World) (h0 : 0 ≤ a) (h1 : a ≤ 18446744073709551615) (h : isNan a = false) :
    Calls Try.prog 73 #[.int .u64 a] w fun e w' => e = .returned (.bool false) ∧ w = w' :=
  (isNan_any a w h0 h1).mono fun _ _ ⟨he, hw⟩ => ⟨he.trans (ret_bool h), hw⟩

set_option maxHeartbeats 400000 in
theorem rcanon_any (a : Int) (w : World) (h0 : 0 ≤ a) (h1 : a ≤ 18446744073709551615) :
    Calls Try.prog 65 #[.int .u64 a] w fun e w' => e = .returned (.int .u64 (canon a)) ∧ w = w' := by
  cases hn : isNan a
  · have H := Lib.hid hn; clear hn
    go_enter Try.func65, Try.ntmps65
    go_wp2_with (go_at_call 73; refine (isNan_no _ _ (by omega) (by omega) H.out).mono ?_; rintro e w' ⟨rfl, rfl⟩)
    go_ret
    exact ⟨ret_int (canon_num H.out).symm, rfl⟩
  · have H := Lib.hid hn; clear hn
    go_enter Try.func65, Try.ntmps65
    go_wp2_with (go_at_call 73; refine (isNan_yes _ _ (by omega) (by omega) H.out).mono ?_; rintro e w' ⟨rfl, rfl⟩)
    go_ret
    exact ⟨ret_int (canon_nan H.out).symm, rfl⟩



/-- what a value counts as -/
def cleanV (x : TVal) : TVal := if x.kind = 1 then x else if (x.kind = 2 ∧ x.bits < 2) ∨ (x.kind = 3 ∧ x.bits < 64) then x else if x.kind = 4 then ⟨4, canon x.bits⟩ else ⟨0, 0⟩
def ValP (w : World) (x : TVal) (e : Ending) (w' : World) : Prop := e = .returned (.agg #[.int .i64 x.kind, .int .u64 x.bits]) ∧ Below w.heap.size w w'
set_option maxRecDepth 100000 in
theorem clean_any (x : TVal) (w : World) (hb : wfu x.bits) :
    Calls Try.prog 42 #[.agg #[.int .i64 x.kind, .int .u64 x.bits]] w (ValP w (cleanV x)) := by
  obtain ⟨k, b⟩ := x
  obtain ⟨h0, h1⟩ := wfu_lo hb
  have B0 := Lib.hid (fun o o2 => ((Below.refl w.heap.size w).alloc (Nat.le_refl _) o).alloc (by simp) o2)
  obtain ⟨kk, bb, hc⟩ : ∃ kk bb, cleanV ⟨k, b⟩ = ⟨kk, bb⟩ := ⟨_, _, rfl⟩
  have HC := Lib.hid hc
  rw [hc]
  clear hc
  by_cases c1 : k = 1
  · have e1 : (k == 1) = true := by simpa using c1
    have e : Hid (kk = k ∧ bb = b) := Lib.hid (by have := HC.out; unfold cleanV at this; rw [if_pos c1] at this; simpa [eq_comm] using this)
    clear c1
    go_enter Try.func42, Try.ntmps42
    go_wp2_with fail
    exact bodyPost_ret (v := .agg #[.int .i64 k, .int .u64 b]) (by simp [results, Try.results42, go_sem]) rfl ⟨by rw [e.out.1, e.out.2], B0.out _ _⟩
  · have e1 : (k == 1) = false := by simpa using c1
    by_cases c2 : (k = 2 ∧ b < 2) ∨ (k = 3 ∧ b < 64)
    · have e : Hid (kk = k ∧ bb = b) := Lib.hid (by have := HC.out; unfold cleanV at this; rw [if_neg c1, if_pos c2] at this; simpa [eq_comm] using this)
      rcases c2 with ⟨c2, c3⟩ | ⟨c2, c3⟩
      · have e2 : (k == 2) = true := by simpa using c2
        clear c1 c2
        go_enter Try.func42, Try.ntmps42
        go_wp2_with fail
        exact bodyPost_ret (v := .agg #[.int .i64 k, .int .u64 b]) (by simp [results, Try.results42, go_sem]) rfl ⟨by rw [e.out.1, e.out.2], B0.out _ _⟩
      · have e2 : (k == 2) = false := by simp; omega
        have e3 : (k == 3) = true := by simpa using c2
        clear c1 c2
        go_enter Try.func42, Try.ntmps42
        go_wp2_with fail
        exact bodyPost_ret (v := .agg #[.int .i64 k, .int .u64 b]) (by simp [results, Try.results42, go_sem]) rfl ⟨by rw [e.out.1, e.out.2], B0.out _ _⟩
    · by_cases c4 : k = 4
      · have e : Hid (kk = 4 ∧ bb = canon b) := Lib.hid (by have := HC.out; unfold cleanV at this; rw [if_neg c1, if_neg c2, if_pos c4] at this; simpa [eq_comm] using this)
        have e2 : (k == 2) = false := by simp; omega
        have e3 : (k == 3) = false := by simp; omega
        have e4 : (k == 4) = true := by simpa using c4
        have CA := Lib.hid (fun W => canon_any b W h0 h1)
        clear c1 c2 c4
        go_enter Try.func42, Try.ntmps42
        go_wp2_with fail
        refine (CA.out _).mono ?_
        rintro e9 w9 ⟨rfl, rfl⟩
        go_wp2_with fail
        exact bodyPost_ret (v := .agg #[.int .i64 4, .int .u64 (canon b)]) (by simp [results, Try.results42, go_sem]) rfl ⟨by rw [e.out.1, e.out.2], B0.out _ _⟩
      · have e : Hid (kk = 0 ∧ bb = 0) := Lib.hid (by have := HC.out; unfold cleanV at this; rw [if_neg c1, if_neg c2, if_neg c4] at this; simpa [eq_comm] using this)
        have e4 : (k == 4) = false := by simpa using c4
        rcases e2 : (k == 2) with _ | _
        · rcases e3 : (k == 3) with _ | _
          · clear c1 c2 c4
            go_enter Try.func42, Try.ntmps42
            go_wp2_with fail
            exact bodyPost_ret (v := .agg #[.int .i64 0, .int .u64 0]) (by simp [results, Try.results42, go_sem]) rfl ⟨by rw [e.out.1, e.out.2], B0.out _ _⟩
          · have c5 : 64 ≤ b := by have : k = 3 := by simpa using e3
                                   omega
            clear c1 c2 c4
            go_enter Try.func42, Try.ntmps42
            go_wp2_with fail
            exact bodyPost_ret (v := .agg #[.int .i64 0, .int .u64 0]) (by simp [results, Try.results42, go_sem]) rfl ⟨by rw [e.out.1, e.out.2], B0.out _ _⟩
        · have c6 : k = 2 := by simpa using e2
          have e3 : (k == 3) = false := by simp; omega
          have c5 : 2 ≤ b := by omega
          clear c1 c2 c4 c6
          go_enter Try.func42, Try.ntmps42
          go_wp2_with fail
          exact bodyPost_ret (v := .agg #[.int .i64 0, .int .u64 0]) (by simp [results, Try.results42, go_sem]) rfl ⟨by rw [e.out.1, e.out.2], B0.out _ _⟩
end Go.Proofs.Ytioocaicmiggoaa

/-
  The sum over bytes: eight single steps a byte, four at a time by a table, and what the xor of two texts has for a sum. No program in sight.
-/
import Derived.Laws.BitsAllLaws
namespace Go.Proofs.Ytabndfkkbmhhjaa
set_option linter.unusedVariables false
set_option linter.unusedSimpArgs false
open Go

def poly : Nat := 3988292384
/-- one step -/
def stp (x : Nat) : Nat := if x % 2 = 1 then (x / 2) ^^^ poly else x / 2
def stp4 (x : Nat) : Nat := stp (stp (stp (stp x)))
def stp8 (x : Nat) : Nat := stp4 (stp4 x)

theorem xor_half (x y : Nat) : (x ^^^ y) / 2 = x / 2 ^^^ y / 2 := by
  have := Nat.shiftRight_xor_distrib (a := x) (b := y) (i := 1)
  simpa [Nat.shiftRight_eq_div_pow] using this
theorem xor_par (x y : Nat) : (x ^^^ y) % 2 = (x % 2 + y % 2) % 2 := by
  have := Nat.xor_mod_two_pow (a := x) (b := y) (n := 1)
  rw [Nat.pow_one] at this; rw [this]
  rcases Nat.mod_two_eq_zero_or_one x with hx | hx <;> rcases Nat.mod_two_eq_zero_or_one y with hy | hy <;> rw [hx, hy] <;> rfl
theorem xor_swap (a b c : Nat) : a ^^^ b ^^^ c = a ^^^ c ^^^ b := by rw [Nat.xor_assoc, Nat.xor_comm b, ← Nat.xor_assoc]
theorem xor_four (a b c d : Nat) : (a ^^^ b) ^^^ (c ^^^ d) = (a ^^^ c) ^^^ (b ^^^ d) := by
  rw [Nat.xor_assoc, ← Nat.xor_assoc b, Nat.xor_comm b c, Nat.xor_assoc c, ← Nat.xor_assoc]
theorem stp_xor (x y : Nat) : stp (x ^^^ y) = stp x ^^^ stp y := by
  unfold stp
  rw [xor_half, xor_par]
  rcases Nat.mod_two_eq_zero_or_one x with hx | hx <;> rcases Nat.mod_two_eq_zero_or_one y with hy | hy <;> rw [hx, hy] <;> simp
  · rw [Nat.xor_assoc]
  · rw [xor_swap]
  · rw [xor_four, Nat.xor_self, Nat.xor_zero]
theorem stp4_xor (x y : Nat) : stp4 (x ^^^ y) = stp4 x ^^^ stp4 y := by unfold stp4; simp only [stp_xor]
theorem stp8_xor (x y : Nat) : stp8 (x ^^^ y) = stp8 x ^^^ stp8 y := by unfold stp8; simp only [stp4_xor]
theorem stp_zero : stp 0 = 0 := rfl
theorem stp8_zero : stp8 0 = 0 := by decide
theorem stp_even (h : Nat) : stp (2 * h) = h := by unfold stp; rw [if_neg (by omega)]; omega
theorem stp4_high (h : Nat) : stp4 (16 * h) = h := by
  unfold stp4
  rw [show 16 * h = 2 * (2 * (2 * (2 * h))) by omega, stp_even, stp_even, stp_even, stp_even]
theorem poly_lt : poly < 4294967296 := by decide
theorem stp_lt (x : Nat) (h : x < 4294967296) : stp x < 4294967296 := by
  unfold stp; split
  · exact Nat.xor_lt_two_pow (n := 32) (by omega) poly_lt
  · omega
theorem stp4_lt (x : Nat) (h : x < 4294967296) : stp4 x < 4294967296 := stp_lt _ (stp_lt _ (stp_lt _ (stp_lt _ h)))
theorem stp8_lt (x : Nat) (h : x < 4294967296) : stp8 x < 4294967296 := stp4_lt _ (stp4_lt _ h)
/-- by a table: the low four bits' own step, xor the others -/
theorem stp4_table (x : Nat) : stp4 x = x / 16 ^^^ stp4 (x % 16) := by
  have e : x = 16 * (x / 16) ^^^ x % 16 := by
    have h : 16 * (x / 16) ||| x % 16 = 16 * (x / 16) + x % 16 := nat_join 4 (16 * (x / 16)) (x % 16) (by omega) (by omega)
    have h2 : 16 * (x / 16) ^^^ x % 16 = 16 * (x / 16) ||| x % 16 := by
      apply Nat.eq_of_testBit_eq
      intro i
      rw [Nat.testBit_xor, Nat.testBit_or]
      by_cases hi : i < 4
      · have : (16 * (x / 16)).testBit i = false := by
          rw [show 16 * (x / 16) = 2 ^ 4 * (x / 16) from rfl, Nat.testBit_two_pow_mul]; simp; omega
        rw [this]; simp
      · have : (x % 16).testBit i = false := Nat.testBit_lt_two_pow (Nat.lt_of_lt_of_le (by omega : x % 16 < 2 ^ 4) (Nat.pow_le_pow_right (by decide) (by omega)))
        rw [this]; simp
    omega
  conv => lhs; rw [e, stp4_xor, stp4_high]

/-- a byte more -/
def crcS (x c : Nat) : Nat := stp8 (x ^^^ c)
/-- the state behind bytes -/
def crcF (x : Nat) (l : List Nat) : Nat := l.foldl crcS x
def ones : Nat := 4294967295
/-- the sum -/
def crc (l : List Nat) : Nat := crcF ones l ^^^ ones

theorem crcS_lt (x c : Nat) (h : x < 4294967296) (hc : c < 256) : crcS x c < 4294967296 := stp8_lt _ (Nat.xor_lt_two_pow (n := 32) h (by omega))
theorem crcF_lt (l : List Nat) : ∀ (x : Nat), x < 4294967296 → (∀ c ∈ l, c < 256) → crcF x l < 4294967296 := by
  induction l with
  | nil => intro x h _; exact h
  | cons c l ih => intro x h hc; exact ih _ (crcS_lt x c h (hc c (by simp))) (fun d hd => hc d (by simp [hd]))
theorem crcF_snoc (x : Nat) (l : List Nat) (c : Nat) : crcF x (l ++ [c]) = crcS (crcF x l) c := by unfold crcF; rw [List.foldl_append]; rfl
theorem crcF_xor (l : List Nat) : ∀ (m : List Nat) (x y : Nat), l.length = m.length → crcF (x ^^^ y) (List.zipWith (· ^^^ ·) l m) = crcF x l ^^^ crcF y m := by
  induction l with
  | nil => intro m x y h; cases m with
    | nil => rfl
    | cons _ _ => simp at h
  | cons c l ih => intro m x y h; cases m with
    | nil => simp at h
    | cons d m =>
      have e : crcS (x ^^^ y) (c ^^^ d) = crcS x c ^^^ crcS y d := by unfold crcS; rw [← stp8_xor, xor_four]
      show crcF (crcS (x ^^^ y) (c ^^^ d)) (List.zipWith (· ^^^ ·) l m) = crcF (crcS x c) l ^^^ crcF (crcS y d) m
      rw [e]; exact ih m _ _ (by simpa using h)
/-- a step loses nothing -/
theorem stp_ne (x : Nat) (h : x < 4294967296) (hx : x ≠ 0) : stp x ≠ 0 := by
  unfold stp; split
  · intro e
    have : x / 2 = poly := by
      have := congrArg (· ^^^ poly) e
      simpa [Nat.xor_assoc] using this
    unfold poly at this; omega
  · omega
theorem stp8_ne (x : Nat) (h : x < 4294967296) (hx : x ≠ 0) : stp8 x ≠ 0 := by
  unfold stp8 stp4
  have h1 := stp_lt x h
  have h2 := stp_lt _ h1
  have h3 := stp_lt _ h2
  have h4 := stp_lt _ h3
  have h5 := stp_lt _ h4
  have h6 := stp_lt _ h5
  have h7 := stp_lt _ h6
  exact stp_ne _ h7 (stp_ne _ h6 (stp_ne _ h5 (stp_ne _ h4 (stp_ne _ h3 (stp_ne _ h2 (stp_ne _ h1 (stp_ne _ h hx)))))))
theorem crcF_zeros (n : Nat) : ∀ x, x < 4294967296 → x ≠ 0 → crcF x (List.replicate n 0) ≠ 0 := by
  induction n with
  | zero => intro x _ h; exact h
  | succ n ih =>
    intro x hl h
    have e : crcS x 0 = stp8 x := by unfold crcS; rw [Nat.xor_zero]
    show crcF (crcS x 0) (List.replicate n 0) ≠ 0
    rw [e]; exact ih _ (stp8_lt x hl) (stp8_ne x hl h)
theorem crcF_zero (n : Nat) : crcF 0 (List.replicate n 0) = 0 := by
  induction n with
  | zero => rfl
  | succ n ih => show crcF (crcS 0 0) (List.replicate n 0) = 0; rw [show crcS 0 0 = 0 from by decide]; exact ih
/-- the table's values -/
theorem table16 : (List.range 16).map stp4 = [0, 498536548, 997073096, 651767980, 1994146192, 1802195444, 1303535960, 1342533948, 3988292384, 4027552580, 3604390888, 3412177804, 2607071920, 2262029012, 2685067896, 3183342108] := by decide
end Go.Proofs.Ytabndfkkbmhhjaa

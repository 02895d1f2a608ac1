/- The text of 64 bits in hexadecimal, and back: no program in sight. -/
import Derived.Test.YtmikopnfdldgnaaCmp
namespace Go.Proofs.Ytmikopnfdldgnaa
set_option linter.unusedVariables false
set_option linter.unusedSimpArgs false
open Go

/-- a digit's letter -/
def hexc (d : Nat) : UInt8 := if d < 10 then (48 + d).toUInt8 else (87 + d).toUInt8
/-- the j-th digit from the top -/
def dgt (c j : Nat) : Nat := c / 16 ^ (15 - j) % 16
/-- the text's first k + 1 letters -/
def txt (c k : Nat) : List UInt8 := 35 :: (List.range k).map fun j => hexc (dgt c j)
theorem dgt_lt (c j : Nat) : dgt c j < 16 := Nat.mod_lt _ (by decide)
theorem txt_len (c k : Nat) : (txt c k).length = k + 1 := by simp [txt]
theorem txt_succ (c k : Nat) : txt c (k + 1) = txt c k ++ [hexc (dgt c k)] := by simp [txt, List.range_succ]
theorem txt_get (c k j : Nat) (h : j < k) : (txt c k)[j + 1]? = some (hexc (dgt c j)) := by simp [txt, h]

/-- a letter's digit; 0 of no digit -/
def hv (b : Nat) : Nat := if 48 ≤ b ∧ b ≤ 57 then b - 48 else if 97 ≤ b ∧ b ≤ 102 then b - 87 else 0
def hok (b : Nat) : Bool := decide (48 ≤ b ∧ b ≤ 57 ∨ 97 ≤ b ∧ b ≤ 102)
theorem hv_lt (b : Nat) : hv b < 16 := by unfold hv; split <;> (try split) <;> omega
theorem hv_hexc : ∀ d : Fin 16, hv (hexc d).toNat = d ∧ hok (hexc d).toNat = true := by decide
theorem hexc_hv : ∀ b : Fin 256, hok b = true → (hexc (hv b)).toNat = b := by decide +kernel

/-- the number of the first j letters g 1, g 2, .. -/
def acc (g : Nat → Nat) : Nat → Nat
  | 0 => 0
  | j + 1 => acc g j * 16 + hv (g (j + 1))
theorem acc_lt (g : Nat → Nat) (j : Nat) : acc g j < 16 ^ j := by
  induction j with
  | zero => simp [acc]
  | succ j ih => unfold acc; have := hv_lt (g (j + 1)); rw [Nat.pow_succ]; omega
/-- its digits -/
theorem acc_div (g : Nat → Nat) (n : Nat) : ∀ k, k < n → acc g n / 16 ^ (n - 1 - k) % 16 = hv (g (k + 1)) := by
  induction n with
  | zero => intro k hk; omega
  | succ n ih =>
    intro k hk
    have h := hv_lt (g (n + 1))
    show (acc g n * 16 + hv (g (n + 1))) / 16 ^ (n - k) % 16 = _
    by_cases e : k = n
    · subst e; simp; omega
    · obtain ⟨m, hm⟩ : ∃ m, n - k = m + 1 := ⟨n - k - 1, by omega⟩
      rw [hm, Nat.pow_succ, Nat.mul_comm (16 ^ m) 16, ← Nat.div_div_eq_div_mul, show (acc g n * 16 + hv (g (n + 1))) / 16 = acc g n by omega, show m = n - 1 - k by omega]
      exact ih k (by omega)
/-- the number of a number's digits is it -/
theorem acc_of (c : Nat) (g : Nat → Nat) (hg : ∀ j, j < 16 → hv (g (j + 1)) = dgt c j) (j : Nat) (hj : j ≤ 16) : acc g j = c / 16 ^ (16 - j) % 16 ^ j := by
  induction j with
  | zero => simp [acc, Nat.mod_one]
  | succ j ih =>
    unfold acc
    rw [ih (by omega), hg j (by omega)]
    unfold dgt
    rw [show 16 - j = (15 - j) + 1 by omega, show 16 - (j + 1) = 15 - j by omega, Nat.pow_succ 16 (15 - j), ← Nat.div_div_eq_div_mul]
    generalize c / 16 ^ (15 - j) = A
    rw [Nat.pow_succ, Nat.mul_comm (16 ^ j) 16, Nat.mod_mul]
    omega
theorem acc_all (c : Nat) (h : c < 18446744073709551616) (g : Nat → Nat) (hg : ∀ j, j < 16 → g (j + 1) = (hexc (dgt c j)).toNat) : acc g 16 = c := by
  rw [acc_of c g (fun j hj => by rw [hg j hj]; exact (hv_hexc ⟨dgt c j, dgt_lt c j⟩).1) 16 (by omega)]
  simp; omega
/-- the text of the number of letters that are digits is these letters -/
theorem txt_acc (g : Nat → Nat) (hb : ∀ j, j < 16 → g (j + 1) < 256) (hok' : ∀ j, j < 16 → hok (g (j + 1)) = true) (j : Nat) (hj : j < 16) : (hexc (dgt (acc g 16) j)).toNat = g (j + 1) := by
  have e : dgt (acc g 16) j = hv (g (j + 1)) := acc_div g 16 j hj
  rw [e]; exact hexc_hv ⟨g (j + 1), hb j hj⟩ (hok' j hj)

theorem dgt_bits (c j : Nat) (h : c < 18446744073709551616) (hj : j < 16) : bits BinOp.and IntKind.u64 ((c : Int) / 2 ^ (60 - 4 * j)) 15 = (dgt c j : Int) := by
  have e : ((c : Int) / 2 ^ (60 - 4 * j)) = ((c / 16 ^ (15 - j) : Nat) : Int) := by
    rw [show (16 : Nat) = 2 ^ 4 from rfl, ← Nat.pow_mul, show 4 * (15 - j) = 60 - 4 * j by omega]
    rw [Int.natCast_ediv, Int.natCast_pow]; rfl
  have hl : c / 16 ^ (15 - j) ≤ c := Nat.div_le_self _ _
  rw [e]
  unfold dgt
  generalize c / 16 ^ (15 - j) = X at hl
  rw [u64_and _ 15 (by omega) (by omega) (by decide) (by decide)]
  have : (X : Int).toNat &&& (15 : Int).toNat = (X : Int).toNat % 2 ^ 4 := Nat.and_two_pow_sub_one_eq_mod _ 4
  rw [this]; rfl
theorem hex_lit (D : Nat) (h : D < 16) (h2 : D < (⟨#[48, 49, 50, 51, 52, 53, 54, 55, 56, 57, 97, 98, 99, 100, 101, 102]⟩ : ByteArray).size) : (⟨#[48, 49, 50, 51, 52, 53, 54, 55, 56, 57, 97, 98, 99, 100, 101, 102]⟩ : ByteArray)[D] = hexc D := by
  have : ∀ d : Fin 16, (⟨#[48, 49, 50, 51, 52, 53, 54, 55, 56, 57, 97, 98, 99, 100, 101, 102]⟩ : ByteArray)[d] = hexc d := by decide
  exact this ⟨D, h⟩

/-- the last j letters -/
def suf (c j : Nat) : List UInt8 := (txt c 16).drop (17 - j)
theorem suf_succ (c j : Nat) (h : j < 16) : suf c (j + 1) = hexc (c / 16 ^ j % 16) :: suf c j := by
  unfold suf
  have e : 17 - (j + 1) < (txt c 16).length := by rw [txt_len]; omega
  rw [List.drop_eq_getElem_cons e, show 17 - (j + 1) + 1 = 17 - j by omega]
  congr 1
  have := txt_get c 16 (15 - j) (by omega)
  rw [show 15 - j + 1 = 17 - (j + 1) by omega, List.getElem?_eq_getElem e] at this
  unfold dgt at this
  rw [show 15 - (15 - j) = j by omega] at this
  injection this
theorem ext_lit (D : Nat) (h : D < 16) : (⟨#[48, 49, 50, 51, 52, 53, 54, 55, 56, 57, 97, 98, 99, 100, 101, 102]⟩ : ByteArray).extract D (D + 1) = ⟨#[hexc D]⟩ := by
  have : ∀ d : Fin 16, ((⟨#[48, 49, 50, 51, 52, 53, 54, 55, 56, 57, 97, 98, 99, 100, 101, 102]⟩ : ByteArray).extract d (d + 1)).data = #[hexc d] := by decide +kernel
  exact congrArg ByteArray.mk (this ⟨D, h⟩)
theorem cat_list (l m : List UInt8) : (⟨l.toArray⟩ : ByteArray) ++ ⟨m.toArray⟩ = ⟨(l ++ m).toArray⟩ := by
  apply ByteArray.ext
  simp
theorem suf_step {c j X D : Nat} {S : ByteArray} (h : j < 16) (hS : S = ⟨(suf c j).toArray⟩) (hX : X = c / 16 ^ j) (hD : D = X % 16) :
    (⟨#[48, 49, 50, 51, 52, 53, 54, 55, 56, 57, 97, 98, 99, 100, 101, 102]⟩ : ByteArray).extract D (D + 1) ++ S = ⟨(suf c (j + 1)).toArray⟩ := by
  rw [ext_lit D (by rw [hD]; exact Nat.mod_lt _ (by decide)), hS, suf_succ c j h, ← hX, ← hD]
  exact cat_list [hexc D] _
theorem suf_size (c j : Nat) (h : j ≤ 16) : (⟨(suf c j).toArray⟩ : ByteArray).size = j := by
  show (suf c j).toArray.size = j
  unfold suf; simp [txt_len]; omega
theorem suf_all (c : Nat) : txt c 16 = 35 :: suf c 16 := rfl

theorem suf_end {c : Nat} {S : ByteArray} (hS : S = ⟨(suf c 16).toArray⟩) : (⟨#[35]⟩ : ByteArray) ++ S = ⟨(txt c 16).toArray⟩ := by
  rw [hS, suf_all]; exact cat_list [35] _
theorem ret_str {a b : ByteArray} (h : a = b) : Ending.returned (.string a) = .returned (.string b) := by rw [h]

/-- the letters of a text, as numbers -/
def gat (s : ByteArray) (j : Nat) : Nat := if h : j < s.size then s[j].toNat else 0
theorem gat_at (s : ByteArray) (j : Nat) (h : j < s.size) : gat s j = s[j].toNat := by unfold gat; rw [dif_pos h]
theorem gat_lt (s : ByteArray) (j : Nat) : gat s j < 256 := by
  unfold gat; split
  · exact UInt8.toNat_lt _
  · omega
theorem or_digit (A b : Nat) (hA : A < 1152921504606846976) (hb : b < 16) : bits BinOp.or IntKind.u64 ((A : Int) * 16) (b : Int) = ((A * 16 + b : Nat) : Int) := by
  have : ((A : Int) * 16) = ((A * 16 : Nat) : Int) := by omega
  rw [this, u64_or_nat _ _ (by omega) (by omega)]
  congr 1
  exact nat_join 4 (A * 16) b (by omega) hb
end Go.Proofs.Ytmikopnfdldgnaa

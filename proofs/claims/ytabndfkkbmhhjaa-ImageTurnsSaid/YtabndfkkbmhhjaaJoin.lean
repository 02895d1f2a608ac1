/-
  What the sums of joined texts are: the law of xor, and a bit that is turned. No program in sight.
-/
import Derived.Test.YtabndfkkbmhhjaaCrc
namespace Go.Proofs.Ytabndfkkbmhhjaa
set_option linter.unusedVariables false
set_option linter.unusedSimpArgs false

theorem xor_cancel (a b c : Nat) : (a ^^^ c) ^^^ (b ^^^ c) = a ^^^ b := by
  rw [Nat.xor_comm b c, Nat.xor_assoc, ← Nat.xor_assoc c c b, Nat.xor_self, Nat.zero_xor]
theorem zip_zeros (l : List Nat) : List.zipWith (· ^^^ ·) l (List.replicate l.length 0) = l := by
  induction l with
  | nil => rfl
  | cons c l ih => simp [List.replicate_succ, ih]
theorem crc_xor (l m : List Nat) (h : l.length = m.length) : crc l ^^^ crc m = crcF 0 (List.zipWith (· ^^^ ·) l m) := by
  unfold crc
  rw [xor_cancel, ← crcF_xor l m ones ones h, Nat.xor_self]
/-- the sums of two texts differ as the sum of both, xored, and that of as many noughts -/
theorem crc_join (l m : List Nat) (h : l.length = m.length) (n : Nat) (hn : l.length = n) : crc l ^^^ crc m = crc (List.zipWith (· ^^^ ·) l m) ^^^ crc (List.replicate n 0) := by
  subst hn
  have hl : (List.zipWith (· ^^^ ·) l m).length = l.length := by simp [h]
  rw [crc_xor l m h, crc_xor _ _ (by rw [hl, List.length_replicate])]
  congr 1
  have e := zip_zeros (List.zipWith (· ^^^ ·) l m)
  rw [hl] at e
  exact e.symm
theorem crcF_ne (l : List Nat) : ∀ (i d : Nat), i < l.length → 0 < d → d < 256 → ∀ x, x < 4294967296 → crcF x (l.set i (l[i]?.getD 0 ^^^ d)) ^^^ crcF x l ≠ 0 := by
  intro i d hi h0 hd x hx
  have hl : (l.set i (l[i]?.getD 0 ^^^ d)).length = l.length := by simp
  rw [← crcF_xor _ _ x x hl, Nat.xor_self]
  have e : List.zipWith (· ^^^ ·) (l.set i (l[i]?.getD 0 ^^^ d)) l = (List.replicate l.length 0).set i d := by
    apply List.ext_getElem?
    intro j
    rw [List.getElem?_zipWith, List.getElem?_set, List.getElem?_set]
    by_cases hj : i = j
    · subst hj
      simp [hi]
      rw [Nat.xor_comm, ← Nat.xor_assoc, Nat.xor_self, Nat.zero_xor]
    · simp [hj]
      by_cases hjl : j < l.length
      · rw [List.getElem?_eq_getElem hjl, List.getElem?_replicate, if_pos hjl]
        simp
      · rw [List.getElem?_eq_none (by omega), List.getElem?_replicate, if_neg hjl]
  rw [e]
  have e2 : (List.replicate l.length 0).set i d = List.replicate i 0 ++ (d :: List.replicate (l.length - i - 1) 0) := by
    apply List.ext_getElem?
    intro j
    rw [List.getElem?_set, List.getElem?_append, List.length_replicate, List.length_replicate]
    by_cases hj : i = j
    · subst hj; simp [hi]
    · rw [if_neg hj]
      by_cases h1 : j < i
      · simp [h1, List.getElem?_replicate]; omega
      · rw [if_neg h1]
        obtain ⟨q, hq⟩ : ∃ q, j - i = q + 1 := ⟨j - i - 1, by omega⟩
        rw [hq, List.getElem?_cons_succ, List.getElem?_replicate, List.getElem?_replicate]
        by_cases h2 : j < l.length
        · rw [if_pos h2, if_pos (by omega)]
        · rw [if_neg h2, if_neg (by omega)]
  rw [e2]
  unfold crcF
  rw [List.foldl_append]
  have e3 : List.foldl crcS 0 (List.replicate i 0) = 0 := crcF_zero i
  rw [e3]
  show crcF (crcS 0 d) (List.replicate (l.length - i - 1) 0) ≠ 0
  have e4 : crcS 0 d = stp8 d := by unfold crcS; rw [Nat.zero_xor]
  rw [e4]
  exact crcF_zeros _ _ (stp8_lt d (by omega)) (stp8_ne d (by omega) (by omega))
/-- a bit that is turned turns the sum -/
theorem crc_turn (l : List Nat) (i d : Nat) (hi : i < l.length) (h0 : 0 < d) (hd : d < 256) : crc (l.set i (l[i]?.getD 0 ^^^ d)) ≠ crc l := by
  intro h
  have h2 := crcF_ne l i d hi h0 hd ones (by decide)
  apply h2
  have h3 : crcF ones (l.set i (l[i]?.getD 0 ^^^ d)) = crcF ones l := by
    have := congrArg (· ^^^ ones) h
    unfold crc at this
    simpa [Nat.xor_assoc] using this
  rw [h3, Nat.xor_self]
end Go.Proofs.Ytabndfkkbmhhjaa

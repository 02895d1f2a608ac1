/-
  Of an image no byte may be another one, none may be missing, none more: the plain law. No walk.
-/
import Derived.Test.YtabndfkkbmhhjaaImy
import Derived.Test.YtabndfkkbmhhjaaJoin
namespace Go.Proofs.Ytabndfkkbmhhjaa
set_option linter.unusedVariables false
set_option linter.unusedSimpArgs false
open Go.RowKit Go.Deep

theorem byte_of {a : Int} (h : (Lit.int .u8 a).wf = true) : ∃ u : UInt8, a = (u.toNat : Int) := by
  have h2 : 0 ≤ a ∧ a ≤ 255 := by
    simp [Lit.wf] at h
    exact h
  exact ⟨a.toNat.toUInt8, by rw [toU8 _ (by omega)]; omega⟩
theorem slr_mem {α : Type} {F : Nat} {R : World → List Value → α → Prop} {w : World} {v : Value} {xs : List α} (h : SlR F R w v xs) {x : α} (hx : x ∈ xs) : ∃ cs, R w cs x := by
  obtain ⟨A, c, _, _, _, h3⟩ := h
  obtain ⟨b, off, _, hc⟩ := h3 (List.length_pos_of_mem hx)
  obtain ⟨i, hi⟩ := List.getElem?_of_mem hx
  obtain ⟨cs, _, hr, _⟩ := hc i x hi
  exact ⟨cs, hr⟩
/-- a table that lies in memory has numbers that are numbers -/
theorem TabX.data {w : World} {T : TTab} {vk vkk vs vc : Value} (h : TabX w T vk vkk vs vc) : TabD T := fun c hc v hv => by
  obtain ⟨cs, vi, vq, vl, _, _, h1, _⟩ := slr_mem h.codes hc
  obtain ⟨cs', _, _, h2⟩ := slr_mem h1 hv
  have h3 : (Lit.int .u64 v.bits).wf = true := h2
  unfold U64 ValD at *
  exact ⟨(bd_u64 h3).1, by have := (bd_u64 h3).2; omega⟩
theorem decErr_ne (l : List UInt8) : (decErr l == 0) = false ∧ (decErr l != 0) = true := by
  unfold decErr
  repeat' split
  all_goals exact ⟨rfl, rfl⟩
/-- bytes that were written, as an image -/
theorem img_made {y z : TTab} {b : List UInt8} (hD : TabD y) (h : tabF (.wr magicB) y = some (.wr b, z)) (hl : b.length + 4 ≤ 65536) : IsImg y (b ++ sumBy b) := by
  obtain ⟨m, h1, h2, _⟩ := img_of hD h
  injection h2 with h2
  subst h2
  exact ⟨m, h1, rfl, by rw [List.length_append]; exact hl⟩
theorem sumBy_len (l : List UInt8) : (sumBy l).length = 4 := rfl
theorem sumBy_inj {l m : List UInt8} (h : sumBy l = sumBy m) : crc (nums l) = crc (nums m) := by
  have h1 := crc_lt l
  have h2 := crc_lt m
  have hb : bv (sumBy l) = bv (sumBy m) := by rw [h]
  rw [sumBy_bv, sumBy_bv] at hb
  simp only [List.cons.injEq, Value.int.injEq, true_and, and_true, Int.natCast_inj] at hb
  obtain ⟨a, b, c, d⟩ := hb
  omega
theorem IsImg.len {y : TTab} {b : List UInt8} (h : IsImg y b) : 9 ≤ b.length := by
  obtain ⟨m, hm, rfl, _⟩ := h
  have := hm.pos
  simp only [List.length_append, sumBy_len]
  show 9 ≤ 4 + m.length + 4
  omega
/-- two images that are as long and begin alike up to the sum -/
theorem img_split {y : TTab} {b : List UInt8} (h : IsImg y b) : ∃ p, b = p ++ sumBy p ∧ 5 ≤ p.length := by
  obtain ⟨m, hm, rfl, _⟩ := h
  have := hm.pos
  exact ⟨magicB ++ m, rfl, by simp only [List.length_append]; show 5 ≤ 4 + m.length; omega⟩
theorem img_turned {y z : TTab} {b : List UInt8} {k : Nat} {c : UInt8} (h : IsImg y b) (hk : k < b.length) (hc : b[k]? ≠ some c) : ¬ IsImg z (b.set k c) := by
  intro hz
  obtain ⟨p, rfl, hp⟩ := img_split h
  obtain ⟨q, hq, hq5⟩ := img_split hz
  have hl : q.length = p.length := by
    have := congrArg List.length hq
    simp only [List.length_set, List.length_append, sumBy_len] at this
    omega
  simp only [List.length_append, sumBy_len] at hk
  by_cases hkp : k < p.length
  · rw [List.set_append_left _ _ hkp] at hq
    obtain ⟨h1, h2⟩ := List.append_inj hq (by rw [List.length_set, hl])
    have h3 := sumBy_inj h2
    rw [← h1] at h3
    rw [List.getElem?_append_left hkp] at hc
    have hpk : p[k]? = some p[k] := List.getElem?_eq_getElem hkp
    rw [hpk] at hc
    have hne : p[k] ≠ c := fun e => hc (by rw [e])
    have hd : p[k].toNat ^^^ c.toNat ≠ 0 := fun e => hne (by
      rw [← UInt8.toNat_inj]
      have := congrArg (· ^^^ c.toNat) e
      simp only [Nat.xor_assoc, Nat.xor_self, Nat.xor_zero, Nat.zero_xor] at this
      exact this)
    have hd2 : p[k].toNat ^^^ c.toNat < 256 := Nat.xor_lt_two_pow (n := 8) (UInt8.toNat_lt _) (UInt8.toNat_lt _)
    have hw := crc_turn (nums p) k (p[k].toNat ^^^ c.toNat) (by simpa [nums] using hkp) (by omega) hd2
    have e : (nums p)[k]?.getD 0 ^^^ (p[k].toNat ^^^ c.toNat) = c.toNat := by
      have : (nums p)[k]? = some p[k].toNat := by simp [nums, hpk]
      rw [this, Option.getD_some, ← Nat.xor_assoc, Nat.xor_self, Nat.zero_xor]
    rw [e] at hw
    apply hw
    rw [h3]
    simp [nums, List.map_set]
  · rw [List.set_append_right _ _ (by omega)] at hq
    obtain ⟨h1, h2⟩ := List.append_inj hq hl.symm
    subst h1
    have h3 := congrArg (fun l => l[k - p.length]?) h2
    simp only [List.getElem?_set_self (show k - p.length < (sumBy p).length by rw [sumBy_len]; omega)] at h3
    rw [List.getElem?_append_right (by omega)] at hc
    exact hc h3.symm
theorem img_cut {y z : TTab} {b : List UInt8} {k : Nat} (h : IsImg y b) (hk : k < b.length) : ¬ IsImg z (b.take k) := by
  rintro ⟨m', hm', hb', hl'⟩
  obtain ⟨m, hm, rfl, hl⟩ := h
  have h1 := congrArg List.length hb'
  simp only [List.length_append, List.length_take, sumBy_len] at h1 hk
  have hml : magicB.length = 4 := rfl
  rw [List.append_assoc, List.append_assoc, List.take_append] at hb'
  have hkm : magicB.take k = magicB := List.take_of_length_le (by omega)
  rw [hkm] at hb'
  have h2 := List.append_cancel_left hb'
  have hlt : m'.length < m.length := by omega
  have h3 : m.take m'.length = m' := by
    have h4 := congrArg (fun l => l.take m'.length) h2
    simp only [List.take_left'] at h4
    rw [List.take_take, List.take_append_of_le_length (by omega)] at h4
    rw [Nat.min_eq_left (by omega)] at h4
    exact h4
  have h5 : m = m' ++ m.drop m'.length := by
    conv => lhs; rw [← List.take_append_drop m'.length m, h3]
  rw [h5] at hm
  have h6 := (hm'.begin hm).1
  have := congrArg List.length h6
  simp only [List.length_drop, List.length_nil] at this
  omega
/-- bytes that are no image are refused -/
theorem decode_no (A : Option Addr) (n c : Nat) (l : List UInt8) (w : World) (hn : l.length = n) (hc : n ≤ c) (hm : c ≤ 9223372036854775807) (hR : Reads w w.heap.size 1 A n (bv l)) (hno : ∀ y, ¬ IsImg y l) :
    Calls Try.prog 14 #[.slice A n c] w fun e w' => Below w.heap.size w w' ∧ ∃ ec : Int, e = .returned (.tuple #[.agg #[.int .i64 0, .slice none 0 0, .slice none 0 0, .int .i64 0, .int .i64 0, .int .i64 0, .slice none 0 0, .slice none 0 0], .int .i64 ec]) ∧ (ec != 0) = true ∧ (ec == 0) = false :=
  (decode_any A n c l w hn hc hm hR).mono fun e w' ⟨h1, h2⟩ => by
    rcases h2 with ⟨y, _, _, _, _, h3, _⟩ | ⟨_, h3⟩
    · exact absurd h3 (hno y)
    · exact ⟨h1, _, h3, (decErr_ne l).2, (decErr_ne l).1⟩
theorem img_more {y z : TTab} {b : List UInt8} {c : UInt8} (h : IsImg y b) : ¬ IsImg z (b ++ [c]) := by
  intro hz
  have h1 : IsImg y ((b ++ [c]).take b.length) := by rw [List.take_left]; exact h
  exact img_cut hz (by simp) h1
end Go.Proofs.Ytabndfkkbmhhjaa

import Derived.Test.YtmikopnfdldgnaaParsing
namespace Go.Proofs.Ytmikopnfdldgnaa
set_option linter.unusedVariables false
set_option linter.unusedSimpArgs false
open Go.RowKit

set_option maxHeartbeats 2000000 in
theorem hex_any (s : ByteArray) (w : World) (hs : s.size = 17) :
    Calls Try.prog 42 #[.string s] w fun e w' => e = .returned (.int .u64 (acc (gat s) 16)) ∧ w = w' := by
  have hl : 17 ≤ s.size := by omega
  have hl2 : s.size ≤ 17 := by omega
  have Hs := Lib.hid hs
  clear hs
  go_enter Try.func42, Try.ntmps42
  go_wp2_with fail
  go_loop [3, 4] (fun x i => ∃ j A : Nat, j ≤ 16 ∧ Hid (A = acc (gat s) j) ∧ A < 18446744073709551616 ∧ x = .int .u64 A ∧ i = .int .i64 (j + 1)) (fun _ i => 17 - (intOf i).toNat)
  case atStart => exact ⟨0, 0, by omega, rfl, by omega, rfl, rfl⟩
  case round =>
    obtain ⟨j, A, hj, hA, hA2, rfl, rfl⟩ := hrel
    by_cases hlt : j < 16
    · have hjs : j + 1 < s.size := by omega
      obtain ⟨b, hb⟩ : ∃ b, b = gat s (j + 1) := ⟨_, rfl⟩
      have hb2 := gat_lt s (j + 1)
      have e' := gat_at s (j + 1) hjs
      rw [← hb] at e' hb2
      have e : s[j + 1].toNat = b := e'.symm
      clear e'
      have Hb := Lib.hid hb
      clear hb
      have hA3 : A < 1152921504606846976 := by
        have := acc_lt (gat s) j
        have h2 : 16 ^ j ≤ 16 ^ 15 := Nat.pow_le_pow_right (by decide) (by omega)
        rw [hA.out]; omega
      by_cases c1 : 48 ≤ b ∧ b ≤ 57
      · have D := Lib.hid (digit_lo c1).2
        obtain ⟨c1, c2⟩ := c1
        go_wp2_with fail
        go_round
        case rel => exact ⟨j + 1, A * 16 + (b - 48), by omega, acc_step2 hA.out Hb.out D.out, by omega, by congr 1; omega, by congr 1⟩
        case measure => simp [intOf]; omega
      · by_cases c2 : 97 ≤ b ∧ b ≤ 102
        · have D := Lib.hid (digit_hi c2).2
          obtain ⟨c3, c4⟩ := c2
          have c5 : ¬ b ≤ 57 := by omega
          clear c1
          go_wp2_with fail
          go_round
          case rel => exact ⟨j + 1, A * 16 + (b - 87), by omega, acc_step2 hA.out Hb.out D.out, by omega, by congr 1; omega, by congr 1⟩
          case measure => simp [intOf]; omega
        · have D := Lib.hid (digit_no c1 c2).2
          by_cases d1 : 48 ≤ b
          · by_cases d2 : 97 ≤ b
            · have d3 : ¬ b ≤ 57 := by omega
              have d4 : ¬ b ≤ 102 := by omega
              clear c1 c2
              go_wp2_with fail
              go_round
              case rel => exact ⟨j + 1, A * 16 + 0, by omega, acc_step2 hA.out Hb.out D.out, by omega, by congr 1, by congr 1⟩
              case measure => simp [intOf]; omega
            · have d3 : ¬ b ≤ 57 := by omega
              clear c1 c2
              go_wp2_with fail
              go_round
              case rel => exact ⟨j + 1, A * 16 + 0, by omega, acc_step2 hA.out Hb.out D.out, by omega, by congr 1, by congr 1⟩
              case measure => simp [intOf]; omega
          · have d3 : ¬ 97 ≤ b := by omega
            clear c1 c2
            go_wp2_with fail
            go_round
            case rel => exact ⟨j + 1, A * 16 + 0, by omega, acc_step2 hA.out Hb.out D.out, by omega, by congr 1, by congr 1⟩
            case measure => simp [intOf]; omega
    · obtain rfl : j = 16 := by omega
      go_wp2_with fail
      go_ret
      exact ⟨ret_int (congrArg Int.ofNat hA.out), rfl⟩

/-- the text of 64 bits -/
def textOf (c : Nat) : ByteArray := ⟨(txt c 16).toArray⟩
theorem textOf_size (c : Nat) : (textOf c).size = 17 := by show (txt c 16).toArray.size = 17; simp [txt_len]
theorem textOf_gat (c j : Nat) (h : j < 16) : gat (textOf c) (j + 1) = (hexc (dgt c j)).toNat := by
  rw [gat_at _ _ (by rw [textOf_size]; omega)]
  have h2 := txt_get c 16 j h
  have h3 : j + 1 < (txt c 16).length := by rw [txt_len]; omega
  rw [List.getElem?_eq_getElem h3] at h2
  injection h2 with h2
  rw [← h2]; rfl
theorem textOf_zero (c : Nat) : gat (textOf c) 0 = 35 := by
  rw [gat_at _ _ (by rw [textOf_size]; omega)]; rfl
theorem textOf_acc (c : Nat) (h : c < 18446744073709551616) : acc (gat (textOf c)) 16 = c := acc_all c h _ (fun j hj => textOf_gat c j hj)
theorem textOf_ok (c : Nat) (j : Nat) (h : j < 16) : hok (gat (textOf c) (j + 1)) = true := by
  rw [textOf_gat c j h]; exact (hv_hexc ⟨dgt c j, dgt_lt c j⟩).2
/-- a text that is read is the text of what is read -/
theorem text_back (s : ByteArray) (hs : s.size = 17) (h0 : gat s 0 = 35) (hk : ∀ j, j < 16 → hok (gat s (j + 1)) = true) : s = textOf (acc (gat s) 16) := by
  apply ByteArray.ext
  apply Array.ext
  · show s.size = (textOf _).size; rw [hs, textOf_size]
  · intro i h1 h2
    have h1' : i < s.size := h1
    have h2' : i < (textOf (acc (gat s) 16)).size := h2
    show s[i]'h1' = (textOf (acc (gat s) 16))[i]'h2'
    apply UInt8.toNat_inj.1
    rw [← gat_at s i h1', ← gat_at _ i h2']
    cases i with
    | zero => rw [h0, textOf_zero]
    | succ j =>
      have hj : j < 16 := by omega
      rw [textOf_gat _ j hj, txt_acc (gat s) (fun k hk' => gat_lt s _) hk j hj]
theorem parsed_text {c : Nat} {v : Int} {ok : Bool} (h : c < 18446744073709551616) (hc : canon c = c) (hp : Parsed (textOf c) v ok) : ok = true ∧ v = c := by
  rcases hp with ⟨h1, _, _, _, hv, _⟩ | ⟨_, _, h2⟩
  · exact ⟨h1, by rw [hv, textOf_acc c h]⟩
  · exact absurd (by rw [textOf_acc c h]; exact hc) (h2 (textOf_size c) (textOf_zero c) (fun j hj => textOf_ok c j hj))
theorem parsed_yes {s : ByteArray} {v : Int} (hp : Parsed s v true) : ∃ c : Nat, v = c ∧ canon c = c ∧ c < 18446744073709551616 ∧ s = textOf c := by
  rcases hp with ⟨_, hs, h0, hk, hv, hc⟩ | ⟨h1, _⟩
  · refine ⟨acc (gat s) 16, hv, by rw [← hv]; exact hc, acc_lt (gat s) 16, text_back s hs h0 hk⟩
  · cases h1
theorem parsed_no {s : ByteArray} {v : Int} (hp : Parsed s v false) : v = 0 ∧ (s.size = 17 → s ≠ textOf (canon (acc (gat s) 16)).toNat) := by
  rcases hp with ⟨h1, _⟩ | ⟨_, hv, h2⟩
  · cases h1
  · refine ⟨hv, fun hs he => ?_⟩
    have hb := acc_lt (gat s) 16
    obtain ⟨c, hc⟩ : ∃ c : Nat, (canon (acc (gat s) 16)).toNat = c := ⟨_, rfl⟩
    have hcc : canon (acc (gat s) 16) = c := by have := canon_lo (acc (gat s) 16) (by omega); omega
    rw [hc] at he
    have hcl : c < 18446744073709551616 := by have := canon_hi (acc (gat s) 16) (by omega); omega
    have h3 := h2 hs (by rw [he]; exact textOf_zero c) (fun j hj => by rw [he]; exact textOf_ok c j hj)
    have h4 : acc (gat s) 16 = c := by rw [he]; exact textOf_acc c hcl
    rw [h4] at h3
    apply h3
    rw [h4] at hcc
    exact hcc
end Go.Proofs.Ytmikopnfdldgnaa

import Derived.Test.YtmikopnfdldgnaaTexting
namespace Go.Proofs.Ytmikopnfdldgnaa
set_option linter.unusedVariables false
set_option linter.unusedSimpArgs false
open Go.RowKit

/-- what is read of a text -/
def Parsed (s : ByteArray) (v : Int) (ok : Bool) : Prop :=
  (ok = true ∧ s.size = 17 ∧ gat s 0 = 35 ∧ (∀ j, j < 16 → hok (gat s (j + 1)) = true) ∧ v = acc (gat s) 16 ∧ canon v = v) ∨
  (ok = false ∧ v = 0 ∧ (s.size = 17 → gat s 0 = 35 → (∀ j, j < 16 → hok (gat s (j + 1)) = true) → canon (acc (gat s) 16) ≠ acc (gat s) 16))
def ParsePost (s : ByteArray) (w : World) (e : Ending) (w' : World) : Prop := ∃ v ok, e = .returned (.tuple #[.int .u64 v, .bool ok]) ∧ Parsed s v ok ∧ w = w'
theorem parse_no {s : ByteArray} {w : World} (h : s.size = 17 → gat s 0 = 35 → (∀ j, j < 16 → hok (gat s (j + 1)) = true) → canon (acc (gat s) 16) ≠ acc (gat s) 16) :
    ParsePost s w (.returned (.tuple #[.int .u64 0, .bool false])) w := ⟨0, false, rfl, Or.inr ⟨rfl, rfl, h⟩, rfl⟩
theorem parse_yes {s : ByteArray} {w : World} {v : Int} (h0 : s.size = 17) (h1 : gat s 0 = 35) (h2 : ∀ j, j < 16 → hok (gat s (j + 1)) = true) (hv : v = acc (gat s) 16) (hc : canon v = v) :
    ParsePost s w (.returned (.tuple #[.int .u64 v, .bool true])) w := ⟨v, true, rfl, Or.inl ⟨rfl, h0, h1, h2, hv, hc⟩, rfl⟩

theorem digit_lo {b : Nat} (h : 48 ≤ b ∧ b ≤ 57) : hok b = true ∧ hv b = b - 48 := by unfold hok hv; simp; omega
theorem digit_hi {b : Nat} (h : 97 ≤ b ∧ b ≤ 102) : hok b = true ∧ hv b = b - 87 := by
  unfold hok hv; rw [if_neg (by omega), if_pos h]; simp; omega
theorem digit_no {b : Nat} (h : ¬ (48 ≤ b ∧ b ≤ 57)) (h2 : ¬ (97 ≤ b ∧ b ≤ 102)) : hok b = false ∧ hv b = 0 := by
  unfold hok hv; rw [if_neg h, if_neg h2]; simp; omega

theorem acc_step {s : ByteArray} {j A b d : Nat} (hA : A = acc (gat s) j) (hb : b = gat s (j + 1)) (h : hok b = true ∧ hv b = d) : A * 16 + d = acc (gat s) (j + 1) := by
  unfold acc; rw [← hA, ← hb, h.2]
theorem acc_step2 {s : ByteArray} {j A b d : Nat} (hA : A = acc (gat s) j) (hb : b = gat s (j + 1)) (h : hv b = d) : A * 16 + d = acc (gat s) (j + 1) := by
  unfold acc; rw [← hA, ← hb, h]
theorem ok_step {s : ByteArray} {j b : Nat} (hO : ∀ k, k < j → hok (gat s (k + 1)) = true) (hb : b = gat s (j + 1)) (h : hok b = true) : ∀ k, k < j + 1 → hok (gat s (k + 1)) = true := by
  intro k hk
  by_cases e : k = j
  · subst e; rw [← hb]; exact h
  · exact hO k (by omega)

set_option maxHeartbeats 2000000 in
theorem parse_any (s : ByteArray) (w : World) (hl3 : s.size ≤ 9223372036854775807) :
    Calls Try.prog 40 #[.string s] w (ParsePost s w) := by
  by_cases hs : s.size = 17
  · have hl : 17 ≤ s.size := by omega
    have hl2 : s.size ≤ 17 := by omega
    have Hs := Lib.hid hs
    clear hs hl3
    have hp : 0 < s.size := by omega
    have z0' := gat_at s 0 hp
    by_cases h35 : gat s 0 = 35
    · have H35 := Lib.hid h35
      rw [h35] at z0'
      clear h35
      have z0 : s[0].toNat = 35 := z0'.symm
      clear z0'
      go_enter Try.func40, Try.ntmps40
      go_wp2_with fail
      go_loop [4, 5] (fun x i => ∃ j A : Nat, j ≤ 16 ∧ Hid (A = acc (gat s) j) ∧ A < 18446744073709551616 ∧ Hid (∀ k, k < j → hok (gat s (k + 1)) = true) ∧ x = .int .u64 A ∧ i = .int .i64 (j + 1)) (fun _ i => 17 - (intOf i).toNat)
      case atStart => exact ⟨0, 0, by omega, rfl, by omega, (fun k hk => absurd hk (by omega)), rfl, rfl⟩
      case round =>
        obtain ⟨j, A, hj, hA, hA2, hO, rfl, rfl⟩ := hrel
        by_cases hlt : j < 16
        · have hjs : j + 1 < s.size := by omega
          obtain ⟨b, hb⟩ : ∃ b, b = gat s (j + 1) := ⟨_, rfl⟩
          have hb2 := gat_lt s (j + 1)
          have e' := gat_at s (j + 1) hjs
          rw [← hb] at e' hb2
          have e : s[j + 1].toNat = b := e'.symm
          clear e'
          have Hb := Lib.hid hb
          clear hb
          have hA3 : A < 1152921504606846976 := by
            have := acc_lt (gat s) j
            have h2 : 16 ^ j ≤ 16 ^ 15 := Nat.pow_le_pow_right (by decide) (by omega)
            rw [hA.out]; omega
          by_cases c1 : 48 ≤ b ∧ b ≤ 57
          · have hd := or_digit A (b - 48) hA3 (by omega)
            rw [show ((b - 48 : Nat) : Int) = (b : Int) - 48 by omega] at hd
            have D := Lib.hid (digit_lo c1)
            obtain ⟨c1, c2⟩ := c1
            go_wp2_with fail
            go_round
            case rel => exact ⟨j + 1, A * 16 + (b - 48), by omega, acc_step hA.out Hb.out D.out, by omega, ok_step hO.out Hb.out D.out.1, by congr 1, by congr 1⟩
            case measure => simp [intOf]; omega
          · by_cases c2 : 97 ≤ b ∧ b ≤ 102
            · have hd := or_digit A (b - 87) hA3 (by omega)
              rw [show ((b - 87 : Nat) : Int) = (b : Int) - 97 + 10 by omega] at hd
              have D := Lib.hid (digit_hi c2)
              obtain ⟨c3, c4⟩ := c2
              have c5 : ¬ b ≤ 57 := by omega
              clear c1
              go_wp2_with fail
              go_round
              case rel => exact ⟨j + 1, A * 16 + (b - 87), by omega, acc_step hA.out Hb.out D.out, by omega, ok_step hO.out Hb.out D.out.1, by congr 1, by congr 1⟩
              case measure => simp [intOf]; omega
            · have D := Lib.hid (digit_no c1 c2)
              have hfin : ParsePost s w (.returned (.tuple #[.int .u64 0, .bool false])) w := parse_no (fun _ _ h => by have := h j hlt; rw [← Hb.out, D.out.1] at this; cases this)
              have HF := Lib.hid hfin
              clear hfin
              by_cases d1 : 48 ≤ b
              · by_cases d2 : 97 ≤ b
                · have d3 : ¬ b ≤ 57 := by omega
                  have d4 : ¬ b ≤ 102 := by omega
                  clear c1 c2
                  go_wp2_with fail
                  go_ret2
                  exact HF.out
                · have d3 : ¬ b ≤ 57 := by omega
                  clear c1 c2
                  go_wp2_with fail
                  go_ret2
                  exact HF.out
              · have d3 : ¬ 97 ≤ b := by omega
                clear c1 c2
                go_wp2_with fail
                go_ret2
                exact HF.out
        · obtain rfl : j = 16 := by omega
          by_cases hc : canon A = A
          · have HY := Lib.hid (parse_yes (w := w) Hs.out H35.out hO.out (congrArg Int.ofNat hA.out) hc)
            go_wp2_with fail
            refine (canon_any _ _ (by omega) (by omega)).mono ?_
            rintro e w' ⟨rfl, rfl⟩
            rw [hc]
            clear hc
            go_wp2_with fail
            go_ret2
            exact HY.out
          · have HN := Lib.hid (parse_no (s := s) (w := w) (fun _ _ _ => by rw [← hA.out]; exact hc))
            have hc2 : (canon A != A) = true := by rw [bne_iff_ne]; exact hc
            clear hc
            go_wp2_with fail
            refine (canon_any _ _ (by omega) (by omega)).mono ?_
            rintro e w' ⟨rfl, rfl⟩
            go_wp2_with fail
            go_ret2
            exact HN.out
    · have HN := Lib.hid (parse_no (s := s) (w := w) (fun _ h _ => absurd h h35))
      have z1 : (s[0].toNat : Int) ≠ 35 := by omega
      have z2 : ((s[0].toNat : Int) != 35) = true := by rw [bne_iff_ne]; exact z1
      clear z1 z0' h35
      go_enter Try.func40, Try.ntmps40
      go_wp2_with fail
      go_ret2
      exact HN.out
  · have HN := Lib.hid (parse_no (s := s) (w := w) (fun h _ _ => absurd h hs))
    have z2 : ((s.size : Int) != 17) = true := by rw [bne_iff_ne]; omega
    clear hs
    go_enter Try.func40, Try.ntmps40
    go_wp2_with fail
    go_ret2
    exact HN.out
end Go.Proofs.Ytmikopnfdldgnaa

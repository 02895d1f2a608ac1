/-
  The walks of the reference's First and Signed.
-/
import Derived.Test.YtioocaicmiggoaaNum
namespace Go.Proofs.Ytioocaicmiggoaa
set_option linter.unusedVariables false
set_option linter.unusedSimpArgs false
open Go.RowKit

/-- the number with which bytes begin, and how many they are: noughts of none -/
def fstV (l : List UInt8) : Nat := ((dec l).getD (0, 0)).1
def fstK (l : List UInt8) : Nat := ((dec l).getD (0, 0)).2
theorem fst_some {l : List UInt8} {v k : Nat} (h : dec l = some (v, k)) : fstV l = v ∧ fstK l = k := by unfold fstV fstK; rw [h]; exact ⟨rfl, rfl⟩
theorem fst_none {l : List UInt8} (h : dec l = none) : fstV l = 0 ∧ fstK l = 0 := by unfold fstV fstK; rw [h]; exact ⟨rfl, rfl⟩

set_option maxRecDepth 100000 in
set_option maxHeartbeats 2000000 in
theorem first_any (A : Option Addr) (n c B : Nat) (l : List UInt8) (w : World) (hn : l.length = n) (hc : n ≤ c) (hm : c ≤ 9223372036854775807) (hR : Reads w B 1 A n (bv l)) :
    Calls Try.prog 84 #[.slice A n c] w fun e w' => e = .returned (.tuple #[.int .u64 (fstV l), .int .i64 (fstK l)]) ∧ w = w' := by
  rcases Nat.eq_zero_or_pos n with h0 | h0
  · subst h0
    obtain rfl : l = [] := List.eq_nil_of_length_eq_zero hn
    clear hR hn
    go_enter Try.func84, Try.ntmps84
    go_wp2_with fail
    refine wp_loop_rounds 1 ?_
    rw [rounds_succ]
    go_wp2
    go_ret2
    exact ⟨rfl, rfl⟩
  · obtain ⟨b, off, rfl, hb, hcell⟩ := hR.shape h0
    have HC := Lib.hid hcell
    have HN := Lib.hid hn
    clear hcell hR
    have hl : n ≤ l.length := by omega
    have hl3 : l.length ≤ n := by omega
    clear hn
    go_enter Try.func84, Try.ntmps84
    go_wp2_with fail
    go_loop [4, 5] (fun x i => ∃ j N : Nat, j ≤ n ∧ j ≤ 9 ∧ Hid (dcF (10 - j) j N (l.drop j) = dec l) ∧ Hid (N < 128 ^ j) ∧ N < 18446744073709551616 ∧ x = .int .u64 N ∧ i = .int .i64 j) (fun _ i => 10 - (intOf i).toNat)
    case atStart => exact ⟨0, 0, by omega, by omega, rfl, (by decide : 0 < 128 ^ 0), by decide, rfl, rfl⟩
    case round =>
      obtain ⟨j, N, hj, hj2, hD, hN, hN2, rfl, rfl⟩ := hrel
      by_cases hlt : j < n
      · obtain ⟨C, hC⟩ : ∃ C, C = (l[j]'(by omega)).toNat := ⟨_, rfl⟩
        have hC2 : C < 256 := by rw [hC]; exact UInt8.toNat_lt _
        have hcj : w.cell? ⟨b, off + j, none⟩ = some (.int .u8 C) := by rw [HC.out j _ (bv_get l j (by omega)), hC]
        have HCC := Lib.hid hC
        clear hC
        have hjl : j < l.length := by omega
        by_cases stop : (j = 9 ∧ 1 < C) ∨ (0 < j ∧ C = 0)
        · have HF := Lib.hid (fst_none (dcF_stop hjl (by omega) HCC.out hD.out stop))
          by_cases s1 : j = 9 ∧ 1 < C
          · obtain ⟨rfl, s2⟩ := s1
            clear stop
            go_wp2_with fail
            go_ret2
            exact ⟨by rw [HF.out.1, HF.out.2]; rfl, rfl⟩
          · have s2 : 0 < j ∧ C = 0 := by omega
            obtain ⟨s3, rfl⟩ := s2
            clear stop s1
            by_cases s9 : j = 9
            · subst s9
              go_wp2_with fail
              go_ret2
              exact ⟨by rw [HF.out.1, HF.out.2]; rfl, rfl⟩
            · have t1 : ((j : Int) == 9) = false := by rw [beq_eq_false_iff_ne]; omega
              clear s9
              go_wp2_with fail
              go_ret2
              exact ⟨by rw [HF.out.1, HF.out.2]; rfl, rfl⟩
        · have hda := digit_add (j := j) (N := N) (C := C) (by omega) hN.out hC2 (by omega)
          obtain ⟨S, hS⟩ : ∃ S, C % 128 * 128 ^ j = S := ⟨_, rfl⟩
          rw [hS] at hda
          obtain ⟨d1, d2⟩ := hda
          have D2 := Lib.hid d2
          clear d2
          have hw := shl_wrap hS.symm (by omega : S < 18446744073709551616)
          by_cases h128 : C < 128
          · have hF := fst_some (dcF_done hjl (by omega) HCC.out hD.out stop h128)
            rw [hS] at hF
            have HF := Lib.hid hF
            have h99 : j = 9 → (C : Int) % 128 * 9223372036854775808 = S := fun e => by
              subst e; rw [← hS, Int.natCast_mul]; rfl
            clear hS hF
            by_cases s9 : j = 9
            · subst s9
              have h9 := h99 rfl
              clear h99
              have s3 : C ≤ 1 := by omega
              have t3 : ((C : Int) == 0) = false := by rw [beq_eq_false_iff_ne]; omega
              clear stop
              go_wp2_with fail
              go_ret2
              exact ⟨by rw [HF.out.1, HF.out.2]; rfl, rfl⟩
            · clear h99
              have t1 : ((j : Int) == 9) = false := by rw [beq_eq_false_iff_ne]; omega
              by_cases s0 : 0 < j
              · have t3 : ((C : Int) == 0) = false := by rw [beq_eq_false_iff_ne]; omega
                clear stop s9
                go_wp2_with fail
                go_ret2
                exact ⟨by rw [HF.out.1, HF.out.2]; rfl, rfl⟩
              · clear stop s9
                go_wp2_with fail
                go_ret2
                exact ⟨by rw [HF.out.1, HF.out.2]; rfl, rfl⟩
          · have hM := dcF_more hjl (by omega) HCC.out hD.out stop h128
            rw [hS] at hM
            have HM := Lib.hid hM
            have t1 : ((j : Int) == 9) = false := by rw [beq_eq_false_iff_ne]; omega
            have t3 : ((C : Int) == 0) = false := by rw [beq_eq_false_iff_ne]; omega
            have hj8 : j < 9 := by omega
            clear hS hM stop
            by_cases s0 : 0 < j
            · go_wp2_with fail
              go_round
              case rel => exact ⟨j + 1, N + S, by omega, by omega, HM.out, D2.out, d1, by congr 1, by congr 1⟩
              case measure => simp [intOf]; omega
            · go_wp2_with fail
              go_round
              case rel => exact ⟨j + 1, N + S, by omega, by omega, HM.out, D2.out, d1, by congr 1, by congr 1⟩
              case measure => simp [intOf]; omega
      · have HF := Lib.hid (fst_none (dcF_ends (by omega) (by omega) hD.out))
        go_wp2_with fail
        go_ret2
        exact ⟨by rw [HF.out.1, HF.out.2]; rfl, rfl⟩

set_option maxRecDepth 100000 in
set_option maxHeartbeats 1000000 in
theorem signed_any (n : Nat) (w : World) (h : n < 18446744073709551616) :
    Calls Try.prog 69 #[.int .u64 n] w fun e w' => e = .returned (.int .i64 (zag n)) ∧ w = w' := by
  obtain ⟨Z, hZ⟩ : ∃ Z, zag n = Z := ⟨_, rfl⟩
  rcases Nat.mod_two_eq_zero_or_one n with hp | hp
  · have e : (n : Int) / 2 = Z := by rw [← hZ]; unfold zag; rw [if_neg (by omega)]; omega
    have t : ((n : Int) % 2 == 1) = false := by rw [beq_eq_false_iff_ne]; omega
    have z2 : Z ≤ 9223372036854775807 := by omega
    have z3 : 0 ≤ Z := by omega
    rw [hZ]
    clear hZ hp
    go_enter Try.func69, Try.ntmps69
    go_wp2_with fail
    go_ret
    exact ⟨rfl, rfl⟩
  · obtain ⟨H, hH⟩ : ∃ H : Int, (n : Int) / 2 = H := ⟨_, rfl⟩
    have e : -H - 1 = Z := by rw [← hZ, ← hH]; unfold zag; rw [if_pos hp]; omega
    have z2 : H ≤ 9223372036854775807 := by omega
    have z3 : 0 ≤ H := by omega
    have t : ((n : Int) % 2 == 1) = true := by rw [beq_iff_eq]; omega
    rw [hZ]
    clear hZ hp
    go_enter Try.func69, Try.ntmps69
    go_wp2_with fail
    go_ret
    exact ⟨rfl, rfl⟩
end Go.Proofs.Ytioocaicmiggoaa

/-
  The walk of the reference's sum over bytes.
-/
import Derived.Test.YtabndfkkbmhhjaaSum
namespace Go.Proofs.Ytabndfkkbmhhjaa
set_option linter.unusedVariables false
set_option linter.unusedSimpArgs false
open Go.RowKit

theorem stpN_eight (x : Nat) : stpN 8 x = stp8 x := rfl
theorem step_odd (x : Nat) (h : x < 4294967296) (hp : x % 2 = 1) : bits BinOp.xor IntKind.u32 ((x : Int) / 2) 3988292384 = (stp x : Int) := xor_step x h hp
theorem step_even (x : Nat) (hp : x % 2 = 0) : ((x : Int) / 2) = (stp x : Int) := by unfold stp; rw [if_neg (by omega)]; omega

set_option maxHeartbeats 1000000 in
theorem rsum_any (A : Option Addr) (n c B : Nat) (l : List UInt8) (w : World) (hn : l.length = n) (hc : n ≤ c) (hm : c ≤ 9223372036854775807) (hR : Reads w B 1 A n (bv l)) :
    Calls Try.prog 33 #[.slice A n c] w fun e w' => e = .returned (.int .u32 (crc (nums l))) ∧ w = w' := by
  rcases Nat.eq_zero_or_pos n with h0 | h0
  · subst h0
    obtain rfl : l = [] := List.eq_nil_of_length_eq_zero hn
    clear hR hn
    go_enter Try.func33, Try.ntmps33
    go_wp2_with fail
    refine wp_loop_rounds 1 ?_
    rw [rounds_succ]
    go_wp2
    go_ret
    exact ⟨ret_u32 (by decide), rfl⟩
  · obtain ⟨b, off, rfl, hb, hcell⟩ := hR.shape h0
    have HC := Lib.hid hcell
    have HN := Lib.hid hn
    clear hcell hR
    have hl : n ≤ l.length := by omega
    have hl2 : l.length ≤ n := by omega
    clear hn
    go_enter Try.func33, Try.ntmps33
    go_wp2_with fail
    go_loop [3, 9] (fun x i => ∃ j X : Nat, j ≤ n ∧ Hid (X = crcTo l j) ∧ X < 4294967296 ∧ x = .int .u32 X ∧ i = .int .i64 j) (fun _ i => n - (intOf i).toNat)
    case atStart => exact ⟨0, ones, by omega, rfl, by decide, rfl, rfl⟩
    case round =>
      obtain ⟨j, X, hj, hX, hX2, rfl, rfl⟩ := hrel
      by_cases hlt : j < n
      · obtain ⟨C, hC⟩ : ∃ C, C = (l[j]'(by omega)).toNat := ⟨_, rfl⟩
        have hC2 : C < 256 := by rw [hC]; exact UInt8.toNat_lt _
        have hcj : w.cell? ⟨b, off + j, none⟩ = some (.int .u8 C) := by rw [HC.out j _ (bv_get l j (by omega)), hC]
        have S := Lib.hid (crcTo_succ l j (by omega))
        rw [← hC] at S
        have x1 := xor_byte X C hX2 hC2
        obtain ⟨Y, hY⟩ : ∃ Y, X ^^^ C = Y := ⟨_, rfl⟩
        have hY2 : Y < 4294967296 := by rw [← hY]; exact Nat.xor_lt_two_pow (n := 32) hX2 (by omega)
        rw [hY] at x1
        have HY := Lib.hid hY
        clear hY hC
        go_wp2_with fail
        go_loop [3, 6] (fun x i => ∃ k Z : Nat, k ≤ 8 ∧ Hid (Z = stpN k Y) ∧ Z < 4294967296 ∧ x = .int .u32 Z ∧ i = .int .i64 k) (fun _ i => 8 - (intOf i).toNat)
        case atStart => exact ⟨0, Y, by omega, rfl, hY2, rfl, rfl⟩
        case round =>
          obtain ⟨k, Z, hk, hZ, hZ2, rfl, rfl⟩ := hrel
          have hb2 := stp_lt Z hZ2
          by_cases hl8 : k < 8
          · rcases Nat.mod_two_eq_zero_or_one Z with hp | hp
            · have e1 := step_even Z hp
              have ht : ((Z : Int) % 2 == 1) = false := by rw [beq_eq_false_iff_ne]; omega
              clear hp
              go_wp2_with fail
              go_round
              case rel => exact ⟨k + 1, stp Z, by omega, (congrArg stp hZ.out : stp Z = stpN (k + 1) Y), hb2, rfl, by go_num⟩
              case measure => simp [intOf]; omega
            · have e1 := step_odd Z hZ2 hp
              have ht : ((Z : Int) % 2 == 1) = true := by rw [beq_iff_eq]; omega
              clear hp
              go_wp2_with fail
              go_round
              case rel => exact ⟨k + 1, stp Z, by omega, (congrArg stp hZ.out : stp Z = stpN (k + 1) Y), hb2, rfl, by go_num⟩
              case measure => simp [intOf]; omega
          · obtain rfl : k = 8 := by omega
            have fin : Z = crcTo l (j + 1) := by rw [S.out, ← hX.out, hZ.out, stpN_eight]; unfold crcS; rw [HY.out]
            have Fin := Lib.hid fin
            clear fin
            go_wp2_with fail
            go_round
            case rel => exact ⟨j + 1, Z, by omega, Fin.out, hZ2, rfl, by go_num⟩
            case measure => simp [intOf]; omega
      · obtain rfl : j = n := by omega
        have x1 := xor_ones X hX2
        go_wp2
        go_ret
        exact ⟨ret_u32 (by rw [← crcTo_all, HN.out, ← hX.out]), rfl⟩
end Go.Proofs.Ytabndfkkbmhhjaa

/-
  The walk of the table by which bytes are summed.
-/
import Derived.Test.YtabndfkkbmhhjaaRows
import Derived.Test.YtabndfkkbmhhjaaCrc
import Derived.Test.YtabndfkkbmhhjaaMem
import Derived.WalkKit
import Derived.WalkSpells
import Derived.WalkLawsBesides
import Derived.ProofKit
namespace Go.Proofs.Ytabndfkkbmhhjaa
set_option linter.unusedVariables false
set_option linter.unusedSimpArgs false
open Go.RowKit

/-- the table when k of its cells are laid -/
def tabAt (k : Nat) (j : Nat) : Value := Value.int .u32 (if j < k then stp4 j else 0 : Nat)
def tab (k : Nat) : Array Value := #[tabAt k 0, tabAt k 1, tabAt k 2, tabAt k 3, tabAt k 4, tabAt k 5, tabAt k 6, tabAt k 7, tabAt k 8, tabAt k 9, tabAt k 10, tabAt k 11, tabAt k 12, tabAt k 13, tabAt k 14, tabAt k 15]
theorem tab_get (k j : Nat) (h : j < 16) : (tab k)[j]? = some (tabAt k j) := by
  rcases (show j = 0 ∨ j = 1 ∨ j = 2 ∨ j = 3 ∨ j = 4 ∨ j = 5 ∨ j = 6 ∨ j = 7 ∨ j = 8 ∨ j = 9 ∨ j = 10 ∨ j = 11 ∨ j = 12 ∨ j = 13 ∨ j = 14 ∨ j = 15 by omega) with rfl | rfl | rfl | rfl | rfl | rfl | rfl | rfl | rfl | rfl | rfl | rfl | rfl | rfl | rfl | rfl <;> rfl
theorem tab_size (k : Nat) : (tab k).size = 16 := rfl
theorem tab_set (k : Nat) (h : k < 16) : (tab k).setIfInBounds k (.int .u32 (stp4 k : Nat)) = tab (k + 1) := by
  apply Array.ext_getElem?
  intro i
  rw [Array.getElem?_setIfInBounds]
  by_cases hi : i < 16
  · rw [tab_get (k + 1) i hi]
    by_cases e : k = i
    · subst e; rw [if_pos rfl, if_pos (by rw [tab_size]; exact h)]; unfold tabAt; rw [if_pos (by omega)]
    · rw [if_neg e, tab_get k i hi]; unfold tabAt
      by_cases c : i < k
      · rw [if_pos c, if_pos (by omega)]
      · rw [if_neg c, if_neg (by omega)]
  · have h1 : (tab k)[i]? = none := Array.getElem?_eq_none (by rw [tab_size]; omega)
    have h2 : (tab (k + 1))[i]? = none := Array.getElem?_eq_none (by rw [tab_size]; omega)
    rw [h1, h2]; simp [tab_size]; omega
/-- the whole table -/
def crcTab : Array Value := #[.int .u32 0, .int .u32 498536548, .int .u32 997073096, .int .u32 651767980, .int .u32 1994146192, .int .u32 1802195444, .int .u32 1303535960, .int .u32 1342533948, .int .u32 3988292384, .int .u32 4027552580, .int .u32 3604390888, .int .u32 3412177804, .int .u32 2607071920, .int .u32 2262029012, .int .u32 2685067896, .int .u32 3183342108]
theorem tab_end : tab 16 = crcTab := by
  have e : ∀ j v, stp4 j = v → j < 16 → tabAt 16 j = .int .u32 (v : Nat) := by intro j v h hj; unfold tabAt; rw [if_pos hj, h]
  unfold tab crcTab
  rw [e 0 0 (by decide) (by omega), e 1 498536548 (by decide) (by omega), e 2 997073096 (by decide) (by omega), e 3 651767980 (by decide) (by omega), e 4 1994146192 (by decide) (by omega), e 5 1802195444 (by decide) (by omega), e 6 1303535960 (by decide) (by omega), e 7 1342533948 (by decide) (by omega), e 8 3988292384 (by decide) (by omega), e 9 4027552580 (by decide) (by omega), e 10 3604390888 (by decide) (by omega), e 11 3412177804 (by decide) (by omega), e 12 2607071920 (by decide) (by omega), e 13 2262029012 (by decide) (by omega), e 14 2685067896 (by decide) (by omega), e 15 3183342108 (by decide) (by omega)]
  rfl
theorem tab_start : tab 0 = #[.int .u32 0, .int .u32 0, .int .u32 0, .int .u32 0, .int .u32 0, .int .u32 0, .int .u32 0, .int .u32 0, .int .u32 0, .int .u32 0, .int .u32 0, .int .u32 0, .int .u32 0, .int .u32 0, .int .u32 0, .int .u32 0] := rfl
theorem crcTab_get (j : Nat) (h : j < 16) : crcTab[j]? = some (.int .u32 (stp4 j : Nat)) := by
  rw [← tab_end, tab_get 16 j h]; unfold tabAt; rw [if_pos h]

/-- j single steps -/
def stpN : Nat → Nat → Nat
  | 0, x => x
  | j + 1, x => stp (stpN j x)
theorem stpN_lt (j x : Nat) (h : x < 4294967296) : stpN j x < 4294967296 := by
  induction j with
  | zero => exact h
  | succ j ih => exact stp_lt _ ih
theorem and_1 (x : Nat) (h : x < 4294967296) : bits BinOp.and IntKind.u32 (x : Int) 1 = (x : Int) % 2 := by
  rw [u32_and _ 1 (by omega) (by omega) (by decide) (by decide)]
  have : (x : Int).toNat &&& (1 : Int).toNat = (x : Int).toNat % 2 ^ 1 := Nat.and_two_pow_sub_one_eq_mod _ 1
  rw [this]; omega
theorem xor_step (x : Nat) (h : x < 4294967296) (hp : x % 2 = 1) : bits BinOp.xor IntKind.u32 ((x : Int) / 2) 3988292384 = (stp x : Int) := by
  rw [show (x : Int) / 2 = ((x / 2 : Nat) : Int) by omega, show (3988292384 : Int) = ((3988292384 : Nat) : Int) from rfl, u32_xor_nat _ _ (by omega) (by omega)]
  unfold stp poly; rw [if_pos hp]
theorem xor_stay (x : Nat) (h : x < 4294967296) (hp : x % 2 = 0) : bits BinOp.xor IntKind.u32 ((x : Int) / 2) 0 = (stp x : Int) := by
  rw [show (x : Int) / 2 = ((x / 2 : Nat) : Int) by omega, show (0 : Int) = ((0 : Nat) : Int) from rfl, u32_xor_nat _ _ (by omega) (by omega)]
  unfold stp; rw [if_neg (by omega), Nat.xor_zero]

def tabWorld (w : World) (k : Nat) : World := (w.alloc (.cells (tab 0) 86)).alloc (.cells (tab k) 86)
theorem tabWorld_cell (w : World) (k j : Nat) (h : j < 16) : (tabWorld w k).cell? ⟨w.heap.size + 1, j, none⟩ = some (tabAt k j) := by
  unfold tabWorld
  rw [cell_of_row _ _ j (tab k) _ (0, 0) (heap_alloc2_new w _ _), tab_get k j h]
theorem tabWorld_free (w : World) (k j : Nat) : (tabWorld w k).frozen? ⟨w.heap.size + 1, j, none⟩ = false := frozen_of_row _ _ j (tab k) _ (heap_alloc2_new w _ _)
theorem tabWorld_set (w : World) (k : Nat) (h : k < 16) : (tabWorld w k).setCell ⟨w.heap.size + 1, k, none⟩ (.int .u32 (stp4 k : Nat)) = tabWorld w (k + 1) := by
  unfold tabWorld
  rw [World.setCell_alloc_at _ _ _ _ _ (by simp), tab_set k h]

set_option maxHeartbeats 1000000 in
theorem table_any (w : World) : Calls Try.prog 36 #[] w fun e w' => e = .returned (.agg crcTab) ∧ Below w.heap.size w w' := by
  go_enter Try.func36, Try.ntmps36
  go_wp2_with fail
  go_loopw [5] (fun i wr => ∃ k : Nat, k ≤ 16 ∧ i = .int .i64 k ∧ wr = tabWorld w k) (fun i _ => 16 - (intOf i).toNat)
  case atStart => exact ⟨0, by omega, rfl, rfl⟩
  case round =>
    obtain ⟨k, hk, rfl, rfl⟩ := hrel
    by_cases hlt : k < 16
    · go_wp2_with fail
      go_loop [3, 10] (fun x i => ∃ j X : Nat, j ≤ 4 ∧ Hid (X = stpN j k) ∧ X < 4294967296 ∧ x = .int .u32 X ∧ i = .int .i64 j) (fun _ i => 4 - (intOf i).toNat)
      case atStart => exact ⟨0, k, by omega, rfl, by omega, rfl, rfl⟩
      case round =>
        obtain ⟨j, X, hj, hX, hX2, rfl, rfl⟩ := hrel
        by_cases hl : j < 4
        · have a1 := and_1 X hX2
          have hb := stp_lt X hX2
          rcases Nat.mod_two_eq_zero_or_one X with hp | hp
          · have a2 := xor_stay X hX2 hp
            have hp2 : (X : Int) % 2 = 0 := by omega
            clear hp
            go_wp2_with fail
            go_round
            case rel => exact ⟨j + 1, stp X, by omega, (congrArg stp hX.out : stp X = stpN (j + 1) k), hb, rfl, by go_num⟩
            case measure => simp [intOf]; omega
          · have a2 := xor_step X hX2 hp
            have hp2 : (X : Int) % 2 = 1 := by omega
            clear hp
            go_wp2_with fail
            go_round
            case rel => exact ⟨j + 1, stp X, by omega, (congrArg stp hX.out : stp X = stpN (j + 1) k), hb, rfl, by go_num⟩
            case measure => simp [intOf]; omega
        · obtain rfl : j = 4 := by omega
          have hX' : X = stp4 k := hX.out
          subst hX'
          have c1 := tabWorld_cell w k k hlt
          have c2 := tabWorld_free w k k
          have c3 := tabWorld_set w k hlt
          go_wp2_with fail
          go_roundw
          case rel => exact ⟨k + 1, by omega, by go_num, rfl⟩
          case measure => simp [intOf]; omega
    · obtain rfl : k = 16 := by omega
      rw [tabWorld, tab_end, tab_start]
      unfold crcTab
      go_wp2_with fail
      refine bodyPost_ret (v := .agg crcTab) (results_cell_row rfl _ _ w.heap.size 86 crcTab (0, 0) _ rfl (heap_alloc2_old w _ _) Try.underlying86 rfl (by kernel_rfl)) rfl ⟨rfl, ?_⟩
      exact ((Below.refl _ w).alloc (Nat.le_refl _) _).alloc (by simp) _
end Go.Proofs.Ytabndfkkbmhhjaa

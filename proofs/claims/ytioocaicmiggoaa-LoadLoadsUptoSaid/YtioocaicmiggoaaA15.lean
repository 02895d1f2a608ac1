/- Crc, Tab, Sum: texts merged for a claim by a program of mine. -/
import Derived.Laws.BitsAllLaws
import Derived.Test.YtioocaicmiggoaaRows
import Derived.Test.YtioocaicmiggoaaA01
import Derived.WalkKit
import Derived.WalkSpells
import Derived.WalkLawsBesides
import Derived.ProofKit
namespace Go.Proofs.Ytioocaicmiggoaa
set_option linter.unusedVariables false
set_option linter.unusedSimpArgs false
open Go
def poly : Nat := 3988292384
def stp (x : Nat) : Nat := if x % 2 = 1 then (x / 2) ^^^ poly else x / 2
def stp4 (x : Nat) : Nat := stp (stp (stp (stp x)))
def stp8 (x : Nat) : Nat := stp4 (stp4 x)
theorem xor_half (x y : Nat) : (x ^^^ y) / 2 = x / 2 ^^^ y / 2 := by
 have := Nat.shiftRight_xor_distrib (a := x) (b := y) (i := 1)
 simpa [Nat.shiftRight_eq_div_pow] using this
theorem xor_par (x y : Nat) : (x ^^^ y) % 2 = (x % 2 + y % 2) % 2 := by
 have := Nat.xor_mod_two_pow (a := x) (b := y) (n := 1)
 rw [Nat.pow_one] at this; rw [this]
 rcases Nat.mod_two_eq_zero_or_one x with hx | hx <;> rcases Nat.mod_two_eq_zero_or_one y with hy | hy <;> rw [hx, hy] <;> rfl
theorem xor_swap (a b c : Nat) : a ^^^ b ^^^ c = a ^^^ c ^^^ b := by rw [Nat.xor_assoc, Nat.xor_comm b, ← Nat.xor_assoc]
theorem xor_four (a b c d : Nat) : (a ^^^ b) ^^^ (c ^^^ d) = (a ^^^ c) ^^^ (b ^^^ d) := by
 rw [Nat.xor_assoc, ← Nat.xor_assoc b, Nat.xor_comm b c, Nat.xor_assoc c, ← Nat.xor_assoc]
theorem stp_xor (x y : Nat) : stp (x ^^^ y) = stp x ^^^ stp y := by
 unfold stp
 rw [xor_half, xor_par]
 rcases Nat.mod_two_eq_zero_or_one x with hx | hx <;> rcases Nat.mod_two_eq_zero_or_one y with hy | hy <;> rw [hx, hy] <;> simp
 ·rw [Nat.xor_assoc]
 ·rw [xor_swap]
 ·rw [xor_four, Nat.xor_self, Nat.xor_zero]
theorem stp4_xor (x y : Nat) : stp4 (x ^^^ y) = stp4 x ^^^ stp4 y := by unfold stp4; simp only [stp_xor]
theorem stp_even (h : Nat) : stp (2 * h) = h := by unfold stp; rw [if_neg (by omega)]; omega
theorem stp4_high (h : Nat) : stp4 (16 * h) = h := by
 unfold stp4
 rw [show 16 * h = 2 * (2 * (2 * (2 * h))) by omega, stp_even, stp_even, stp_even, stp_even]
theorem poly_lt : poly < 4294967296 := by decide
theorem stp_lt (x : Nat) (h : x < 4294967296) : stp x < 4294967296 := by
 unfold stp; split
 ·exact Nat.xor_lt_two_pow (n := 32) (by omega) poly_lt
 ·omega
theorem stp4_lt (x : Nat) (h : x < 4294967296) : stp4 x < 4294967296 := stp_lt _ (stp_lt _ (stp_lt _ (stp_lt _ h)))
theorem stp8_lt (x : Nat) (h : x < 4294967296) : stp8 x < 4294967296 := stp4_lt _ (stp4_lt _ h)
theorem stp4_table (x : Nat) : stp4 x = x / 16 ^^^ stp4 (x % 16) := by
 have e : x = 16 * (x / 16) ^^^ x % 16 := by
  have h : 16 * (x / 16) ||| x % 16 = 16 * (x / 16) + x % 16 := nat_join 4 (16 * (x / 16)) (x % 16) (by omega) (by omega)
  have h2 : 16 * (x / 16) ^^^ x % 16 = 16 * (x / 16) ||| x % 16 := by
   apply Nat.eq_of_testBit_eq
   intro i
   rw [Nat.testBit_xor, Nat.testBit_or]
   by_cases hi : i < 4
   ·have : (16 * (x / 16)).testBit i = false := by
     rw [show 16 * (x / 16) = 2 ^ 4 * (x / 16) from rfl, Nat.testBit_two_pow_mul]; simp; omega
    rw [this]; simp
   ·have : (x % 16).testBit i = false := Nat.testBit_lt_two_pow (Nat.lt_of_lt_of_le (by omega : x % 16 < 2 ^ 4) (Nat.pow_le_pow_right (by decide) (by omega)))
    rw [this]; simp
  omega
 conv => lhs; rw [e, stp4_xor, stp4_high]
def crcS (x c : Nat) : Nat := stp8 (x ^^^ c)
def crcF (x : Nat) (l : List Nat) : Nat := l.foldl crcS x
def ones : Nat := 4294967295
def crc (l : List Nat) : Nat := crcF ones l ^^^ ones
theorem crcS_lt (x c : Nat) (h : x < 4294967296) (hc : c < 256) : crcS x c < 4294967296 := stp8_lt _ (Nat.xor_lt_two_pow (n := 32) h (by omega))
theorem crcF_lt (l : List Nat) : ∀ (x : Nat), x < 4294967296 → (∀ c ∈ l, c < 256) → crcF x l < 4294967296 := by
 induction l with
 | nil => intro x h _; exact h
 | cons c l ih => intro x h hc; exact ih _ (crcS_lt x c h (hc c (by simp))) (fun d hd => hc d (by simp [hd]))
theorem crcF_snoc (x : Nat) (l : List Nat) (c : Nat) : crcF x (l ++ [c]) = crcS (crcF x l) c := by unfold crcF; rw [List.foldl_append]; rfl
end Go.Proofs.Ytioocaicmiggoaa
namespace Go.Proofs.Ytioocaicmiggoaa
set_option linter.unusedVariables false
set_option linter.unusedSimpArgs false
open Go.RowKit
def tabAt (k : Nat) (j : Nat) : Value := Value.int .u32 (if j < k then stp4 j else 0 : Nat)
def tab (k : Nat) : Array Value := #[tabAt k 0, tabAt k 1, tabAt k 2, tabAt k 3, tabAt k 4, tabAt k 5, tabAt k 6, tabAt k 7, tabAt k 8, tabAt k 9, tabAt k 10, tabAt k 11, tabAt k 12, tabAt k 13, tabAt k 14, tabAt k 15]
theorem tab_get (k j : Nat) (h : j < 16) : (tab k)[j]? = some (tabAt k j) := by
 rcases (show j = 0 ∨ j = 1 ∨ j = 2 ∨ j = 3 ∨ j = 4 ∨ j = 5 ∨ j = 6 ∨ j = 7 ∨ j = 8 ∨ j = 9 ∨ j = 10 ∨ j = 11 ∨ j = 12 ∨ j = 13 ∨ j = 14 ∨ j = 15 by omega) with rfl | rfl | rfl | rfl | rfl | rfl | rfl | rfl | rfl | rfl | rfl | rfl | rfl | rfl | rfl | rfl <;> rfl
theorem tab_size (k : Nat) : (tab k).size = 16 := rfl
theorem tab_set (k : Nat) (h : k < 16) : (tab k).setIfInBounds k (.int .u32 (stp4 k : Nat)) = tab (k + 1) := by
 apply Array.ext_getElem?
 intro i
 rw [Array.getElem?_setIfInBounds]
 by_cases hi : i < 16
 ·rw [tab_get (k + 1) i hi]
  by_cases e : k = i
  ·subst e; rw [if_pos rfl, if_pos (by rw [tab_size]; exact h)]; unfold tabAt; rw [if_pos (by omega)]
  ·rw [if_neg e, tab_get k i hi]; unfold tabAt
   by_cases c : i < k
   ·rw [if_pos c, if_pos (by omega)]
   ·rw [if_neg c, if_neg (by omega)]
 ·have h1 : (tab k)[i]? = none := Array.getElem?_eq_none (by rw [tab_size]; omega)
  have h2 : (tab (k + 1))[i]? = none := Array.getElem?_eq_none (by rw [tab_size]; omega)
  rw [h1, h2]; simp [tab_size]; omega
def crcTab : Array Value := #[.int .u32 0, .int .u32 498536548, .int .u32 997073096, .int .u32 651767980, .int .u32 1994146192, .int .u32 1802195444, .int .u32 1303535960, .int .u32 1342533948, .int .u32 3988292384, .int .u32 4027552580, .int .u32 3604390888, .int .u32 3412177804, .int .u32 2607071920, .int .u32 2262029012, .int .u32 2685067896, .int .u32 3183342108]
theorem tab_end : tab 16 = crcTab := by
 have e : ∀ j v, stp4 j = v → j < 16 → tabAt 16 j = .int .u32 (v : Nat) := by intro j v h hj; unfold tabAt; rw [if_pos hj, h]
 unfold tab crcTab
 rw [e 0 0 (by decide) (by omega), e 1 498536548 (by decide) (by omega), e 2 997073096 (by decide) (by omega), e 3 651767980 (by decide) (by omega), e 4 1994146192 (by decide) (by omega), e 5 1802195444 (by decide) (by omega), e 6 1303535960 (by decide) (by omega), e 7 1342533948 (by decide) (by omega), e 8 3988292384 (by decide) (by omega), e 9 4027552580 (by decide) (by omega), e 10 3604390888 (by decide) (by omega), e 11 3412177804 (by decide) (by omega), e 12 2607071920 (by decide) (by omega), e 13 2262029012 (by decide) (by omega), e 14 2685067896 (by decide) (by omega), e 15 3183342108 (by decide) (by omega)]
 rfl
theorem tab_start : tab 0 = #[.int .u32 0, .int .u32 0, .int .u32 0, .int .u32 0, .int .u32 0, .int .u32 0, .int .u32 0, .int .u32 0, .int .u32 0, .int .u32 0, .int .u32 0, .int .u32 0, .int .u32 0, .int .u32 0, .int .u32 0, .int .u32 0] := rfl
theorem crcTab_get (j : Nat) (h : j < 16) : crcTab[j]? = some (.int .u32 (stp4 j : Nat)) := by
 rw [← tab_end, tab_get 16 j h]; unfold tabAt; rw [if_pos h]
def stpN : Nat → Nat → Nat
 | 0, x => x
 | j + 1, x => stp (stpN j x)
theorem and_1 (x : Nat) (h : x < 4294967296) : bits BinOp.and IntKind.u32 (x : Int) 1 = (x : Int) % 2 := by
 rw [u32_and _ 1 (by omega) (by omega) (by decide) (by decide)]
 have : (x : Int).toNat &&& (1 : Int).toNat = (x : Int).toNat % 2 ^ 1 := Nat.and_two_pow_sub_one_eq_mod _ 1
 rw [this]; omega
theorem xor_step (x : Nat) (h : x < 4294967296) (hp : x % 2 = 1) : bits BinOp.xor IntKind.u32 ((x : Int) / 2) 3988292384 = (stp x : Int) := by
 rw [show (x : Int) / 2 = ((x / 2 : Nat) : Int) by omega, show (3988292384 : Int) = ((3988292384 : Nat) : Int) from rfl, u32_xor_nat _ _ (by omega) (by omega)]
 unfold stp poly; rw [if_pos hp]
theorem xor_stay (x : Nat) (h : x < 4294967296) (hp : x % 2 = 0) : bits BinOp.xor IntKind.u32 ((x : Int) / 2) 0 = (stp x : Int) := by
 rw [show (x : Int) / 2 = ((x / 2 : Nat) : Int) by omega, show (0 : Int) = ((0 : Nat) : Int) from rfl, u32_xor_nat _ _ (by omega) (by omega)]
 unfold stp; rw [if_neg (by omega), Nat.xor_zero]
def tabWorld (w : World) (k : Nat) : World := (w.alloc (.cells (tab 0) 123)).alloc (.cells (tab k) 123)
theorem tabWorld_cell (w : World) (k j : Nat) (h : j < 16) : (tabWorld w k).cell? ⟨w.heap.size + 1, j, none⟩ = some (tabAt k j) := by
 unfold tabWorld
 rw [cell_of_row _ _ j (tab k) _ (0, 0) (heap_alloc2_new w _ _), tab_get k j h]
theorem tabWorld_free (w : World) (k j : Nat) : (tabWorld w k).frozen? ⟨w.heap.size + 1, j, none⟩ = false := frozen_of_row _ _ j (tab k) _ (heap_alloc2_new w _ _)
theorem tabWorld_set (w : World) (k : Nat) (h : k < 16) : (tabWorld w k).setCell ⟨w.heap.size + 1, k, none⟩ (.int .u32 (stp4 k : Nat)) = tabWorld w (k + 1) := by
 unfold tabWorld
 rw [World.setCell_alloc_at _ _ _ _ _ (by simp), tab_set k h]
set_option maxHeartbeats 1000000 in
theorem table_any (w : World) : Calls Try.prog 66 #[] w fun e w' => e = .returned (.agg crcTab) ∧ Below w.heap.size w w' := by
 go_enter Try.func66, Try.ntmps66
 go_wp2_with fail
 go_loopw [5] (fun i wr => ∃ k : Nat, k ≤ 16 ∧ i = .int .i64 k ∧ wr = tabWorld w k) (fun i _ => 16 - (intOf i).toNat)
 case atStart => exact ⟨0, by omega, rfl, rfl⟩
 case round =>
  obtain ⟨k, hk, rfl, rfl⟩ := hrel
  by_cases hlt : k < 16
  ·go_wp2_with fail
   go_loop [3, 10] (fun x i => ∃ j X : Nat, j ≤ 4 ∧ Hid (X = stpN j k) ∧ X < 4294967296 ∧ x = .int .u32 X ∧ i = .int .i64 j) (fun _ i => 4 - (intOf i).toNat)
   case atStart => exact ⟨0, k, by omega, rfl, by omega, rfl, rfl⟩
   case round =>
    obtain ⟨j, X, hj, hX, hX2, rfl, rfl⟩ := hrel
    by_cases hl : j < 4
    ·have a1 := and_1 X hX2
     have hb := stp_lt X hX2
     rcases Nat.mod_two_eq_zero_or_one X with hp | hp
     ·have a2 := xor_stay X hX2 hp
      have hp2 : (X : Int) % 2 = 0 := by omega
      clear hp
      go_wp2_with fail
      go_round
      case rel => exact ⟨j + 1, stp X, by omega, (congrArg stp hX.out : stp X = stpN (j + 1) k), hb, rfl, by go_num⟩
      case measure => simp [intOf]; omega
     ·have a2 := xor_step X hX2 hp
      have hp2 : (X : Int) % 2 = 1 := by omega
      clear hp
      go_wp2_with fail
      go_round
      case rel => exact ⟨j + 1, stp X, by omega, (congrArg stp hX.out : stp X = stpN (j + 1) k), hb, rfl, by go_num⟩
      case measure => simp [intOf]; omega
    ·obtain rfl : j = 4 := by omega
     have hX' : X = stp4 k := hX.out
     subst hX'
     have c1 := tabWorld_cell w k k hlt
     have c2 := tabWorld_free w k k
     have c3 := tabWorld_set w k hlt
     go_wp2_with fail
     go_roundw
     case rel => exact ⟨k + 1, by omega, by go_num, rfl⟩
     case measure => simp [intOf]; omega
  ·obtain rfl : k = 16 := by omega
   rw [tabWorld, tab_end, tab_start]
   unfold crcTab
   go_wp2_with fail
   refine bodyPost_ret (v := .agg crcTab) (results_cell_row rfl _ _ w.heap.size 123 crcTab (0, 0) _ rfl (heap_alloc2_old w _ _) Try.underlying123 rfl (by kernel_rfl)) rfl ⟨rfl, ?_⟩
   exact ((Below.refl _ w).alloc (Nat.le_refl _) _).alloc (by simp) _
end Go.Proofs.Ytioocaicmiggoaa
namespace Go.Proofs.Ytioocaicmiggoaa
set_option linter.unusedVariables false
set_option linter.unusedSimpArgs false
open Go.RowKit
def nums (l : List UInt8) : List Nat := l.map UInt8.toNat
theorem nums_lt (l : List UInt8) : ∀ c ∈ nums l, c < 256 := by
 intro c hc; simp [nums] at hc; obtain ⟨a, _, rfl⟩ := hc; exact UInt8.toNat_lt a
def crcTo (l : List UInt8) (j : Nat) : Nat := crcF ones (nums (l.take j))
theorem crcTo_succ (l : List UInt8) (j : Nat) (h : j < l.length) : crcTo l (j + 1) = crcS (crcTo l j) (l[j]).toNat := by
 unfold crcTo
 rw [List.take_succ_eq_append_getElem h]
 unfold nums
 rw [List.map_append, List.map_singleton, crcF_snoc]
theorem crcTo_all (l : List UInt8) : crcTo l l.length ^^^ ones = crc (nums l) := by unfold crcTo crc; rw [List.take_length]
theorem ret_u32 {a b : Int} (h : a = b) : Ending.returned (.int .u32 a) = .returned (.int .u32 b) := by rw [h]
theorem and_15 (x : Nat) (h : x < 4294967296) : bits BinOp.and IntKind.u32 (x : Int) 15 = ((x % 16 : Nat) : Int) := by
 rw [u32_and _ 15 (by omega) (by omega) (by decide) (by decide)]
 have : (x : Int).toNat &&& (15 : Int).toNat = (x : Int).toNat % 2 ^ 4 := Nat.and_two_pow_sub_one_eq_mod _ 4
 rw [this]; omega
theorem xor_byte (x c : Nat) (h : x < 4294967296) (hc : c < 256) : bits BinOp.xor IntKind.u32 (x : Int) (c : Int) = ((x ^^^ c : Nat) : Int) := u32_xor_nat _ _ h (by omega)
theorem xor_tab (x : Nat) (h : x < 4294967296) : bits BinOp.xor IntKind.u32 ((x : Int) / 16) ((stp4 (x % 16) : Nat) : Int) = ((stp4 x : Nat) : Int) := by
 have hl := stp4_lt (x % 16) (by omega)
 rw [show (x : Int) / 16 = ((x / 16 : Nat) : Int) by omega, u32_xor_nat _ _ (by omega) hl, ← stp4_table]
theorem not_u32 (x : Nat) (h : x < 4294967296) : bits BinOp.xor IntKind.u32 IntKind.u32.max (x : Int) = ((x ^^^ ones : Nat) : Int) := by
 rw [show IntKind.u32.max = ((4294967295 : Nat) : Int) from by decide, u32_xor_nat _ _ (by omega) h, Nat.xor_comm]; rfl
theorem xor_ones (x : Nat) (h : x < 4294967296) : bits BinOp.xor IntKind.u32 (x : Int) 4294967295 = ((x ^^^ ones : Nat) : Int) := by
 rw [show (4294967295 : Int) = ((4294967295 : Nat) : Int) from rfl, u32_xor_nat _ _ h (by omega)]; rfl
set_option maxHeartbeats 1000000 in
theorem sum_any (A : Option Addr) (n c : Nat) (l : List UInt8) (w : World) (hn : l.length = n) (hc : n ≤ c) (hm : c ≤ 9223372036854775807) (hR : Reads w w.heap.size 1 A n (bv l)) :
  Calls Try.prog 49 #[.slice A n c] w fun e w' => e = .returned (.int .u32 (crc (nums l))) ∧ Below w.heap.size w w' := by
 rcases Nat.eq_zero_or_pos n with h0 | h0
 ·subst h0
  obtain rfl : l = [] := List.eq_nil_of_length_eq_zero hn
  clear hR hn
  go_enter Try.func49, Try.ntmps49
  go_wp2_with fail
  refine (table_any w).mono ?_
  rintro e w1 ⟨rfl, hb⟩
  have HB := Lib.hid hb
  clear hb
  unfold crcTab
  go_wp2_with fail
  refine wp_loop_rounds 1 ?_
  rw [rounds_succ]
  go_wp2
  go_ret
  exact ⟨ret_u32 (by decide), HB.out.alloc HB.out.size _⟩
 ·obtain ⟨b, off, rfl, hb, hcell⟩ := hR.shape h0
  have HC := Lib.hid hcell
  have HN := Lib.hid hn
  clear hcell hR
  have hl : n ≤ l.length := by omega
  have hl2 : l.length ≤ n := by omega
  clear hn
  go_enter Try.func49, Try.ntmps49
  go_wp2_with fail
  refine (table_any w).mono ?_
  rintro e w1 ⟨rfl, hbel⟩
  have HB := Lib.hid hbel
  have hsz := hbel.size
  clear hbel
  unfold crcTab
  go_wp2_with fail
  have hT : ∀ D, D < 16 → (w1.alloc (.cells crcTab 123)).cell? ⟨w1.heap.size, D, none⟩ = some (.int .u32 (stp4 D : Nat)) := fun D hD => (cell_of_row _ _ D crcTab _ (0, 0) (heap_alloc_new _ _)).trans (crcTab_get D hD)
  unfold crcTab at hT
  have HT := Lib.hid hT
  clear hT
  have hA : ∀ j, j < n → ∀ o, (w1.alloc o).cell? ⟨b, off + j, none⟩ = (bv l)[j]? := fun j hj o => by
   rw [World.cell?_alloc_lt w1 o ⟨b, off + j, none⟩ (by show b < w1.heap.size; omega), HB.out.cell (p := ⟨b, off + j, none⟩) hb]
   have e := bv_get l j (by omega)
   rw [e]; exact HC.out j _ e
  have HA := Lib.hid hA
  clear hA
  go_loop [4, 10] (fun x i => ∃ j X : Nat, j ≤ n ∧ Hid (X = crcTo l j) ∧ X < 4294967296 ∧ x = .int .u32 X ∧ i = .int .i64 j) (fun _ i => n - (intOf i).toNat)
  case atStart => exact ⟨0, ones, by omega, rfl, by decide, rfl, rfl⟩
  case round =>
   obtain ⟨j, X, hj, hX, hX2, rfl, rfl⟩ := hrel
   by_cases hlt : j < n
   ·obtain ⟨C, hC⟩ : ∃ C, C = (l[j]'(by omega)).toNat := ⟨_, rfl⟩
    have hC2 : C < 256 := by rw [hC]; exact UInt8.toNat_lt _
    have hcj : ∀ o, (w1.alloc o).cell? ⟨b, off + j, none⟩ = some (.int .u8 C) := fun o => by rw [HA.out j hlt o, bv_get l j (by omega), hC]
    have S := Lib.hid (crcTo_succ l j (by omega))
    rw [← hC] at S
    have x1 := xor_byte X C hX2 hC2
    obtain ⟨Y, hY⟩ : ∃ Y, X ^^^ C = Y := ⟨_, rfl⟩
    have hY2 : Y < 4294967296 := by rw [← hY]; exact Nat.xor_lt_two_pow (n := 32) hX2 (by omega)
    rw [hY] at x1
    have x2 := and_15 Y hY2
    have x3 := xor_tab Y hY2
    obtain ⟨Z, hZ⟩ : ∃ Z, stp4 Y = Z := ⟨_, rfl⟩
    have hZ2 : Z < 4294967296 := by rw [← hZ]; exact stp4_lt Y hY2
    rw [hZ] at x3
    have x4 := and_15 Z hZ2
    have x5 := xor_tab Z hZ2
    obtain ⟨D1, hD1⟩ : ∃ D, Y % 16 = D := ⟨_, rfl⟩
    obtain ⟨D2, hD2⟩ : ∃ D, Z % 16 = D := ⟨_, rfl⟩
    have d1 : D1 < 16 := by omega
    have d2 : D2 < 16 := by omega
    rw [hD1] at x2 x3
    rw [hD2] at x4 x5
    have t1 := HT.out D1 d1
    have t2 := HT.out D2 d2
    have fin : stp4 Z = crcTo l (j + 1) := by rw [S.out, ← hX.out]; unfold crcS stp8; rw [hY, hZ]
    have Fin := Lib.hid fin
    have hf2 : stp4 Z < 4294967296 := stp4_lt Z hZ2
    clear hC hY hZ hD1 hD2 fin S
    go_wp2_with fail
    go_round
    case rel => exact ⟨j + 1, stp4 Z, by omega, Fin.out, hf2, rfl, by go_num⟩
    case measure => simp [intOf]; omega
   ·obtain rfl : j = n := by omega
    have x1 := not_u32 X hX2
    go_wp2
    go_ret
    exact ⟨ret_u32 (by rw [← crcTo_all, HN.out, ← hX.out]), HB.out.alloc HB.out.size _⟩
end Go.Proofs.Ytioocaicmiggoaa

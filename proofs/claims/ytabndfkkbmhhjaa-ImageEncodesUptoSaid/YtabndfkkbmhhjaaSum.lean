/-
  The walks of the sums over bytes: by the table, and the reference's.
-/
import Derived.Test.YtabndfkkbmhhjaaTab
import Derived.Test.YtabndfkkbmhhjaaNum
namespace Go.Proofs.Ytabndfkkbmhhjaa
set_option linter.unusedVariables false
set_option linter.unusedSimpArgs false
open Go.RowKit

/-- bytes as numbers -/
def nums (l : List UInt8) : List Nat := l.map UInt8.toNat
theorem nums_lt (l : List UInt8) : ∀ c ∈ nums l, c < 256 := by
  intro c hc; simp [nums] at hc; obtain ⟨a, _, rfl⟩ := hc; exact UInt8.toNat_lt a
/-- the state behind the first j bytes -/
def crcTo (l : List UInt8) (j : Nat) : Nat := crcF ones (nums (l.take j))
theorem crcTo_lt (l : List UInt8) (j : Nat) : crcTo l j < 4294967296 := crcF_lt _ _ (by decide) (nums_lt _)
theorem crcTo_succ (l : List UInt8) (j : Nat) (h : j < l.length) : crcTo l (j + 1) = crcS (crcTo l j) (l[j]).toNat := by
  unfold crcTo
  rw [List.take_succ_eq_append_getElem h]
  unfold nums
  rw [List.map_append, List.map_singleton, crcF_snoc]
theorem crcTo_all (l : List UInt8) : crcTo l l.length ^^^ ones = crc (nums l) := by unfold crcTo crc; rw [List.take_length]
theorem ret_u32 {a b : Int} (h : a = b) : Ending.returned (.int .u32 a) = .returned (.int .u32 b) := by rw [h]

theorem and_15 (x : Nat) (h : x < 4294967296) : bits BinOp.and IntKind.u32 (x : Int) 15 = ((x % 16 : Nat) : Int) := by
  rw [u32_and _ 15 (by omega) (by omega) (by decide) (by decide)]
  have : (x : Int).toNat &&& (15 : Int).toNat = (x : Int).toNat % 2 ^ 4 := Nat.and_two_pow_sub_one_eq_mod _ 4
  rw [this]; omega
theorem xor_byte (x c : Nat) (h : x < 4294967296) (hc : c < 256) : bits BinOp.xor IntKind.u32 (x : Int) (c : Int) = ((x ^^^ c : Nat) : Int) := u32_xor_nat _ _ h (by omega)
theorem xor_tab (x : Nat) (h : x < 4294967296) : bits BinOp.xor IntKind.u32 ((x : Int) / 16) ((stp4 (x % 16) : Nat) : Int) = ((stp4 x : Nat) : Int) := by
  have hl := stp4_lt (x % 16) (by omega)
  rw [show (x : Int) / 16 = ((x / 16 : Nat) : Int) by omega, u32_xor_nat _ _ (by omega) hl, ← stp4_table]
theorem not_u32 (x : Nat) (h : x < 4294967296) : bits BinOp.xor IntKind.u32 IntKind.u32.max (x : Int) = ((x ^^^ ones : Nat) : Int) := by
  rw [show IntKind.u32.max = ((4294967295 : Nat) : Int) from by decide, u32_xor_nat _ _ (by omega) h, Nat.xor_comm]; rfl
theorem xor_ones (x : Nat) (h : x < 4294967296) : bits BinOp.xor IntKind.u32 (x : Int) 4294967295 = ((x ^^^ ones : Nat) : Int) := by
  rw [show (4294967295 : Int) = ((4294967295 : Nat) : Int) from rfl, u32_xor_nat _ _ h (by omega)]; rfl

set_option maxHeartbeats 1000000 in
theorem sum_any (A : Option Addr) (n c : Nat) (l : List UInt8) (w : World) (hn : l.length = n) (hc : n ≤ c) (hm : c ≤ 9223372036854775807) (hR : Reads w w.heap.size 1 A n (bv l)) :
    Calls Try.prog 19 #[.slice A n c] w fun e w' => e = .returned (.int .u32 (crc (nums l))) ∧ Below w.heap.size w w' := by
  rcases Nat.eq_zero_or_pos n with h0 | h0
  · subst h0
    obtain rfl : l = [] := List.eq_nil_of_length_eq_zero hn
    clear hR hn
    go_enter Try.func19, Try.ntmps19
    go_wp2_with fail
    refine (table_any w).mono ?_
    rintro e w1 ⟨rfl, hb⟩
    have HB := Lib.hid hb
    clear hb
    unfold crcTab
    go_wp2_with fail
    refine wp_loop_rounds 1 ?_
    rw [rounds_succ]
    go_wp2
    go_ret
    exact ⟨ret_u32 (by decide), HB.out.alloc HB.out.size _⟩
  · obtain ⟨b, off, rfl, hb, hcell⟩ := hR.shape h0
    have HC := Lib.hid hcell
    have HN := Lib.hid hn
    clear hcell hR
    have hl : n ≤ l.length := by omega
    have hl2 : l.length ≤ n := by omega
    clear hn
    go_enter Try.func19, Try.ntmps19
    go_wp2_with fail
    refine (table_any w).mono ?_
    rintro e w1 ⟨rfl, hbel⟩
    have HB := Lib.hid hbel
    have hsz := hbel.size
    clear hbel
    unfold crcTab
    go_wp2_with fail
    have hT : ∀ D, D < 16 → (w1.alloc (.cells crcTab 86)).cell? ⟨w1.heap.size, D, none⟩ = some (.int .u32 (stp4 D : Nat)) := fun D hD => (cell_of_row _ _ D crcTab _ (0, 0) (heap_alloc_new _ _)).trans (crcTab_get D hD)
    unfold crcTab at hT
    have HT := Lib.hid hT
    clear hT
    have hA : ∀ j, j < n → ∀ o, (w1.alloc o).cell? ⟨b, off + j, none⟩ = (bv l)[j]? := fun j hj o => by
      rw [World.cell?_alloc_lt w1 o ⟨b, off + j, none⟩ (by show b < w1.heap.size; omega), HB.out.cell (p := ⟨b, off + j, none⟩) hb]
      have e := bv_get l j (by omega)
      rw [e]; exact HC.out j _ e
    have HA := Lib.hid hA
    clear hA
    go_loop [4, 10] (fun x i => ∃ j X : Nat, j ≤ n ∧ Hid (X = crcTo l j) ∧ X < 4294967296 ∧ x = .int .u32 X ∧ i = .int .i64 j) (fun _ i => n - (intOf i).toNat)
    case atStart => exact ⟨0, ones, by omega, rfl, by decide, rfl, rfl⟩
    case round =>
      obtain ⟨j, X, hj, hX, hX2, rfl, rfl⟩ := hrel
      by_cases hlt : j < n
      · obtain ⟨C, hC⟩ : ∃ C, C = (l[j]'(by omega)).toNat := ⟨_, rfl⟩
        have hC2 : C < 256 := by rw [hC]; exact UInt8.toNat_lt _
        have hcj : ∀ o, (w1.alloc o).cell? ⟨b, off + j, none⟩ = some (.int .u8 C) := fun o => by rw [HA.out j hlt o, bv_get l j (by omega), hC]
        have S := Lib.hid (crcTo_succ l j (by omega))
        rw [← hC] at S
        have x1 := xor_byte X C hX2 hC2
        obtain ⟨Y, hY⟩ : ∃ Y, X ^^^ C = Y := ⟨_, rfl⟩
        have hY2 : Y < 4294967296 := by rw [← hY]; exact Nat.xor_lt_two_pow (n := 32) hX2 (by omega)
        rw [hY] at x1
        have x2 := and_15 Y hY2
        have x3 := xor_tab Y hY2
        obtain ⟨Z, hZ⟩ : ∃ Z, stp4 Y = Z := ⟨_, rfl⟩
        have hZ2 : Z < 4294967296 := by rw [← hZ]; exact stp4_lt Y hY2
        rw [hZ] at x3
        have x4 := and_15 Z hZ2
        have x5 := xor_tab Z hZ2
        obtain ⟨D1, hD1⟩ : ∃ D, Y % 16 = D := ⟨_, rfl⟩
        obtain ⟨D2, hD2⟩ : ∃ D, Z % 16 = D := ⟨_, rfl⟩
        have d1 : D1 < 16 := by omega
        have d2 : D2 < 16 := by omega
        rw [hD1] at x2 x3
        rw [hD2] at x4 x5
        have t1 := HT.out D1 d1
        have t2 := HT.out D2 d2
        have fin : stp4 Z = crcTo l (j + 1) := by rw [S.out, ← hX.out]; unfold crcS stp8; rw [hY, hZ]
        have Fin := Lib.hid fin
        have hf2 : stp4 Z < 4294967296 := stp4_lt Z hZ2
        clear hC hY hZ hD1 hD2 fin S
        go_wp2_with fail
        go_round
        case rel => exact ⟨j + 1, stp4 Z, by omega, Fin.out, hf2, rfl, by go_num⟩
        case measure => simp [intOf]; omega
      · obtain rfl : j = n := by omega
        have x1 := not_u32 X hX2
        go_wp2
        go_ret
        exact ⟨ret_u32 (by rw [← crcTo_all, HN.out, ← hX.out]), HB.out.alloc HB.out.size _⟩
end Go.Proofs.Ytabndfkkbmhhjaa

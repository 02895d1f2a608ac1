import Derived.Test.YtmikopnfdldgnaaSum
import Derived.Test.YtmikopnfdldgnaaMem
namespace Go.Proofs.Ytmikopnfdldgnaa
set_option linter.unusedVariables false
set_option linter.unusedSimpArgs false
open Go.RowKit

theorem info22 : (Try.prog.info? 22).map (fun i => (i.zero, i.size, i.bytes)) = some (some (.int .u64 0), 1, 8) := by kernel_rfl


theorem sums_below {w w1 w2 : World} {v1 : Value} {o o2 : Obj} (hg1 : (w.alloc o).grownBy w1 (Value.slice (some { block := w.heap.size, off := 0 }) 0 0).ownBlock)
    (hat1 : v1.ownBlock = (Value.slice (some { block := w.heap.size, off := 0 }) 0 0).ownBlock ∨ v1.ownBlock = some (w.alloc o).heap.size) (hg2 : (w1.alloc o2).grownBy w2 v1.ownBlock) : Below w.heap.size w w2 := by
  have h1 : Below w.heap.size w w1 := ((Below.refl _ w).alloc (Nat.le_refl _) o).grown hg1 (by simp) (fun k hk => by simp [Value.ownBlock] at hk; omega)
  refine (h1.alloc h1.size o2).grown hg2 (by have := h1.size; simp; omega) (fun k hk => ?_)
  rcases hat1 with e | e <;> rw [e] at hk <;> simp [Value.ownBlock] at hk <;> omega

set_option maxHeartbeats 2000000 in
theorem sums_some (b off n c : Nat) (f : Nat → Int) (w : World) (hn : n < c) (hc : c * 8 ≤ 140737488351232) (hb : b < w.heap.size)
    (hcell : ∀ j, j ≤ n → w.cell? ⟨b, off + j, none⟩ = some (.int .u64 (f j))) (hf : ∀ j, j ≤ n → 0 ≤ f j ∧ f j ≤ 18446744073709551615) :
    Calls Try.prog 11 #[.slice (some ⟨b, off, none⟩) (n + 1) c] w fun e w' => e = .returned (.bool true) ∧ Below w.heap.size w w' := by
  obtain ⟨i0, hi, hz0, hz1, hz2⟩ := info_parts info22
  obtain ⟨xs, hxs⟩ : ∃ xs : List Value, xs = (List.range (n + 1)).map fun i => Value.int .u64 (f i) := ⟨_, rfl⟩
  have hone : ∀ u ∈ xs, u.oneCell' = true := by
    intro u hu; rw [hxs] at hu; simp at hu; obtain ⟨a, _, rfl⟩ := hu; rfl
  have hR : Reads w w.heap.size 1 (some ⟨b, off, none⟩) (n + 1) xs := by
    refine ⟨by rw [hxs]; simp, fun _ => ⟨_, rfl, hb, fun j u hu => ?_⟩⟩
    rw [Go.WideShapes.add_plain]
    rw [hxs] at hu
    have hj : j < n + 1 := by have := (List.getElem?_eq_some_iff.1 hu).1; simpa using this
    simp [hj] at hu; subst hu
    exact hcell j (by omega)
  have hx1 : ∀ j, j ≤ n → (xs ++ [Value.int .u64 71])[j]? = some (.int .u64 (f j)) := by
    intro j hj; rw [hxs, List.getElem?_append_left (by simp; omega), List.getElem?_map, List.getElem?_range (by omega)]; rfl
  have hx2 : (xs ++ [Value.int .u64 71])[n + 1]? = some (.int .u64 71) := by
    rw [List.getElem?_append_right (by rw [hxs]; simp)]; rw [hxs]; simp
  have k1 : n + 1 + 1 ≤ maxLen := by unfold maxLen; omega
  have k2 : (n + 1 + 1) * 8 ≤ 140737488355328 := by omega
  have k3 : ∀ u ∈ [Value.int .u64 71], u.oneCell' = true := by intro u hu; simp at hu; subst hu; rfl
  have K1 := Lib.hid k1
  have K2 := Lib.hid k2
  have K3 := Lib.hid k3
  clear k1 k2 k3
  have Hf := Lib.hid hf
  have Hc := Lib.hid hcell
  have HR := Lib.hid hR
  have H1 := Lib.hid hone
  have X1 := Lib.hid hx1
  have X2 := Lib.hid hx2
  clear hxs hf hcell hR hone hx1 hx2
  have hz : ((n : Int) + 1 == 0) = false := by rw [beq_eq_false_iff_ne]; omega
  go_enter Try.func11, Try.ntmps11
  go_wp2_with (first
    | (at_builtin; refine wpList_append_any _ rfl (.tmp 12) (.tmp 13) _ rfl w.heap.size 22 i0 _ 1 8 Try.underlying34 hi hz0 hz1 hz2 rfl (by omega) (.slice (some ⟨w.heap.size, 0, none⟩) 0 0) 0 [] rfl (World.ownsRow_made _ _ _ (Nat.le_refl _) (by decide) rfl) w.heap.size (some ⟨b, off, none⟩) (n + 1) c xs rfl (HR.out.alloc (Nat.le_refl _) _) H1.out (by unfold maxLen; omega) (by omega) (by simp) ?_; intro v1 w1 hown1 hg1 hat1; simp only [Nat.zero_add, List.nil_append] at hown1)
    | (at_builtin; refine wpList_append_any _ rfl (.tmp 14) (.tmp 15) _ rfl w.heap.size 22 i0 _ 1 8 Try.underlying34 hi hz0 hz1 hz2 rfl (by omega) v1 (n + 1) xs rfl (hown1.alloc _) (w1.heap.size + 1) (some ⟨w1.heap.size, 0, none⟩) 1 1 [.int .u64 71] rfl (reads_one _ _ _ _) K3.out K1.out K2.out ?hbase ?_; rotate_left; intro v2 w2 hown2 hg2 hat2; obtain ⟨g, cap, hv2, hgb, hgl, hnc, hcm, hcells, hfr⟩ := own_shape hown2 (by omega); rw [hv2]; have hbel := Lib.hid (sums_below hg1 hat1 hg2); have HC := Lib.hid hcells; clear hown1 hg1 hat1 hown2 hg2 hat2 hcells hfr hv2))
  case hbase => have := hg1.size; simp at this ⊢; omega
  clear hi hz0 hz1 hz2
  unfold maxLen at hcm
  have g1 : ∀ j, j ≤ n → w2.cell? ⟨g, 0 + j, none⟩ = some (.int .u64 (f j)) := fun j hj => by rw [Nat.zero_add]; exact HC.out j _ (X1.out j hj)
  have g2 : w2.cell? ⟨g, n + 1, none⟩ = some (.int .u64 71) := HC.out _ _ X2.out
  have g3 : ∀ j, j ≤ n → w2.cell? ⟨b, off + j, none⟩ = some (.int .u64 (f j)) := fun j hj => (hbel.out.cell (p := ⟨b, off + j, none⟩) hb).trans (Hc.out j hj)
  have G1 := Lib.hid g1
  have G2 := Lib.hid g2
  have G3 := Lib.hid g3
  clear g1 g2 g3
  refine (sum_some g 0 n cap f w2 (by omega) (by omega) G1.out Hf.out).mono ?_
  rintro e w3 ⟨rfl, m3, rfl⟩
  go_wp2_with fail
  refine (rsum_some b off n c f (w2.drewN m3) (by omega) (by omega) G3.out Hf.out).mono ?_
  rintro e w3 ⟨rfl, m4, rfl⟩
  go_wp2_with fail
  go_loop [32] (fun i => ∃ k : Nat, k ≤ n + 1 ∧ i = .int .i64 k) (fun i => n + 1 - (intOf i).toNat)
  case atStart => exact ⟨0, by omega, rfl⟩
  case round =>
    obtain ⟨k, hk, rfl⟩ := hrel
    by_cases hlt : k ≤ n
    · have c1 := G1.out k hlt
      have c2 := G3.out k hlt
      rw [Nat.zero_add] at c1
      have ht : (f k != f k) = false := by simp
      go_wp2_with fail
      go_round
      case rel => exact ⟨k + 1, by omega, by go_num⟩
      case measure => simp [intOf]; omega
    · obtain rfl : k = n + 1 := by omega
      have c1 : ∀ o m, ((w2.drewN m).alloc o).cell? ⟨g, n + 1, none⟩ = some (.int .u64 71) := fun o m => (World.cell?_alloc_lt (w2.drewN m) o ⟨g, n + 1, none⟩ hgl).trans G2.out
      have hz1 : sumTo (fun _ => 9223372036854775808) 0 = 9223372036854775808 := by decide
      go_wp2_with fail
      refine (sum_some _ 0 0 1 (fun _ => 9223372036854775808) _ (by omega) (by omega) ?_ (by intro j _; omega)).mono ?_
      · intro j hj
        obtain rfl : j = 0 := by omega
        exact cell_of_row _ _ 0 _ 22 (0, 0) (heap_alloc_new (w2.drewN _) _)
      · rintro e w3 ⟨rfl, m5, rfl⟩
        go_wp2
        go_ret
        exact ⟨rfl, below_drewN ((below_drewN hbel.out _).alloc hbel.out.size _) _⟩

set_option maxHeartbeats 2000000 in
theorem sums_zero (A : Option Addr) (c : Nat) (w : World) :
    Calls Try.prog 11 #[.slice A 0 c] w fun e w' => e = .returned (.bool true) ∧ Below w.heap.size w w' := by
  obtain ⟨i0, hi, hz0, hz1, hz2⟩ := info_parts info22
  have HR : Reads w w.heap.size 1 A 0 [] := ⟨by simp, fun h => absurd h (by omega)⟩
  have HR := Lib.hid HR
  go_enter Try.func11, Try.ntmps11
  go_wp2_with (first
    | (at_builtin; refine wpList_append_any _ rfl (.tmp 12) (.tmp 13) _ rfl w.heap.size 22 i0 _ 1 8 Try.underlying34 hi hz0 hz1 hz2 rfl (by omega) (.slice (some ⟨w.heap.size, 0, none⟩) 0 0) 0 [] rfl (World.ownsRow_made _ _ _ (Nat.le_refl _) (by decide) rfl) w.heap.size A 0 c [] rfl (HR.out.alloc (Nat.le_refl _) _) (by intro u hu; cases hu) (by decide) (by omega) (by simp) ?_; intro v1 w1 hown1 hg1 hat1; simp only [Nat.zero_add, List.nil_append] at hown1)
    | (at_builtin; refine wpList_append_any _ rfl (.tmp 14) (.tmp 15) _ rfl w.heap.size 22 i0 _ 1 8 Try.underlying34 hi hz0 hz1 hz2 rfl (by omega) v1 0 [] rfl (hown1.alloc _) (w1.heap.size + 1) (some ⟨w1.heap.size, 0, none⟩) 1 1 [.int .u64 71] rfl (reads_one _ _ _ _) (by intro u hu; simp at hu; subst hu; rfl) (by decide) (by omega) ?hbase ?_; rotate_left; intro v2 w2 hown2 hg2 hat2; obtain ⟨g, cap, hv2, hgb, hgl, hnc, hcm, hcells, hfr⟩ := own_shape hown2 (by omega); rw [hv2]; have hbel := Lib.hid (sums_below hg1 hat1 hg2); have HC := Lib.hid hcells; clear hown1 hg1 hat1 hown2 hg2 hat2 hcells hfr hv2))
  case hbase => have := hg1.size; simp at this ⊢; omega
  clear hi hz0 hz1 hz2
  unfold maxLen at hcm
  have g2 : w2.cell? ⟨g, 0, none⟩ = some (.int .u64 71) := HC.out 0 _ rfl
  have G2 := Lib.hid g2
  clear g2
  refine (sum_none _ _ w2).mono ?_
  rintro e w3 ⟨rfl, m3, rfl⟩
  go_wp2_with fail
  refine (rsum_none _ _ (w2.drewN m3)).mono ?_
  rintro e w3 ⟨rfl, m4, rfl⟩
  go_wp2_with fail
  refine wp_loop_rounds 1 ?_
  rw [rounds_succ]
  have c1 : ∀ o m, ((w2.drewN m).alloc o).cell? ⟨g, 0, none⟩ = some (.int .u64 71) := fun o m => (World.cell?_alloc_lt (w2.drewN m) o ⟨g, 0, none⟩ hgl).trans G2.out
  have hz1 : sumTo (fun _ => 9223372036854775808) 0 = 9223372036854775808 := by decide
  go_wp2_with fail
  refine (sum_some _ 0 0 1 (fun _ => 9223372036854775808) _ (by omega) (by omega) ?_ (by intro j _; omega)).mono ?_
  · intro j hj
    obtain rfl : j = 0 := by omega
    exact cell_of_row _ _ 0 _ 22 (0, 0) (heap_alloc_new (w2.drewN _) _)
  · rintro e w3 ⟨rfl, m5, rfl⟩
    go_wp2
    go_ret
    exact ⟨rfl, below_drewN ((below_drewN hbel.out _).alloc hbel.out.size _) _⟩
end Go.Proofs.Ytmikopnfdldgnaa

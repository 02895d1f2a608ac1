/-
  The walk of the package's awake: the chapter's example.
-/
import Derived.Test.YtcgapjicbgfpjaaAdd
import Derived.Deep.RegionHeld
namespace Go.Proofs.Ytcgapjicbgfpjaa
set_option linter.unusedVariables false
set_option linter.unusedSimpArgs false
open Go.RowKit Go.Maps

/-- the awake pool, step by step -/
def aw1 : St := [some ⟨-1, 5, true, 1, 0⟩]
def aw2 : St := [some ⟨-1, 5, true, 1, 1⟩, some ⟨0, 7, false, 1, 0⟩]
def aw3 : St := [some ⟨-1, 5, true, 1, 1⟩, some ⟨0, 7, false, 2, 0⟩]
theorem aw_1 : addS [] 3 (-1) 5 true = (aw1, 0, true) := rfl
theorem aw_2 : addS aw1 3 0 7 false = (aw2, 1, true) := rfl
theorem aw_3 : addS aw2 3 0 7 false = (aw3, 1, true) := rfl
theorem aw_path : pathF 2 aw3 1 = [[5, 7]] := rfl
theorem aw_chain : Chain 2 aw3 1 := .inr ⟨⟨0, 7, false, 2, 0⟩, rfl, .inr ⟨⟨-1, 5, true, 1, 1⟩, rfl, rfl, fun h => by cases h⟩, fun _ => rfl⟩
theorem aw_used : cnt aw3 = 2 := rfl
theorem aw_u0 : Uniq [] := fun i j c d hc => by simp [at?] at hc
theorem aw_at1 {i : Nat} {c : Cl} (h : at? aw1 i = some c) : i = 0 ∧ c = ⟨-1, 5, true, 1, 0⟩ := by
  have hl := at_lt h
  have : aw1.length = 1 := rfl
  obtain rfl : i = 0 := by omega
  exact ⟨rfl, by injection h with h; exact h.symm⟩
theorem aw_at2 {i : Nat} {c : Cl} (h : at? aw2 i = some c) : (i = 0 ∧ c = ⟨-1, 5, true, 1, 1⟩) ∨ (i = 1 ∧ c = ⟨0, 7, false, 1, 0⟩) := by
  have hl := at_lt h
  have : aw2.length = 2 := rfl
  rcases (show i = 0 ∨ i = 1 by omega) with rfl | rfl
  · exact .inl ⟨rfl, by injection h with h; exact h.symm⟩
  · exact .inr ⟨rfl, by injection h with h; exact h.symm⟩
theorem aw_u1 : Uniq aw1 := fun i j c d hc hd _ _ _ => by rw [(aw_at1 hc).1, (aw_at1 hd).1]
theorem aw_b1 : Bnd aw1 := fun i c hc => by
  obtain ⟨_, rfl⟩ := aw_at1 hc
  exact ⟨by decide, by decide, by decide, by decide⟩
theorem aw_b0 : Bnd [] := fun i c hc => by simp [at?] at hc
theorem aw_u2 : Uniq aw2 := fun i j c d hc hd h _ _ => by
  rcases aw_at2 hc with ⟨rfl, rfl⟩ | ⟨rfl, rfl⟩ <;> rcases aw_at2 hd with ⟨rfl, rfl⟩ | ⟨rfl, rfl⟩
  · rfl
  · exact absurd h (by decide)
  · exact absurd h (by decide)
  · rfl
theorem aw_b2 : Bnd aw2 := fun i c hc => by
  rcases aw_at2 hc with ⟨_, rfl⟩ | ⟨_, rfl⟩ <;> exact ⟨by decide, by decide, by decide, by decide⟩
theorem wf_small (a : Int) (h0 : -1000000 ≤ a) (h1 : a ≤ 1000000) : wfi a := WalkArith.wf_i64 (by omega)

theorem lit_rows {w : World} {b1 b2 : Nat} (h1 : Blk w b1 3 #[.int .i64 5, .int .i64 7]) (h2 : Blk w b2 25 #[.slice (some ⟨b1, 0, none⟩) 2 2]) : RowsR w (some ⟨b2, 0, none⟩) [[5, 7]] := fun _ => by
  refine ⟨b2, 0, rfl, fun r x hx => ?_⟩
  obtain rfl : r = 0 := by have := (List.getElem?_eq_some_iff.1 hx).1; simp at this; exact this
  simp at hx; subst hx
  refine ⟨_, 2, by simpa using h2.cell 0, fun _ => ⟨b1, 0, rfl, fun j hj => ?_⟩⟩
  have hj2 : j < 2 := by simpa using hj
  rcases (show j = 0 ∨ j = 1 by omega) with rfl | rfl
  · simpa using h1.cell 0
  · simpa using h1.cell 1

set_option maxRecDepth 100000 in
set_option maxHeartbeats 4000000 in
theorem awake_any (w : World) : Calls Try.prog 9 #[] w fun e w' => e = .returned (.bool true) ∧ Below w.heap.size w w' := by
  obtain ⟨T, hT⟩ : ∃ T : Nat → Prop, T = fun g => g < w.heap.size := ⟨_, rfl⟩
  have HT := Lib.hid hT
  have tw : ∀ W : World, w.heap.size ≤ W.heap.size → ∀ g, T g → g < W.heap.size := fun W h g hg => by rw [hT] at hg; exact Nat.lt_of_lt_of_le hg h
  have TW := Lib.hid tw
  have N := Lib.hid (new_any T w (tw w (Nat.le_refl _)) 3)
  clear hT tw
  go_enter Try.func9, Try.ntmps9
  go_wp2_with fail
  refine N.out.mono ?_
  rintro e w1 ⟨P, rfl, hW, hK, _⟩
  have A1 := Lib.hid (add_any T w1 P [] (max 0 3) hW (TW.out w1 hK.2.2.2.1) (by decide) aw_u0 aw_b0 (-1) 5 true (wf_small _ (by decide) (by decide)) (wf_small _ (by decide) (by decide)))
  rw [show (max 0 3 : Int) = 3 by decide, aw_1] at A1
  have K1 := Lib.hid hK
  clear hW hK N
  go_wp2_with fail
  refine A1.out.mono ?_
  rintro e w2 ⟨rfl, hW, hK⟩
  have K2 := Lib.hid (K1.out.trans hK)
  have A2 := Lib.hid (add_any T w2 P aw1 3 hW (TW.out w2 K2.out.2.2.2.1) (by decide) aw_u1 aw_b1 0 7 false (wf_small _ (by decide) (by decide)) (wf_small _ (by decide) (by decide)))
  rw [aw_2] at A2
  clear hW hK A1 K1
  go_wp2_with fail
  refine A2.out.mono ?_
  rintro e w3 ⟨rfl, hW, hK⟩
  have K3 := Lib.hid (K2.out.trans hK)
  have A3 := Lib.hid (add_any T w3 P aw2 3 hW (TW.out w3 K3.out.2.2.2.1) (by decide) aw_u2 aw_b2 0 7 false (wf_small _ (by decide) (by decide)) (wf_small _ (by decide) (by decide)))
  rw [aw_3] at A3
  clear hW hK A2 K2
  go_wp2_with fail
  refine A3.out.mono ?_
  rintro e w4 ⟨rfl, ⟨a1, a2, b1, b2, M, xs, D, hX, hD⟩, hK⟩
  have K4 := Lib.hid (K3.out.trans hK)
  have HX := Lib.hid hX
  have HD := Lib.hid hD
  have H4 : Hid (Calls Try.prog 14 #[.pointer (some ⟨P, 0, none⟩), .int .i64 1] w4 fun e w' => e = .returned (.int .i64 2) ∧ ∃ k, w' = w4.drewN k) := Lib.hid (held_yes hX 1 ⟨0, 7, false, 2, 0⟩ (by decide) rfl (by decide) (by decide))
  have G4 : Hid (Below w.heap.size w w4) := Lib.hid (K4.out.below (fun g hg => by rw [HT.out]; exact hg) (Nat.le_refl _))
  clear hX hD hK A3 K3 K4 TW HT
  go_wp2_with fail
  refine H4.out.mono ?_
  rintro e w5 ⟨rfl, n1, rfl⟩
  have H5 := Lib.hid (path_any (T := T) (by decide) 2 1 (w4.drewN n1) (by decide) (HX.out.drewN n1) aw_chain)
  rw [aw_path] at H5
  clear H4
  go_wp2_with fail
  refine H5.out.mono ?_
  rintro e w6 ⟨v, rfl, hR, hB⟩
  obtain ⟨A, c, rfl, _, _⟩ := hR.slice
  have R1 := Lib.hid hR.reads
  have X6 := Lib.hid (HX.out.keep (w' := w6) fun g hg _ => hB.block g hg)
  have s6 : w.heap.size ≤ w6.heap.size := Nat.le_trans G4.out.size hB.size
  have G6 : Hid (Below w.heap.size w w6) := Lib.hid ((below_drewN G4.out n1).trans (hB.mono (show w.heap.size ≤ (w4.drewN n1).heap.size from G4.out.size)))
  have R2 := Lib.hid (lit_rows ((Blk.new w6 3 #[.int .i64 5, .int .i64 7]).alloc (.cells #[.slice (some ⟨w6.heap.size, 0, none⟩) 2 2] 25)) (by have h := Blk.new (w6.alloc (.cells #[.int .i64 5, .int .i64 7] 3)) 25 #[.slice (some ⟨w6.heap.size, 0, none⟩) 2 2]; rw [World.size_alloc] at h; exact h))
  have R3 := Lib.hid ((R1.out.keep (fun a v h => World.cell?_alloc_some w6 a (.cells #[.int .i64 5, .int .i64 7] 3) (by rw [h]; rfl) |>.trans h)).keep (fun a v h => World.cell?_alloc_some (w6.alloc (.cells #[.int .i64 5, .int .i64 7] 3)) a (.cells #[.slice (some ⟨w6.heap.size, 0, none⟩) 2 2] 25) (by rw [h]; rfl) |>.trans h))
  have H6 := Lib.hid (same_yes _ A _ c 1 [[5, 7]] R3.out R2.out (by decide) (by simp))
  have X8 := Lib.hid ((X6.out.keep (w' := w6.alloc (.cells #[.int .i64 5, .int .i64 7] 3)) fun g hg _ => Below.heap_alloc w6 _ g hg).keep (w' := (w6.alloc (.cells #[.int .i64 5, .int .i64 7] 3)).alloc (.cells #[.slice (some ⟨w6.heap.size, 0, none⟩) 2 2] 25)) fun g hg _ => Below.heap_alloc _ _ g hg)
  have H7 := Lib.hid (fun n => used_any (X8.out.drewN n) HD.out)
  rw [aw_used] at H7
  have G8 := Lib.hid ((G6.out.alloc s6 (.cells #[.int .i64 5, .int .i64 7] 3)).alloc (by rw [World.size_alloc]; omega) (.cells #[.slice (some ⟨w6.heap.size, 0, none⟩) 2 2] 25))
  clear hR hB H5 R1 R2 R3 G4 G6 X6
  go_wp2_with fail
  refine H6.out.mono ?_
  rintro e w7 ⟨rfl, n7, rfl⟩
  clear H6 X8
  go_wp2_with fail
  refine (H7.out n7).mono ?_
  rintro e w8 ⟨rfl, rfl⟩
  go_wp2_with fail
  go_ret
  exact ⟨rfl, below_drewN G8.out n7⟩
end Go.Proofs.Ytcgapjicbgfpjaa

/-
  The walk of the package's awake: the chapter's examples.
-/
import Derived.Test.YtlccikpmnhjfoaaOpen
import Derived.Test.YtlccikpmnhjfoaaSum
import Derived.Test.YtlccikpmnhjfoaaRsum
import Derived.Lib.SlBytesConst
namespace Go.Proofs.Ytlccikpmnhjfoaa
set_option linter.unusedVariables false
set_option linter.unusedSimpArgs false
open Go.RowKit

theorem reads_new (w : World) (l : List UInt8) (cs : Array Value) (e : TypeId) (m : Nat × Nat) (n : Nat) (hn : l.length = n) (hcs : cs = (bv l).toArray) :
    Reads (w.alloc (.cells cs e m)) (w.heap.size + 1) 1 (some ⟨w.heap.size, 0, none⟩) n (bv l) := by
  subst hcs
  refine ⟨by rw [bv_len]; omega, fun _ => ⟨_, rfl, Nat.lt_succ_self _, fun j u hu => ?_⟩⟩
  rw [Go.WideShapes.add_plain, Nat.zero_add]
  have h := cell_of_row _ w.heap.size j _ e m (heap_alloc_new w (.cells (bv l).toArray e m))
  rw [h]; simpa using hu
theorem grown_in {a b c : World} {row : Option Nat} {R : Nat} (h : a.grownBy b row) (k : b.grownBy c (some R)) (hR : a.heap.size ≤ R) : a.grownBy c row :=
  ⟨k.os.trans h.os, k.tape.trans h.tape, k.output.trans h.output, Nat.le_trans h.size k.size, fun i hi hne => (k.block i (Nat.lt_of_lt_of_le hi h.size) (fun e => by injection e with e; omega)).trans (h.block i hi hne)⟩
theorem grown_below {a b c : World} {row : Option Nat} (h : a.grownBy b row) (k : Below b.heap.size b c) : a.grownBy c row := grown_tr h (only_of_below k row)

theorem own_cells {w : World} {base : Nat} {e : TypeId} {s n g cap : Nat} {xs : List Value} (h : w.ownsRow base e s (.slice (some ⟨g, 0, none⟩) n cap) n xs) : ∀ j u, xs[j]? = some u → w.cell? ⟨g, j, none⟩ = some u := by
  intro j u hu
  have h2 := h.cells (g := g) rfl j u hu
  unfold Addr.add at h2
  by_cases hj : j = 0
  · subst hj; simpa using h2
  · simpa [hj] using h2
theorem below_of_grown {a b : World} (h : a.grownBy b none) : Below a.heap.size a b := ⟨h.os, h.tape, h.output, h.size, fun i hi => h.block i hi (fun e => by cases e)⟩
theorem vb_300 : vb 300 = [172, 2] := by decide
theorem vb_zig1 : vb (zig (-1)) = [1] := by decide
theorem crc_nine : crc (nums [49, 50, 51, 52, 53, 54, 55, 56, 57]) = 3421780262 := by decide +kernel
theorem dec_bad : dec ([128, 0] : List UInt8) = none := by decide

set_option maxRecDepth 100000 in
set_option maxHeartbeats 2000000 in
theorem awake_any (w : World) : Calls Try.prog 9 #[] w fun e w' => e = .returned (.bool true) ∧ w.grownBy w' none := by
  go_enter Try.func9, Try.ntmps9
  go_wp2_with fail
  refine (open_any (some ⟨w.heap.size, 0, none⟩) 2 2 [128, 0] _ rfl (by decide) (by rw [World.size_alloc]; exact reads_new w [128, 0] _ _ _ 2 rfl rfl)).mono ?_
  rintro e w2 ⟨R, A, c, rfl, hR, hr, hrd, hown, hb⟩
  have hg2 := Lib.hid (grown_below (only_alloc (World.grownBy.refl w none) _) hb)
  rw [World.size_alloc] at hR
  have C := Lib.hid (runint_any A 2 c 0 R [128, 0] w2 rfl (by decide) (by decide) hr hrd)
  have HRd := Lib.hid hrd
  clear hr hrd hown hb
  go_wp2_with fail
  refine C.out.mono ?_
  rintro e w3 ⟨rfl, hg, hr⟩
  rw [List.drop_zero, (fst_none dec_bad).1, (fst_none dec_bad).2] at *
  have hg3 := Lib.hid (grown_in hg2.out hg (by omega))
  have C2 := Lib.hid (left_any A 2 c 0 R)
  have HR := Lib.hid hr
  clear hr hg C hg2
  go_wp2_with fail
  have M1 := Lib.hid (uint_any 300 w3 (by decide))
  rw [vb_300] at M1
  refine M1.out.mono ?_
  rintro e w4 ⟨g4, k4, rfl, ho4, hb4⟩
  have hcells := own_cells ho4
  have hcv := own_text (P := Try.prog) (src := 22) (dst := 9) (cap := k4) (n := 2) [172, 2] Try.underlying22 Try.underlying5 Try.underlying9 hcells rfl
  have hg4 := Lib.hid (grown_below hg3.out hb4)
  have hr4 := Lib.hid (HR.out.below hb4 (Blk.lt HR.out))
  clear hcells ho4 M1 hb4
  go_wp2_with fail
  have M2 := Lib.hid (int_any (-1) w4 (by decide) (by decide))
  rw [vb_zig1] at M2
  refine M2.out.mono ?_
  rintro e w5 ⟨g5, k5, rfl, ho5, hb5⟩
  have hcells := own_cells ho5
  have hcv2 := own_text (P := Try.prog) (src := 22) (dst := 9) (cap := k5) (n := 1) [1] Try.underlying22 Try.underlying5 Try.underlying9 hcells rfl
  have hcs := fun (W : World) (C : Array Value) (n c : Nat) => Lib.run_convert_bytes_const (P := Try.prog) W 22 5 C n c Try.underlying22 Try.underlying5
  have hg5 := Lib.hid (grown_below hg4.out hb5)
  have hr5 := Lib.hid (hr4.out.below hb5 (Blk.lt hr4.out))
  clear hcells ho5 M2 hb5
  go_wp2_with fail
  have M3 := Lib.hid (sum_any (some ⟨w5.heap.size, 0, none⟩) 9 9 [49, 50, 51, 52, 53, 54, 55, 56, 57] (w5.alloc (.cells (bv [49, 50, 51, 52, 53, 54, 55, 56, 57]).toArray 5 (9, 10))) rfl (by decide) (by decide) (by rw [World.size_alloc]; exact reads_new w5 _ _ _ _ 9 rfl rfl))
  rw [crc_nine] at M3
  refine M3.out.mono ?_
  rintro e w6 ⟨rfl, hb6⟩
  have hg6 := Lib.hid (grown_below (only_alloc hg5.out _) hb6)
  have hr6 := Lib.hid (Blk.below (Blk.alloc hr5.out _) hb6 (by rw [World.size_alloc]; have := Blk.lt hr5.out; omega))
  clear M3 hb6
  have M4 := Lib.hid (C2.out w6 (by decide) (by decide) hr6.out)
  go_wp2_with fail
  refine M4.out.mono ?_
  rintro e w7 ⟨rfl, m, rfl⟩
  go_wp2_with fail
  go_ret
  exact ⟨rfl, only_drewN hg6.out m⟩
end Go.Proofs.Ytlccikpmnhjfoaa

/- Mrg: texts merged for a claim by a program of mine. -/
import Derived.Test.YtioocaicmiggoaaA20
import Derived.Test.YtioocaicmiggoaaA02
import Derived.Test.YtioocaicmiggoaaA08
import Derived.Test.YtioocaicmiggoaaA21
namespace Go.Proofs.Ytioocaicmiggoaa
set_option linter.unusedVariables false
set_option linter.unusedSimpArgs false
open Go.RowKit Go.Deep
attribute [local go_sem ↓] Go.wp_at_zero Go.wp_at_succ
def readsD (x : TIns) : List Int := if x.op = 52 then [x.a] else [x.a, x.b].take (opnds x.op).toNat
def ReadsP (w : World) (l : List Int) (e : Ending) (w' : World) : Prop := ∃ g c, e = .returned (.slice (some ⟨g, 0, none⟩) l.length c) ∧ Reads w' w'.heap.size 1 (some ⟨g, 0, none⟩) l.length (iv l) ∧ l.length ≤ c ∧ c ≤ 2 ∧ Below w.heap.size w w'
theorem opnds_nat (op : Int) : ∃ k : Nat, opnds op = (k : Int) ∧ k ≤ 2 := by
 unfold opnds
 split
 ·exact ⟨1, rfl, by decide⟩
 ·split
  ·exact ⟨2, rfl, by decide⟩
  ·exact ⟨0, rfl, by decide⟩
theorem reads_two (w : World) (a b : Value) (e : TypeId) (m : Nat × Nat) : Reads (w.alloc (.cells #[a, b] e m)) (w.heap.size + 1) 1 (some ⟨w.heap.size, 0, none⟩) 2 [a, b] := by
 refine ⟨rfl, fun _ => ⟨_, rfl, by simp, fun j u hu => ?_⟩⟩
 rw [Go.WideShapes.add_plain, Nat.zero_add, cell_of_row _ _ j _ _ _ (heap_alloc_new w _)]
 simpa using hu
theorem reads_cut2 {w : World} {B : Nat} {A : Option Addr} {a b : Int} {k : Nat} (h : Reads w B 1 A 2 [.int .i64 a, .int .i64 b]) (hk : k ≤ 2) : Reads w B 1 A k (iv ([a, b].take k)) := by
 refine ⟨by unfold iv; rw [List.length_map, List.length_take]; simp; omega, fun hn => ?_⟩
 obtain ⟨ad, e, hb, hc⟩ := h.2 (by decide)
 refine ⟨ad, e, hb, fun j u hu => hc j u ?_⟩
 unfold iv at hu
 rw [List.getElem?_map, List.getElem?_take] at hu
 by_cases hj : j < k
 ·rw [if_pos hj] at hu
  match j, hu with
  | 0, hu => simpa using hu
  | 1, hu => simpa using hu
  | j + 2, hu => simp at hu
 ·rw [if_neg hj] at hu; cases hu
set_option maxRecDepth 100000 in
set_option maxHeartbeats 4000000 in
theorem reads_may (x : TIns) (w : World) : Calls Try.prog 48 #[.agg #[.int .i64 x.op, .int .i64 x.dst, .int .i64 x.a, .int .i64 x.b]] w (ReadsP w (readsD x)) := by
 obtain ⟨W, hW⟩ : ∃ W, W = w.alloc (.cells #[.int .i64 x.op, .int .i64 x.dst, .int .i64 x.a, .int .i64 x.b] 75) := ⟨_, rfl⟩
 have HB0 : Hid (Below w.heap.size w W) := Lib.hid (by rw [hW]; exact (Below.refl _ _).alloc (Nat.le_refl _) _)
 have HBX : Hid (Blk W w.heap.size 75 #[.int .i64 x.op, .int .i64 x.dst, .int .i64 x.a, .int .i64 x.b]) := Lib.hid (by rw [hW]; exact Blk.new _ _ _)
 have x0 := HBX.out.cell 0
 have x2 := HBX.out.cell 2
 obtain ⟨L, hL⟩ : ∃ L, readsD x = L := ⟨_, rfl⟩
 have HL := Lib.hid hL
 rw [hL]
 clear hL
 go_enter Try.func48, Try.ntmps48
 go_upto_region 1 with fail
 rw [← hW]
 clear hW
 by_cases c1 : x.op = 52
 ·have e1 : (x.op == 52) = true := by simpa using c1
  have HLL : Hid (L = [x.a]) := Lib.hid (by have h := HL.out; unfold readsD at h; rw [if_pos c1] at h; exact h.symm)
  obtain ⟨W2, hW2⟩ : ∃ W2, W2 = W.alloc (.cells #[.int .i64 x.a] 3) := ⟨_, rfl⟩
  have HR2 : Hid (Reads W2 (W.heap.size + 1) 1 (some ⟨W.heap.size, 0, none⟩) 1 [.int .i64 x.a]) := Lib.hid (by rw [hW2]; exact reads_one W _ _ _)
  have HB2 : Hid (Below w.heap.size w W2 ∧ W2.heap.size = W.heap.size + 1) := Lib.hid (by rw [hW2]; exact ⟨HB0.out.alloc HB0.out.size _, by simp⟩)
  have HW2 := Lib.hid hW2
  clear c1 hW2
  go_wp2_with fail
  rw [← HW2.out]
  go_ret
  exact ⟨_, 1, by rw [HLL.out]; rfl, by rw [HLL.out, HB2.out.2]; exact HR2.out, by rw [HLL.out]; exact Nat.le_refl _, by decide, HB2.out.1⟩
 ·have e1 : (x.op == 52) = false := by simpa using c1
  obtain ⟨k, hk, hk2⟩ := opnds_nat x.op
  have HLL : Hid (L = [x.a, x.b].take k) := Lib.hid (by have h := HL.out; unfold readsD at h; rw [if_neg c1, hk, Int.toNat_natCast] at h; exact h.symm)
  have HK := Lib.hid hk
  have k0 : (0 : Int) ≤ (k : Int) := by omega
  have k1 : (k : Int) ≤ 2 := by omega
  have hnk : ((k : Int)).toNat = k := by omega
  have HK2 := Lib.hid hk2
  clear c1 hk
  go_upto_region 3 with fail
  obtain ⟨yo, hyo⟩ : ∃ yo, yo = World.drew W := ⟨_, rfl⟩
  have HBO : Hid (Below W.heap.size W yo) := Lib.hid (by rw [hyo]; exact ⟨rfl, rfl, rfl, Nat.le_refl _, fun _ _ => rfl⟩)
  have HBY := Lib.hid (HBX.out.below HBO.out HBX.out.lt)
  have HS : Hid (yo.cell? ⟨w.heap.size, 0, none⟩ = some (.int .i64 x.op) ∧ yo.cell? ⟨w.heap.size, 2, none⟩ = some (.int .i64 x.a) ∧ yo.cell? ⟨w.heap.size, 3, none⟩ = some (.int .i64 x.b)) := Lib.hid ⟨HBY.out.cell 0, HBY.out.cell 2, HBY.out.cell 3⟩
  clear x0 x2
  refine region_till (fun W => W.cell? ⟨w.heap.size, 0, none⟩ = some (.int .i64 x.op) ∧ W.cell? ⟨w.heap.size, 2, none⟩ = some (.int .i64 x.a) ∧ W.cell? ⟨w.heap.size, 3, none⟩ = some (.int .i64 x.b)) (fun j => !([0, 1, 2, 3, 4, 5, 6, 7, 8, 9] : List Nat).contains j) (by kernel_rfl) ?_
  rw [← hyo]
  clear hyo
  refine till_take (i := 0) (v := ?_) rfl (by kernel_rfl) (by kernel_rfl) (by kernel_rfl) (by kernel_rfl) (fun _ _ _ h => h) (Or.inl ⟨by kernel_rfl, ?_⟩) HS.out ?_
  rotate_left
  ·(intro w' hSw; obtain ⟨hc0, hc1, hc2⟩ := hSw; go_simp; try with_reducible rfl)
  refine till_take (i := 1) (v := ?_) rfl (by kernel_rfl) (by kernel_rfl) (by kernel_rfl) (by kernel_rfl) (fun _ _ _ h => h) (Or.inl ⟨by kernel_rfl, ?_⟩) HS.out ?_
  rotate_left
  ·(intro w' hSw; obtain ⟨hc0, hc1, hc2⟩ := hSw; go_simp; try with_reducible rfl)
  refine till_take (i := 2) (v := ?_) rfl (by kernel_rfl) (by kernel_rfl) (by kernel_rfl) (by kernel_rfl) (fun _ _ _ h => h) (Or.inl ⟨by kernel_rfl, ?_⟩) HS.out ?_
  rotate_left
  ·(intro w' hSw; obtain ⟨hc0, hc1, hc2⟩ := hSw; go_simp; try with_reducible rfl)
  refine till_take (i := 3) (v := ?_) rfl (by kernel_rfl) (by kernel_rfl) (by kernel_rfl) (by kernel_rfl) (fun _ _ _ h => h) (Or.inl ⟨by kernel_rfl, ?_⟩) HS.out ?_
  rotate_left
  ·(intro w' hSw; obtain ⟨hc0, hc1, hc2⟩ := hSw; go_simp; try with_reducible rfl)
  refine till_take (i := 5) (v := ?_) rfl (by kernel_rfl) (by kernel_rfl) (by kernel_rfl) (by kernel_rfl) (fun _ _ _ h => h) (Or.inl ⟨by kernel_rfl, ?_⟩) HS.out ?_
  rotate_left
  ·(intro w' hSw; obtain ⟨hc0, hc1, hc2⟩ := hSw; go_simp; try with_reducible rfl)
  refine till_take (i := 6) (v := ?_) rfl (by kernel_rfl) (by kernel_rfl) (by kernel_rfl) (by kernel_rfl) (fun _ _ _ h => h) (Or.inl ⟨by kernel_rfl, ?_⟩) HS.out ?_
  rotate_left
  ·(intro w' hSw; obtain ⟨hc0, hc1, hc2⟩ := hSw; go_simp; try with_reducible rfl)
  refine till_ready (rs := [4, 7]) (by kernel_rfl) (by simp) ?_
  refine TillAll.cons rfl (fun K hK => ?_) ?_
  ·skip
   go_simp
   obtain ⟨W2, hW2⟩ : ∃ W2, W2 = yo.alloc (.cells #[.int .i64 x.a, .int .i64 x.b] 3) := ⟨_, rfl⟩
   have HR2 : Hid (Reads W2 (yo.heap.size + 1) 1 (some ⟨yo.heap.size, 0, none⟩) 2 [.int .i64 x.a, .int .i64 x.b]) := Lib.hid (by rw [hW2]; exact reads_two yo _ _ _ _)
   have HB2 : Hid (Below yo.heap.size yo W2 ∧ W2.heap.size = yo.heap.size + 1) := Lib.hid (by rw [hW2]; exact ⟨(Below.refl _ _).alloc (Nat.le_refl _) _, by simp⟩)
   rw [← hW2]
   clear hW2
   have HBZ := Lib.hid (HBY.out.below HB2.out.1 HBY.out.lt)
   have HS : Hid (W2.cell? ⟨w.heap.size, 0, none⟩ = some (.int .i64 x.op) ∧ W2.cell? ⟨w.heap.size, 2, none⟩ = some (.int .i64 x.a) ∧ W2.cell? ⟨w.heap.size, 3, none⟩ = some (.int .i64 x.b)) := Lib.hid ⟨HBZ.out.cell 0, HBZ.out.cell 2, HBZ.out.cell 3⟩
   (refine hK.out _ _ (fun _ => HS.out) ?_; clear hK K)
   refine till_ready (rs := [7]) (by kernel_rfl) (by simp) ?_
   refine TillAll.cons rfl (fun K hK => ?_) TillAll.nil
   go_simp
   go_wp2_with (go_at_call 47; refine (operands_any _ _).mono ?_; rintro e w' ⟨rfl, rfl⟩)
   rw [HK.out]
   (refine hK.out _ _ (fun _ => HS.out) ?_; clear hK K)
   refine till_take (i := 8) (v := ?_) rfl (by kernel_rfl) (by kernel_rfl) (by kernel_rfl) (by kernel_rfl) (fun _ _ _ h => h) (Or.inl ⟨by kernel_rfl, ?_⟩) HS.out ?_
   rotate_left
   ·(intro w' hSw; obtain ⟨hc0, hc1, hc2⟩ := hSw; go_simp; try with_reducible rfl)
   refine till_take (i := 9) (v := ?_) rfl (by kernel_rfl) (by kernel_rfl) (by kernel_rfl) (by kernel_rfl) (fun _ _ _ h => h) (Or.inl ⟨by kernel_rfl, ?_⟩) HS.out ?_
   rotate_left
   ·(intro w' hSw; obtain ⟨hc0, hc1, hc2⟩ := hSw; go_simp; try with_reducible rfl)
   refine till_done (by kernel_rfl) ?_ _
   go_wp2_with fail
   try rw [hnk]
   go_ret
   have hlen : L.length = k := by rw [HLL.out, List.length_take]; exact Nat.min_eq_left HK2.out
   refine ⟨_, 2, by rw [hlen]; rfl, ?_, by rw [hlen]; exact HK2.out, by decide, (HB0.out.trans (HBO.out.mono HB0.out.size)).trans (HB2.out.1.mono (Nat.le_trans HB0.out.size HBO.out.size))⟩
   rw [hlen, HB2.out.2, HLL.out]
   have h := HR2.out
   exact reads_cut2 h HK2.out
  refine TillAll.cons rfl (fun K hK => ?_) TillAll.nil
  go_simp
  go_wp2_with (go_at_call 47; refine (operands_any _ _).mono ?_; rintro e w' ⟨rfl, rfl⟩)
  rw [HK.out]
  (refine hK.out _ _ (fun _ => HS.out) ?_; clear hK K)
  refine till_ready (rs := [4]) (by kernel_rfl) (by simp) ?_
  refine TillAll.cons rfl (fun K hK => ?_) TillAll.nil
  go_simp
  obtain ⟨W2, hW2⟩ : ∃ W2, W2 = yo.alloc (.cells #[.int .i64 x.a, .int .i64 x.b] 3) := ⟨_, rfl⟩
  have HR2 : Hid (Reads W2 (yo.heap.size + 1) 1 (some ⟨yo.heap.size, 0, none⟩) 2 [.int .i64 x.a, .int .i64 x.b]) := Lib.hid (by rw [hW2]; exact reads_two yo _ _ _ _)
  have HB2 : Hid (Below yo.heap.size yo W2 ∧ W2.heap.size = yo.heap.size + 1) := Lib.hid (by rw [hW2]; exact ⟨(Below.refl _ _).alloc (Nat.le_refl _) _, by simp⟩)
  rw [← hW2]
  clear hW2
  have HBZ := Lib.hid (HBY.out.below HB2.out.1 HBY.out.lt)
  have HS : Hid (W2.cell? ⟨w.heap.size, 0, none⟩ = some (.int .i64 x.op) ∧ W2.cell? ⟨w.heap.size, 2, none⟩ = some (.int .i64 x.a) ∧ W2.cell? ⟨w.heap.size, 3, none⟩ = some (.int .i64 x.b)) := Lib.hid ⟨HBZ.out.cell 0, HBZ.out.cell 2, HBZ.out.cell 3⟩
  (refine hK.out _ _ (fun _ => HS.out) ?_; clear hK K)
  refine till_take (i := 8) (v := ?_) rfl (by kernel_rfl) (by kernel_rfl) (by kernel_rfl) (by kernel_rfl) (fun _ _ _ h => h) (Or.inl ⟨by kernel_rfl, ?_⟩) HS.out ?_
  rotate_left
  ·(intro w' hSw; obtain ⟨hc0, hc1, hc2⟩ := hSw; go_simp; try with_reducible rfl)
  refine till_take (i := 9) (v := ?_) rfl (by kernel_rfl) (by kernel_rfl) (by kernel_rfl) (by kernel_rfl) (fun _ _ _ h => h) (Or.inl ⟨by kernel_rfl, ?_⟩) HS.out ?_
  rotate_left
  ·(intro w' hSw; obtain ⟨hc0, hc1, hc2⟩ := hSw; go_simp; try with_reducible rfl)
  refine till_done (by kernel_rfl) ?_ _
  go_wp2_with fail
  try rw [hnk]
  go_ret
  have hlen : L.length = k := by rw [HLL.out, List.length_take]; exact Nat.min_eq_left HK2.out
  refine ⟨_, 2, by rw [hlen]; rfl, ?_, by rw [hlen]; exact HK2.out, by decide, (HB0.out.trans (HBO.out.mono HB0.out.size)).trans (HB2.out.1.mono (Nat.le_trans HB0.out.size HBO.out.size))⟩
  rw [hlen, HB2.out.2, HLL.out]
  have h := HR2.out
  exact reads_cut2 h HK2.out
end Go.Proofs.Ytioocaicmiggoaa
namespace Go.Proofs.Ytioocaicmiggoaa
set_option linter.unusedVariables false
set_option linter.unusedSimpArgs false
open Go.RowKit Go.Deep Go.Maps
def redB (R : List Int) (x : TIns) : Bool := (readsD x).all (fun r => decide (r ∈ R))
def badB (x : TIns) (last : Bool) : Bool := (decide (opnds x.op < 2) && decide (x.op ≠ 53) && decide (x.b ≠ 0)) || (decide (x.op = 52) != last)
def midB (red : Bool) (S : List Int) (ni nc : Int) (x : TIns) : Bool :=
 if x.op = 50 then red && decide (0 ≤ x.a) && decide (x.a < ni)
 else if x.op = 51 then red && decide (0 ≤ x.a) && decide (x.a < nc)
 else if x.op = 54 then red && decide (x.a ∈ S)
 else red && decide (0 < opnds x.op)
def putB (red rb : Bool) (ns : Int) (x : TIns) : Bool := red && decide (x.dst = 0) && decide (0 ≤ x.a) && decide (x.a < ns) && rb
theorem redB_nil {R : List Int} {x : TIns} (h : opnds x.op = 0) (h52 : ¬ x.op = 52) : redB R x = true := by
 unfold redB readsD
 rw [if_neg h52, h]
 rfl
theorem redB_one {R : List Int} {x : TIns} (h : opnds x.op = 1) (h52 : ¬ x.op = 52) : redB R x = decide (x.a ∈ R) := by
 unfold redB readsD
 rw [if_neg h52, h]
 simp
theorem redB_two {R : List Int} {x : TIns} (h : opnds x.op = 2) (h52 : ¬ x.op = 52) : redB R x = (decide (x.a ∈ R) && decide (x.b ∈ R)) := by
 unfold redB readsD
 rw [if_neg h52, h]
 simp
theorem redB_ret {R : List Int} {x : TIns} (h52 : x.op = 52) : redB R x = decide (x.a ∈ R) := by
 unfold redB readsD
 rw [if_pos h52]
 simp
theorem bad_step {R S : List Int} {nr ns ni nc : Int} {x : TIns} {last : Bool} (h : badB x last = true) : (rightB R S nr ns ni nc x && (decide (x.op = 52) == last)) = false := by
 unfold badB at h
 unfold rightB
 generalize decide (x.a ∈ R) = ra
 generalize decide (x.b ∈ R) = rb
 generalize decide (x.a ∈ S) = sa
 generalize writB nr x = wr
 unfold rightC
 rcases hl : (decide (x.op = 52) == last) with _ | _
 ·rw [Bool.and_false]
 ·rw [Bool.and_true]
  have hne : (decide (x.op = 52) != last) = false := by rw [bne, hl]; rfl
  rw [hne, Bool.or_false] at h
  simp only [Bool.and_eq_true, decide_eq_true_eq] at h
  obtain ⟨⟨h1, h2⟩, h3⟩ := h
  unfold opnds at h1
  have hb : decide (x.b = 0) = false := by simpa using h3
  rw [hb]
  simp only [Bool.and_false, Bool.false_and]
  repeat' split
  all_goals (try rfl)
  all_goals (try (exfalso; omega))
  by_cases k2 : 1 ≤ x.op ∧ x.op ≤ 14
  ·exfalso
   rw [if_neg (by omega), if_pos k2] at h1
   omega
  ·rw [show (decide (1 ≤ x.op) && decide (x.op ≤ 14)) = false by rw [Bool.eq_false_iff]; simp; omega]
   simp
theorem good_step {R S : List Int} {nr ns ni nc : Int} {x : TIns} {last : Bool} (h : badB x last = false) : (rightB R S nr ns ni nc x && (decide (x.op = 52) == last)) = (if x.op = 52 then redB R x && decide (x.dst = 0) else if x.op = 53 then putB (redB R x) (decide (x.b ∈ R)) ns x else midB (redB R x) S ni nc x && writB nr x) := by
 unfold badB at h
 rw [Bool.or_eq_false_iff] at h
 obtain ⟨h1, h2⟩ := h
 have hl : (decide (x.op = 52) == last) = true := by rw [bne] at h2; simpa using h2
 rw [hl, Bool.and_true]
 clear h2 hl
 unfold rightB
 have hk : opnds x.op = (if x.op = 6 ∨ x.op = 15 ∨ x.op = 16 ∨ x.op = 17 then 1 else if 1 ≤ x.op ∧ x.op ≤ 14 then 2 else 0) := rfl
 by_cases c52 : x.op = 52
 ·rw [if_pos c52, redB_ret c52]
  have h0 : opnds x.op = 0 := by rw [c52]; rfl
  rw [h0, c52] at h1
  have hb : decide (x.b = 0) = true := by simpa using h1
  unfold rightC
  rw [c52, hb]
  simp [Bool.and_comm]
 ·rw [if_neg c52]
  by_cases c53 : x.op = 53
  ·rw [if_pos c53]
   have h0 : opnds x.op = 0 := by rw [c53]; rfl
   rw [redB_nil h0 c52]
   unfold rightC putB
   rw [c53]
   simp
  ·rw [if_neg c53]
   by_cases c50 : x.op = 50
   ·have h0 : opnds x.op = 0 := by rw [c50]; rfl
    rw [redB_nil h0 c52]
    rw [h0, c50] at h1
    have hb : decide (x.b = 0) = true := by simpa using h1
    unfold rightC midB
    rw [c50, hb]
    generalize writB nr x = wr
    cases wr <;> simp
   ·by_cases c51 : x.op = 51
    ·have h0 : opnds x.op = 0 := by rw [c51]; rfl
     rw [redB_nil h0 c52]
     rw [h0, c51] at h1
     have hb : decide (x.b = 0) = true := by simpa using h1
     unfold rightC midB
     rw [c51, hb]
     generalize writB nr x = wr
     cases wr <;> simp
    ·by_cases c54 : x.op = 54
     ·have h0 : opnds x.op = 0 := by rw [c54]; rfl
      rw [redB_nil h0 c52]
      rw [h0, c54] at h1
      have hb : decide (x.b = 0) = true := by simpa using h1
      unfold rightC midB
      rw [c54, hb]
      generalize writB nr x = wr
      cases wr <;> simp
     ·unfold rightC midB
      rw [if_neg c50, if_neg c51, if_neg c53, if_neg c54, if_neg c52, if_neg c50, if_neg c51, if_neg c54]
      by_cases k1 : x.op = 6 ∨ (15 ≤ x.op ∧ x.op ≤ 17)
      ·have h0 : opnds x.op = 1 := by rw [hk, if_pos (by omega)]
       rw [redB_one h0 c52, if_pos k1, h0]
       have hb : decide (x.b = 0) = true := by
        rw [h0] at h1
        simpa [c53] using h1
       rw [hb]
       generalize writB nr x = wr
       cases wr <;> simp
      ·rw [if_neg k1]
       by_cases k2 : 1 ≤ x.op ∧ x.op ≤ 14
       ·have h0 : opnds x.op = 2 := by rw [hk, if_neg (by omega), if_pos k2]
        rw [redB_two h0 c52, h0, decide_eq_true k2.1, decide_eq_true k2.2]
        generalize writB nr x = wr
        cases wr <;> simp
       ·have h0 : opnds x.op = 0 := by rw [hk, if_neg (by omega), if_neg k2]
        rw [h0]
        have : (decide (1 ≤ x.op) && decide (x.op ≤ 14)) = false := by rw [Bool.eq_false_iff]; simp; omega
        rw [this]
        simp
theorem reads_at {w : World} {B g n : Nat} {l : List Int} (h : Reads w B 1 (some ⟨g, 0, none⟩) n (iv l)) {j : Nat} {y : Int} (hj : l[j]? = some y) : w.cell? ⟨g, j, none⟩ = some (.int .i64 y) := by
 have hl : l.length = n := by have := h.1; unfold iv at this; simpa using this
 have hjl := (List.getElem?_eq_some_iff.1 hj).1
 obtain ⟨ad, e, hb, hc⟩ := h.2 (by omega)
 injection e with e
 subst e
 have := hc j (.int .i64 y) (by unfold iv; rw [List.getElem?_map, hj]; rfl)
 rw [Go.WideShapes.add_plain, Nat.zero_add] at this
 exact this
theorem readsD_mem {x : TIns} {y : Int} {j : Nat} (h : (readsD x)[j]? = some y) : y = x.a ∨ y = x.b := by
 have h := List.mem_of_getElem? h
 unfold readsD at h
 split at h
 ·left; simpa using h
 ·have h := List.mem_of_mem_take h
  simpa using h
theorem badB_eq {x : TIns} {k : Int} (hk : opnds x.op = k) {r n : Nat} {last : Bool} (hl : decide (r + 1 = n) = last) : badB x last = ((decide (k < 2) && (x.op != 53) && (x.b != 0)) || ((x.op == 52) != ((r : Int) == (n : Int) - 1))) := by
 have e1 : decide (x.op ≠ 53) = (x.op != 53) := by rw [Bool.eq_iff_iff]; simp
 have e2 : decide (x.b ≠ 0) = (x.b != 0) := by rw [Bool.eq_iff_iff]; simp
 have e3 : decide (x.op = 52) = (x.op == 52) := by rw [Bool.eq_iff_iff]; simp
 have e4 : decide (r + 1 = n) = ((r : Int) == (n : Int) - 1) := by rw [Bool.eq_iff_iff]; simp; omega
 unfold badB
 rw [hk, ← hl, e1, e2, e3, e4]
theorem bad_last {x : TIns} {last : Bool} (h : badB x last = false) : last = decide (x.op = 52) := by
 unfold badB at h
 rw [Bool.or_eq_false_iff] at h
 have h8 := h.2
 cases last <;> by_cases c : x.op = 52 <;> simp [c] at h8 ⊢
def MemD (H : Nat) (w4 w : World) (n : Nat) (R S : List Int) : Prop := Below H w4 w ∧ SetX w H n R ∧ SetX w (H + 1) n S
section
variable {H : Nat} {w4 w w' : World} {n : Nat} {R S : List Int}
theorem MemD.below (h : MemD H w4 w n R S) (hb : Below w.heap.size w w') : MemD H w4 w' n R S :=
 ⟨h.1.trans (hb.mono (by have := h.2.1.lt; omega)), h.2.1.below hb h.2.1.lt, h.2.2.below hb h.2.2.lt⟩
theorem MemD.next (h : MemD H w4 w n R S) : MemD H w4 w (n + 1) R S := ⟨h.1, h.2.1.mono (Nat.le_succ n), h.2.2.mono (Nat.le_succ n)⟩
theorem MemD.slot (h : MemD H w4 w n R S) {k : Int} (hk : wfi k) (hn : n < maxLen) :
  ∃ w', (Instr.mapUpdate 60 (.map (some (H + 1))) (.int .i64 k) (.bool true)).run Try.prog w = .ok () w' ∧ MemD H w4 w' (n + 1) R (addS k S) := by
 obtain ⟨w', hr, hs, hg⟩ := h.2.2.store hk hn
 exact ⟨w', hr, h.1.grown hg (by have := h.2.1.lt; omega) (fun g e => by injection e with e; omega), (h.2.1.kept hg (by simp)).mono (Nat.le_succ n), hs⟩
theorem MemD.reg (h : MemD H w4 w n R S) {k : Int} (hk : wfi k) (hn : n < maxLen) :
  ∃ w', (Instr.mapUpdate 60 (.map (some H)) (.int .i64 k) (.bool true)).run Try.prog w = .ok () w' ∧ MemD H w4 w' (n + 1) (addS k R) S := by
 obtain ⟨w', hr, hs, hg⟩ := h.2.1.store hk hn
 exact ⟨w', hr, h.1.grown hg (by have := h.2.1.lt; omega) (fun g e => by injection e with e; omega), hs, (h.2.2.kept hg (by simp)).mono (Nat.le_succ n)⟩
end
end Go.Proofs.Ytioocaicmiggoaa

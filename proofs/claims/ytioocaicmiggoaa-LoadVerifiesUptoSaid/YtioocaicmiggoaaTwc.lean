/-
  The walk of the document's Twin of a code.
-/
import Derived.Test.YtioocaicmiggoaaLty
import Derived.Test.YtioocaicmiggoaaTwq
namespace Go.Proofs.Ytioocaicmiggoaa
set_option linter.unusedVariables false
set_option linter.unusedSimpArgs false
open Go.RowKit Go.Deep

theorem info_inp : (Try.prog.info? 70).map (fun i => (i.zero, i.size, i.bytes)) = some (some (.agg #[.int .i64 0, .int .i64 0, .int .i64 0, .int .i64 0]), 4, 32) := by kernel_rfl
theorem info_val : (Try.prog.info? 88).map (fun i => (i.zero, i.size, i.bytes)) = some (some (.agg #[.int .i64 0, .int .u64 0]), 2, 16) := by kernel_rfl
theorem info_ins : (Try.prog.info? 75).map (fun i => (i.zero, i.size, i.bytes)) = some (some (.agg #[.int .i64 0, .int .i64 0, .int .i64 0, .int .i64 0]), 4, 32) := by kernel_rfl
theorem flat_one {α : Type} {F : Nat} {R : World → List Value → α → Prop} {w : World} {css : List (List Value)} {xs : List α} (h : FlatR F R w css xs) (h1 : ∀ cs x, R w cs x → ∀ u ∈ cs, u.oneCell' = true) : ∀ u ∈ css.flatten, u.oneCell' = true := by
  intro u hu
  obtain ⟨cs, hc, hu⟩ := List.mem_flatten.1 hu
  obtain ⟨i, hi, rfl⟩ := List.getElem_of_mem hc
  have hx : xs[i]? = some (xs[i]'(by rw [← h.1]; exact hi)) := List.getElem?_eq_getElem _
  obtain ⟨c, h2, _, h4⟩ := h.2 i _ hx
  rw [List.getElem?_eq_getElem hi] at h2
  injection h2 with h2
  rw [← h2] at h4
  exact h1 _ _ h4 u hu
theorem one_int {w : World} {cs : List Value} {x : Int} (h : IntC w cs x) : ∀ u ∈ cs, u.oneCell' = true := by
  intro u hu; rw [h.1] at hu; simp at hu; subst hu; rfl
theorem one_stop {w : World} {cs : List Value} {x : TStop} (h : StopC w cs x) : ∀ u ∈ cs, u.oneCell' = true := by
  intro u hu; rw [h.1] at hu; simp at hu; rcases hu with rfl | rfl <;> rfl
theorem one_inp {w : World} {cs : List Value} {x : TInp} (h : InpC w cs x) : ∀ u ∈ cs, u.oneCell' = true := by
  intro u hu; rw [h.1] at hu; simp at hu; rcases hu with rfl | rfl | rfl | rfl <;> rfl
theorem one_val {w : World} {cs : List Value} {x : TVal} (h : ValC w cs x) : ∀ u ∈ cs, u.oneCell' = true := by
  intro u hu; rw [h.1] at hu; simp at hu; rcases hu with rfl | rfl <;> rfl
theorem one_ins {w : World} {cs : List Value} {x : TIns} (h : InsC w cs x) : ∀ u ∈ cs, u.oneCell' = true := by
  intro u hu; rw [h.1] at hu; simp at hu; rcases hu with rfl | rfl | rfl | rfl <;> rfl
theorem blk5 {w : World} {g : Nat} {t : TypeId} {a0 a1 a2 a3 a4 : Value} (h : Blk w g t #[a0, a1, a2, a3, a4]) :
    w.cell? ⟨g, 0, none⟩ = some a0 ∧ w.cell? ⟨g, 1, none⟩ = some a1 ∧ w.cell? ⟨g, 2, none⟩ = some a2 ∧ w.cell? ⟨g, 3, none⟩ = some a3 ∧ w.cell? ⟨g, 4, none⟩ = some a4 :=
  ⟨h.cell 0, h.cell 1, h.cell 2, h.cell 3, h.cell 4⟩
theorem own_set {w : World} {base : Nat} {e : TypeId} {s n : Nat} {v : Value} {xs : List Value} (h : w.ownsRow base e s v n xs) {a : Addr} (ha : a.block < base) (u : Value) : (w.setCell a u).ownsRow base e s v n xs := by
  refine ⟨h.1, ?_⟩
  rcases h.2 with h1 | ⟨g, cap, cur, hv, hb, hh, hr⟩
  · exact .inl h1
  · exact .inr ⟨g, cap, cur, hv, hb, (Below.heap_setCell w a u g (by omega)).trans hh, hr⟩
def TwinCP (w : World) (x : TCode) (e : Ending) (w' : World) : Prop :=
  ∃ vi vc vl, e = .returned (.agg #[.int .i64 x.regs, .int .i64 x.slots, vi, vc, vl]) ∧ CodeQ (fun b => w.heap.size ≤ b ∧ b < w'.heap.size) w' [.int .i64 x.regs, .int .i64 x.slots, vi, vc, vl] x ∧ Below w.heap.size w w'
set_option maxRecDepth 100000 in
set_option maxHeartbeats 4000000 in
theorem twinc_any (x : TCode) (w : World) (vi vc vl : Value) (hi : SlR 4 InpC w vi x.inputs) (hv : SlR 2 ValC w vc x.consts) (hl : SlR 4 InsC w vl x.list) (hw : wfi x.regs ∧ wfi x.slots) (h1 : x.inputs.length * 32 ≤ 140737488351232) (h2 : x.consts.length * 16 ≤ 140737488351232) (h3 : x.list.length * 32 ≤ 140737488351232) :
    Calls Try.prog 19 #[.agg #[.int .i64 x.regs, .int .i64 x.slots, vi, vc, vl]] w (TwinCP w x) := by
  obtain ⟨ci, Ai, ni, rfl, hi1, hi2, hfi, hri⟩ := flat_of_slr hi
  obtain ⟨cv, Av, nv, rfl, hv1, hv2, hfv, hrv⟩ := flat_of_slr hv
  obtain ⟨cl, Al, nl, rfl, hl1, hl2, hfl, hrl⟩ := flat_of_slr hl
  have HRI := Lib.hid (hri (by decide))
  have HRV := Lib.hid (hrv (by decide))
  have HRL := Lib.hid (hrl (by decide))
  have OI := Lib.hid (flat_one hfi fun _ _ h => one_inp h)
  have OV := Lib.hid (flat_one hfv fun _ _ h => one_val h)
  have OL := Lib.hid (flat_one hfl fun _ _ h => one_ins h)
  obtain ⟨i2, hi3, hz2, hs2, hb2⟩ := info_parts info_inp
  obtain ⟨i4, hi4, hz4, hs4, hb4⟩ := info_parts info_val
  obtain ⟨i5, hi5, hz5, hs5, hb5⟩ := info_parts info_ins
  obtain ⟨w1, hw1⟩ : ∃ w1, w1 = (w.alloc (.cells #[.int .i64 x.regs, .int .i64 x.slots, .slice Ai x.inputs.length ni, .slice Av x.consts.length nv, .slice Al x.list.length nl] 40)).alloc (.cells #[.int .i64 0, .int .i64 0, .slice none 0 0, .slice none 0 0, .slice none 0 0] 40) := ⟨_, rfl⟩
  have B1 : Below w.heap.size w w1 := by rw [hw1]; exact ((Below.refl w.heap.size w).alloc (Nat.le_refl _) _).alloc (by simp) _
  have BX : Blk w1 w.heap.size 40 #[.int .i64 x.regs, .int .i64 x.slots, .slice Ai x.inputs.length ni, .slice Av x.consts.length nv, .slice Al x.list.length nl] := by rw [hw1]; exact (Blk.new w _ _).alloc _
  have BZ : Blk w1 (w.heap.size + 1) 40 #[.int .i64 0, .int .i64 0, .slice none 0 0, .slice none 0 0, .slice none 0 0] := by
    rw [hw1]
    have := Blk.new (w.alloc (.cells #[.int .i64 x.regs, .int .i64 x.slots, .slice Ai x.inputs.length ni, .slice Av x.consts.length nv, .slice Al x.list.length nl] 40)) 40 #[.int .i64 0, .int .i64 0, .slice none 0 0, .slice none 0 0, .slice none 0 0]
    rw [World.size_alloc] at this
    exact this
  have hs1 : w1.heap.size = w.heap.size + 2 := by rw [hw1]; simp
  have HB1 := Lib.hid B1
  have HBX := Lib.hid BX
  have HBZ := Lib.hid BZ
  have HS1 := Lib.hid hs1
  have R1 := Lib.hid (HRI.out.below B1)
  clear hi hv hl hri hrv hrl B1 BX BZ hs1
  go_enter Try.func19, Try.ntmps19
  go_upto_region 1 with fail
  try rw [← hw1]
  clear hw1
  have HP0 := HB1
  have HZ0 := HBZ
  have HW0 : Hid (w.heap.size + 2 ≤ w1.heap.size) := Lib.hid (by rw [HS1.out]; exact Nat.le_refl _)
  obtain ⟨k0, k1, k2, k3, k4⟩ := blk5 HBX.out
  go_upto_region 2 with (at_builtin; refine wpList_append_any _ rfl _ _ 36 rfl w1.heap.size 70 i2 _ 4 32 Try.underlying36 hi3 hz2 hs2 hb2 rfl (by omega) (.slice none 0 0) 0 [] rfl (World.ownsRow_nil _ _ _ _) w.heap.size Ai x.inputs.length ni ci.flatten rfl R1.out OI.out (by unfold maxLen; omega) (by omega) (Nat.le_refl _) ?_; intro v9 g0 ho hg _; simp only [Nat.zero_add, List.nil_append] at ho; obtain ⟨B0, m0, rfl⟩ := own_slice ho; have HO0 := Lib.hid ho; have HG0 := Lib.hid hg; clear ho hg k0 k1 k2 k3 k4; have HBXg0 := Lib.hid (HBX.out.grown HG0.out (by simp [Value.ownBlock])); obtain ⟨k0, k1, k2, k3, k4⟩ := blk5 HBXg0.out; have fz := HBXg0.out.frozen 2)
  clear k0 k1 k2 k3 k4 fz
  obtain ⟨s1, hs⟩ : ∃ s1, s1 = g0.setCell ⟨w.heap.size, 2, none⟩ (.slice B0 x.inputs.length m0) := ⟨_, rfl⟩
  rw [← hs]
  have HBX1 : Hid (Blk s1 w.heap.size 40 #[.int .i64 x.regs, .int .i64 x.slots, .slice B0 x.inputs.length m0, .slice Av x.consts.length nv, .slice Al x.list.length nl]) := Lib.hid (by rw [hs]; exact HBXg0.out.set_ 2 _)
  have HT1 : Hid (w1.heap.size ≤ s1.heap.size ∧ Below w.heap.size w s1 ∧ KeepQ (fun b => w.heap.size + 1 ≤ b ∧ b < w1.heap.size) w1 s1 ∧ s1.ownsRow w1.heap.size 70 4 (.slice B0 x.inputs.length m0) x.inputs.length ci.flatten) := Lib.hid (by
    have hsz : s1.heap.size = g0.heap.size := by rw [hs]; simp [World.setCell]
    refine ⟨by rw [hsz]; exact HG0.out.size, ?_, ?_, ?_⟩
    · rw [hs]; exact (HP0.out.grown HG0.out HP0.out.size (fun g e => by simp [Value.ownBlock] at e)).setCell (Nat.le_refl _) _
    · rw [hs]; exact (KeepQ.of_grown HG0.out (fun b _ => by simp [Value.ownBlock])).trans (KeepQ.of_set (fun b hb => by simp only; omega))
    · rw [hs]; exact own_set HO0.out (by have := HW0.out; simp only; omega) _)
  have HP1 := Lib.hid HT1.out.2.1
  have HW1 : Hid (w.heap.size + 2 ≤ s1.heap.size) := Lib.hid (Nat.le_trans HW0.out HT1.out.1)
  have HZ1 := Lib.hid (show Blk s1 (w.heap.size + 1) 40 #[.int .i64 0, .int .i64 0, .slice none 0 0, .slice none 0 0, .slice none 0 0] by rw [hs]; exact (HZ0.out.grown HG0.out (by simp [Value.ownBlock])).far (p := ⟨w.heap.size, 2, none⟩) (by simp) _)
  have R2 := Lib.hid (HRV.out.below HP1.out)
  clear hs
  obtain ⟨k0, k1, k2, k3, k4⟩ := blk5 HBX1.out
  go_upto_region 3 with (at_builtin; refine wpList_append_any _ rfl _ _ 37 rfl s1.heap.size 88 i4 _ 2 16 Try.underlying37 hi4 hz4 hs4 hb4 rfl (by omega) (.slice none 0 0) 0 [] rfl (World.ownsRow_nil _ _ _ _) w.heap.size Av x.consts.length nv cv.flatten rfl R2.out OV.out (by unfold maxLen; omega) (by omega) (Nat.le_refl _) ?_; intro v9 g1 ho hg _; simp only [Nat.zero_add, List.nil_append] at ho; obtain ⟨B1, m1, rfl⟩ := own_slice ho; have HO1 := Lib.hid ho; have HG1 := Lib.hid hg; clear ho hg k0 k1 k2 k3 k4; have HBXg1 := Lib.hid (HBX1.out.grown HG1.out (by simp [Value.ownBlock])); obtain ⟨k0, k1, k2, k3, k4⟩ := blk5 HBXg1.out; have fz := HBXg1.out.frozen 3)
  clear k0 k1 k2 k3 k4 fz
  obtain ⟨s2, hs⟩ : ∃ s2, s2 = g1.setCell ⟨w.heap.size, 3, none⟩ (.slice B1 x.consts.length m1) := ⟨_, rfl⟩
  rw [← hs]
  have HBX2 : Hid (Blk s2 w.heap.size 40 #[.int .i64 x.regs, .int .i64 x.slots, .slice B0 x.inputs.length m0, .slice B1 x.consts.length m1, .slice Al x.list.length nl]) := Lib.hid (by rw [hs]; exact HBXg1.out.set_ 3 _)
  have HT2 : Hid (s1.heap.size ≤ s2.heap.size ∧ Below w.heap.size w s2 ∧ KeepQ (fun b => w.heap.size + 1 ≤ b ∧ b < s1.heap.size) s1 s2 ∧ s2.ownsRow s1.heap.size 88 2 (.slice B1 x.consts.length m1) x.consts.length cv.flatten) := Lib.hid (by
    have hsz : s2.heap.size = g1.heap.size := by rw [hs]; simp [World.setCell]
    refine ⟨by rw [hsz]; exact HG1.out.size, ?_, ?_, ?_⟩
    · rw [hs]; exact (HP1.out.grown HG1.out HP1.out.size (fun g e => by simp [Value.ownBlock] at e)).setCell (Nat.le_refl _) _
    · rw [hs]; exact (KeepQ.of_grown HG1.out (fun b _ => by simp [Value.ownBlock])).trans (KeepQ.of_set (fun b hb => by simp only; omega))
    · rw [hs]; exact own_set HO1.out (by have := HW1.out; simp only; omega) _)
  have HP2 := Lib.hid HT2.out.2.1
  have HW2 : Hid (w.heap.size + 2 ≤ s2.heap.size) := Lib.hid (Nat.le_trans HW1.out HT2.out.1)
  have HZ2 := Lib.hid (show Blk s2 (w.heap.size + 1) 40 #[.int .i64 0, .int .i64 0, .slice none 0 0, .slice none 0 0, .slice none 0 0] by rw [hs]; exact (HZ1.out.grown HG1.out (by simp [Value.ownBlock])).far (p := ⟨w.heap.size, 3, none⟩) (by simp) _)
  have R3 := Lib.hid (HRL.out.below HP2.out)
  clear hs
  obtain ⟨k0, k1, k2, k3, k4⟩ := blk5 HBX2.out
  go_upto_region 4 with (at_builtin; refine wpList_append_any _ rfl _ _ 38 rfl s2.heap.size 75 i5 _ 4 32 Try.underlying38 hi5 hz5 hs5 hb5 rfl (by omega) (.slice none 0 0) 0 [] rfl (World.ownsRow_nil _ _ _ _) w.heap.size Al x.list.length nl cl.flatten rfl R3.out OL.out (by unfold maxLen; omega) (by omega) (Nat.le_refl _) ?_; intro v9 g2 ho hg _; simp only [Nat.zero_add, List.nil_append] at ho; obtain ⟨B2, m2, rfl⟩ := own_slice ho; have HO2 := Lib.hid ho; have HG2 := Lib.hid hg; clear ho hg k0 k1 k2 k3 k4; have HBXg2 := Lib.hid (HBX2.out.grown HG2.out (by simp [Value.ownBlock])); obtain ⟨k0, k1, k2, k3, k4⟩ := blk5 HBXg2.out; have fz := HBXg2.out.frozen 4)
  clear k0 k1 k2 k3 k4 fz
  obtain ⟨s3, hs⟩ : ∃ s3, s3 = g2.setCell ⟨w.heap.size, 4, none⟩ (.slice B2 x.list.length m2) := ⟨_, rfl⟩
  rw [← hs]
  have HBX3 : Hid (Blk s3 w.heap.size 40 #[.int .i64 x.regs, .int .i64 x.slots, .slice B0 x.inputs.length m0, .slice B1 x.consts.length m1, .slice B2 x.list.length m2]) := Lib.hid (by rw [hs]; exact HBXg2.out.set_ 4 _)
  have HT3 : Hid (s2.heap.size ≤ s3.heap.size ∧ Below w.heap.size w s3 ∧ KeepQ (fun b => w.heap.size + 1 ≤ b ∧ b < s2.heap.size) s2 s3 ∧ s3.ownsRow s2.heap.size 75 4 (.slice B2 x.list.length m2) x.list.length cl.flatten) := Lib.hid (by
    have hsz : s3.heap.size = g2.heap.size := by rw [hs]; simp [World.setCell]
    refine ⟨by rw [hsz]; exact HG2.out.size, ?_, ?_, ?_⟩
    · rw [hs]; exact (HP2.out.grown HG2.out HP2.out.size (fun g e => by simp [Value.ownBlock] at e)).setCell (Nat.le_refl _) _
    · rw [hs]; exact (KeepQ.of_grown HG2.out (fun b _ => by simp [Value.ownBlock])).trans (KeepQ.of_set (fun b hb => by simp only; omega))
    · rw [hs]; exact own_set HO2.out (by have := HW2.out; simp only; omega) _)
  have HP3 := Lib.hid HT3.out.2.1
  have HW3 : Hid (w.heap.size + 2 ≤ s3.heap.size) := Lib.hid (Nat.le_trans HW2.out HT3.out.1)
  have HZ3 := Lib.hid (show Blk s3 (w.heap.size + 1) 40 #[.int .i64 0, .int .i64 0, .slice none 0 0, .slice none 0 0, .slice none 0 0] by rw [hs]; exact (HZ2.out.grown HG2.out (by simp [Value.ownBlock])).far (p := ⟨w.heap.size, 4, none⟩) (by simp) _)
  clear hs
  have HBZ3 : Hid (Blk s3 (w.heap.size + 1) 40 #[.int .i64 0, .int .i64 0, .slice none 0 0, .slice none 0 0, .slice none 0 0]) := Lib.hid HZ3.out
  obtain ⟨k0, k1, k2, k3, k4⟩ := blk5 HBX3.out
  obtain ⟨z0, z1, z2, z3, z4⟩ := blk5 HBZ3.out
  have y0 := HBZ3.out.frozen 0
  have y1 := HBZ3.out.frozen 1
  have y2 := HBZ3.out.frozen 2
  have y3 := HBZ3.out.frozen 3
  have y4 := HBZ3.out.frozen 4
  go_wp2_with fail
  clear k0 k1 k2 k3 k4 z0 z1 z2 z3 z4 y0 y1 y2 y3 y4
  have HBF := Lib.hid (((((HBZ3.out.set_ 0 (.int .i64 x.regs)).set_ 1 (.int .i64 x.slots)).set_ 2 (.slice B0 x.inputs.length m0)).set_ 3 (.slice B1 x.consts.length m1)).set_ 4 (.slice B2 x.list.length m2))
  obtain ⟨W5, hW5⟩ : ∃ W5, W5 = ((((s3.setCell ⟨w.heap.size + 1, 0, none⟩ (.int .i64 x.regs)).setCell ⟨w.heap.size + 1, 1, none⟩ (.int .i64 x.slots)).setCell ⟨w.heap.size + 1, 2, none⟩ (.slice B0 x.inputs.length m0)).setCell ⟨w.heap.size + 1, 3, none⟩ (.slice B1 x.consts.length m1)).setCell ⟨w.heap.size + 1, 4, none⟩ (.slice B2 x.list.length m2) := ⟨_, rfl⟩
  rw [← hW5] at HBF ⊢
  have KF : KeepQ (fun b => w.heap.size + 2 ≤ b) s3 W5 := by
    rw [hW5]
    refine ((((KeepQ.of_set (fun b hb => ?_)).trans (KeepQ.of_set (fun b hb => ?_))).trans (KeepQ.of_set (fun b hb => ?_))).trans (KeepQ.of_set (fun b hb => ?_))).trans (KeepQ.of_set (fun b hb => ?_)) <;> (simp only; omega)
  have PF : Below w.heap.size w W5 := by
    rw [hW5]
    exact ((((HP3.out.setCell (by simp) _).setCell (by simp) _).setCell (by simp) _).setCell (by simp) _).setCell (by simp) _
  have hsz : W5.heap.size = s3.heap.size := by rw [hW5]; simp [World.setCell]
  have hw1s := HS1.out
  have t1 := HT1.out
  have t2 := HT2.out
  have t3 := HT3.out
  have J2 : KeepQ (fun b => w.heap.size + 2 ≤ b ∧ b < s2.heap.size) s2 W5 := fun p u hq hp => KF p u (by omega) (t3.2.2.1 p u (by omega) hp)
  have J1 : KeepQ (fun b => w.heap.size + 2 ≤ b ∧ b < s1.heap.size) s1 W5 := fun p u hq hp => J2 p u (by omega) (t2.2.2.1 p u (by omega) hp)
  have q1 : SlQ (fun b => w.heap.size + 2 ≤ b ∧ b < s1.heap.size) 4 InpC s1 (.slice B0 x.inputs.length m0) x.inputs := slq_of_own (hfi.keep fun _ _ h => h) t1.2.2.2 (fun g _ h1 h2 => by omega) (.inr trivial)
  have q2 : SlQ (fun b => w.heap.size + 2 ≤ b ∧ b < s2.heap.size) 2 ValC s2 (.slice B1 x.consts.length m1) x.consts := slq_of_own (hfv.keep fun _ _ h => h) t2.2.2.2 (fun g _ h1 h2 => by omega) (.inr trivial)
  have q3 : SlQ (fun b => w.heap.size + 2 ≤ b ∧ b < s3.heap.size) 4 InsC s3 (.slice B2 x.list.length m2) x.list := slq_of_own (hfl.keep fun _ _ h => h) t3.2.2.2 (fun g _ h1 h2 => by omega) (.inr trivial)
  have QF : CodeQ (fun b => w.heap.size ≤ b ∧ b < W5.heap.size) W5 [.int .i64 x.regs, .int .i64 x.slots, .slice B0 x.inputs.length m0, .slice B1 x.consts.length m1, .slice B2 x.list.length m2] x :=
    ⟨_, _, _, rfl, q1.keep J1 (fun b hb => by omega) fun _ _ h => h, q2.keep J2 (fun b hb => by omega) fun _ _ h => h, q3.keep (fun p u hq hp => KF p u (by omega) hp) (fun b hb => by omega) fun _ _ h => h, hw⟩
  have f0 := HBF.out.cell 0
  have f1 := HBF.out.cell 1
  have f2 := HBF.out.cell 2
  have f3 := HBF.out.cell 3
  have f4 := HBF.out.cell 4
  exact bodyPost_ret (v := .agg #[.int .i64 x.regs, .int .i64 x.slots, .slice B0 x.inputs.length m0, .slice B1 x.consts.length m1, .slice B2 x.list.length m2]) (by simp [results, Try.results19, go_sem, f0, f1, f2, f3, f4]) rfl ⟨_, _, _, rfl, QF, PF⟩
end Go.Proofs.Ytioocaicmiggoaa

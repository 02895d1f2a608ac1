/-
  The walk of small: the chapter's example.
-/
import Derived.Test.YtioocaicmiggoaaLcc
import Derived.Test.YtioocaicmiggoaaTwq
namespace Go.Proofs.Ytioocaicmiggoaa
set_option linter.unusedVariables false
set_option linter.unusedSimpArgs false
open Go.RowKit Go.Deep Go.Maps

def smallC : TCode := ⟨1, 0, [⟨25, 1, 0, 0⟩], [], [⟨50, 0, 0, 0⟩, ⟨52, 0, 0, 0⟩]⟩
def smallT (many : Bool) : TTab := ⟨3, [], [[]], 0, 1, 1, [⟨-1, 0, many, 0, [], -1, 0, []⟩], [smallC]⟩
theorem slr_one {α : Type} {F : Nat} {R : World → List Value → α → Prop} {w : World} {b : Nat} {t : TypeId} {cs : Array Value} {x : α} (h : Blk w b t cs) (hF : cs.size = F) (hR : R w cs.toList x) : SlR F R w (.slice (some ⟨b, 0, none⟩) 1 1) [x] :=
  ⟨some ⟨b, 0, none⟩, 1, rfl, Nat.le_refl _, by decide, fun _ => ⟨b, 0, rfl, fun i y hy => by
    match i, hy with
    | 0, hy =>
      simp at hy; subst hy
      refine ⟨cs.toList, by simpa using hF, hR, fun j u hu => ?_⟩
      rw [show 0 + 0 * F + j = j by omega, h.cell j, ← Array.getElem?_toList]
      exact hu⟩⟩
def SmallP (many : Bool) (w : World) (e : Ending) (w' : World) : Prop :=
  ∃ vk vkk vs vc, e = .returned (.agg #[.int .i64 3, vk, vkk, .int .i64 0, .int .i64 1, .int .i64 1, vs, vc]) ∧ TabX w' (smallT many) vk vkk vs vc ∧ Below w.heap.size w w' ∧
    ∃ g vi vl, vc = .slice (some ⟨g, 0, none⟩) 1 1 ∧ w.heap.size ≤ g ∧ Blk w' g 40 #[.int .i64 1, .int .i64 0, vi, .slice none 0 0, vl] ∧ CodeQ (fun b => w.heap.size ≤ b) w' [.int .i64 1, .int .i64 0, vi, .slice none 0 0, vl] smallC
theorem wfi_of {a : Int} (h : -9223372036854775808 ≤ a ∧ a ≤ 9223372036854775807) : wfi a := by unfold wfi; simp only [Lit.wf, Bool.and_eq_true, decide_eq_true_eq]; exact h
set_option maxRecDepth 100000 in
theorem small_mem (many : Bool) (w : World) : TabX (((((((w.alloc (.cells #[.int .i64 3, .slice none 0 0, .slice (some ⟨w.heap.size + 1 + 1 + 1 + 1, 0, none⟩) 1 1, .int .i64 0, .int .i64 1, .int .i64 1, .slice (some ⟨w.heap.size + 1 + 1 + 1 + 1 + 1, 0, none⟩) 1 1, .slice (some ⟨w.heap.size + 1 + 1 + 1 + 1 + 1 + 1, 0, none⟩) 1 1] 27)).alloc (.cells #[.int .i64 25, .int .i64 1, .int .i64 0, .int .i64 0] 70)).alloc (.cells #[.int .i64 50, .int .i64 0, .int .i64 0, .int .i64 0, .int .i64 52, .int .i64 0, .int .i64 0, .int .i64 0] 75)).alloc (.cells #[.int .i64 1, .int .i64 0, .slice (some ⟨w.heap.size + 1, 0, none⟩) 1 1, .slice none 0 0, .slice (some ⟨w.heap.size + 1 + 1, 0, none⟩) 2 2] 40)).alloc (.cells #[.slice none 0 0] 22)).alloc (.cells #[.int .i64 (-1), .int .i64 0, .bool many, .int .i64 0, .slice none 0 0, .int .i64 (-1), .int .i64 0, .slice none 0 0] 46)).alloc (.cells #[.int .i64 1, .int .i64 0, .slice (some ⟨w.heap.size + 1, 0, none⟩) 1 1, .slice none 0 0, .slice (some ⟨w.heap.size + 1 + 1, 0, none⟩) 2 2] 40)) (smallT many) (.slice none 0 0) (.slice (some ⟨w.heap.size + 1 + 1 + 1 + 1, 0, none⟩) 1 1) (.slice (some ⟨w.heap.size + 1 + 1 + 1 + 1 + 1, 0, none⟩) 1 1) (.slice (some ⟨w.heap.size + 1 + 1 + 1 + 1 + 1 + 1, 0, none⟩) 1 1) ∧ Below w.heap.size w (((((((w.alloc (.cells #[.int .i64 3, .slice none 0 0, .slice (some ⟨w.heap.size + 1 + 1 + 1 + 1, 0, none⟩) 1 1, .int .i64 0, .int .i64 1, .int .i64 1, .slice (some ⟨w.heap.size + 1 + 1 + 1 + 1 + 1, 0, none⟩) 1 1, .slice (some ⟨w.heap.size + 1 + 1 + 1 + 1 + 1 + 1, 0, none⟩) 1 1] 27)).alloc (.cells #[.int .i64 25, .int .i64 1, .int .i64 0, .int .i64 0] 70)).alloc (.cells #[.int .i64 50, .int .i64 0, .int .i64 0, .int .i64 0, .int .i64 52, .int .i64 0, .int .i64 0, .int .i64 0] 75)).alloc (.cells #[.int .i64 1, .int .i64 0, .slice (some ⟨w.heap.size + 1, 0, none⟩) 1 1, .slice none 0 0, .slice (some ⟨w.heap.size + 1 + 1, 0, none⟩) 2 2] 40)).alloc (.cells #[.slice none 0 0] 22)).alloc (.cells #[.int .i64 (-1), .int .i64 0, .bool many, .int .i64 0, .slice none 0 0, .int .i64 (-1), .int .i64 0, .slice none 0 0] 46)).alloc (.cells #[.int .i64 1, .int .i64 0, .slice (some ⟨w.heap.size + 1, 0, none⟩) 1 1, .slice none 0 0, .slice (some ⟨w.heap.size + 1 + 1, 0, none⟩) 2 2] 40)) ∧ Blk (((((((w.alloc (.cells #[.int .i64 3, .slice none 0 0, .slice (some ⟨w.heap.size + 1 + 1 + 1 + 1, 0, none⟩) 1 1, .int .i64 0, .int .i64 1, .int .i64 1, .slice (some ⟨w.heap.size + 1 + 1 + 1 + 1 + 1, 0, none⟩) 1 1, .slice (some ⟨w.heap.size + 1 + 1 + 1 + 1 + 1 + 1, 0, none⟩) 1 1] 27)).alloc (.cells #[.int .i64 25, .int .i64 1, .int .i64 0, .int .i64 0] 70)).alloc (.cells #[.int .i64 50, .int .i64 0, .int .i64 0, .int .i64 0, .int .i64 52, .int .i64 0, .int .i64 0, .int .i64 0] 75)).alloc (.cells #[.int .i64 1, .int .i64 0, .slice (some ⟨w.heap.size + 1, 0, none⟩) 1 1, .slice none 0 0, .slice (some ⟨w.heap.size + 1 + 1, 0, none⟩) 2 2] 40)).alloc (.cells #[.slice none 0 0] 22)).alloc (.cells #[.int .i64 (-1), .int .i64 0, .bool many, .int .i64 0, .slice none 0 0, .int .i64 (-1), .int .i64 0, .slice none 0 0] 46)).alloc (.cells #[.int .i64 1, .int .i64 0, .slice (some ⟨w.heap.size + 1, 0, none⟩) 1 1, .slice none 0 0, .slice (some ⟨w.heap.size + 1 + 1, 0, none⟩) 2 2] 40)) (w.heap.size + 1 + 1 + 1 + 1 + 1 + 1) 40 #[.int .i64 1, .int .i64 0, .slice (some ⟨w.heap.size + 1, 0, none⟩) 1 1, .slice none 0 0, .slice (some ⟨w.heap.size + 1 + 1, 0, none⟩) 2 2] ∧ CodeQ (fun b => w.heap.size ≤ b) (((((((w.alloc (.cells #[.int .i64 3, .slice none 0 0, .slice (some ⟨w.heap.size + 1 + 1 + 1 + 1, 0, none⟩) 1 1, .int .i64 0, .int .i64 1, .int .i64 1, .slice (some ⟨w.heap.size + 1 + 1 + 1 + 1 + 1, 0, none⟩) 1 1, .slice (some ⟨w.heap.size + 1 + 1 + 1 + 1 + 1 + 1, 0, none⟩) 1 1] 27)).alloc (.cells #[.int .i64 25, .int .i64 1, .int .i64 0, .int .i64 0] 70)).alloc (.cells #[.int .i64 50, .int .i64 0, .int .i64 0, .int .i64 0, .int .i64 52, .int .i64 0, .int .i64 0, .int .i64 0] 75)).alloc (.cells #[.int .i64 1, .int .i64 0, .slice (some ⟨w.heap.size + 1, 0, none⟩) 1 1, .slice none 0 0, .slice (some ⟨w.heap.size + 1 + 1, 0, none⟩) 2 2] 40)).alloc (.cells #[.slice none 0 0] 22)).alloc (.cells #[.int .i64 (-1), .int .i64 0, .bool many, .int .i64 0, .slice none 0 0, .int .i64 (-1), .int .i64 0, .slice none 0 0] 46)).alloc (.cells #[.int .i64 1, .int .i64 0, .slice (some ⟨w.heap.size + 1, 0, none⟩) 1 1, .slice none 0 0, .slice (some ⟨w.heap.size + 1 + 1, 0, none⟩) 2 2] 40)) [.int .i64 1, .int .i64 0, .slice (some ⟨w.heap.size + 1, 0, none⟩) 1 1, .slice none 0 0, .slice (some ⟨w.heap.size + 1 + 1, 0, none⟩) 2 2] smallC := by
  obtain ⟨w0, h0⟩ : ∃ w0, w0 = w := ⟨_, rfl⟩
  obtain ⟨w1, h1⟩ : ∃ w1, w1 = w0.alloc (.cells #[.int .i64 3, .slice none 0 0, .slice (some ⟨w.heap.size + 1 + 1 + 1 + 1, 0, none⟩) 1 1, .int .i64 0, .int .i64 1, .int .i64 1, .slice (some ⟨w.heap.size + 1 + 1 + 1 + 1 + 1, 0, none⟩) 1 1, .slice (some ⟨w.heap.size + 1 + 1 + 1 + 1 + 1 + 1, 0, none⟩) 1 1] 27) := ⟨_, rfl⟩
  have s1 : w1.heap.size = w.heap.size + 1 := by rw [h1, World.size_alloc, h0]
  obtain ⟨w2, h2⟩ : ∃ w2, w2 = w1.alloc (.cells #[.int .i64 25, .int .i64 1, .int .i64 0, .int .i64 0] 70) := ⟨_, rfl⟩
  have s2 : w2.heap.size = w.heap.size + 1 + 1 := by rw [h2, World.size_alloc, s1]
  obtain ⟨w3, h3⟩ : ∃ w3, w3 = w2.alloc (.cells #[.int .i64 50, .int .i64 0, .int .i64 0, .int .i64 0, .int .i64 52, .int .i64 0, .int .i64 0, .int .i64 0] 75) := ⟨_, rfl⟩
  have s3 : w3.heap.size = w.heap.size + 1 + 1 + 1 := by rw [h3, World.size_alloc, s2]
  obtain ⟨w4, h4⟩ : ∃ w4, w4 = w3.alloc (.cells #[.int .i64 1, .int .i64 0, .slice (some ⟨w.heap.size + 1, 0, none⟩) 1 1, .slice none 0 0, .slice (some ⟨w.heap.size + 1 + 1, 0, none⟩) 2 2] 40) := ⟨_, rfl⟩
  have s4 : w4.heap.size = w.heap.size + 1 + 1 + 1 + 1 := by rw [h4, World.size_alloc, s3]
  obtain ⟨w5, h5⟩ : ∃ w5, w5 = w4.alloc (.cells #[.slice none 0 0] 22) := ⟨_, rfl⟩
  have s5 : w5.heap.size = w.heap.size + 1 + 1 + 1 + 1 + 1 := by rw [h5, World.size_alloc, s4]
  obtain ⟨w6, h6⟩ : ∃ w6, w6 = w5.alloc (.cells #[.int .i64 (-1), .int .i64 0, .bool many, .int .i64 0, .slice none 0 0, .int .i64 (-1), .int .i64 0, .slice none 0 0] 46) := ⟨_, rfl⟩
  have s6 : w6.heap.size = w.heap.size + 1 + 1 + 1 + 1 + 1 + 1 := by rw [h6, World.size_alloc, s5]
  obtain ⟨w7, h7⟩ : ∃ w7, w7 = w6.alloc (.cells #[.int .i64 1, .int .i64 0, .slice (some ⟨w.heap.size + 1, 0, none⟩) 1 1, .slice none 0 0, .slice (some ⟨w.heap.size + 1 + 1, 0, none⟩) 2 2] 40) := ⟨_, rfl⟩
  have s7 : w7.heap.size = w.heap.size + 1 + 1 + 1 + 1 + 1 + 1 + 1 := by rw [h7, World.size_alloc, s6]
  have b1 : Blk w7 (w.heap.size + 1) 70 #[.int .i64 25, .int .i64 1, .int .i64 0, .int .i64 0] := by
    have h := Blk.new w1 70 #[.int .i64 25, .int .i64 1, .int .i64 0, .int .i64 0]
    rw [← h2, s1] at h
    have q1 := h
    have h := h.alloc (.cells #[.int .i64 50, .int .i64 0, .int .i64 0, .int .i64 0, .int .i64 52, .int .i64 0, .int .i64 0, .int .i64 0] 75)
    rw [← h3] at h
    have h := h.alloc (.cells #[.int .i64 1, .int .i64 0, .slice (some ⟨w.heap.size + 1, 0, none⟩) 1 1, .slice none 0 0, .slice (some ⟨w.heap.size + 1 + 1, 0, none⟩) 2 2] 40)
    rw [← h4] at h
    have h := h.alloc (.cells #[.slice none 0 0] 22)
    rw [← h5] at h
    have h := h.alloc (.cells #[.int .i64 (-1), .int .i64 0, .bool many, .int .i64 0, .slice none 0 0, .int .i64 (-1), .int .i64 0, .slice none 0 0] 46)
    rw [← h6] at h
    have h := h.alloc (.cells #[.int .i64 1, .int .i64 0, .slice (some ⟨w.heap.size + 1, 0, none⟩) 1 1, .slice none 0 0, .slice (some ⟨w.heap.size + 1 + 1, 0, none⟩) 2 2] 40)
    rw [← h7] at h
    exact h
  have b2 : Blk w7 (w.heap.size + 1 + 1) 75 #[.int .i64 50, .int .i64 0, .int .i64 0, .int .i64 0, .int .i64 52, .int .i64 0, .int .i64 0, .int .i64 0] := by
    have h := Blk.new w2 75 #[.int .i64 50, .int .i64 0, .int .i64 0, .int .i64 0, .int .i64 52, .int .i64 0, .int .i64 0, .int .i64 0]
    rw [← h3, s2] at h
    have q2 := h
    have h := h.alloc (.cells #[.int .i64 1, .int .i64 0, .slice (some ⟨w.heap.size + 1, 0, none⟩) 1 1, .slice none 0 0, .slice (some ⟨w.heap.size + 1 + 1, 0, none⟩) 2 2] 40)
    rw [← h4] at h
    have h := h.alloc (.cells #[.slice none 0 0] 22)
    rw [← h5] at h
    have h := h.alloc (.cells #[.int .i64 (-1), .int .i64 0, .bool many, .int .i64 0, .slice none 0 0, .int .i64 (-1), .int .i64 0, .slice none 0 0] 46)
    rw [← h6] at h
    have h := h.alloc (.cells #[.int .i64 1, .int .i64 0, .slice (some ⟨w.heap.size + 1, 0, none⟩) 1 1, .slice none 0 0, .slice (some ⟨w.heap.size + 1 + 1, 0, none⟩) 2 2] 40)
    rw [← h7] at h
    exact h
  have b4 : Blk w7 (w.heap.size + 1 + 1 + 1 + 1) 22 #[.slice none 0 0] := by
    have h := Blk.new w4 22 #[.slice none 0 0]
    rw [← h5, s4] at h
    have q4 := h
    have h := h.alloc (.cells #[.int .i64 (-1), .int .i64 0, .bool many, .int .i64 0, .slice none 0 0, .int .i64 (-1), .int .i64 0, .slice none 0 0] 46)
    rw [← h6] at h
    have h := h.alloc (.cells #[.int .i64 1, .int .i64 0, .slice (some ⟨w.heap.size + 1, 0, none⟩) 1 1, .slice none 0 0, .slice (some ⟨w.heap.size + 1 + 1, 0, none⟩) 2 2] 40)
    rw [← h7] at h
    exact h
  have b5 : Blk w7 (w.heap.size + 1 + 1 + 1 + 1 + 1) 46 #[.int .i64 (-1), .int .i64 0, .bool many, .int .i64 0, .slice none 0 0, .int .i64 (-1), .int .i64 0, .slice none 0 0] := by
    have h := Blk.new w5 46 #[.int .i64 (-1), .int .i64 0, .bool many, .int .i64 0, .slice none 0 0, .int .i64 (-1), .int .i64 0, .slice none 0 0]
    rw [← h6, s5] at h
    have q5 := h
    have h := h.alloc (.cells #[.int .i64 1, .int .i64 0, .slice (some ⟨w.heap.size + 1, 0, none⟩) 1 1, .slice none 0 0, .slice (some ⟨w.heap.size + 1 + 1, 0, none⟩) 2 2] 40)
    rw [← h7] at h
    exact h
  have b6 : Blk w7 (w.heap.size + 1 + 1 + 1 + 1 + 1 + 1) 40 #[.int .i64 1, .int .i64 0, .slice (some ⟨w.heap.size + 1, 0, none⟩) 1 1, .slice none 0 0, .slice (some ⟨w.heap.size + 1 + 1, 0, none⟩) 2 2] := by
    have h := Blk.new w6 40 #[.int .i64 1, .int .i64 0, .slice (some ⟨w.heap.size + 1, 0, none⟩) 1 1, .slice none 0 0, .slice (some ⟨w.heap.size + 1 + 1, 0, none⟩) 2 2]
    rw [← h7, s6] at h
    have q6 := h
    exact h
  have e : (((((((w.alloc (.cells #[.int .i64 3, .slice none 0 0, .slice (some ⟨w.heap.size + 1 + 1 + 1 + 1, 0, none⟩) 1 1, .int .i64 0, .int .i64 1, .int .i64 1, .slice (some ⟨w.heap.size + 1 + 1 + 1 + 1 + 1, 0, none⟩) 1 1, .slice (some ⟨w.heap.size + 1 + 1 + 1 + 1 + 1 + 1, 0, none⟩) 1 1] 27)).alloc (.cells #[.int .i64 25, .int .i64 1, .int .i64 0, .int .i64 0] 70)).alloc (.cells #[.int .i64 50, .int .i64 0, .int .i64 0, .int .i64 0, .int .i64 52, .int .i64 0, .int .i64 0, .int .i64 0] 75)).alloc (.cells #[.int .i64 1, .int .i64 0, .slice (some ⟨w.heap.size + 1, 0, none⟩) 1 1, .slice none 0 0, .slice (some ⟨w.heap.size + 1 + 1, 0, none⟩) 2 2] 40)).alloc (.cells #[.slice none 0 0] 22)).alloc (.cells #[.int .i64 (-1), .int .i64 0, .bool many, .int .i64 0, .slice none 0 0, .int .i64 (-1), .int .i64 0, .slice none 0 0] 46)).alloc (.cells #[.int .i64 1, .int .i64 0, .slice (some ⟨w.heap.size + 1, 0, none⟩) 1 1, .slice none 0 0, .slice (some ⟨w.heap.size + 1 + 1, 0, none⟩) 2 2] 40)) = w7 := by rw [h7, h6, h5, h4, h3, h2, h1, h0]
  rw [e]
  have hb : Below w.heap.size w w7 := by
    rw [← e]
    exact (((((((Below.refl _ _).alloc (Nat.le_refl _) _).alloc (by simp) _).alloc (by simp; omega) _).alloc (by simp; omega) _).alloc (by simp; omega) _).alloc (by simp; omega) _).alloc (by simp; omega) _
  clear e
  have q2 : SlQ (fun b => w.heap.size ≤ b) 4 InsC w7 (.slice (some ⟨w.heap.size + 1 + 1, 0, none⟩) 2 2) smallC.list := by
    refine ⟨some ⟨w.heap.size + 1 + 1, 0, none⟩, 2, rfl, Nat.le_refl _, by decide, fun _ => ⟨w.heap.size + 1 + 1, 0, rfl, (by omega), fun i x hx => ?_⟩⟩
    match i, hx with
    | 0, hx =>
      have hx : some (⟨50, 0, 0, 0⟩ : TIns) = some x := hx
      injection hx with hx; subst hx
      refine ⟨[.int .i64 50, .int .i64 0, .int .i64 0, .int .i64 0], rfl, ⟨rfl, rfl, rfl, rfl, rfl⟩, fun j u hu => ?_⟩
      have hj : j < 4 := (List.getElem?_eq_some_iff.1 hu).1
      rw [show 0 + 0 * 4 + j = j by omega, b2.cell j]
      match j, hj, hu with
      | 0, _, hu => exact hu
      | 1, _, hu => exact hu
      | 2, _, hu => exact hu
      | 3, _, hu => exact hu
    | 1, hx =>
      have hx : some (⟨52, 0, 0, 0⟩ : TIns) = some x := hx
      injection hx with hx; subst hx
      refine ⟨[.int .i64 52, .int .i64 0, .int .i64 0, .int .i64 0], rfl, ⟨rfl, rfl, rfl, rfl, rfl⟩, fun j u hu => ?_⟩
      have hj : j < 4 := (List.getElem?_eq_some_iff.1 hu).1
      rw [show 0 + 1 * 4 + j = j + 4 by omega, b2.cell (j + 4)]
      match j, hj, hu with
      | 0, _, hu => exact hu
      | 1, _, hu => exact hu
      | 2, _, hu => exact hu
      | 3, _, hu => exact hu
    | i + 2, hx => simp [smallC] at hx
  have q1 : SlQ (fun b => w.heap.size ≤ b) 4 InpC w7 (.slice (some ⟨w.heap.size + 1, 0, none⟩) 1 1) smallC.inputs := by
    refine ⟨some ⟨w.heap.size + 1, 0, none⟩, 1, rfl, Nat.le_refl _, by decide, fun _ => ⟨w.heap.size + 1, 0, rfl, (by omega), fun i x hx => ?_⟩⟩
    match i, hx with
    | 0, hx =>
      have hx : some (⟨25, 1, 0, 0⟩ : TInp) = some x := hx
      injection hx with hx; subst hx
      refine ⟨[.int .i64 25, .int .i64 1, .int .i64 0, .int .i64 0], rfl, ⟨rfl, rfl, rfl, rfl, rfl⟩, fun j u hu => ?_⟩
      rw [show 0 + 0 * 4 + j = j by omega, b1.cell j, ← Array.getElem?_toList]
      exact hu
    | i + 1, hx => simp [smallC] at hx
  have qc : CodeQ (fun b => w.heap.size ≤ b) w7 [.int .i64 1, .int .i64 0, .slice (some ⟨w.heap.size + 1, 0, none⟩) 1 1, .slice none 0 0, .slice (some ⟨w.heap.size + 1 + 1, 0, none⟩) 2 2] smallC := ⟨_, _, _, rfl, q1, SlQ.nil _ _ _, q2, rfl, rfl⟩
  exact ⟨⟨SlR.nil _ _ _, slr_one b4 rfl ⟨_, rfl, SlR.nil _ _ _⟩, slr_one b5 rfl ⟨_, _, rfl, SlR.nil _ _ _, SlR.nil _ _ _, rfl, rfl, rfl, rfl, rfl⟩, slr_one b6 rfl qc.out, rfl, rfl, rfl, rfl⟩, hb, b6, qc⟩
set_option maxRecDepth 100000 in
set_option maxHeartbeats 4000000 in
theorem small_any (many : Bool) (w : World) : Calls Try.prog 15 #[.bool many] w (SmallP many w) := by
  have HS := Lib.hid (small_mem many w)
  go_enter Try.func15, Try.ntmps15
  go_wp2_with fail
  exact bodyPost_ret (v := .agg #[.int .i64 3, .slice none 0 0, .slice (some ⟨w.heap.size + 1 + 1 + 1 + 1, 0, none⟩) 1 1, .int .i64 0, .int .i64 1, .int .i64 1, .slice (some ⟨w.heap.size + 1 + 1 + 1 + 1 + 1, 0, none⟩) 1 1, .slice (some ⟨w.heap.size + 1 + 1 + 1 + 1 + 1 + 1, 0, none⟩) 1 1]) (by simp [results, Try.results15, go_sem]) rfl ⟨_, _, _, _, rfl, HS.out.1, HS.out.2.1, _, _, _, rfl, by omega, HS.out.2.2.1, HS.out.2.2.2⟩
theorem small_yes : verT (smallT true) = true := by decide
theorem small_no : verT (smallT false) = false := by decide
theorem small_path : (pathT (smallT true).states 0).length = 1 := by decide
end Go.Proofs.Ytioocaicmiggoaa

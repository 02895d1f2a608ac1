/-
  The document's pool, written: a field, a cell, one cell more. No walk.
-/
import Derived.Test.YtcgapjicbgfpjaaRefu
namespace Go.Proofs.Ytcgapjicbgfpjaa
set_option linter.unusedVariables false
set_option linter.unusedSimpArgs false
open Go.RowKit Go.Maps

theorem info_rcell : (Try.prog.info? 47).map (fun i => (i.size, i.bytes)) = some (6, 48) := by kernel_rfl
section
variable {w w' : World} {base B : Nat} {S : St} {m : Int} {v v' : Value}
theorem Moved.grown (hg : w.grownBy w' v.ownBlock) (ha : v'.ownBlock = v.ownBlock ∨ v'.ownBlock = some w.heap.size) : Moved w w' B v v' :=
  ⟨⟨hg.os, hg.tape, hg.output, hg.size, fun g hg2 hn => hg.block g hg2 (fun e => hn.2 e.symm)⟩, ha.imp id fun h g e => by rw [h] at e; injection e with e; omega⟩
theorem Moved.setB (i : Nat) (u : Value) : Moved w (w.setCell ⟨B, i, none⟩ u) B v v := ⟨(KeptT.refl _ w).setCell (p := ⟨B, i, none⟩) (fun h => h.1 rfl) u, .inl rfl⟩
theorem Moved.setRow {g : Nat} (hv : v.ownBlock = some g) (i : Nat) (u : Value) : Moved w (w.setCell ⟨g, i, none⟩ u) B v v := ⟨(KeptT.refl _ w).setCell (p := ⟨g, i, none⟩) (fun h => h.2 hv) u, .inl rfl⟩
theorem RefX.ne (h : RefX w base B S m v) : v.ownBlock ≠ some B := own_blk_ne h.row h.blk (by decide)
theorem RefX.grow {w2 : World} (h : RefX w base B S m v) (ho : w2.ownsRow base 47 6 v' (S.length + 1) (S.flatMap refL ++ refL none)) (hg : w.grownBy w2 v.ownBlock) (ha : v'.ownBlock = v.ownBlock ∨ v'.ownBlock = some w.heap.size) :
    RefX (w2.setCell ⟨B, 0, none⟩ v') base B (S ++ [none]) m v' ∧ Moved w (w2.setCell ⟨B, 0, none⟩ v') B v v' := by
  have hb2 := h.blk.grown hg (fun e => h.ne e.symm)
  have hne : v'.ownBlock ≠ some B := own_blk_ne ho hb2 (by decide)
  refine ⟨⟨hb2.set_ 0 v', ?_, h.hB⟩, (Moved.grown hg ha).trans (Moved.setB 0 v')⟩
  have h1 : w2.grownBy (w2.setCell ⟨B, 0, none⟩ v') (some B) := only_setCell (p := ⟨B, 0, none⟩) (World.grownBy.refl w2 (some B)) (.inl rfl) v'
  have h2 := ho.kept h1 (.inr hne)
  simpa using h2
theorem RefX.set1 {g c : Nat} (h : RefX w base B S m (.slice (some ⟨g, 0, none⟩) S.length c)) {i : Nat} {o o' : Option Cl} (ho : S[i]? = some o) (j : Nat) (u : Value) (hj : j < 6) (hc : refL o' = (refL o).set j u) :
    RefX (w.setCell ⟨g, i * 6 + j, none⟩ u) base B (S.set i o') m (.slice (some ⟨g, 0, none⟩) S.length c) := by
  have hne := h.ne
  have hgB : B ≠ g := fun e => hne (by simp [Value.ownBlock, e])
  refine ⟨h.blk.far (p := ⟨g, i * 6 + j, none⟩) hgB u, ?_, h.hB⟩
  have o1 := (h.row.stored (i * 6 + j) u).1
  rw [flat6_set o o' j u hj hc S i ho] at o1
  rw [List.length_set]
  exact o1
def set6 (w : World) (g i : Nat) (a0 a1 a2 a3 a4 a5 : Value) : World :=
  (((((w.setCell ⟨g, i * 6, none⟩ a0).setCell ⟨g, i * 6 + 1, none⟩ a1).setCell ⟨g, i * 6 + 2, none⟩ a2).setCell ⟨g, i * 6 + 3, none⟩ a3).setCell ⟨g, i * 6 + 4, none⟩ a4).setCell ⟨g, i * 6 + 5, none⟩ a5
theorem RefX.setAll {g c : Nat} (h : RefX w base B S m (.slice (some ⟨g, 0, none⟩) S.length c)) {i : Nat} (hi : i < S.length) {o : Option Cl} {a0 a1 a2 a3 a4 a5 : Value} (ho : refL o = [a0, a1, a2, a3, a4, a5]) :
    RefX (set6 w g i a0 a1 a2 a3 a4 a5) base B (S.set i o) m (.slice (some ⟨g, 0, none⟩) S.length c) ∧ Moved w (set6 w g i a0 a1 a2 a3 a4 a5) B (.slice (some ⟨g, 0, none⟩) S.length c) (.slice (some ⟨g, 0, none⟩) S.length c) := by
  have hne := h.ne
  have hgB : B ≠ g := fun e => hne (by simp [Value.ownBlock, e])
  unfold set6
  refine ⟨⟨?_, ?_, h.hB⟩, ?_⟩
  · exact (((((h.blk.far (p := ⟨g, _, none⟩) hgB _).far (p := ⟨g, _, none⟩) hgB _).far (p := ⟨g, _, none⟩) hgB _).far (p := ⟨g, _, none⟩) hgB _).far (p := ⟨g, _, none⟩) hgB _).far (p := ⟨g, _, none⟩) hgB _
  · have o1 := (((((((h.row.stored (i * 6) a0).1.stored (i * 6 + 1) a1).1.stored (i * 6 + 2) a2).1.stored (i * 6 + 3) a3).1.stored (i * 6 + 4) a4).1.stored (i * 6 + 5) a5)).1
    rw [flat6_all a0 a1 a2 a3 a4 a5 o ho S i hi] at o1
    rw [List.length_set]
    exact o1
  · exact (((((Moved.setRow rfl _ _).trans (Moved.setRow rfl _ _)).trans (Moved.setRow rfl _ _)).trans (Moved.setRow rfl _ _)).trans (Moved.setRow rfl _ _)).trans (Moved.setRow rfl _ _)
theorem RefX.drewN (h : RefX w base B S m v) (n : Nat) : RefX (w.drewN n) base B S m v := ⟨h.blk.drewN n, h.row.kept (only_drewN (World.grownBy.refl w none) n) (by cases v.ownBlock <;> simp), h.hB⟩
end

section
variable {w : World} {base B : Nat} {S : St} {m : Int} {v : Value}
theorem RefX.push (h : RefX w base B S m v) (o : Obj) : (w.alloc o).ownsRow base 47 6 v S.length (S.flatMap refL) ∧ base ≤ (w.alloc o).heap.size ∧
    ∀ (v4 : Value) (w4 : World), w4.ownsRow base 47 6 v4 (S.length + 1) (S.flatMap refL ++ refL none) → (w.alloc o).grownBy w4 v.ownBlock → (v4.ownBlock = v.ownBlock ∨ v4.ownBlock = some (w.alloc o).heap.size) →
      ∃ g4 c4, v4 = .slice (some ⟨g4, 0, none⟩) (S.length + 1) c4 ∧ S.length + 1 ≤ c4 ∧ c4 ≤ maxLen ∧ w4.cell? ⟨B, 0, none⟩ = some v ∧ w4.frozen? ⟨B, 0, none⟩ = false ∧ RefX (w4.setCell ⟨B, 0, none⟩ v4) base B (S ++ [none]) m v4 ∧ Moved w (w4.setCell ⟨B, 0, none⟩ v4) B v v4 ∧
      g4 ≠ B ∧ (∀ j, w4.frozen? ⟨g4, j, none⟩ = false) ∧ w4.cell? ⟨g4, S.length * 6, none⟩ = some (.bool false) ∧ w4.cell? ⟨g4, S.length * 6 + 1, none⟩ = some (.int .i64 0) ∧ w4.cell? ⟨g4, S.length * 6 + 2, none⟩ = some (.int .i64 0) ∧
      w4.cell? ⟨g4, S.length * 6 + 3, none⟩ = some (.bool false) ∧ w4.cell? ⟨g4, S.length * 6 + 4, none⟩ = some (.int .i64 0) ∧ w4.cell? ⟨g4, S.length * 6 + 5, none⟩ = some (.int .i64 0) ∧ ∀ (i : Nat) (b : Cl), at? S i = some b → w4.cell? ⟨g4, i * 6 + 5, none⟩ = some (.int .i64 b.behind) := by
  have h1 := h.stay ((Below.refl w.heap.size w).alloc (Nat.le_refl _) o)
  refine ⟨h1.row, Nat.le_trans h.hB (Nat.le_of_lt h1.blk.lt), fun v4 w4 ho hg ha => ?_⟩
  obtain ⟨g4, c4, hv, _, _⟩ := ho.form (by omega)
  obtain ⟨h2, h3⟩ := own_caps (hv ▸ ho)
  have hb2 := h1.blk.grown hg (fun e => h1.ne e.symm)
  obtain ⟨k1, k2⟩ := h1.grow ho hg ha
  have hne : v4.ownBlock ≠ some B := own_blk_ne ho hb2 (by decide)
  subst hv
  have hl : (S.flatMap refL).length = S.length * 6 := by have := h.row.1; exact this
  have hq : ∀ j, j < 6 → w4.cell? ⟨g4, S.length * 6 + j, none⟩ = (refL none)[j]? := fun j hj => by
    rw [ho.cellAt (S.length * 6 + j) (by omega), List.getElem?_append_right (by omega), hl, show S.length * 6 + j - S.length * 6 = j by omega]
  exact ⟨g4, c4, rfl, h2, h3, hb2.cell 0, hb2.frozen 0, k1, (Moved.of_below ((Below.refl w.heap.size w).alloc (Nat.le_refl _) o) _ _).trans k2, fun e => hne (by simp [Value.ownBlock, e]), ho.frozenAt, hq 0 (by omega), hq 1 (by omega), hq 2 (by omega), hq 3 (by omega), hq 4 (by omega), hq 5 (by omega), fun i b hb => by
    have hi := at_lt hb
    rw [ho.cellAt (i * 6 + 5) (by omega), List.getElem?_append_left (by omega), flat6_at S i 5 _ (at_some.1 hb) (by omega)]; rfl⟩
theorem RefX.new_ (h : RefX w base B S m v) {i : Nat} {o : Option Cl} (hi : S[i]? = some o) (c : Cl) : ∃ g cp, v = .slice (some ⟨g, 0, none⟩) S.length cp ∧ S.length ≤ cp ∧ cp ≤ maxLen ∧ (∀ j, w.frozen? ⟨g, j, none⟩ = false) ∧
    (∃ a0 a1 a2 a3 a4 a5 : Value, w.cell? ⟨g, i * 6, none⟩ = some a0 ∧ w.cell? ⟨g, i * 6 + 1, none⟩ = some a1 ∧ w.cell? ⟨g, i * 6 + 2, none⟩ = some a2 ∧ w.cell? ⟨g, i * 6 + 3, none⟩ = some a3 ∧ w.cell? ⟨g, i * 6 + 4, none⟩ = some a4 ∧ w.cell? ⟨g, i * 6 + 5, none⟩ = some a5) ∧
    RefX (set6 w g i (.bool true) (.int .i64 c.prev) (.int .i64 c.event) (.bool c.fresh) (.int .i64 c.own) (.int .i64 c.behind)) base B (S.set i (some c)) m v ∧
    Moved w (set6 w g i (.bool true) (.int .i64 c.prev) (.int .i64 c.event) (.bool c.fresh) (.int .i64 c.own) (.int .i64 c.behind)) B v v := by
  have hi2 : i < S.length := (List.getElem?_eq_some_iff.1 hi).1
  obtain ⟨a0, a1, a2, a3, a4, a5, hl⟩ : ∃ a0 a1 a2 a3 a4 a5, refL o = [a0, a1, a2, a3, a4, a5] := by cases o <;> exact ⟨_, _, _, _, _, _, rfl⟩
  obtain ⟨g, cp, rfl, _, _, h1, h2, h3, q0, q1, q2, q3, q4, q5⟩ := h.six hi hl
  obtain ⟨k1, k2⟩ := h.setAll (o := some c) hi2 rfl
  exact ⟨g, cp, rfl, h1, h2, h3, ⟨a0, a1, a2, a3, a4, a5, q0, q1, q2, q3, q4, q5⟩, k1, k2⟩
end
/-- the first number that is free, from one on -/
def freeFrom (S : St) (j : Nat) : Nat := match (S.drop j).findIdx? (fun o => o.isNone) with
  | some q => j + q
  | none => S.length
theorem free_end (S : St) : freeFrom S S.length = S.length := by unfold freeFrom; rw [List.drop_length]; rfl
theorem free_here {S : St} {j : Nat} (hj : j < S.length) (h : at? S j = none) : freeFrom S j = j := by
  unfold freeFrom
  have e : S[j] = none := by unfold at? at h; rw [List.getElem?_eq_getElem hj] at h; exact h
  rw [List.drop_eq_getElem_cons hj, e, List.findIdx?_cons]
  rfl
theorem free_next {S : St} {j : Nat} {c : Cl} (h : at? S j = some c) : freeFrom S j = freeFrom S (j + 1) := by
  have hj := at_lt h
  unfold freeFrom
  rw [List.drop_eq_getElem_cons hj, get_of_at h, List.findIdx?_cons]
  cases (List.drop (j + 1) S).findIdx? (fun o => o.isNone) with
  | none => simp
  | some q => simp; omega
theorem free_le (S : St) (j : Nat) (hj : j ≤ S.length) : freeFrom S j ≤ S.length := by
  unfold freeFrom
  cases h : (List.drop j S).findIdx? (fun o => o.isNone) with
  | none => simp
  | some q =>
    rw [List.findIdx?_eq_some_iff_getElem] at h
    obtain ⟨hq, _⟩ := h
    simp at hq
    simp; omega
theorem free_put (S : St) (c : Cl) : (putS S c).2 = freeFrom S 0 ∧ (freeFrom S 0 < S.length → (putS S c).1 = S.set (freeFrom S 0) (some c)) ∧ (freeFrom S 0 = S.length → (putS S c).1 = (S ++ [none]).set S.length (some c)) := by
  unfold putS freeFrom
  rw [List.drop_zero]
  cases h : S.findIdx? (fun o => o.isNone) with
  | none => simp
  | some q =>
    rw [List.findIdx?_eq_some_iff_getElem] at h
    obtain ⟨hq, _⟩ := h
    simp; omega
/-- from one number on nobody has a key -/
def NoKey (S : St) (p e : Int) (f : Bool) (j : Nat) : Prop := ∀ k c, j ≤ k → at? S k = some c → ¬ (c.prev = p ∧ c.event = e ∧ c.fresh = f)
theorem noKey_end (S : St) (p e : Int) (f : Bool) : NoKey S p e f S.length := fun k c hk hc => by have := at_lt hc; omega
theorem noKey_zero {S : St} {p e : Int} {f : Bool} (h : NoKey S p e f 0) : idx S p e f = none := idx_not fun i c hc => h i c (Nat.zero_le _) hc
theorem noKey_none {S : St} {p e : Int} {f : Bool} {j : Nat} (h : NoKey S p e f (j + 1)) (hj : at? S j = none) : NoKey S p e f j := fun k c hk hc => by
  by_cases hkj : k = j
  · subst hkj; rw [hj] at hc; cases hc
  · exact h k c (by omega) hc
theorem noKey_some {S : St} {p e : Int} {f : Bool} {j : Nat} {d : Cl} (h : NoKey S p e f (j + 1)) (hj : at? S j = some d) (hd : ¬ (d.prev = p ∧ d.event = e ∧ d.fresh = f)) : NoKey S p e f j := fun k c hk hc => by
  by_cases hkj : k = j
  · subst hkj; rw [hj] at hc; injection hc with hc; subst hc; exact hd
  · exact h k c (by omega) hc
def RefAddPost (w : World) (base B : Nat) (v : Value) (m : Int) (S : St) (i : Int) (ok : Bool) (e : Ending) (w' : World) : Prop :=
  e = .returned (.tuple #[.int .i64 i, .bool ok]) ∧ ∃ v', RefX w' base B S m v' ∧ Moved w w' B v v'
end Go.Proofs.Ytcgapjicbgfpjaa

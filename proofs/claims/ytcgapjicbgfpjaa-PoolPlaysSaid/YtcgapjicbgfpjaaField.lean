/-
  One number of one cell of a pool, stored.
-/
import Derived.Test.YtcgapjicbgfpjaaMap
namespace Go.Proofs.Ytcgapjicbgfpjaa
set_option linter.unusedVariables false
set_option linter.unusedSimpArgs false
open Go.RowKit Go.Maps

theorem flat_set_one (c c' : Cl) (j : Nat) (u : Value) (hj : j < 5) (hc : c'.cells = c.cells.set j u) : ∀ (xs : List Cl) (i : Nat), xs[i]? = some c → (xs.flatMap Cl.cells).set (i * 5 + j) u = (xs.set i c').flatMap Cl.cells := by
  intro xs
  induction xs with
  | nil => intro i h; simp at h
  | cons x xs ih =>
    intro i h
    have hl : x.cells.length = 5 := rfl
    cases i with
    | zero =>
      simp at h; subst h
      rw [Nat.zero_mul, Nat.zero_add, List.flatMap_cons, List.set_append, if_pos (by omega), List.set_cons_zero, List.flatMap_cons, hc]
    | succ i =>
      rw [List.flatMap_cons, List.set_append, if_neg (by omega), hl, show (i + 1) * 5 + j - 5 = i * 5 + j by omega, ih i (by simpa using h), List.set_cons_succ, List.flatMap_cons]
section
variable {T : Nat → Prop} {w : World} {P : Nat} {S : St} {m : Int} {A2 : Option Addr} {c1 c2 M g : Nat} {xs : List Cl} {D : DataW Unit}
theorem set_field (h : PoolX T w P S m (some ⟨g, 0, none⟩) A2 c1 c2 M xs D) {i : Nat} {c c' : Cl} (hc : at? S i = some c) (j : Nat) (u : Value) (hj : j < 5) (hcc : c'.cells = c.cells.set j u) :
    PoolX T (w.setCell ⟨g, i * 5 + j, none⟩ u) P (S.set i (some c')) m (some ⟨g, 0, none⟩) A2 c1 c2 M (xs.set i c') D := by
  have hi := at_lt hc
  have hx := h.live i c hc
  have hxl : i < xs.length := by rw [h.len]; exact hi
  have hP : g ≠ P := fun e => own_blk_ne h.all h.blk (by decide) (by simp [Value.ownBlock, e])
  have hM : g ≠ M := fun e => own_map_ne h.all h.at_ (by simp [Value.ownBlock, e])
  have o1 := (h.all.stored (i * 5 + j) u).1
  rw [flat_set_one c c' j u hj hcc xs i hx] at o1
  have hg : w.grownBy (w.setCell ⟨g, i * 5 + j, none⟩ u) (some g) := only_setCell (p := ⟨g, i * 5 + j, none⟩) (World.grownBy.refl w (some g)) (.inl rfl) u
  have hlen : (S.set i (some c')).length = S.length := by simp
  have hmap : (S.set i (some c')).map (fun o => Value.bool o.isNone) = S.map fun o => Value.bool o.isNone := by
    rw [List.map_set]
    have e : S[i]? = some (some c) := at_some.1 hc
    apply List.ext_getElem?
    intro k
    rw [List.getElem?_set]
    by_cases hk : i = k
    · subst hk
      rw [if_pos rfl, if_pos (by simpa using hi), List.getElem?_map, e]
      rfl
    · rw [if_neg hk]
  refine ⟨?_, ?_, ?_, h.at_.kept hg (fun e => hM (by injection e with e; exact e.symm)), by simp [h.len], ?_, h.tP, h.tM, h.tA, h.tB⟩
  · rw [hlen]; exact h.blk.far (p := ⟨g, i * 5 + j, none⟩) hP.symm u
  · rw [hlen]; exact o1
  · rw [hlen, hmap]
    refine h.free.kept hg ?_
    cases hv : (Value.slice A2 S.length c2).ownBlock with
    | none => exact .inl rfl
    | some b => exact .inr (fun e => own_ne h.all h.free (by decide) (g := g) rfl (by rw [hv]; exact e))
  · intro k d hd
    by_cases hk : i = k
    · subst hk
      rw [at_set_same hi] at hd
      injection hd with hd; subst hd
      exact List.getElem?_set_self hxl
    · rw [at_set_other hk] at hd
      rw [List.getElem?_set_ne hk]
      exact h.live k d hd
theorem kept_field (h : PoolX T w P S m (some ⟨g, 0, none⟩) A2 c1 c2 M xs D) (i : Nat) (u : Value) {w0 : World} (hk : KeptT T w0 w) : KeptT T w0 (w.setCell ⟨g, i, none⟩ u) := hk.setCell (p := ⟨g, i, none⟩) (h.tA ⟨g, 0, none⟩ rfl) u
theorem cnt_stay {S : St} {i : Nat} {c c' : Cl} (hc : at? S i = some c) : cnt (S.set i (some c')) = cnt S := by
  have := cnt_set S i (some c') (at_lt hc)
  rw [hc] at this
  simpa using this
end
end Go.Proofs.Ytcgapjicbgfpjaa

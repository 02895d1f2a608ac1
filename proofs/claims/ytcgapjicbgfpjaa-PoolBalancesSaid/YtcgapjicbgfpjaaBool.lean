/-
  Slices of bools that came in.
-/
import Derived.Deep.Grids
import Derived.Test.YtcgapjicbgfpjaaRow
namespace Go.Proofs.Ytcgapjicbgfpjaa
set_option linter.unusedVariables false
open Go.ChangeShapes Go.WideShapes Go.ChangeAt Go.RowKit Go.Deep

/-- a slice of bools that came in -/
structure InBools (w : World) (A : Option Addr) (n c : Nat) (B : Nat → Bool) : Prop where
  len : n ≤ c
  cap : c ≤ maxLen
  at_ : 0 < n → ∃ b off, A = some ⟨b, off, none⟩ ∧ b < w.heap.size ∧ ∀ i, i < n → w.cell? ⟨b, off + i, none⟩ = some (.bool (B i))
theorem InBools.nil (w : World) (B : Nat → Bool) : InBools w none 0 0 B := ⟨by omega, by decide, fun h => absurd h (by omega)⟩
section
variable {H : Type} {enc : TypeId × Value → H} {P : Program} {w : World} {base : Nat} {held : Bool}
theorem open_inbools {t e : TypeId} {fuel : Nat} {cs : List Value} {x : DataW H × List MemPlace} (ht : P.underlying t = some (.slice e)) (he : P.underlying e = some .bool) (hc : P.cellsOf e = 1)
    (h : DataW.trod enc P w base (fun _ => true) held fuel t cs = some x) (hlt : ∀ y ∈ x.2, y.block < w.heap.size) :
    (cs = [.slice none 0 0]) ∨ ∃ (A : Option Addr) (n c : Nat) (B : Nat → Bool), cs = [.slice A n c] ∧ InBools w A n c B := by
  rcases open_bools ht he hc h with ⟨h0, _⟩ | ⟨a, len, cap, B, hcs, hb, hl, hm, hx, hi⟩
  · exact .inl h0
  refine .inr ⟨some a, len, cap, B, hcs, hl, hm, fun hn => ?_⟩
  have hspot : a.spot = none := by
    have h0 := hi 0 (by omega)
    simpa [Addr.add] using World.cell?_spot h0
  obtain ⟨b, off, spot⟩ := a
  have hspot : spot = none := hspot
  subst hspot
  refine ⟨b, off, rfl, hlt (.cell b off) (by rw [hx]; exact MemPlace.mem_row.2 ⟨0, by omega, by simp⟩), fun i hin => ?_⟩
  have hadd : (⟨b, off, none⟩ : Addr).add i = ⟨b, off + i, none⟩ := by cases i <;> simp [Addr.add]
  rw [← hadd]; exact hi i (by omega)
end
end Go.Proofs.Ytcgapjicbgfpjaa

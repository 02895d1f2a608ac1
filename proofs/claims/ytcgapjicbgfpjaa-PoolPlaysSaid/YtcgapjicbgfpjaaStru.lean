/-
  Slices of structs of one-cell fields that came in: each field of each element by its index. The first theorem began as a block of the kit's extra pages, offered for copying.
-/
import Derived.Deep.Slices
import Derived.Deep.Fields
import Derived.ChangeSame
import Derived.Test.YtcgapjicbgfpjaaRow
namespace Go.Proofs.Ytcgapjicbgfpjaa
set_option linter.unusedVariables false
open Go.ChangeShapes Go.WideShapes Go.ChangeAt Go.RowKit Go.Deep

section
variable {H : Type} {enc : TypeId × Value → H} {P : Program} {w : World} {base : Nat} {spare : Nat → Bool} {held : Bool}
theorem open_slice_fields {t e : TypeId} {fs : Array Field} {fuel : Nat} {cs : List Value} {x : DataW H × List MemPlace} (ht : P.underlying t = some (.slice e)) (he : P.underlying e = some (.struct fs))
    (hone : oneCellFields P fs = true) (hC : P.cellsOf e = fs.size) (h : DataW.trod enc P w base spare held fuel t cs = some x) :
    (cs = [.slice none 0 0] ∧ x = (.nil, [])) ∨
    ∃ (a : Addr) (len cap m : Nat) (D : Nat → DataW H) (Pl : Nat → List MemPlace), cs = [.slice (some a) len cap] ∧ base ≤ a.block ∧ len ≤ cap ∧ cap ≤ maxLen ∧ m = (if spare a.block then cap else len) ∧
      x = (.slice ((List.range len).map D) ((List.range (m - len)).map fun j => D (len + j)), MemPlace.row a (m * fs.size) ++ (List.range m).flatMap Pl) ∧
      ∀ i, i < m → ∃ (ys : List (DataW H × List MemPlace)) (n : Nat), D i = .agg (ys.map (·.1)) ∧ Pl i = ys.flatMap (·.2) ∧ ys.length = fs.size ∧
        ∀ (j : Nat) (f : Field), fs[j]? = some f → ∃ (v : Value) (y : DataW H × List MemPlace), w.cell? (a.add (i * fs.size + j)) = some v ∧ ys[j]? = some y ∧ DataW.trod enc P w base spare held n f.type [v] = some y := by
  rcases open_slice ht h with h0 | ⟨a, len, cap, m, n, D, Pl, hcs, hb, hl, hm, hmm, hx, hi⟩
  · exact .inl h0
  · refine .inr ⟨a, len, cap, m, D, Pl, hcs, hb, hl, hm, hmm, by rw [hC] at hx; exact hx, fun i him => ?_⟩
    obtain ⟨cs', hc, ht'⟩ := hi i him
    rw [hC] at hc
    obtain ⟨ys, n', hn', hy, hlen, hyl, hf⟩ := DataW.trod_struct he ht'
    obtain ⟨_, hcl, hat⟩ := World.cells?_some hc
    simp only [Prod.mk.injEq] at hy
    refine ⟨ys, n', hy.1, hy.2, hyl, fun j f hj => ?_⟩
    obtain ⟨ho, hk⟩ := hone_of hone j f hj
    have hjl : j < fs.size := (Array.getElem?_eq_some_iff.1 hj).1
    have hcell := hat j hjl
    have hv : cs'[j]? = some (cs'[j]'(by omega)) := List.getElem?_eq_getElem (by omega)
    have h1 := hf j f hj
    rw [ho, hk] at h1
    have hone' : (cs'.drop j).take 1 = [cs'[j]'(by omega)] := by
      rw [List.drop_eq_getElem_cons (by omega)]
      rfl
    rw [hone'] at h1
    have hys : ys[j]? = some (ys[j]'(by omega)) := List.getElem?_eq_getElem (by omega)
    refine ⟨_, _, ?_, hys, h1.trans hys⟩
    rw [← Go.Deep.add_add, hcell, hv]

/-- the cells of a slice of structs, by element and field -/
structure InCells (F bytes : Nat) (w : World) (A : Option Addr) (n c : Nat) (V : Nat → Nat → Value) : Prop where
  len : n ≤ c
  cap : c ≤ maxLen
  reach : c * bytes ≤ 140737488351232
  at_ : 0 < n → ∃ b off, A = some ⟨b, off, none⟩ ∧ b < w.heap.size ∧ ∀ i j, i < n → j < F → w.cell? ⟨b, off + (i * F + j), none⟩ = some (V i j)

theorem InCells.nil (F bytes : Nat) (w : World) (V : Nat → Nat → Value) : InCells F bytes w none 0 0 V := ⟨by omega, by decide, by omega, fun h => absurd h (by omega)⟩

theorem open_cells {t e : TypeId} {fs : Array Field} {fuel : Nat} {cs : List Value} {x : DataW H × List MemPlace} (ht : P.underlying t = some (.slice e)) (he : P.underlying e = some (.struct fs))
    (hone : oneCellFields P fs = true) (hC : P.cellsOf e = fs.size) (hpos : 0 < fs.size) (h : DataW.trod enc P w base (fun _ => true) held fuel t cs = some x) (hlt : ∀ y ∈ x.2, y.block < w.heap.size) :
    (cs = [.slice none 0 0] ∧ x = (.nil, [])) ∨
    ∃ (A : Option Addr) (len cap : Nat) (D : Nat → DataW H) (V : Nat → Nat → Value), cs = [.slice A len cap] ∧ len ≤ cap ∧ cap ≤ maxLen ∧
      x.1 = .slice ((List.range len).map D) ((List.range (cap - len)).map fun j => D (len + j)) ∧
      (∀ bytes, cap * bytes ≤ 140737488351232 → InCells fs.size bytes w A len cap V) ∧
      ∀ (j : Nat) (f : Field), fs[j]? = some f → ∀ i, i < len → ∃ n y, DataW.trod enc P w base (fun _ => true) held n f.type [V i j] = some y := by
  rcases open_slice_fields ht he hone hC h with h0 | ⟨a, len, cap, m, D, Pl, hcs, hb, hl, hm, hmm, hx, hi⟩
  · exact .inl h0
  · simp only [if_true] at hmm
    subst hmm
    have hV : ∃ V : Nat → Nat → Value, ∀ i, i < m → ∀ j, j < fs.size → w.cell? (a.add (i * fs.size + j)) = some (V i j) ∧ ∀ f, fs[j]? = some f → ∃ n y, DataW.trod enc P w base (fun _ => true) held n f.type [V i j] = some y := by
      refine choose_lt (p := fun i (f : Nat → Value) => ∀ j, j < fs.size → w.cell? (a.add (i * fs.size + j)) = some (f j) ∧ ∀ fl, fs[j]? = some fl → ∃ n y, DataW.trod enc P w base (fun _ => true) held n fl.type [f j] = some y) (fun i him => ?_)
      obtain ⟨ys, n, _, _, _, hf⟩ := hi i him
      refine choose_lt (p := fun j (v : Value) => w.cell? (a.add (i * fs.size + j)) = some v ∧ ∀ fl, fs[j]? = some fl → ∃ n y, DataW.trod enc P w base (fun _ => true) held n fl.type [v] = some y) (fun j hj => ?_)
      obtain ⟨v, y, hc, _, hy⟩ := hf j fs[j] (Array.getElem?_eq_getElem hj)
      refine ⟨v, hc, fun fl hfl => ?_⟩
      rw [Array.getElem?_eq_getElem hj] at hfl
      injection hfl with hfl
      exact ⟨n, y, hfl ▸ hy⟩
    obtain ⟨V, hV⟩ := hV
    refine .inr ⟨some a, len, m, D, V, hcs, hl, hm, by rw [hx], fun bytes hby => ⟨hl, hm, hby, fun hn => ?_⟩, fun j f hj i hil => ?_⟩
    · obtain ⟨b, off, spot⟩ := a
      have h0 := (hV 0 (by omega) 0 hpos).1
      have hspot : spot = none := by simpa [Addr.add] using World.cell?_spot h0
      subst hspot
      refine ⟨b, off, rfl, ?_, fun i j hil hj => ?_⟩
      · have := hlt (.cell b off) (by rw [hx]; exact List.mem_append_left _ (MemPlace.mem_row.2 ⟨0, Nat.mul_pos (by omega) hpos, by simp⟩))
        exact this
      · rw [← Go.WideShapes.add_plain]; exact (hV i (by omega) j hj).1
    · exact (hV i (by omega) j (Array.getElem?_eq_some_iff.1 hj).1).2 f hj

theorem ints_of {t : TypeId} {k : IntKind} {V : Nat → Value} {len : Nat} (ht : P.underlying t = some (.int k)) (h : ∀ i, i < len → ∃ n y, DataW.trod enc P w base (fun _ => true) held n t [V i] = some y) :
    ∃ z : Nat → Int, ∀ i, i < len → V i = .int k (z i) ∧ (Lit.int k (z i)).wf = true := by
  refine choose_lt (p := fun i (z : Int) => V i = .int k z ∧ (Lit.int k z).wf = true) (fun i hi => ?_)
  obtain ⟨n, y, hy⟩ := h i hi
  obtain ⟨z, hz, _, hw⟩ := DataW.trod_int ht hy
  exact ⟨z, by simpa using hz, hw⟩
theorem bools_of {t : TypeId} {V : Nat → Value} {len : Nat} (ht : P.underlying t = some .bool) (h : ∀ i, i < len → ∃ n y, DataW.trod enc P w base (fun _ => true) held n t [V i] = some y) :
    ∃ z : Nat → Bool, ∀ i, i < len → V i = .bool (z i) := by
  refine choose_lt (p := fun i (z : Bool) => V i = .bool z) (fun i hi => ?_)
  obtain ⟨n, y, hy⟩ := h i hi
  obtain ⟨z, hz, _⟩ := DataW.trod_bool ht hy
  exact ⟨z, by simpa using hz⟩
end
end Go.Proofs.Ytcgapjicbgfpjaa

/-
  Tables that came in, opened: out of the reading of an argument, plain data, and each slice's reach.
-/
import Derived.Deep.Slices
import Derived.Deep.Fields
import Derived.ChangeSame
import Derived.SizedLaws
import Derived.Test.YtioocaicmiggoaaRow
import Derived.Test.YtioocaicmiggoaaRows
import Derived.Test.YtioocaicmiggoaaDat
namespace Go.Proofs.Ytioocaicmiggoaa.Wide
set_option linter.unusedVariables false
open Go.ChangeShapes Go.WideShapes Go.ChangeAt Go.RowKit Go.Deep

theorem weightsAll_mem {H : Type} {P : Program} {e : TypeId} : ∀ {l : List (DataW H)} {d : DataW H}, d ∈ l → ∀ n ∈ d.weights P e, n ∈ DataW.weightsAll P e l
  | d' :: r, d, hd, n, hn => by
    simp only [DataW.weightsAll, List.mem_append]
    rcases List.mem_cons.1 hd with rfl | h
    · exact Or.inl hn
    · exact Or.inr (weightsAll_mem h n hn)
section
variable {H : Type} (enc : TypeId × Value → H) (P : Program) (w : World) (base : Nat) (held : Bool)
/-- every reading of a type within reach is of plain data within reach -/
def OpensW {α : Type} (e : TypeId) (F : Nat) (R : World → List Value → α → Prop) (Z : α → Prop) : Prop :=
  ∀ (fuel : Nat) (cs : List Value) (y : DataW H × List MemPlace), DataW.trod enc P w base (fun _ => true) held fuel e cs = some y → (∀ p ∈ y.2, p.block < w.heap.size) → (∀ n ∈ y.1.weights P e, n ≤ reachBytes) → cs.length = F ∧ ∃ x, R w cs x ∧ Z x
end
def RB : Nat := 140737488351232
/-- a list within reach, each within -/
def rcL {α : Type} (by_ : Nat) (Z : α → Prop) (xs : List α) : Prop := xs.length * by_ ≤ 140737488351232 ∧ ∀ x ∈ xs, Z x
section
variable {H : Type} {enc : TypeId × Value → H} {P : Program} {w : World} {base : Nat} {held : Bool}
theorem openw_int {t : TypeId} (ht : P.underlying t = some (.int .i64)) : OpensW enc P w base held t 1 IntC (fun _ => True) := fun fuel cs y h hp _ => by
  obtain ⟨n, rfl, rfl, hw⟩ := DataW.trod_int ht h
  exact ⟨rfl, n, ⟨rfl, hw⟩, trivial⟩
theorem openw_slice {α : Type} {t e : TypeId} {F by_ : Nat} {R : World → List Value → α → Prop} {Z : α → Prop} (ht : P.underlying t = some (.slice e)) (hC : P.cellsOf e = F) (hby : P.bytesOf e = by_) (hF : 0 < F) (ho : OpensW enc P w base held e F R Z) :
    OpensW enc P w base held t 1 (fun w cs l => ∃ v, cs = [v] ∧ SlR F R w v l) (rcL by_ Z) := fun fuel cs y h hp hW => by
  rcases open_slice ht h with ⟨rfl, rfl⟩ | ⟨a, len, cap, m, n, D, Pl, rfl, hb, hl, hm, hmm, rfl, hi⟩
  · exact ⟨rfl, [], ⟨_, rfl, SlR.nil F R w⟩, by simp [rcL]⟩
  · simp only [if_true] at hmm
    subst hmm
    rw [hC] at hi hp
    have hWl : len * by_ ≤ 140737488351232 := by
      have h1 := hW _ (by simp only [DataW.weights, ht]; exact List.mem_cons_self)
      rw [hby] at h1
      simp only [List.length_map, List.length_range, reachBytes] at h1
      exact Nat.le_trans (Nat.mul_le_mul_right _ (by omega)) h1
    have hWi : ∀ i, i < len → ∀ n ∈ (D i).weights P e, n ≤ reachBytes := fun i hil n hn => by
      refine hW n ?_
      simp only [DataW.weights, ht, List.mem_cons, List.mem_append]
      exact .inr (.inl (weightsAll_mem (List.mem_map.2 ⟨i, List.mem_range.2 hil, rfl⟩) n hn))
    have el : ∀ i, i < len → ∃ cs' : List Value, cs'.length = F ∧ (∀ j u, cs'[j]? = some u → w.cell? ((a.add (i * F)).add j) = some u) ∧ ∃ x, R w cs' x ∧ Z x := fun i hil => by
      obtain ⟨cs', hc, htr⟩ := hi i (by omega)
      obtain ⟨hlen, x, hx, hs⟩ := ho n cs' (D i, Pl i) htr (fun p hpp => hp p (List.mem_append_right _ (List.mem_flatMap.2 ⟨i, List.mem_range.2 (by omega), hpp⟩))) (hWi i hil)
      obtain ⟨_, _, hat⟩ := World.cells?_some hc
      refine ⟨cs', hlen, fun j u hu => ?_, x, hx, hs⟩
      have hj : j < F := by have := (List.getElem?_eq_some_iff.1 hu).1; omega
      rw [hat j hj]; exact hu
    rcases Nat.eq_zero_or_pos len with h0 | h0
    · subst h0
      refine ⟨rfl, [], ⟨_, rfl, some a, m, rfl, Nat.zero_le _, hm, fun h => absurd h (by simp)⟩, by simp [rcL]⟩
    · obtain ⟨cs0, hl0, hc0, x0, _⟩ := el 0 (by omega)
      have hspot : a.spot = none := by
        have hu := List.getElem?_eq_getElem (show 0 < cs0.length by omega)
        have := hc0 0 _ hu
        simpa [Addr.add] using World.cell?_spot this
      obtain ⟨b, off, spot⟩ := a
      have hspot : spot = none := hspot
      subst hspot
      have hex : ∀ i, ∃ x, i < len → ∃ cs' : List Value, cs'.length = F ∧ R w cs' x ∧ (∀ j u, cs'[j]? = some u → w.cell? ⟨b, off + i * F + j, none⟩ = some u) ∧ Z x := fun i => by
        by_cases hil : i < len
        · obtain ⟨cs', h1, h2, x, h3, h4⟩ := el i hil
          exact ⟨x, fun _ => ⟨cs', h1, h3, fun j u hu => by rw [← Go.WideShapes.add_plain, ← Go.WideShapes.add_plain]; exact h2 j u hu, h4⟩⟩
        · exact ⟨x0, fun h => absurd h hil⟩
      obtain ⟨g, hg⟩ := Classical.axiomOfChoice hex
      refine ⟨rfl, (List.range len).map g, ⟨_, rfl, some ⟨b, off, none⟩, m, by simp, by simpa using hl, hm, fun _ => ⟨b, off, rfl, fun i x hx => ?_⟩⟩, ⟨by simpa using hWl, fun x hx => ?_⟩⟩
      · rw [List.getElem?_map] at hx
        have hil : i < len := by
          by_cases hh : i < len
          · exact hh
          · rw [List.getElem?_eq_none (by simp; omega)] at hx; cases hx
        rw [List.getElem?_range hil] at hx
        simp only [Option.map_some, Option.some.injEq] at hx
        subst hx
        obtain ⟨cs', h1, h2, h3, _⟩ := hg i hil
        exact ⟨cs', h1, h2, h3⟩
      · obtain ⟨i, hi2, rfl⟩ := List.mem_map.1 hx
        obtain ⟨_, _, _, _, h4⟩ := hg i (List.mem_range.1 hi2)
        exact h4
theorem w_part {t : TypeId} {fs : Array Field} {xs : List (DataW H × List MemPlace)} {z : DataW H × List MemPlace} {i : Nat} {f : Field} (ht : P.underlying t = some (.struct fs)) (hW : ∀ n ∈ (DataW.agg (xs.map (·.1))).weights P t, n ≤ reachBytes) (hf : fs[i]? = some f) (hx : xs[i]? = some z) : ∀ n ∈ z.1.weights P f.type, n ≤ reachBytes := fun n hn => by
  refine hW n ?_
  simp only [DataW.weights, ht]
  exact DataW.weights_mem_each (j := i) (by rw [List.getElem?_map, Array.getElem?_toList, hf]; rfl) (by rw [List.getElem?_map, hx]; rfl) n hn
/-- a struct's fields of one cell each, opened one by one -/
theorem trod_fields {t : TypeId} {fs : Array Field} {fuel : Nat} {cs : List Value} {y : DataW H × List MemPlace} (ht : P.underlying t = some (.struct fs)) (hone : oneCellFields P fs = true) (hC : P.cellsOf t = fs.size)
    (h : DataW.trod enc P w base (fun _ => true) held fuel t cs = some y) :
    ∃ (xs : List (DataW H × List MemPlace)) (n : Nat), y = (.agg (xs.map (·.1)), xs.flatMap (·.2)) ∧ cs.length = fs.size ∧ xs.length = fs.size ∧
      ∀ (i : Nat) (f : Field), fs[i]? = some f → ∃ (v : Value) (z : DataW H × List MemPlace), cs[i]? = some v ∧ xs[i]? = some z ∧ DataW.trod enc P w base (fun _ => true) held n f.type [v] = some z := by
  obtain ⟨xs, n, _, hy, hl, hxl, hf⟩ := DataW.trod_struct ht h
  rw [hC] at hl
  refine ⟨xs, n, hy, hl, hxl, fun i f hi => ?_⟩
  obtain ⟨ho, hk⟩ := hone_of hone i f hi
  have hjl : i < fs.size := (Array.getElem?_eq_some_iff.1 hi).1
  have h1 := hf i f hi
  rw [ho, hk] at h1
  have hv : cs[i]? = some (cs[i]'(by omega)) := List.getElem?_eq_getElem (by omega)
  have hx : xs[i]? = some (xs[i]'(by omega)) := List.getElem?_eq_getElem (by omega)
  have hone' : (cs.drop i).take 1 = [cs[i]'(by omega)] := by
    rw [List.drop_eq_getElem_cons (by omega)]; rfl
  rw [hone'] at h1
  exact ⟨_, _, hv, hx, h1.trans hx⟩
end
end Go.Proofs.Ytioocaicmiggoaa.Wide

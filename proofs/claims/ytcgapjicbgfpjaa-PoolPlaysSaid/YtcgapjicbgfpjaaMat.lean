/-
  Slices of slices of integers that came in: each row as a slice of integers that came in. 'weightsAll_mem' and 'sized_inner' began as lines of a worked proof of the kit.
-/
import Derived.Deep.Matrix
import Derived.Test.YtcgapjicbgfpjaaRow
namespace Go.Proofs.Ytcgapjicbgfpjaa
set_option linter.unusedVariables false
open Go.ChangeShapes Go.WideShapes Go.ChangeAt Go.RowKit Go.Deep

theorem weightsAll_mem {H : Type} {P : Program} {e : TypeId} : ∀ {l : List (DataW H)} {d : DataW H}, d ∈ l → ∀ n ∈ d.weights P e, n ∈ DataW.weightsAll P e l
  | d' :: r, d, hd, n, hn => by
    simp only [DataW.weightsAll, List.mem_append]
    rcases List.mem_cons.1 hd with rfl | h
    · exact Or.inl hn
    · exact Or.inr (weightsAll_mem h n hn)

theorem sized_inner {H : Type} {P : Program} {ts : List TypeId} {ds : List (DataW H)} (h : (DataW.weightsEach P ts ds).all (· ≤ reachBytes) = true) {j : Nat} {t e q : TypeId} {elems spare e' sp' : List (DataW H)}
    (ht : ts[j]? = some t) (hd : ds[j]? = some (.slice elems spare)) (hu : P.underlying t = some (.slice e)) (hu2 : P.underlying e = some (.slice q)) (hx : DataW.slice e' sp' ∈ elems) : (e'.length + sp'.length) * P.bytesOf q ≤ reachBytes := by
  refine of_decide_eq_true (List.all_eq_true.1 h _ (DataW.weights_mem_each ht hd _ ?_))
  simp only [DataW.weights, hu, List.mem_cons, List.mem_append]
  exact Or.inr (Or.inl (weightsAll_mem hx _ (by simp [DataW.weights, hu2])))

/-- a slice of slices of integers that came in -/
structure InMat (k : IntKind) (bytes : Nat) (w : World) (A : Option Addr) (n c : Nat) (zss : List (List Int)) : Prop where
  len : n ≤ c
  cap : c ≤ maxLen
  reach : c * 24 ≤ 140737488351232
  num : zss.length = n
  at_ : 0 < n → ∃ b off, A = some ⟨b, off, none⟩ ∧ b < w.heap.size ∧ ∀ (r : Nat) (zs : List Int), zss[r]? = some zs → ∃ (A' : Option Addr) (C' : Nat), w.cell? ⟨b, off + r, none⟩ = some (.slice A' zs.length C') ∧ InRow k bytes w A' zs.length C' zs

theorem InMat.nil (k : IntKind) (bytes : Nat) (w : World) : InMat k bytes w none 0 0 [] := ⟨by omega, by decide, by omega, rfl, fun h => absurd h (by omega)⟩

section
variable {H : Type} {enc : TypeId × Value → H} {P : Program} {w : World} {base : Nat} {held : Bool}
theorem open_mat {t e q : TypeId} {k : IntKind} {fuel : Nat} {cs : List Value} {x : DataW H × List MemPlace} (ht : P.underlying t = some (.slice e)) (he : P.underlying e = some (.slice q)) (hq : P.underlying q = some (.int k))
    (ce : P.cellsOf e = 1) (cq : P.cellsOf q = 1) (h : DataW.trod enc P w base (fun _ => true) held fuel t cs = some x) (hlt : ∀ y ∈ x.2, y.block < w.heap.size) :
    (cs = [.slice none 0 0] ∧ x = (.nil, [])) ∨
    ∃ (A : Option Addr) (n c : Nat) (zss : List (List Int)) (D D' : List (DataW H)), cs = [.slice A n c] ∧ x.1 = .slice D D' ∧ D.length + D'.length = c ∧
      ∀ bytes, (∀ e' s' : List (DataW H), DataW.slice e' s' ∈ D → (e'.length + s'.length) * bytes ≤ 140737488351232) → c * 24 ≤ 140737488351232 → InMat k bytes w A n c zss := by
  rcases open_int_rows ht he hq ce cq h with h0 | ⟨a, len, cap, A, L, C, Z, hcs, hb, hl, hm, hx, hi⟩
  · exact .inl h0
  refine .inr ⟨some a, len, cap, (List.range len).map fun r => (Z r).take (L r), _, _, hcs, by rw [hx], by simp; omega, fun bytes hby hr => ⟨hl, hm, hr, by simp, fun hn => ?_⟩⟩
  have hspot : a.spot = none := by
    have h0 := (hi 0 (by omega)).1
    simpa [Addr.add] using World.cell?_spot h0
  obtain ⟨b, off, spot⟩ := a
  have hspot : spot = none := hspot
  subst hspot
  refine ⟨b, off, rfl, ?_, fun r zs hz => ?_⟩
  · exact hlt (.cell b off) (by rw [hx]; exact List.mem_append_left _ (MemPlace.mem_row.2 ⟨0, by omega, by simp⟩))
  · rw [List.getElem?_map] at hz
    have hrl : r < len := by
      by_cases hh : r < len
      · exact hh
      · rw [List.getElem?_eq_none (by simp; omega)] at hz; cases hz
    rw [List.getElem?_range hrl] at hz
    simp only [Option.map_some, Option.some.injEq] at hz
    obtain ⟨h1, h2, h3, h4, h5, h6, h7⟩ := hi r (by omega)
    have hzl : zs.length = L r := by rw [← hz, List.length_take]; omega
    have hadd : (⟨b, off, none⟩ : Addr).add r = ⟨b, off + r, none⟩ := by cases r <;> simp [Addr.add]
    refine ⟨A r, C r, by rw [hzl, ← hadd]; exact h1, ?_⟩
    rw [hzl]
    cases hA : A r with
    | none =>
      have hC := h6 hA
      have hL : L r = 0 := by omega
      have hzs : zs = [] := List.eq_nil_of_length_eq_zero (by omega)
      rw [hL, hC, hzs]
      exact InRow.nil _ _ _
    | some a' =>
      obtain ⟨_, hc⟩ := h7 a' hA
      have hD := hby (lits k ((Z r).take (L r))) (lits k ((Z r).drop (L r))) (List.mem_map.2 ⟨r, List.mem_range.2 hrl, by simp [intRow, hA]⟩)
      simp only [lits, List.length_map, List.length_take, List.length_drop] at hD
      rw [← hz]
      refine InRow.of_open h2 h3 h4 ?_ (fun i hi' => hc i (by omega)) h5 (fun y hy => hlt y ?_)
      · rw [show min (L r) (Z r).length + ((Z r).length - L r) = C r by omega] at hD; exact hD
      · rw [hx]
        refine List.mem_append_right _ (List.mem_flatMap.2 ⟨r, List.mem_range.2 (by omega), ?_⟩)
        simp only [intRowPlaces, hA]
        exact hy
end
end Go.Proofs.Ytcgapjicbgfpjaa

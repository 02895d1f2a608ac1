/-
  What a law's walk is told of a slice of integers that came in.
-/
import Derived.WalkKit
import Derived.ProofKit
import Derived.OpenShut
import Derived.ShutString
import Derived.ChangeOld
import Derived.Below
import Derived.SizedLaws
import Derived.Test.YtioocaicmiggoaaMem
namespace Go.Proofs.Ytioocaicmiggoaa
set_option linter.unusedVariables false
open Go.ChangeShapes Go.WideShapes Go.ChangeAt Go.RowKit

/-- a slice of integers: nil or not, its elements, its room's bytes -/
structure InRow (k : IntKind) (bytes : Nat) (w : World) (A : Option Addr) (n c : Nat) (zs : List Int) : Prop where
  len : n ≤ c
  cap : c ≤ maxLen
  reach : c * bytes ≤ 140737488351232
  num : zs.length = n
  reads : Reads w w.heap.size 1 A n (zs.map (Value.int k))
  wf : ∀ z ∈ zs, (Lit.int k z).wf = true

theorem InRow.nil (k : IntKind) (bytes : Nat) (w : World) : InRow k bytes w none 0 0 [] :=
  ⟨by omega, by decide, by omega, rfl, Reads.none_, fun z hz => by cases hz⟩

theorem InRow.of_open {k : IntKind} {bytes : Nat} {w : World} {x : Addr} {l c : Nat} {zs : List Int} (hl : l ≤ c) (hm : c ≤ maxLen) (hz : zs.length = c) (hr : c * bytes ≤ 140737488351232)
    (hcell : ∀ i, i < zs.length → w.cell? (x.add i) = some (.int k (zs.getD i 0))) (hwz : ∀ z ∈ zs, (Lit.int k z).wf = true) (hlt : ∀ y ∈ MemPlace.row x zs.length, y.block < w.heap.size) :
    InRow k bytes w (some x) l c (zs.take l) := by
  refine ⟨hl, hm, hr, by simp; omega, ⟨by simp; omega, fun hn => ⟨x, rfl, ?_, fun j u hu => ?_⟩⟩, fun z hz' => hwz z (List.mem_of_mem_take hz')⟩
  · have := hlt (.cell x.block x.off) (MemPlace.mem_row.2 ⟨0, by omega, by simp⟩)
    exact this
  · rw [List.getElem?_map, List.getElem?_take] at hu
    by_cases hj : j < l
    · rw [if_pos hj] at hu
      have hjl : j < zs.length := by omega
      rw [hcell j hjl]
      rw [List.getElem?_eq_getElem hjl] at hu
      simp at hu
      rw [← hu]
      simp [hjl]
    · rw [if_neg hj] at hu; cases hu
end Go.Proofs.Ytioocaicmiggoaa

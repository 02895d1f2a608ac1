/-
  A slice of bytes that came in, as a list of bytes.
-/
import Derived.Test.YtioocaicmiggoaaRow
import Derived.Test.YtioocaicmiggoaaNum
namespace Go.Proofs.Ytioocaicmiggoaa
set_option linter.unusedVariables false
open Go.RowKit

theorem bytes_of (z : List Int) (h : ∀ x ∈ z, (Lit.int .u8 x).wf = true) : z.map (Value.int .u8) = bv (z.map fun x => x.toNat.toUInt8) := by
  unfold bv
  rw [List.map_map]
  apply List.map_congr_left
  intro x hx
  have h1 := h x hx
  have h2 : 0 ≤ x ∧ x ≤ 255 := by
    simp [Lit.wf] at h1
    exact h1
  show Value.int .u8 x = Value.int .u8 ((x.toNat.toUInt8).toNat : Int)
  rw [toU8 _ (by omega)]
  congr 1; omega
theorem InRow.bytes {w : World} {A : Option Addr} {n c : Nat} {z : List Int} (h : InRow .u8 1 w A n c z) :
    ∃ l : List UInt8, l.length = n ∧ n ≤ c ∧ c ≤ 140737488351232 ∧ Reads w w.heap.size 1 A n (bv l) :=
  ⟨z.map fun x => x.toNat.toUInt8, by simp [h.num], h.len, by have := h.reach; omega, by rw [← bytes_of z h.wf]; exact h.reads⟩
end Go.Proofs.Ytioocaicmiggoaa

/-
  Made bytes as texts, kept through later worlds.
-/
import Derived.Test.YtioocaicmiggoaaOpen
import Derived.Test.YtioocaicmiggoaaBytes
import Derived.Deep.RegionWith
import Derived.Deep.DeepCutAuto
namespace Go.Proofs.Ytioocaicmiggoaa
set_option linter.unusedVariables false
open Go.RowKit

theorem own_cells {w : World} {base : Nat} {e : TypeId} {s n g cap : Nat} {xs : List Value} (h : w.ownsRow base e s (.slice (some ⟨g, 0, none⟩) n cap) n xs) : ∀ j u, xs[j]? = some u → w.cell? ⟨g, j, none⟩ = some u := by
  intro j u hu
  have h2 := h.cells (g := g) rfl j u hu
  unfold Addr.add at h2
  by_cases hj : j = 0
  · subst hj; simpa using h2
  · simpa [hj] using h2
theorem below_of_grown {a b : World} (h : a.grownBy b none) : Below a.heap.size a b := ⟨h.os, h.tape, h.output, h.size, fun i hi => h.block i hi (fun e => by cases e)⟩
theorem bd_u64 {a : Int} (h : (Lit.int .u64 a).wf = true) : 0 ≤ a ∧ a ≤ 18446744073709551615 := by
  simpa [Lit.wf, IntKind.min, IntKind.max, IntKind.bits, IntKind.signed] using h
theorem bd_i64 {a : Int} (h : (Lit.int .i64 a).wf = true) : -9223372036854775808 ≤ a ∧ a ≤ 9223372036854775807 := by
  simpa [Lit.wf, IntKind.min, IntKind.max, IntKind.bits, IntKind.signed] using h
/-- bytes of the call's own that stay -/
def Kept (w : World) (g : Nat) (l : List UInt8) : Prop := g < w.heap.size ∧ ∀ j u, (bv l)[j]? = some u → w.cell? ⟨g, j, none⟩ = some u
theorem Kept.grown {w w' : World} {g : Nat} {l : List UInt8} {row : Option Nat} (h : Kept w g l) (hg : w.grownBy w' row) (hr : some g ≠ row) : Kept w' g l :=
  ⟨Nat.lt_of_lt_of_le h.1 hg.size, fun j u hu => (World.cell?_of_block (hg.block g h.1 hr)).trans (h.2 j u hu)⟩
theorem Kept.below {w w' : World} {g : Nat} {l : List UInt8} (h : Kept w g l) (hb : Below w.heap.size w w') : Kept w' g l := h.grown (only_of_below hb none) (by simp)
theorem Kept.of_own {w : World} {base g n cap : Nat} {l : List UInt8} (h : w.ownsRow base 5 1 (.slice (some ⟨g, 0, none⟩) n cap) n (bv l)) (hn : 0 < n) : Kept w g l := by
  refine ⟨?_, own_cells h⟩
  obtain ⟨g', cap', hv, _, hl, _⟩ := own_shape h hn
  injection hv with h1
  injection h1 with h1
  injection h1 with h1
  subst h1; exact hl
theorem Kept.text {w : World} {g n cap : Nat} {l : List UInt8} (h : Kept w g l) (hn : l.length = n) :
    (convert 47 9 (.slice (some ⟨g, 0, none⟩) n cap)).run Try.prog w = .ok (.string ⟨l.toArray⟩) w :=
  own_text (P := Try.prog) (src := 47) (dst := 9) l Try.underlying47 Try.underlying5 Try.underlying9 h.2 hn
theorem Kept.reads {w : World} {g n : Nat} {l : List UInt8} (h : Kept w g l) (hn : l.length = n) : Reads w w.heap.size 1 (some ⟨g, 0, none⟩) n (bv l) :=
  ⟨by rw [bv_len]; omega, fun _ => ⟨_, rfl, h.1, fun j u hu => by rw [Go.WideShapes.add_plain, Nat.zero_add]; exact h.2 j u hu⟩⟩
theorem grown_ne {a b : World} (h : a.grownBy b none) : Below a.heap.size a b := below_of_grown h
end Go.Proofs.Ytioocaicmiggoaa

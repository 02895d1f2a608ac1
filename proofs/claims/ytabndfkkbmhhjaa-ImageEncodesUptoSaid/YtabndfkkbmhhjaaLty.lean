/-
  The walks of load.typed and load.stops.
-/
import Derived.Test.YtabndfkkbmhhjaaLfe
namespace Go.Proofs.Ytabndfkkbmhhjaa
set_option linter.unusedVariables false
set_option linter.unusedSimpArgs false
open Go.RowKit Go.Deep

def typedT (T : TTab) (k : Int) : Bool := decide (0 ≤ k) && decide (k < (T.kinds.length : Int))
def stopsT (T : TTab) (l : List TStop) : Bool := l.all fun b => typedT T b.ty
def BoolP (w : World) (b : Bool) (e : Ending) (w' : World) : Prop := e = .returned (.bool b) ∧ Below w.heap.size w w'
theorem stops_get {w : World} {v : Value} {l : List TStop} (h : SlR 2 StopC w v l) {i : Nat} {x : TStop} (hx : l[i]? = some x) :
    ∃ b off c, v = .slice (some ⟨b, off, none⟩) l.length c ∧ l.length ≤ c ∧ c ≤ maxLen ∧ w.cell? ⟨b, off + i * 2, none⟩ = some (.int .i64 x.ty) ∧ w.cell? ⟨b, off + i * 2 + 1, none⟩ = some (.int .i64 x.gd) ∧ wfi x.ty ∧ wfi x.gd := by
  obtain ⟨b, off, c, hv, h1, h2, hi, cs, hl, ⟨rfl, hw⟩, hc⟩ := h.get hx
  exact ⟨b, off, c, hv, h1, h2, hc 0 _ rfl, hc 1 _ rfl, hw⟩
end Go.Proofs.Ytabndfkkbmhhjaa

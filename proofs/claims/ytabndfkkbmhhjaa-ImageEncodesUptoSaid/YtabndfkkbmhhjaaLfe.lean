/-
  The walk of few: it answers, whatever.
-/
import Derived.Deep.DeepCutAuto
import Derived.Test.YtabndfkkbmhhjaaLpr
namespace Go.Proofs.Ytabndfkkbmhhjaa
set_option linter.unusedVariables false
set_option linter.unusedSimpArgs false
open Go.RowKit Go.Deep

theorem tails_get {w : World} {v : Value} {l : List TTail} (h : SlR 3 TailC w v l) {i : Nat} {x : TTail} (hx : l[i]? = some x) :
    ∃ b off c vb, v = .slice (some ⟨b, off, none⟩) l.length c ∧ l.length ≤ c ∧ c ≤ maxLen ∧ w.cell? ⟨b, off + i * 3, none⟩ = some (.int .i64 x.br) ∧ w.cell? ⟨b, off + i * 3 + 1, none⟩ = some (.int .i64 x.cl) ∧ w.cell? ⟨b, off + i * 3 + 2, none⟩ = some vb ∧ SlR 2 StopC w vb x.bars ∧ wfi x.br ∧ wfi x.cl := by
  obtain ⟨b, off, c, hv, h1, h2, hi, cs, hl, ⟨vb, rfl, hs, hw⟩, hc⟩ := h.get hx
  exact ⟨b, off, c, vb, hv, h1, h2, hc 0 _ rfl, hc 1 _ rfl, hc 2 _ rfl, hs, hw⟩
theorem codes_get {w : World} {v : Value} {l : List TCode} (h : SlR 5 CodeC w v l) {i : Nat} {x : TCode} (hx : l[i]? = some x) :
    ∃ b off c vi vc vl, v = .slice (some ⟨b, off, none⟩) l.length c ∧ l.length ≤ c ∧ c ≤ maxLen ∧ w.cell? ⟨b, off + i * 5, none⟩ = some (.int .i64 x.regs) ∧ w.cell? ⟨b, off + i * 5 + 1, none⟩ = some (.int .i64 x.slots) ∧ w.cell? ⟨b, off + i * 5 + 2, none⟩ = some vi ∧
      w.cell? ⟨b, off + i * 5 + 3, none⟩ = some vc ∧ w.cell? ⟨b, off + i * 5 + 4, none⟩ = some vl ∧ SlR 4 InpC w vi x.inputs ∧ SlR 2 ValC w vc x.consts ∧ SlR 4 InsC w vl x.list ∧ wfi x.regs ∧ wfi x.slots := by
  obtain ⟨b, off, c, hv, h1, h2, hi, cs, hl, ⟨vi, vc, vl, rfl, hs, ht, hu, hw⟩, hc⟩ := h.get hx
  exact ⟨b, off, c, vi, vc, vl, hv, h1, h2, hc 0 _ rfl, hc 1 _ rfl, hc 2 _ rfl, hc 3 _ rfl, hc 4 _ rfl, hs, ht, hu, hw⟩
end Go.Proofs.Ytabndfkkbmhhjaa

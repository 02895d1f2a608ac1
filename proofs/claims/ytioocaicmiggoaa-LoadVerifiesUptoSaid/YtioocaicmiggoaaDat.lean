/-
  Tables as plain data, and how they lie in memory: what is read of them, kept by calls that only make memory.
-/
import Derived.Test.YtioocaicmiggoaaMem
namespace Go.Proofs.Ytioocaicmiggoaa
set_option linter.unusedVariables false
open Go.RowKit

structure TStop where
  ty : Int
  gd : Int
structure TTail where
  br : Int
  cl : Int
  bars : List TStop
structure TRow where
  par : Int
  ty : Int
  many : Bool
  win : Int
  bars : List TStop
  leave : Int
  guard : Int
  ends : List TTail
structure TInp where
  op : Int
  kind : Int
  pos : Int
  attr : Int
structure TVal where
  kind : Int
  bits : Int
structure TIns where
  op : Int
  dst : Int
  a : Int
  b : Int
structure TCode where
  regs : Int
  slots : Int
  inputs : List TInp
  consts : List TVal
  list : List TIns
structure TTab where
  strategy : Int
  keys : List Int
  kinds : List (List Int)
  syms : Int
  runs : Int
  cells : Int
  states : List TRow
  codes : List TCode

def wfi (a : Int) : Prop := (Lit.int .i64 a).wf = true
def wfu (a : Int) : Prop := (Lit.int .u64 a).wf = true
/-- a slice whose elements take F cells each, read as a list -/
def SlR {α : Type} (F : Nat) (R : World → List Value → α → Prop) (w : World) (v : Value) (xs : List α) : Prop :=
  ∃ (A : Option Addr) (c : Nat), v = .slice A xs.length c ∧ xs.length ≤ c ∧ c ≤ maxLen ∧
    (0 < xs.length → ∃ b off, A = some ⟨b, off, none⟩ ∧ ∀ (i : Nat) (x : α), xs[i]? = some x → ∃ cs : List Value, cs.length = F ∧ R w cs x ∧ ∀ (j : Nat) (u : Value), cs[j]? = some u → w.cell? ⟨b, off + i * F + j, none⟩ = some u)
def IntC (_ : World) (cs : List Value) (x : Int) : Prop := cs = [.int .i64 x] ∧ wfi x
def IntsC (w : World) (cs : List Value) (l : List Int) : Prop := ∃ v, cs = [v] ∧ SlR 1 IntC w v l
def StopC (_ : World) (cs : List Value) (x : TStop) : Prop := cs = [.int .i64 x.ty, .int .i64 x.gd] ∧ wfi x.ty ∧ wfi x.gd
def TailC (w : World) (cs : List Value) (x : TTail) : Prop := ∃ v, cs = [.int .i64 x.br, .int .i64 x.cl, v] ∧ SlR 2 StopC w v x.bars ∧ wfi x.br ∧ wfi x.cl
def RowC (w : World) (cs : List Value) (x : TRow) : Prop :=
  ∃ vb ve, cs = [.int .i64 x.par, .int .i64 x.ty, .bool x.many, .int .i64 x.win, vb, .int .i64 x.leave, .int .i64 x.guard, ve] ∧ SlR 2 StopC w vb x.bars ∧ SlR 3 TailC w ve x.ends ∧ wfi x.par ∧ wfi x.ty ∧ wfi x.win ∧ wfi x.leave ∧ wfi x.guard
def InpC (_ : World) (cs : List Value) (x : TInp) : Prop := cs = [.int .i64 x.op, .int .i64 x.kind, .int .i64 x.pos, .int .i64 x.attr] ∧ wfi x.op ∧ wfi x.kind ∧ wfi x.pos ∧ wfi x.attr
def ValC (_ : World) (cs : List Value) (x : TVal) : Prop := cs = [.int .i64 x.kind, .int .u64 x.bits] ∧ wfi x.kind ∧ wfu x.bits
def InsC (_ : World) (cs : List Value) (x : TIns) : Prop := cs = [.int .i64 x.op, .int .i64 x.dst, .int .i64 x.a, .int .i64 x.b] ∧ wfi x.op ∧ wfi x.dst ∧ wfi x.a ∧ wfi x.b
def CodeC (w : World) (cs : List Value) (x : TCode) : Prop :=
  ∃ vi vc vl, cs = [.int .i64 x.regs, .int .i64 x.slots, vi, vc, vl] ∧ SlR 4 InpC w vi x.inputs ∧ SlR 2 ValC w vc x.consts ∧ SlR 4 InsC w vl x.list ∧ wfi x.regs ∧ wfi x.slots
def TabC (w : World) (cs : List Value) (x : TTab) : Prop :=
  ∃ vk vkk vs vc, cs = [.int .i64 x.strategy, vk, vkk, .int .i64 x.syms, .int .i64 x.runs, .int .i64 x.cells, vs, vc] ∧ SlR 1 IntC w vk x.keys ∧ SlR 1 IntsC w vkk x.kinds ∧ SlR 8 RowC w vs x.states ∧ SlR 5 CodeC w vc x.codes ∧
    wfi x.strategy ∧ wfi x.syms ∧ wfi x.runs ∧ wfi x.cells

theorem cell_in {w : World} {p : Addr} {u : Value} (h : w.cell? p = some u) : p.block < w.heap.size := by
  rcases Nat.lt_or_ge p.block w.heap.size with hl | hl
  · exact hl
  · exfalso
    obtain ⟨b, off, spot⟩ := p
    have hs := World.cell?_spot h
    have hs : spot = none := hs
    subst hs
    unfold World.cell? at h
    rw [Array.getElem?_eq_none hl] at h
    simp at h
/-- what a world keeps: every cell that there was -/
def KeepC (w w' : World) : Prop := ∀ (p : Addr) (u : Value), w.cell? p = some u → w'.cell? p = some u
theorem KeepC.of_below {w w' : World} (h : Below w.heap.size w w') : KeepC w w' := fun p u hp => (h.cell (cell_in hp)).trans hp
theorem KeepC.refl (w : World) : KeepC w w := fun _ _ h => h
theorem KeepC.trans {a b c : World} (h : KeepC a b) (k : KeepC b c) : KeepC a c := fun p u hp => k p u (h p u hp)
theorem SlR.keep {α : Type} {F : Nat} {R : World → List Value → α → Prop} {w w' : World} {v : Value} {xs : List α} (h : SlR F R w v xs) (hk : KeepC w w') (hR : ∀ cs x, R w cs x → R w' cs x) : SlR F R w' v xs := by
  obtain ⟨A, c, hv, h1, h2, h3⟩ := h
  refine ⟨A, c, hv, h1, h2, fun hn => ?_⟩
  obtain ⟨b, off, hA, hc⟩ := h3 hn
  refine ⟨b, off, hA, fun i x hx => ?_⟩
  obtain ⟨cs, hl, hr, hcs⟩ := hc i x hx
  exact ⟨cs, hl, hR cs x hr, fun j u hu => hk _ _ (hcs j u hu)⟩
section
variable {w w' : World} (hk : KeepC w w')
include hk
theorem keep_ints {v : Value} {l : List Int} (h : SlR 1 IntC w v l) : SlR 1 IntC w' v l := h.keep hk fun _ _ h => h
theorem keep_intss {v : Value} {l : List (List Int)} (h : SlR 1 IntsC w v l) : SlR 1 IntsC w' v l := h.keep hk fun _ _ ⟨v, h1, h2⟩ => ⟨v, h1, keep_ints hk h2⟩
theorem keep_stops {v : Value} {l : List TStop} (h : SlR 2 StopC w v l) : SlR 2 StopC w' v l := h.keep hk fun _ _ h => h
theorem keep_tailC {cs : List Value} {x : TTail} (h : TailC w cs x) : TailC w' cs x := by
  obtain ⟨v, h1, h2, h3⟩ := h
  exact ⟨v, h1, keep_stops hk h2, h3⟩
theorem keep_tails {v : Value} {l : List TTail} (h : SlR 3 TailC w v l) : SlR 3 TailC w' v l := h.keep hk fun _ _ h => keep_tailC hk h
theorem keep_rowC {cs : List Value} {x : TRow} (h : RowC w cs x) : RowC w' cs x := by
  obtain ⟨vb, ve, h1, h2, h3, h4⟩ := h
  exact ⟨vb, ve, h1, keep_stops hk h2, keep_tails hk h3, h4⟩
theorem keep_rows {v : Value} {l : List TRow} (h : SlR 8 RowC w v l) : SlR 8 RowC w' v l := h.keep hk fun _ _ h => keep_rowC hk h
theorem keep_inps {v : Value} {l : List TInp} (h : SlR 4 InpC w v l) : SlR 4 InpC w' v l := h.keep hk fun _ _ h => h
theorem keep_vals {v : Value} {l : List TVal} (h : SlR 2 ValC w v l) : SlR 2 ValC w' v l := h.keep hk fun _ _ h => h
theorem keep_inss {v : Value} {l : List TIns} (h : SlR 4 InsC w v l) : SlR 4 InsC w' v l := h.keep hk fun _ _ h => h
theorem keep_codeC {cs : List Value} {x : TCode} (h : CodeC w cs x) : CodeC w' cs x := by
  obtain ⟨vi, vc, vl, h1, h2, h3, h4, h5⟩ := h
  exact ⟨vi, vc, vl, h1, keep_inps hk h2, keep_vals hk h3, keep_inss hk h4, h5⟩
theorem keep_codes {v : Value} {l : List TCode} (h : SlR 5 CodeC w v l) : SlR 5 CodeC w' v l := h.keep hk fun _ _ h => keep_codeC hk h
theorem keep_tabC {cs : List Value} {x : TTab} (h : TabC w cs x) : TabC w' cs x := by
  obtain ⟨vk, vkk, vs, vc, h1, h2, h3, h4, h5, h6⟩ := h
  exact ⟨vk, vkk, vs, vc, h1, keep_ints hk h2, keep_intss hk h3, keep_rows hk h4, keep_codes hk h5, h6⟩
end
theorem SlR.slice {α : Type} {F : Nat} {R : World → List Value → α → Prop} {w : World} {v : Value} {xs : List α} (h : SlR F R w v xs) : ∃ A c, v = .slice A xs.length c ∧ xs.length ≤ c ∧ c ≤ maxLen := by
  obtain ⟨A, c, hv, h1, h2, _⟩ := h
  exact ⟨A, c, hv, h1, h2⟩
theorem SlR.get {α : Type} {F : Nat} {R : World → List Value → α → Prop} {w : World} {v : Value} {xs : List α} (h : SlR F R w v xs) {i : Nat} {x : α} (hx : xs[i]? = some x) :
    ∃ b off c, v = .slice (some ⟨b, off, none⟩) xs.length c ∧ xs.length ≤ c ∧ c ≤ maxLen ∧ i < xs.length ∧ ∃ cs : List Value, cs.length = F ∧ R w cs x ∧ ∀ (j : Nat) (u : Value), cs[j]? = some u → w.cell? ⟨b, off + i * F + j, none⟩ = some u := by
  obtain ⟨A, c, hv, h1, h2, h3⟩ := h
  have hi : i < xs.length := (List.getElem?_eq_some_iff.1 hx).1
  obtain ⟨b, off, rfl, hc⟩ := h3 (by omega)
  exact ⟨b, off, c, hv, h1, h2, hi, hc i x hx⟩
theorem SlR.nil {α : Type} (F : Nat) (R : World → List Value → α → Prop) (w : World) : SlR F R w (.slice none 0 0) [] := ⟨none, 0, rfl, Nat.le_refl _, by decide, fun h => absurd h (by simp)⟩
/-- how much there is -/
def szL {α : Type} (f : α → Nat) (xs : List α) : Nat := (xs.map fun x => f x + 1).sum
def szTail (x : TTail) : Nat := szL (fun _ => 0) x.bars
def szRow (x : TRow) : Nat := szL (fun _ => 0) x.bars + szL szTail x.ends
def szCode (x : TCode) : Nat := szL (fun _ => 0) x.inputs + szL (fun _ => 0) x.consts + szL (fun _ => 0) x.list
def szTab (x : TTab) : Nat := szL (fun _ => 0) x.keys + szL (fun l : List Int => szL (fun _ => 0) l) x.kinds + szL szRow x.states + szL szCode x.codes
theorem szL_len {α : Type} (f : α → Nat) (xs : List α) : xs.length ≤ szL f xs := by
  induction xs with
  | nil => simp [szL]
  | cons x xs ih => simp only [szL, List.map_cons, List.sum_cons, List.length_cons] at ih ⊢; omega
theorem szL_mem {α : Type} (f : α → Nat) {xs : List α} {x : α} (h : x ∈ xs) : f x + 1 ≤ szL f xs := by
  induction xs with
  | nil => cases h
  | cons y xs ih =>
    simp only [szL, List.map_cons, List.sum_cons] at ih ⊢
    rcases List.mem_cons.1 h with rfl | h
    · omega
    · have := ih h; omega
end Go.Proofs.Ytioocaicmiggoaa

/-
  Rows of cells of five, stored into and appended to; what an append leaves of a pool.
-/
import Derived.Test.YtcgapjicbgfpjaaHas
namespace Go.Proofs.Ytcgapjicbgfpjaa
set_option linter.unusedVariables false
set_option linter.unusedSimpArgs false
open Go.RowKit Go.Maps

def cvv (c : Cl) : Value := .agg #[.int .i64 c.prev, .int .i64 c.event, .bool c.fresh, .int .i64 c.own, .int .i64 c.behind]
theorem info_cell : (Try.prog.info? 61).map (fun i => (i.size, i.bytes)) = some (5, 40) := by kernel_rfl
theorem info_bool : (Try.prog.info? 4).map (fun i => (i.zero, i.size, i.bytes)) = some (some (.bool false), 1, 1) := by kernel_rfl

/-- a cell's five values, stored -/
def set5 (w : World) (g i : Nat) (c : Cl) : World :=
  ((((w.setCell ⟨g, i * 5, none⟩ (.int .i64 c.prev)).setCell ⟨g, i * 5 + 1, none⟩ (.int .i64 c.event)).setCell ⟨g, i * 5 + 2, none⟩ (.bool c.fresh)).setCell ⟨g, i * 5 + 3, none⟩ (.int .i64 c.own)).setCell ⟨g, i * 5 + 4, none⟩ (.int .i64 c.behind)
theorem flat_set (c : Cl) : ∀ (xs : List Cl) (i : Nat), i < xs.length →
    ((((((xs.flatMap Cl.cells).set (i * 5) (.int .i64 c.prev)).set (i * 5 + 1) (.int .i64 c.event)).set (i * 5 + 2) (.bool c.fresh)).set (i * 5 + 3) (.int .i64 c.own)).set (i * 5 + 4) (.int .i64 c.behind)) = (xs.set i c).flatMap Cl.cells := by
  intro xs
  induction xs with
  | nil => intro i h; simp at h
  | cons x xs ih =>
    intro i h
    cases i with
    | zero => simp [List.flatMap_cons, Cl.cells]
    | succ i =>
      have h1 := ih i (by simpa using h)
      have hl : x.cells.length = 5 := rfl
      rw [List.set_cons_succ, List.flatMap_cons, List.flatMap_cons, ← h1]
      have e : ∀ (ys : List Value) (k : Nat) (v : Value), (x.cells ++ ys).set ((i + 1) * 5 + k) v = x.cells ++ ys.set (i * 5 + k) v := fun ys k v => by
        rw [List.set_append, if_neg (by omega), hl, show (i + 1) * 5 + k - 5 = i * 5 + k by omega]
      have e0 := e
      rw [show (i + 1) * 5 = (i + 1) * 5 + 0 from rfl, show (i + 1) * 5 + 0 + 1 = (i + 1) * 5 + 1 from rfl, show (i + 1) * 5 + 0 + 2 = (i + 1) * 5 + 2 from rfl, show (i + 1) * 5 + 0 + 3 = (i + 1) * 5 + 3 from rfl, show (i + 1) * 5 + 0 + 4 = (i + 1) * 5 + 4 from rfl, e, e, e, e, e]
      rfl
theorem own_set5 {w : World} {base g n cap i : Nat} {xs : List Cl} (c : Cl) (h : w.ownsRow base 61 5 (.slice (some ⟨g, 0, none⟩) n cap) n (xs.flatMap Cl.cells)) (hi : i < xs.length) :
    (set5 w g i c).ownsRow base 61 5 (.slice (some ⟨g, 0, none⟩) n cap) n ((xs.set i c).flatMap Cl.cells) := by
  rw [← flat_set c xs i hi]
  unfold set5
  exact ((((((h.stored _ _).1).stored _ _).1.stored _ _).1.stored _ _).1.stored _ _).1
theorem heap_set5 (w : World) (g i : Nat) (c : Cl) (b : Nat) (hb : b ≠ g) : (set5 w g i c).heap[b]? = w.heap[b]? := by
  unfold set5
  have e : ∀ (W : World) (j : Nat) (v : Value), (W.setCell ⟨g, j, none⟩ v).heap[b]? = W.heap[b]? := fun W j v => Below.heap_setCell W ⟨g, j, none⟩ v b hb
  rw [e, e, e, e, e]
theorem size_set5 (w : World) (g i : Nat) (c : Cl) : (set5 w g i c).heap.size = w.heap.size := by simp [set5, World.setCell]
theorem kept_set5 {T : Nat → Prop} {w w' : World} {g i : Nat} {c : Cl} (h : KeptT T w w') (hg : ¬ T g) : KeptT T w (set5 w' g i c) :=
  ((((h.setCell (p := ⟨g, _, none⟩) hg _).setCell (p := ⟨g, _, none⟩) hg _).setCell (p := ⟨g, _, none⟩) hg _).setCell (p := ⟨g, _, none⟩) hg _).setCell (p := ⟨g, _, none⟩) hg _

theorem at_set_same {S : St} {i : Nat} (h : i < S.length) (o : Option Cl) : at? (S.set i o) i = o := by
  unfold at?; rw [List.getElem?_set_self h]; rfl
theorem at_set_other {S : St} {i j : Nat} (h : i ≠ j) (o : Option Cl) : at? (S.set i o) j = at? S j := by
  unfold at?; rw [List.getElem?_set_ne h]
theorem at_app_lt {S : St} {i : Nat} (h : i < S.length) (o : Option Cl) : at? (S ++ [o]) i = at? S i := by
  unfold at?; rw [List.getElem?_append_left h]
theorem at_app_last {S : St} (o : Option Cl) : at? (S ++ [o]) S.length = o := by
  unfold at?; simp
theorem at_none_ge {S : St} {i : Nat} (h : S.length ≤ i) : at? S i = none := by
  unfold at?; rw [List.getElem?_eq_none h]; rfl

/-- blocks of two rows of different makes differ -/
theorem own_ne {w : World} {base base' : Nat} {e e' : TypeId} {s s' n n' : Nat} {v v' : Value} {xs ys : List Value} (h : w.ownsRow base e s v n xs) (h' : w.ownsRow base' e' s' v' n' ys) (hne : e ≠ e') {g : Nat} (hg : v.ownBlock = some g) : v'.ownBlock ≠ some g := by
  intro hg'
  rcases h.2 with ⟨rfl, _⟩ | ⟨g1, cap, cur, rfl, _, hh, _⟩
  · simp [Value.ownBlock] at hg
  · rcases h'.2 with ⟨rfl, _⟩ | ⟨g2, cap2, cur2, rfl, _, hh2, _⟩
    · simp [Value.ownBlock] at hg'
    · have e1 : g1 = g := by simpa [Value.ownBlock] using hg
      have e2 : g2 = g := by simpa [Value.ownBlock] using hg'
      subst e1 e2
      rw [hh] at hh2
      injection hh2 with hh2
      injection hh2 with _ hh2
      exact hne hh2
theorem own_map_ne {w : World} {base : Nat} {e k : TypeId} {s n m : Nat} {v : Value} {xs : List Value} {P : Program} {R : Value → Option (DataW Unit × List MemPlace)} {b : Nat} {D : DataW Unit} (h : w.ownsRow base e s v n xs) (h' : w.ownsMap P k R b m D) : v.ownBlock ≠ some b := by
  intro hg
  rcases h.2 with ⟨rfl, _⟩ | ⟨g1, cap, cur, rfl, _, hh, _⟩
  · simp [Value.ownBlock] at hg
  · have e1 : g1 = b := by simpa [Value.ownBlock] using hg
    subst e1
    obtain ⟨es, clock, hb, _⟩ := h'
    rw [hb] at hh
    injection hh with hh
    cases hh
theorem blk_map_ne {w : World} {g : Nat} {t : TypeId} {cs : Array Value} {k : TypeId} {m : Nat} {P : Program} {R : Value → Option (DataW Unit × List MemPlace)} {b : Nat} {D : DataW Unit} (h : Blk w g t cs) (h' : w.ownsMap P k R b m D) : g ≠ b := by
  rintro rfl
  obtain ⟨es, clock, hb, _⟩ := h'
  unfold Blk at h
  rw [h] at hb
  injection hb with hb
  cases hb
theorem own_slice {w : World} {base : Nat} {e : TypeId} {s n : Nat} {v : Value} {xs : List Value} (h : w.ownsRow base e s v n xs) : ∃ A c, v = .slice A n c := by
  rcases h.2 with ⟨rfl, rfl⟩ | ⟨g, cap, cur, rfl, _⟩
  · have := h.1; exact ⟨none, 0, rfl⟩
  · exact ⟨_, cap, rfl⟩
theorem src1 {W : World} {b : Nat} {t : TypeId} {v : Value} (h : Blk W b t #[v]) : Reads W (b + 1) 1 (some ⟨b, 0, none⟩) 1 [v] := by
  refine ⟨rfl, fun _ => ⟨_, rfl, Nat.lt_succ_self _, fun j u hu => ?_⟩⟩
  rw [Go.WideShapes.add_plain, Nat.zero_add, h.cell j]
  rw [← hu]
  show ([v].toArray)[j]? = _
  rw [List.getElem?_toArray]
end Go.Proofs.Ytcgapjicbgfpjaa

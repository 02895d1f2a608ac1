/-
  The walk of the document's Path of a table.
-/
import Derived.Deep.LoopGhost
import Derived.Test.YtabndfkkbmhhjaaLpa
namespace Go.Proofs.Ytabndfkkbmhhjaa
set_option linter.unusedVariables false
set_option linter.unusedSimpArgs false
open Go.RowKit Go.Deep

theorem reads_up {w w' : World} {A : Option Addr} {n : Nat} {xs : List Value} (h : Reads w w.heap.size 1 A n xs) (hb : Below w.heap.size w w') : Reads w' w'.heap.size 1 A n xs := (h.below hb).more hb.size
theorem iv_one (l : List Int) : ∀ u ∈ iv l, u.oneCell' = true := by
  intro u hu
  unfold iv at hu
  rw [List.mem_map] at hu
  obtain ⟨a, _, rfl⟩ := hu
  rfl
theorem pathL_none {rs : List TRow} {i : Int} (h : rowAt rs i = none) (k : Nat) : pathL rs k i = [] := by
  cases k with
  | zero => rfl
  | succ k => simp only [pathL, h]
/-- what holds at the loop's head: k rounds at most to come, at j, l behind -/
def RPathR (w1 : World) (rs : List TRow) (E : List Int) (k : Nat) (j : Int) (vl : Value) (wr : World) : Prop :=
  ∃ (l : List Int) (A : Option Addr) (c : Nat), vl = .slice A l.length c ∧ Reads wr wr.heap.size 1 A l.length (iv l) ∧ pathL rs k j ++ l = E ∧ Below w1.heap.size w1 wr ∧ (j < k ∨ rowAt rs j = none) ∧ l.length + k ≤ rs.length ∧ l.length ≤ c ∧ c ≤ maxLen
def PathQ (w : World) (E : List Int) (e : Ending) (w' : World) : Prop := ∃ A c, e = .returned (.slice A E.length c) ∧ Reads w' w'.heap.size 1 A E.length (iv E) ∧ Below w.heap.size w w'
theorem RPathR.done {w1 wr : World} {rs : List TRow} {E : List Int} {k : Nat} {j : Int} {vl : Value} (h : RPathR w1 rs E k j vl wr) (hj : rowAt rs j = none) : ∃ A c, vl = .slice A E.length c ∧ Reads wr wr.heap.size 1 A E.length (iv E) ∧ Below w1.heap.size w1 wr := by
  obtain ⟨l, A, c, rfl, h1, h2, h3, _⟩ := h
  rw [pathL_none hj] at h2
  have h2 : l = E := h2
  subst h2
  exact ⟨A, c, rfl, h1, h3⟩
theorem RPathR.step {w1 wr : World} {rs : List TRow} {E : List Int} {k q : Nat} {x : TRow} {vl : Value} (h : RPathR w1 rs E k q vl wr) (hx : rs[q]? = some x) :
    ∃ (l : List Int) (A : Option Addr) (c : Nat), vl = .slice A l.length c ∧ Reads wr wr.heap.size 1 A l.length (iv l) ∧ l.length + 1 ≤ rs.length ∧ 0 < k ∧ Below w1.heap.size w1 wr ∧
      ∀ (w4 : World) (v4 : Value), Below wr.heap.size wr w4 → w4.ownsRow wr.heap.size 3 1 v4 (1 + l.length) ([.int .i64 q] ++ iv l) →
        ((q : Int) ≤ x.par → ∃ A c, v4 = .slice A E.length c ∧ Reads w4 w4.heap.size 1 A E.length (iv E) ∧ Below w1.heap.size w1 w4) ∧ (x.par < q → RPathR w1 rs E (k - 1) x.par v4 w4) := by
  obtain ⟨l, A, c, rfl, h1, h2, h3, h4, h5, h6, h7⟩ := h
  have hr : rowAt rs (q : Int) = some x := by rw [rowAt_nat]; exact hx
  have h4 : (q : Int) < k := h4.resolve_right (by rw [hr]; simp)
  refine ⟨l, A, c, rfl, h1, by omega, by omega, h3, fun w4 v4 hb ho => ?_⟩
  obtain ⟨k, rfl⟩ : ∃ k', k = k' + 1 := ⟨k - 1, by omega⟩
  have e : pathL rs (k + 1) q = if 0 ≤ x.par ∧ x.par < q then pathL rs k x.par ++ [(q : Int)] else [(q : Int)] := by simp only [pathL, hr]
  obtain ⟨A4, c4, rfl⟩ := own_slice ho
  obtain ⟨hc4, hm4⟩ := own_caps ho
  have hr4 := Reads.of_own ho
  have hbw := h3.trans (hb.mono h3.size)
  refine ⟨fun hp => ?_, fun hp => ?_⟩
  · rw [e, if_neg (by omega)] at h2
    have h2 : (q : Int) :: l = E := h2
    have hl : E.length = 1 + l.length := by rw [← h2]; simp; omega
    refine ⟨A4, c4, by rw [hl], ?_, hbw⟩
    rw [hl, ← h2]; exact hr4
  · have h9 : pathL rs k x.par ++ ((q : Int) :: l) = E := by
      by_cases h0 : 0 ≤ x.par
      · rw [e, if_pos ⟨h0, hp⟩] at h2
        rw [← h2]; simp
      · rw [e, if_neg (by omega)] at h2
        have hn : rowAt rs x.par = none := by unfold rowAt; rw [if_neg h0]
        rw [pathL_none hn]; exact h2
    have hl : ((q : Int) :: l).length = 1 + l.length := by simp; omega
    exact ⟨(q : Int) :: l, A4, c4, by rw [hl], by rw [hl]; exact hr4, h9, hbw, .inl (by simp; omega), by simp; omega, by rw [hl]; exact hc4, hm4⟩
end Go.Proofs.Ytabndfkkbmhhjaa

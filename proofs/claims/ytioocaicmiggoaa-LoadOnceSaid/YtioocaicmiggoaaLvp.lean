/-
  Which tables may be run: the plain law of load.Verify.
-/
import Derived.Test.YtioocaicmiggoaaLus
namespace Go.Proofs.Ytioocaicmiggoaa
set_option linter.unusedVariables false
set_option linter.unusedSimpArgs false
open Go.RowKit Go.Deep Go.Maps

def rowI (T : TTab) (i : Nat) : Bool := match T.states[i]? with | some x => rowT T i x | none => true
def rowsB (T : TTab) (n : Nat) : Bool := (List.range n).all (rowI T)
def codeB (c : TCode) : Bool := decide (c.regs ≤ 16) && goodB c
def usesI (T : TTab) (i : Nat) : List TUse := match T.states[i]? with | some x => usesRow T i x | none => []
def usesUp (T : TTab) (n : Nat) : List TUse := (List.range n).flatMap (usesI T)
def usesT (T : TTab) : List TUse := usesUp T T.states.length
/-- may a table be run? -/
def verT (T : TTab) : Bool := headT T && rowsB T T.states.length && T.codes.all codeB && (usesT T).all (useOk T) && decide ((toldU (usesT T) []).length = T.codes.length)
theorem rows_step {T : TTab} {r : Nat} {x : TRow} (hx : T.states[r]? = some x) (h : rowsB T r = true) : rowsB T (r + 1) = rowT T r x := by
  unfold rowsB at h ⊢
  rw [List.range_succ, List.all_append, h]
  simp [rowI, hx]
theorem rows_bad {T : TTab} {r : Nat} {x : TRow} (hx : T.states[r]? = some x) (h : rowT T r x = false) : rowsB T T.states.length = false := by
  unfold rowsB
  rw [List.all_eq_false]
  exact ⟨r, List.mem_range.2 (List.getElem?_eq_some_iff.1 hx).1, by simp [rowI, hx, h]⟩
theorem uses_step {T : TTab} {r : Nat} {x : TRow} (hx : T.states[r]? = some x) : usesUp T (r + 1) = usesUp T r ++ usesRow T r x := by
  unfold usesUp
  rw [List.range_succ, List.flatMap_append]
  simp [usesI, hx]
theorem uses_bad {T : TTab} {r : Nat} {x : TRow} (hx : T.states[r]? = some x) (h : (usesRow T r x).all (useOk T) = false) : (usesT T).all (useOk T) = false := by
  rw [List.all_eq_false] at h ⊢
  obtain ⟨u, hu, hu2⟩ := h
  refine ⟨u, ?_, hu2⟩
  unfold usesT usesUp
  rw [List.mem_flatMap]
  exact ⟨r, List.mem_range.2 (List.getElem?_eq_some_iff.1 hx).1, by simp [usesI, hx, hu]⟩
theorem szL_app {α : Type} (f : α → Nat) (a b : List α) : szL f (a ++ b) = szL f a + szL f b := by simp [szL]
theorem usesRow_len (T : TTab) (i : Nat) (x : TRow) : (usesRow T i x).length ≤ 2 * (szRow x + 1) := by
  have h : ∀ (p : List Int) (l : List TTail), (l.flatMap (useEnd p)).length ≤ szL szTail l := by
    intro p l
    induction l with
    | nil => simp [szL]
    | cons e l ih =>
      have h2 := szL_len (fun _ : TStop => 0) e.bars
      simp only [List.flatMap_cons, List.length_append, useEnd, List.length_cons, List.length_map, szL, List.map_cons, List.sum_cons] at ih ⊢
      have h3 : szTail e = (e.bars.map fun x => 0 + 1).sum := rfl
      simp only [szL] at h2
      omega
  have h1 := h (pathT T.states i) x.ends
  have h2 := szL_len (fun _ : TStop => 0) x.bars
  simp only [usesRow, useTwo, List.length_append, List.length_cons, List.length_nil, List.length_map, szRow] at h1 h2 ⊢
  omega
theorem uses_len (T : TTab) : ∀ n, (usesUp T n).length ≤ 2 * szL szRow (T.states.take n) := by
  intro n
  induction n with
  | zero => simp [usesUp]
  | succ n ih =>
    cases hx : T.states[n]? with
    | none =>
      have e : usesUp T (n + 1) = usesUp T n := by unfold usesUp; rw [List.range_succ, List.flatMap_append]; simp [usesI, hx]
      have e2 : T.states.take (n + 1) = T.states.take n := by rw [List.take_add_one, hx]; simp
      rw [e, e2]; exact ih
    | some x =>
      rw [uses_step hx, take_one hx, szL_app, List.length_append]
      have h1 := usesRow_len T n x
      have h2 : szL szRow [x] = szRow x + 1 := by simp [szL]
      omega
theorem szL_take {α : Type} (f : α → Nat) (l : List α) (n : Nat) : szL f (l.take n) ≤ szL f l := by
  conv => rhs; rw [← List.take_append_drop n l, szL_app]
  omega
theorem uses_cap {T : TTab} (h : szTab T ≤ 1048576) (n : Nat) : (usesUp T n).length ≤ 2097152 := by
  have h1 := uses_len T n
  have h2 := szL_take szRow T.states n
  unfold szTab at h
  omega
theorem pos_of_good {T : TTab} (h : T.codes.all codeB = true) : ∀ c ∈ T.codes, ∀ x ∈ c.inputs, 0 ≤ x.pos := by
  intro c hc x hx
  rw [List.all_eq_true] at h
  have h1 := h c hc
  unfold codeB goodB at h1
  simp only [Bool.and_eq_true] at h1
  have h2 := List.all_eq_true.1 h1.2.1.1.2 x hx
  unfold inputB at h2
  simp only [Bool.and_eq_true, decide_eq_true_eq] at h2
  exact h2.1.1.1.1.1.2
theorem states_cap {T : TTab} (h : headT T = true) : T.states.length ≤ 32 := by
  unfold headT headN at h
  simp only [Bool.and_eq_true, decide_eq_true_eq] at h
  omega
theorem codes_cap {T : TTab} (h : headT T = true) : T.codes.length ≤ 1024 := by
  unfold headT headN at h
  simp only [Bool.and_eq_true, decide_eq_true_eq] at h
  omega
end Go.Proofs.Ytioocaicmiggoaa

/-
  What a table's size bounds: the lengths of its slices, and of its plain bytes. No walk.
-/
import Derived.Test.YtioocaicmiggoaaSpl
import Derived.Test.YtioocaicmiggoaaTwt
namespace Go.Proofs.Ytioocaicmiggoaa
set_option linter.unusedVariables false
set_option linter.unusedSimpArgs false
open Go.RowKit Go.Deep

theorem rc_of_sz {T : TTab} (h : szTab T ≤ 1048576) : Wide.rcTab T := by
  unfold szTab at h
  have k1 := szL_len (fun _ : Int => 0) T.keys
  have k2 := szL_len (fun l : List Int => szL (fun _ => 0) l) T.kinds
  have k3 := szL_len szRow T.states
  have k4 := szL_len szCode T.codes
  refine ⟨⟨by omega, fun _ _ => trivial⟩, ⟨by omega, fun l hl => ?_⟩, ⟨by omega, fun r hr => ?_⟩, ⟨by omega, fun c hc => ?_⟩⟩
  · have h1 := szL_mem (fun l : List Int => szL (fun _ => 0) l) hl
    have h2 := szL_len (fun _ : Int => 0) l
    exact ⟨by omega, fun _ _ => trivial⟩
  · have h1 := szL_mem szRow hr
    unfold szRow at h1 h k3
    have h2 := szL_len (fun _ : TStop => 0) r.bars
    have h3 := szL_len szTail r.ends
    refine ⟨⟨by omega, fun _ _ => trivial⟩, ⟨by omega, fun e he => ?_⟩⟩
    have h4 := szL_mem szTail he
    unfold szTail at h4 h1 h k3 h3
    have h5 := szL_len (fun _ : TStop => 0) e.bars
    exact ⟨by omega, fun _ _ => trivial⟩
  · have h1 := szL_mem szCode hc
    unfold szCode at h1 h k4
    have h2 := szL_len (fun _ : TInp => 0) c.inputs
    have h3 := szL_len (fun _ : TVal => 0) c.consts
    have h4 := szL_len (fun _ : TIns => 0) c.list
    exact ⟨⟨by omega, fun _ _ => trivial⟩, ⟨by omega, fun _ _ => trivial⟩, ⟨by omega, fun _ _ => trivial⟩⟩
theorem pflat_le {α : Type} {f : α → List UInt8} {sz : α → Nat} (hf : ∀ x, (f x).length ≤ 100 * (sz x + 1)) (l : List α) : ((l.map f).flatten).length ≤ 100 * szL sz l := by
  induction l with
  | nil => simp [szL]
  | cons x l ih =>
    have h1 := hf x
    unfold szL at ih ⊢
    rw [List.map_cons, List.flatten_cons, List.length_append, List.map_cons, List.sum_cons]
    omega
theorem plist_le {α : Type} {f : α → List UInt8} {sz : α → Nat} (hf : ∀ x, (f x).length ≤ 100 * (sz x + 1)) (l : List α) : (listBy f l).length ≤ 10 + 100 * szL sz l := by
  unfold listBy
  rw [List.length_append]
  have h1 := numsB_len [(l.length : Int)]
  have h2 := pflat_le hf l
  simp only [List.length_cons, List.length_nil] at h1
  omega
theorem pstop_le (x : TStop) : (stopBy x).length ≤ 100 * (0 + 1) := by have h := numsB_len [x.ty, x.gd]; unfold stopBy; simp only [List.length_cons, List.length_nil] at h; omega
theorem ptail_le (x : TTail) : (tailBy x).length ≤ 100 * (szTail x + 1) := by
  have h := numsB_len [x.br, x.cl]
  have h2 := plist_le (sz := fun _ => 0) pstop_le x.bars
  unfold tailBy szTail
  rw [List.length_append]
  simp only [List.length_cons, List.length_nil] at h
  omega
theorem prow_le (x : TRow) : (rowBy x).length ≤ 100 * (szRow x + 1) := by
  have h := numsB_len [x.par, x.ty, mInt x.many, x.win]
  have h1 := numsB_len [x.leave, x.guard]
  have h2 := plist_le (sz := fun _ => 0) pstop_le x.bars
  have h3 := plist_le (sz := szTail) ptail_le x.ends
  unfold rowBy szRow
  simp only [List.length_append]
  simp only [List.length_cons, List.length_nil] at h h1
  omega
theorem pkind_le (l : List Int) : (kindBy l).length ≤ 100 * (szL (fun _ => 0) l + 1) := by
  have h1 := numsB_len [(l.length : Int)]
  have h2 := numsB_len l
  have h3 := szL_len (fun _ : Int => 0) l
  unfold kindBy
  rw [List.length_append]
  simp only [List.length_cons, List.length_nil] at h1
  omega
theorem plain_len {T : TTab} (h : szTab T ≤ 1048576) : (plainBy T).length ≤ 1000000000 := by
  have h1 := numsB_len [T.strategy, T.syms, T.runs, T.cells, (T.keys.length : Int)]
  have h2 := numsB_len T.keys
  have h3 := numsB_len [(T.kinds.length : Int)]
  have h4 := pflat_le (sz := fun l : List Int => szL (fun _ => 0) l) pkind_le T.kinds
  have h5 := plist_le (sz := szRow) prow_le T.states
  have h6 := szL_len (fun _ : Int => 0) T.keys
  unfold plainBy
  unfold szTab at h
  simp only [List.length_append]
  simp only [List.length_cons, List.length_nil] at h1 h3
  omega
end Go.Proofs.Ytioocaicmiggoaa

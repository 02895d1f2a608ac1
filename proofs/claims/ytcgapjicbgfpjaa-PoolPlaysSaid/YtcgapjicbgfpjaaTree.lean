/-
  PoolPaths' own state: one line of cells, each behind the one before. No walk.
-/
import Derived.Test.YtcgapjicbgfpjaaSeen
import Derived.Test.YtcgapjicbgfpjaaMat
namespace Go.Proofs.Ytcgapjicbgfpjaa
set_option linter.unusedVariables false
set_option linter.unusedSimpArgs false
open Go.RowKit Go.Maps

/-- a row's events, the first one fresh -/
def rowL : List Int → List (Int × Bool)
  | [] => []
  | e :: es => (e, true) :: es.map fun x => (x, false)
def flatL (zss : List (List Int)) : List (Int × Bool) := zss.flatMap rowL
def preN (zss : List (List Int)) (r : Nat) : Nat := (flatL (zss.take r)).length
theorem rowL_len (z : List Int) : (rowL z).length = z.length := by cases z <;> simp [rowL]
theorem rowL_at {z : List Int} {i : Nat} (h : i < z.length) : (rowL z)[i]? = some (z[i], decide (i = 0)) := by
  cases z with
  | nil => simp at h
  | cons e es =>
    cases i with
    | zero => rfl
    | succ i => simp only [List.length_cons] at h; simp [rowL, List.getElem?_map, List.getElem?_eq_getElem (show i < es.length by omega)]
theorem flat_split {zss : List (List Int)} {r : Nat} {z : List Int} (h : zss[r]? = some z) : flatL zss = flatL (zss.take r) ++ (rowL z ++ flatL (zss.drop (r + 1))) := by
  obtain ⟨hr, hz⟩ := List.getElem?_eq_some_iff.1 h
  have h1 : zss = zss.take r ++ z :: zss.drop (r + 1) := by
    rw [← hz, List.getElem_cons_drop, List.take_append_drop]
  have h2 := congrArg flatL h1
  simpa [flatL] using h2
theorem flat_at {zss : List (List Int)} {r : Nat} {z : List Int} (h : zss[r]? = some z) {i : Nat} (hi : i < z.length) : (flatL zss)[preN zss r + i]? = some (z[i], decide (i = 0)) := by
  rw [flat_split h, List.getElem?_append_right (by unfold preN; omega), show preN zss r + i - (flatL (zss.take r)).length = i by unfold preN; omega, List.getElem?_append_left (by rw [rowL_len]; exact hi)]
  exact rowL_at hi
theorem pre_succ {zss : List (List Int)} {r : Nat} {z : List Int} (h : zss[r]? = some z) : preN zss (r + 1) = preN zss r + z.length := by
  obtain ⟨hr, hz⟩ := List.getElem?_eq_some_iff.1 h
  unfold preN
  rw [List.take_succ_eq_append_getElem hr]
  simp [flatL, hz, rowL_len]
theorem pre_zero (zss : List (List Int)) : preN zss 0 = 0 := rfl
theorem pre_all {zss : List (List Int)} {n : Nat} (h : zss.length = n) : preN zss n = (flatL zss).length := by unfold preN; rw [← h, List.take_length]
theorem pre_le (zss : List (List Int)) (r : Nat) : preN zss r ≤ (flatL zss).length := by
  have h : flatL zss = flatL (zss.take r) ++ flatL (zss.drop r) := by
    unfold flatL
    rw [← List.flatMap_append, List.take_append_drop]
  unfold preN
  rw [h]; simp

/-- the rows again -/
def grow (acc : List (List Int)) (x : Int × Bool) : List (List Int) := if x.2 then acc ++ [[x.1]] else acc.dropLast ++ [acc.getLastD [] ++ [x.1]]
theorem grow_more (acc : List (List Int)) : ∀ (es : List Int) (z : List Int), (es.map fun x => (x, false)).foldl grow (acc ++ [z]) = acc ++ [z ++ es]
  | [], z => by simp
  | e :: es, z => by
    simp only [List.map_cons, List.foldl_cons]
    have h : grow (acc ++ [z]) (e, false) = acc ++ [z ++ [e]] := by simp [grow]
    rw [h, grow_more acc es (z ++ [e])]
    simp
theorem grow_flat : ∀ (zss : List (List Int)) (acc : List (List Int)), (∀ z ∈ zss, z ≠ []) → (flatL zss).foldl grow acc = acc ++ zss
  | [], acc, _ => by simp [flatL]
  | z :: zss, acc, h => by
    have h1 : flatL (z :: zss) = rowL z ++ flatL zss := by simp [flatL]
    rw [h1, List.foldl_append]
    have h2 : (rowL z).foldl grow acc = acc ++ [z] := by
      cases z with
      | nil => exact absurd rfl (h [] (by simp))
      | cons e es =>
        simp only [rowL, List.foldl_cons]
        have : grow acc (e, true) = acc ++ [[e]] := by simp [grow]
        rw [this, grow_more]; rfl
    rw [h2, grow_flat zss _ (fun x hx => h x (List.mem_cons_of_mem _ hx))]
    simp

/-- the cell i of j, t of them taken twice -/
def pcell (L : List (Int × Bool)) (j t i : Nat) : Cl := ⟨(i : Int) - 1, (L.getD i (0, false)).1, (L.getD i (0, false)).2, if i < t then 2 else 1, if i + 1 < j then 1 else 0⟩
def pst (L : List (Int × Bool)) (j t : Nat) : St := (List.range j).map fun i => some (pcell L j t i)
theorem pst_len (L : List (Int × Bool)) (j t : Nat) : (pst L j t).length = j := by simp [pst]
theorem pst_get (L : List (Int × Bool)) (j t i : Nat) : (pst L j t)[i]? = if i < j then some (some (pcell L j t i)) else none := by
  unfold pst
  by_cases h : i < j
  · rw [if_pos h, List.getElem?_map, List.getElem?_range h]; rfl
  · rw [if_neg h, List.getElem?_eq_none (by simp; omega)]
theorem pst_at (L : List (Int × Bool)) (j t i : Nat) : at? (pst L j t) i = if i < j then some (pcell L j t i) else none := by
  unfold at?
  rw [pst_get]
  by_cases h : i < j
  · rw [if_pos h, if_pos h]; rfl
  · rw [if_neg h, if_neg h]; rfl
theorem pst_some {L : List (Int × Bool)} {j t i : Nat} {c : Cl} (h : at? (pst L j t) i = some c) : i < j ∧ c = pcell L j t i := by
  rw [pst_at] at h
  by_cases hi : i < j
  · rw [if_pos hi] at h; injection h with h; exact ⟨hi, h.symm⟩
  · rw [if_neg hi] at h; cases h
theorem pst_uniq (L : List (Int × Bool)) (j t : Nat) : Uniq (pst L j t) := by
  intro a b c d ha hb h _ _
  obtain ⟨_, rfl⟩ := pst_some ha
  obtain ⟨_, rfl⟩ := pst_some hb
  simp only [pcell] at h
  omega
theorem pst_bnd (L : List (Int × Bool)) (j t : Nat) : Bnd (pst L j t) := by
  intro i c h
  obtain ⟨_, rfl⟩ := pst_some h
  simp only [pcell]
  refine ⟨?_, ?_, ?_, ?_⟩ <;> split <;> decide
theorem pst_cnt (L : List (Int × Bool)) (j t : Nat) : cnt (pst L j t) = j := by
  unfold cnt
  rw [List.countP_eq_length.2 (fun o ho => by
    unfold pst at ho
    obtain ⟨i, _, rfl⟩ := List.mem_map.1 ho
    rfl), pst_len]
theorem pst_zero (L : List (Int × Bool)) : pst L 0 0 = [] := rfl
theorem pst_nofree (L : List (Int × Bool)) (j t : Nat) (c : Cl) : putS (pst L j t) c = (pst L j t ++ [some c], j) := by
  unfold putS
  rw [List.findIdx?_eq_none_iff.2 (fun o ho => by
    unfold pst at ho
    obtain ⟨i, _, rfl⟩ := List.mem_map.1 ho
    rfl), pst_len]
/-- the first time: one more -/
theorem pst_first {L : List (Int × Bool)} {j : Nat} {e : Int} {f : Bool} (hj : L[j]? = some (e, f)) (he : 0 ≤ e) (hf : j = 0 → f = true) (hn : j < 1000) :
    addS (pst L j 0) 1000 ((j : Int) - 1) e f = (pst L (j + 1) 0, (j : Int), true) := by
  have hg : L.getD j (0, false) = (e, f) := by rw [List.getD_eq_getElem?_getD, hj]; rfl
  have hi : idx (pst L j 0) ((j : Int) - 1) e (keyF ((j : Int) - 1) f) = none := idx_not fun i c hc hk => by
    obtain ⟨h1, rfl⟩ := pst_some hc
    have h2 := hk.1
    simp only [pcell] at h2
    omega
  have hhas : ¬ ((j : Int) - 1 ≠ -1 ∧ hasB (pst L j 0) ((j : Int) - 1) = false) := by
    rintro ⟨h1, h2⟩
    unfold hasB at h2
    rw [decide_eq_true (show (0 : Int) ≤ (j : Int) - 1 by omega), show ((j : Int) - 1).toNat = j - 1 by omega, pst_at, if_pos (by omega)] at h2
    cases h2
  unfold addS
  rw [if_neg (by omega), if_neg hhas, hi]
  simp only [pst_cnt]
  rw [if_neg (by omega)]
  by_cases h0 : j = 0
  · subst h0
    rw [if_pos (by decide), pst_nofree]
    have hf := hf rfl
    subst hf
    have : pst L 1 0 = [some (pcell L 1 0 0)] := rfl
    simp only [this, pst_zero, List.nil_append, pcell, hg]
    rfl
  · rw [if_neg (by omega), show ((j : Int) - 1).toNat = j - 1 by omega, pst_at, if_pos (by omega), pst_nofree]
    refine Prod.ext ?_ rfl
    show ((pst L j 0 ++ [some (⟨(j : Int) - 1, e, f, 1, 0⟩ : Cl)]).set (j - 1) (some { pcell L j 0 (j - 1) with behind := (pcell L j 0 (j - 1)).behind + 1 })) = pst L (j + 1) 0
    refine List.ext_getElem? fun i => ?_
    rw [pst_get]
    by_cases hi1 : i = j - 1
    · rw [hi1, List.getElem?_set_self (by simp [pst_len]; omega), if_pos (by omega)]
      simp only [pcell]
      rw [if_neg (show ¬ (j - 1 + 1 < j) by omega), if_pos (show j - 1 + 1 < j + 1 by omega)]
      rfl
    · rw [List.getElem?_set_ne (fun h => hi1 h.symm)]
      by_cases hi2 : i < j
      · rw [List.getElem?_append_left (by rw [pst_len]; exact hi2), pst_get, if_pos hi2, if_pos (by omega)]
        simp only [pcell]
        rw [if_pos (show i + 1 < j by omega), if_pos (show i + 1 < j + 1 by omega)]
      · by_cases hi3 : i = j
        · subst hi3
          rw [List.getElem?_append_right (by rw [pst_len]; exact Nat.le_refl _), pst_len, if_pos (by omega), Nat.sub_self]
          simp only [pcell, hg]
          simp
        · rw [List.getElem?_eq_none (by simp [pst_len]; omega), if_neg (by omega)]
/-- the second time: found -/
theorem pst_second {L : List (Int × Bool)} {n j : Nat} {e : Int} {f : Bool} (hj : L[j]? = some (e, f)) (hjn : j < n) (he : 0 ≤ e) (hf : j = 0 → f = true) :
    addS (pst L n j) 1000 ((j : Int) - 1) e f = (pst L n (j + 1), (j : Int), true) := by
  have hg : L.getD j (0, false) = (e, f) := by rw [List.getD_eq_getElem?_getD, hj]; rfl
  have hat : at? (pst L n j) j = some (pcell L n j j) := by rw [pst_at, if_pos hjn]
  have hk : keyF ((j : Int) - 1) f = f := by
    unfold keyF
    by_cases h0 : j = 0
    · rw [hf h0]; rfl
    · rw [show ((j : Int) - 1 == -1) = false by rw [beq_eq_false_iff_ne]; omega]; simp
  have hi : idx (pst L n j) ((j : Int) - 1) e (keyF ((j : Int) - 1) f) = some j := by
    rw [hk]
    exact (idx_char (pst_uniq L n j)).2 ⟨_, hat, rfl, by simp only [pcell, hg], by simp only [pcell, hg]⟩
  have hhas : ¬ ((j : Int) - 1 ≠ -1 ∧ hasB (pst L n j) ((j : Int) - 1) = false) := by
    rintro ⟨h1, h2⟩
    unfold hasB at h2
    rw [decide_eq_true (show (0 : Int) ≤ (j : Int) - 1 by omega), show ((j : Int) - 1).toNat = j - 1 by omega, pst_at, if_pos (by omega)] at h2
    cases h2
  unfold addS
  rw [if_neg (by omega), if_neg hhas, hi]
  simp only [hat]
  refine Prod.ext ?_ rfl
  show (pst L n j).set j (some { pcell L n j j with own := (pcell L n j j).own + 1 }) = pst L n (j + 1)
  refine List.ext_getElem? fun i => ?_
  rw [pst_get]
  by_cases hi1 : i = j
  · subst hi1
    rw [List.getElem?_set_self (by rw [pst_len]; exact hjn), if_pos hjn]
    simp only [pcell]
    rw [if_neg (show ¬ i < i by omega), if_pos (show i < i + 1 by omega)]
    rfl
  · rw [List.getElem?_set_ne (fun h => hi1 h.symm), pst_get]
    by_cases hi2 : i < n
    · rw [if_pos hi2, if_pos hi2]
      simp only [pcell]
      by_cases hi3 : i < j
      · rw [if_pos hi3, if_pos (show i < j + 1 by omega)]
      · rw [if_neg hi3, if_neg (show ¬ i < j + 1 by omega)]
    · rw [if_neg hi2, if_neg hi2]
theorem pst_cell (L : List (Int × Bool)) (n t j : Nat) (h : j < n) : cellAt (pst L n t) (j : Int) = some (pcell L n t j) := by
  unfold cellAt
  rw [if_pos (by omega), Int.toNat_natCast, pst_at, if_pos h]
theorem pst_cell_neg (L : List (Int × Bool)) (n t : Nat) : cellAt (pst L n t) (-1) = none := rfl
theorem pst_chain {L : List (Int × Bool)} {n t : Nat} (hn : n = L.length) (hL : ∀ e f, L[0]? = some (e, f) → f = true) : ∀ (j k : Nat), j ≤ k → j ≤ n → Chain k (pst L n t) ((j : Int) - 1)
  | 0, k, _, _ => by
    cases k with
    | zero => exact pst_cell_neg L n t
    | succ k => exact .inl (pst_cell_neg L n t)
  | j + 1, k, hk, hj => by
    obtain ⟨k, rfl⟩ : ∃ k', k = k' + 1 := ⟨k - 1, by omega⟩
    have h := pst_chain (t := t) hn hL j k (by omega) (by omega)
    refine .inr ⟨pcell L n t j, ?_, h, fun hf => ?_⟩
    · rw [show ((j + 1 : Nat) : Int) - 1 = (j : Int) by omega]; exact pst_cell L n t j (by omega)
    · have hget := List.getElem?_eq_getElem (show j < L.length by omega)
      by_cases h0 : j = 0
      · subst h0
        have h1 := hL _ _ hget
        simp only [pcell, List.getD_eq_getElem?_getD, hget, Option.getD_some] at hf
        exact absurd (h1.symm.trans hf) (by decide)
      · show (cellAt (pst L n t) ((j : Int) - 1)).isSome = true
        rw [show (j : Int) - 1 = ((j - 1 : Nat) : Int) by omega, pst_cell L n t (j - 1) (by omega)]; rfl
theorem pst_path {L : List (Int × Bool)} {n t : Nat} (hn : n = L.length) : ∀ (j k : Nat), j ≤ k → j ≤ n → pathF k (pst L n t) ((j : Int) - 1) = (L.take j).foldl grow []
  | 0, k, _, _ => by
    cases k with
    | zero => rfl
    | succ k =>
      unfold pathF
      rw [show ((0 : Nat) : Int) - 1 = -1 by decide, pst_cell_neg]; rfl
  | j + 1, k, hk, hj => by
    obtain ⟨k, rfl⟩ : ∃ k', k = k' + 1 := ⟨k - 1, by omega⟩
    have h := pst_path (t := t) hn j k (by omega) (by omega)
    have hjl : j < L.length := by omega
    have hget := List.getElem?_eq_getElem hjl
    rw [show ((j + 1 : Nat) : Int) - 1 = (j : Int) by omega]
    unfold pathF
    rw [pst_cell L n t j (by omega)]
    simp only
    rw [show (pcell L n t j).prev = (j : Int) - 1 from rfl, h, List.take_succ_eq_append_getElem hjl, List.foldl_append]
    simp only [List.foldl_cons, List.foldl_nil, grow, pcell, List.getD_eq_getElem?_getD, hget, Option.getD_some]
/-- what the passes leave: the state, the two ends -/
def stK (L : List (Int × Bool)) (k j : Nat) : St × Int × Int :=
  match k with
  | 0 => (pst L j 0, (j : Int) - 1, -1)
  | 1 => (pst L L.length j, (L.length : Int) - 1, (j : Int) - 1)
  | _ => (pst L L.length L.length, (L.length : Int) - 1, (L.length : Int) - 1)
theorem stK_turn (L : List (Int × Bool)) {k : Nat} (hk : k < 2) : stK L k L.length = stK L (k + 1) 0 := by
  match k, hk with
  | 0, _ => rfl
  | 1, _ => rfl
theorem stK_len {L : List (Int × Bool)} {k j : Nat} (hj : j ≤ L.length) : (stK L k j).1.length ≤ L.length := by
  match k with
  | 0 => simp only [stK, pst_len]; omega
  | 1 => simp only [stK, pst_len]; omega
  | _ + 2 => simp only [stK, pst_len]; omega
theorem stK_uniq (L : List (Int × Bool)) (k j : Nat) : Uniq (stK L k j).1 := by
  match k with
  | 0 => exact pst_uniq _ _ _
  | 1 => exact pst_uniq _ _ _
  | _ + 2 => exact pst_uniq _ _ _
theorem stK_bnd (L : List (Int × Bool)) (k j : Nat) : Bnd (stK L k j).1 := by
  match k with
  | 0 => exact pst_bnd _ _ _
  | 1 => exact pst_bnd _ _ _
  | _ + 2 => exact pst_bnd _ _ _
theorem stK_cnt (L : List (Int × Bool)) {k : Nat} (hk : k < 2) : cnt (stK L k L.length).1 = L.length := by
  match k, hk with
  | 0, _ => exact pst_cnt _ _ _
  | 1, _ => exact pst_cnt _ _ _
theorem stK_step {L : List (Int × Bool)} {k j : Nat} {e : Int} {f : Bool} (hk : k < 2) (hj : L[j]? = some (e, f)) (he : 0 ≤ e) (hf : j = 0 → f = true) (hn : L.length ≤ 300) :
    addS (stK L k j).1 1000 ((j : Int) - 1) e f = ((stK L k (j + 1)).1, (j : Int), true) := by
  have hjl : j < L.length := (List.getElem?_eq_some_iff.1 hj).1
  match k, hk with
  | 0, _ => exact pst_first hj he hf (by omega)
  | 1, _ => exact pst_second hj hjl he hf
/-- what holds in the passes -/
def PathR (w : World) (P B : Nat) (L : List (Int × Bool)) (k j : Nat) (wr : World) : Prop :=
  PoolW (fun g => g < w.heap.size ∨ g = B) wr P (stK L k j).1 1000 ∧ Blk wr B 27 #[.int .i64 (stK L k j).2.1, .int .i64 (stK L k j).2.2] ∧ w.heap.size ≤ B ∧ Below w.heap.size w wr
theorem PathR.turn {w wr : World} {P B k : Nat} {L : List (Int × Bool)} (h : PathR w P B L k L.length wr) (hk : k < 2) : PathR w P B L (k + 1) 0 wr := by
  unfold PathR at *
  rw [← stK_turn L hk]; exact h
theorem PathR.size {w wr : World} {P B k j : Nat} {L : List (Int × Bool)} (h : PathR w P B L k j wr) : B < wr.heap.size := h.2.1.lt
theorem PathR.last {w wr : World} {P B k j : Nat} {L : List (Int × Bool)} (h : PathR w P B L k j wr) (hk : k < 2) : wr.cell? ⟨B, k, none⟩ = some (.int .i64 ((j : Int) - 1)) := by
  have hb := h.2.1
  match k, hk with
  | 0, _ => exact hb.cell 0
  | 1, _ => exact hb.cell 1
theorem PathR.add {w wr : World} {P B k j : Nat} {L : List (Int × Bool)} (h : PathR w P B L k j wr) (hk : k < 2) {e : Int} {f : Bool} (hj : L[j]? = some (e, f)) (he : 0 ≤ e) (hf : j = 0 → f = true) (hn : L.length ≤ 300) (hw : wfi e) :
    Calls Try.prog 10 #[.pointer (some ⟨P, 0, none⟩), .int .i64 ((j : Int) - 1), .int .i64 e, .bool f] wr fun en w' => en = .returned (.tuple #[.int .i64 j, .bool true]) ∧
      (∀ n, PathR w P B L k (j + 1) ((w'.drewN n).setCell ⟨B, k, none⟩ (.int .i64 j))) ∧ w'.cell? ⟨B, k, none⟩ = some (.int .i64 ((j : Int) - 1)) ∧ w'.frozen? ⟨B, k, none⟩ = false := by
  have hjl : j < L.length := (List.getElem?_eq_some_iff.1 hj).1
  have hc := h.last hk
  have hs := h.size
  obtain ⟨hP, hb, hB, hbel⟩ := h
  have A := add_any (fun g => g < w.heap.size ∨ g = B) wr P (stK L k j).1 1000 hP (fun g hg => hg.elim (fun h => Nat.lt_of_lt_of_le h hbel.size) (fun e => by rw [e]; exact hs)) (by have := stK_len (k := k) (Nat.le_of_lt hjl); omega) (stK_uniq L k j) (stK_bnd L k j) ((j : Int) - 1) e f (wf_small _ (by omega) (by omega)) hw
  rw [stK_step hk hj he hf hn] at A
  refine A.mono ?_
  rintro en w' ⟨rfl, hP', hkT⟩
  have hb' : Blk w' B 27 #[.int .i64 (stK L k j).2.1, .int .i64 (stK L k j).2.2] := (hkT.2.2.2.2 B hs (.inr rfl)).trans hb
  have hbel' : Below w.heap.size w w' := hbel.trans (hkT.below (fun g hg => .inl hg) hbel.size)
  refine ⟨rfl, fun n => ⟨?_, ?_, hB, ?_⟩, ?_, hb'.frozen k⟩
  · exact (hP'.drewN n).keep fun g hg hn => Below.heap_setCell _ _ _ g (fun e => hn (.inr e))
  · have h1 : Blk (w'.drewN n) B 27 #[.int .i64 (stK L k j).2.1, .int .i64 (stK L k j).2.2] := hb'
    match k, hk with
    | 0, _ =>
      have h2 := h1.set_ 0 (.int .i64 j)
      simp only [stK] at h2 ⊢
      rw [show ((j + 1 : Nat) : Int) - 1 = (j : Int) by omega]
      exact h2
    | 1, _ =>
      have h2 := h1.set_ 1 (.int .i64 j)
      simp only [stK] at h2 ⊢
      rw [show ((j + 1 : Nat) : Int) - 1 = (j : Int) by omega]
      exact h2
  · exact (below_drewN hbel' n).setCell hB _
  · match k, hk with
    | 0, _ => exact hb'.cell 0
    | 1, _ => exact hb'.cell 1
theorem PathR.used {w wr : World} {P B k : Nat} {L : List (Int × Bool)} (h : PathR w P B L k L.length wr) (hk : k < 2) :
    Calls Try.prog 11 #[.pointer (some ⟨P, 0, none⟩)] wr fun e w' => e = .returned (.int .i64 (L.length : Nat)) ∧ wr = w' := by
  obtain ⟨⟨_, _, _, _, _, _, D, hX, hD⟩, _⟩ := h
  have h1 := used_any hX hD
  rw [stK_cnt L hk] at h1
  exact h1
theorem PathR.ends {w wr : World} {P B : Nat} {L : List (Int × Bool)} (h : PathR w P B L 2 0 wr) : wr.cell? ⟨B, 0, none⟩ = some (.int .i64 ((L.length : Int) - 1)) ∧ wr.cell? ⟨B, 1, none⟩ = some (.int .i64 ((L.length : Int) - 1)) :=
  ⟨h.2.1.cell 0, h.2.1.cell 1⟩
theorem PathR.path {w wr : World} {P B : Nat} {L : List (Int × Bool)} (h : PathR w P B L 2 0 wr) (hn : L.length ≤ 300) (hL : ∀ e f, L[0]? = some (e, f) → f = true) :
    Calls Try.prog 13 #[.pointer (some ⟨P, 0, none⟩), .int .i64 ((L.length : Int) - 1)] wr (PathPost (L.foldl grow []) wr) := by
  obtain ⟨⟨_, _, _, _, _, _, D, hX, hD⟩, _⟩ := h
  have h1 := path_any (by simp only [stK, pst_len]; omega) L.length ((L.length : Int) - 1) wr (by omega) hX (pst_chain (t := L.length) rfl hL L.length L.length (Nat.le_refl _) (Nat.le_refl _))
  have h2 := pst_path (t := L.length) rfl L.length L.length (Nat.le_refl _) (Nat.le_refl _)
  rw [List.take_length] at h2
  rw [show (stK L 2 0).1 = pst L L.length L.length from rfl, h2] at h1
  exact h1
theorem PathR.start {w wr : World} {P : Nat} (L : List (Int × Bool)) (h : PoolW (fun g => g < w.heap.size) wr P [] 1000) (hb : Below w.heap.size w wr) : PathR w P wr.heap.size L 0 0 (wr.alloc (.cells #[.int .i64 (-1), .int .i64 (-1)] 27)) :=
  ⟨(h.turn (fun g hg h => h.elim id (fun e => by omega))).alloc _, Blk.new _ _ _, hb.size, hb.alloc hb.size _⟩
/-- the rows so far are whole, and their events are numbers of the pool -/
def Good (zss : List (List Int)) (r : Nat) : Prop := ∀ i z, i < r → zss[i]? = some z → z ≠ [] ∧ ∀ e ∈ z, 0 ≤ e
theorem good_zero (zss : List (List Int)) : Good zss 0 := fun i z h _ => absurd h (by omega)
theorem good_succ {zss : List (List Int)} {r : Nat} {z : List Int} (h : Good zss r) (hz : zss[r]? = some z) (hn : z ≠ []) (he : ∀ e ∈ z, 0 ≤ e) : Good zss (r + 1) := fun i y hi hy => by
  by_cases hir : i = r
  · subst hir
    rw [hz] at hy; injection hy with hy; subst hy; exact ⟨hn, he⟩
  · exact h i y (by omega) hy
theorem good_all {zss : List (List Int)} {n : Nat} (h : Good zss n) (hn : zss.length = n) : ∀ z ∈ zss, z ≠ [] := fun z hz => by
  obtain ⟨i, hi, rfl⟩ := List.getElem_of_mem hz
  exact (h i _ (by omega) (List.getElem?_eq_getElem hi)).1
theorem good_fold {zss : List (List Int)} {n : Nat} (h : Good zss n) (hn : zss.length = n) : (flatL zss).foldl grow [] = zss := by
  rw [grow_flat zss [] (good_all h hn)]; rfl
theorem good_first {zss : List (List Int)} {n : Nat} (h : Good zss n) (hn : zss.length = n) : ∀ e f, (flatL zss)[0]? = some (e, f) → f = true := fun e f hf => by
  cases zss with
  | nil => simp [flatL] at hf
  | cons z zss =>
    have hz := good_all h hn z (by simp)
    cases z with
    | nil => exact absurd rfl hz
    | cons e' es =>
      simp [flatL, rowL] at hf
      exact hf.2
theorem good_event {zss : List (List Int)} {n r : Nat} (h : Good zss n) (hr : r < n) {z : List Int} (hz : zss[r]? = some z) {i : Nat} (hi : i < z.length) : 0 ≤ z[i] := (h r z hr hz).2 _ (List.getElem_mem hi)
theorem pre_first {zss : List (List Int)} {n r : Nat} (h : Good zss n) (hn : zss.length = n) (hr : r ≤ n) : ∀ i, preN zss r + i = 0 → i = 0 := fun i hi => by omega
theorem InMat.rowsR {w w' : World} {A : Option Addr} {n c : Nat} {zss : List (List Int)} (h : InMat .i64 8 w A n c zss) (hb : Below w.heap.size w w') : RowsR w' A zss := fun hn => by
  obtain ⟨b, off, hA, hbw, hr⟩ := h.at_ (by have := h.num; omega)
  refine ⟨b, off, hA, fun r x hx => ?_⟩
  obtain ⟨A', C', hc, hin⟩ := hr r x hx
  refine ⟨A', C', (hb.cell (p := ⟨b, off + r, none⟩) hbw).trans hc, fun hp => ?_⟩
  obtain ⟨b', off', hA', hbw', hc'⟩ := hin.reads.shape hp
  exact ⟨b', off', hA', fun j hj => (hb.cell (p := ⟨b', off' + j, none⟩) hbw').trans (hc' j _ (by rw [List.getElem?_map, List.getElem?_eq_getElem hj]; rfl))⟩
theorem flat_small : ∀ (zss : List (List Int)), (∀ z ∈ zss, z ≠ []) → zss.length ≤ (flatL zss).length ∧ ∀ x ∈ zss, x.length ≤ (flatL zss).length
  | [], _ => ⟨Nat.zero_le _, fun x h => by cases h⟩
  | z :: zss, h => by
    obtain ⟨h1, h2⟩ := flat_small zss (fun x hx => h x (List.mem_cons_of_mem _ hx))
    have h3 : (flatL (z :: zss)).length = z.length + (flatL zss).length := by simp [flatL, rowL_len]
    have h4 : 0 < z.length := List.length_pos_iff.2 (h z (by simp))
    refine ⟨by simp only [List.length_cons]; omega, fun x hx => ?_⟩
    rcases List.mem_cons.1 hx with rfl | hx
    · omega
    · have := h2 x hx; omega
end Go.Proofs.Ytcgapjicbgfpjaa

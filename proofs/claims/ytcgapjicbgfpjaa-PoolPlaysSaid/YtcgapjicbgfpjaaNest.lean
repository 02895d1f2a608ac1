/-
  Slices of slices of numbers that a call makes: rows in blocks of their own; and such slices as they are read.
-/
import Derived.Test.YtcgapjicbgfpjaaMap
namespace Go.Proofs.Ytcgapjicbgfpjaa
set_option linter.unusedVariables false
set_option linter.unusedSimpArgs false
open Go.RowKit Go.Maps

def iv (l : List Int) : List Value := l.map (Value.int .i64)
theorem own_lower {w : World} {B B' : Nat} {e : TypeId} {s n : Nat} {v : Value} {xs : List Value} (h : w.ownsRow B e s v n xs) (hB : B' ≤ B) : w.ownsRow B' e s v n xs := by
  refine ⟨h.1, ?_⟩
  rcases h.2 with h1 | ⟨g, cap, cur, hv, hb, hr⟩
  · exact .inl h1
  · exact .inr ⟨g, cap, cur, hv, by omega, hr⟩
theorem own_pos_block {w : World} {B : Nat} {e : TypeId} {s n : Nat} {v : Value} {xs : List Value} (h : w.ownsRow B e s v n xs) (hn : 0 < n) : ∃ g, v.ownBlock = some g ∧ B ≤ g ∧ g < w.heap.size := by
  obtain ⟨g, cap, hv, hb, hl⟩ := h.form hn
  exact ⟨g, by rw [hv]; rfl, hb, hl⟩

/-- v is a slice of the slices vs, which hold xss, all made from block B on, no two in one block -/
structure RowsV (B : Nat) (w : World) (v : Value) (vs : List Value) (xss : List (List Int)) : Prop where
  out : w.ownsRow B 25 1 v xss.length vs
  len : vs.length = xss.length
  row : ∀ (j : Nat) (x : List Int), xss[j]? = some x → 0 < x.length ∧ ∃ u : Value, vs[j]? = some u ∧ w.ownsRow B 3 1 u x.length (iv x)
  apart : ∀ (i j : Nat) (u u' : Value), i ≠ j → vs[i]? = some u → vs[j]? = some u' → u.ownBlock ≠ u'.ownBlock
def RowsO (B : Nat) (w : World) (v : Value) (xss : List (List Int)) : Prop := ∃ vs : List Value, RowsV B w v vs xss
theorem RowsO.nil (B : Nat) (w : World) : RowsO B w (.slice none 0 0) [] := ⟨[], ⟨World.ownsRow_nil _ _ _ _, rfl, fun j x h => by simp at h, fun i j u u' _ h => by simp at h⟩⟩
theorem RowsO.lower {B B' : Nat} {w : World} {v : Value} {xss : List (List Int)} (h : RowsO B w v xss) (hB : B' ≤ B) : RowsO B' w v xss := by
  obtain ⟨vs, h1, h2, h3, h4⟩ := h
  refine ⟨vs, own_lower h1 hB, h2, fun j x hx => ?_, h4⟩
  obtain ⟨hp, u, hu, ho⟩ := h3 j x hx
  exact ⟨hp, u, hu, own_lower ho hB⟩
theorem RowsO.below {B : Nat} {w w' : World} {v : Value} {xss : List (List Int)} (h : RowsO B w v xss) (hb : Below w.heap.size w w') : RowsO B w' v xss := by
  obtain ⟨vs, h1, h2, h3, h4⟩ := h
  have hg := only_of_below hb none
  have k : ∀ {e : TypeId} {u : Value} {n : Nat} {xs : List Value}, w.ownsRow B e 1 u n xs → w'.ownsRow B e 1 u n xs := fun {e u n xs} ho => by
    refine ho.kept hg ?_
    cases u.ownBlock with
    | none => exact .inl rfl
    | some g => exact .inr (by simp)
  refine ⟨vs, k h1, h2, fun j x hx => ?_, h4⟩
  obtain ⟨hp, u, hu, ho⟩ := h3 j x hx
  exact ⟨hp, u, hu, k ho⟩
theorem RowsO.drewN {B : Nat} {w : World} {v : Value} {xss : List (List Int)} (h : RowsO B w v xss) (n : Nat) : RowsO B (w.drewN n) v xss := by
  obtain ⟨vs, h1, h2, h3, h4⟩ := h
  exact ⟨vs, h1, h2, h3, h4⟩
theorem RowsO.slice {B : Nat} {w : World} {v : Value} {xss : List (List Int)} (h : RowsO B w v xss) : ∃ A c, v = .slice A xss.length c ∧ xss.length ≤ c ∧ c ≤ maxLen := by
  obtain ⟨vs, h1, _, _, _⟩ := h
  rcases h1.2 with ⟨rfl, h0⟩ | ⟨g, cap, cur, rfl, _, _, hnc, hm, _⟩
  · exact ⟨none, 0, by rw [h0], by omega, by decide⟩
  · exact ⟨_, cap, rfl, hnc, hm⟩

theorem RowsV.alloc {B : Nat} {w : World} {v : Value} {vs : List Value} {xss : List (List Int)} (h : RowsV B w v vs xss) (o : Obj) : RowsV B (w.alloc o) v vs xss :=
  ⟨h.out.alloc o, h.len, fun j x hx => by
    obtain ⟨hp, u, hu, ho⟩ := h.row j x hx
    exact ⟨hp, u, hu, ho.alloc o⟩, h.apart⟩
/-- the rows' blocks are old -/
theorem RowsV.old {B : Nat} {w : World} {v : Value} {vs : List Value} {xss : List (List Int)} (h : RowsV B w v vs xss) {j : Nat} {y : Value} (hy : vs[j]? = some y) : ∃ g, y.ownBlock = some g ∧ g < w.heap.size := by
  have hl : j < vs.length := (List.getElem?_eq_some_iff.1 hy).1
  obtain ⟨hp, u, hu, ho⟩ := h.row j _ (List.getElem?_eq_getElem (by rw [← h.len]; exact hl))
  rw [hy] at hu; injection hu with hu; subst hu
  obtain ⟨g, hg, _, hlt⟩ := own_pos_block ho hp
  exact ⟨g, hg, hlt⟩
/-- one row more -/
theorem RowsV.snoc {B : Nat} {w w' : World} {v v' u : Value} {vs : List Value} {xss : List (List Int)} {x : List Int} (h : RowsV B w v vs xss) (hx : 0 < x.length) (hu : w.ownsRow B 3 1 u x.length (iv x))
    (hnew : ∀ (j : Nat) (y : Value), vs[j]? = some y → y.ownBlock ≠ u.ownBlock)
    (hv : w'.ownsRow B 25 1 v' (xss.length + 1) (vs ++ [u])) (hg : w.grownBy w' v.ownBlock) : RowsO B w' v' (xss ++ [x]) := by
  obtain ⟨h1, h2, h3, h4⟩ := h
  have k : ∀ {y : Value} {n : Nat} {ys : List Value}, w.ownsRow B 3 1 y n ys → w'.ownsRow B 3 1 y n ys := fun {y n ys} ho => by
    refine ho.kept hg ?_
    cases hy : y.ownBlock with
    | none => exact .inl rfl
    | some g => exact .inr (fun e => own_ne h1 ho (by decide) e.symm hy)
  refine ⟨vs ++ [u], by simpa using hv, by simp [h2], fun j y hy => ?_, fun i j a b hij ha hb => ?_⟩
  · rcases Nat.lt_or_ge j xss.length with hj | hj
    · rw [List.getElem?_append_left hj] at hy
      obtain ⟨hp, a, ha, ho⟩ := h3 j y hy
      exact ⟨hp, a, by rw [List.getElem?_append_left (by omega)]; exact ha, k ho⟩
    · have hjl : j < (xss ++ [x]).length := (List.getElem?_eq_some_iff.1 hy).1
      obtain rfl : j = xss.length := by simp at hjl; omega
      rw [List.getElem?_append_right (Nat.le_refl _), Nat.sub_self] at hy
      simp at hy; subst hy
      exact ⟨hx, u, by rw [List.getElem?_append_right (by omega), h2, Nat.sub_self]; rfl, k hu⟩
  · have hl : ∀ i a, (vs ++ [u])[i]? = some a → (i < vs.length ∧ vs[i]? = some a) ∨ (i = vs.length ∧ a = u) := fun i a ha => by
      rcases Nat.lt_or_ge i vs.length with hi | hi
      · rw [List.getElem?_append_left hi] at ha; exact .inl ⟨hi, ha⟩
      · have hil : i < (vs ++ [u]).length := (List.getElem?_eq_some_iff.1 ha).1
        obtain rfl : i = vs.length := by simp at hil; omega
        rw [List.getElem?_append_right (Nat.le_refl _), Nat.sub_self] at ha
        simp at ha; exact .inr ⟨rfl, ha.symm⟩
    rcases hl i a ha with ⟨hi, ha'⟩ | ⟨hi, rfl⟩ <;> rcases hl j b hb with ⟨hj, hb'⟩ | ⟨hj, rfl⟩
    · exact h4 i j a b hij ha' hb'
    · exact hnew i a ha'
    · exact (hnew j b hb').symm
    · omega
/-- the last row grows: what the loaded slice is -/
theorem RowsO.last {B : Nat} {w : World} {v : Value} {yss : List (List Int)} {x : List Int} (h : RowsO B w v (yss ++ [x])) :
    ∃ g cap g2 cap2, v = .slice (some ⟨g, 0, none⟩) (yss.length + 1) cap ∧ w.cell? ⟨g, yss.length, none⟩ = some (.slice (some ⟨g2, 0, none⟩) x.length cap2) ∧ w.frozen? ⟨g, yss.length, none⟩ = false ∧
      w.ownsRow B 3 1 (.slice (some ⟨g2, 0, none⟩) x.length cap2) x.length (iv x) := by
  obtain ⟨vs, h1, h2, h3, h4⟩ := h
  have hl : (yss ++ [x]).length = yss.length + 1 := by simp
  rw [hl] at h1 h2
  obtain ⟨g, cap, rfl, _, _, _, _, hc, hf⟩ := own_shape h1 (by omega)
  obtain ⟨hp, u, hu, ho⟩ := h3 yss.length x (by simp)
  obtain ⟨g2, cap2, rfl, _⟩ := own_shape ho hp
  exact ⟨g, cap, g2, cap2, rfl, hc _ _ hu, hf _, ho⟩
theorem RowsO.grow {B : Nat} {w w1 : World} {g cap g2 cap2 : Nat} {u' : Value} {yss : List (List Int)} {x : List Int} (a : Int)
    (h : RowsO B w (.slice (some ⟨g, 0, none⟩) (yss.length + 1) cap) (yss ++ [x])) (hc : w.cell? ⟨g, yss.length, none⟩ = some (.slice (some ⟨g2, 0, none⟩) x.length cap2))
    (ho : w1.ownsRow B 3 1 u' (x.length + 1) (iv x ++ iv [a])) (hg : w.grownBy w1 (some g2)) (hat : u'.ownBlock = some g2 ∨ ∃ b, u'.ownBlock = some b ∧ w.heap.size ≤ b) :
    RowsO B (w1.setCell ⟨g, yss.length, none⟩ u') (.slice (some ⟨g, 0, none⟩) (yss.length + 1) cap) (yss ++ [x ++ [a]]) := by
  obtain ⟨vs, h1, h2, h3, h4⟩ := h
  have hl : (yss ++ [x]).length = yss.length + 1 := by simp
  rw [hl] at h1 h2
  obtain ⟨hp, u, hu, ho0⟩ := h3 yss.length x (by simp)
  have hcu := h1.cellAt yss.length (by omega)
  rw [hc, hu] at hcu
  injection hcu with hcu
  subst hcu
  have hgg : g ≠ g2 := fun e => own_ne h1 ho0 (by decide) (g := g) rfl (by rw [e]; rfl)
  have h1' := h1.kept hg (.inr (by simp [Value.ownBlock, hgg]))
  have hs := h1'.stored yss.length u'
  have kb : ∀ {y : Value} {n : Nat} {ys : List Value}, w1.ownsRow B 3 1 y n ys → (w1.setCell ⟨g, yss.length, none⟩ u').ownsRow B 3 1 y n ys := fun {y n ys} hy => by
    refine hy.kept hs.2 ?_
    cases hyb : y.ownBlock with
    | none => exact .inl rfl
    | some b => exact .inr (fun e => own_ne h1' hy (by decide) (g := g) rfl (by rw [hyb]; exact e))
  refine ⟨vs.set yss.length u', by have := hs.1; simpa using this, by simp [h2], fun j y hy => ?_, fun i j p q hij hp' hq => ?_⟩
  · rcases Nat.lt_or_ge j yss.length with hj | hj
    · rw [List.getElem?_append_left hj] at hy
      obtain ⟨hp2, b, hb, hob⟩ := h3 j y (by rw [List.getElem?_append_left hj]; exact hy)
      refine ⟨hp2, b, by rw [List.getElem?_set_ne (by omega)]; exact hb, kb (hob.kept hg (.inr (h4 j yss.length b _ (by omega) hb hu)))⟩
    · have hjl : j < (yss ++ [x ++ [a]]).length := (List.getElem?_eq_some_iff.1 hy).1
      obtain rfl : j = yss.length := by simp at hjl; omega
      rw [List.getElem?_append_right (Nat.le_refl _), Nat.sub_self] at hy
      simp at hy; subst hy
      refine ⟨by simp, u', by rw [List.getElem?_set_self (by omega)], kb ?_⟩
      have e : iv (x ++ [a]) = iv x ++ iv [a] := by simp [iv]
      rw [e]; simpa using ho
  · have old : ∀ i y, i ≠ yss.length → vs[i]? = some y → y.ownBlock ≠ u'.ownBlock := fun i y hi hy e => by
      rcases hat with e2 | ⟨b, e2, hb⟩
      · exact h4 i yss.length y _ hi hy hu (by rw [e, e2]; rfl)
      · have hil : i < vs.length := (List.getElem?_eq_some_iff.1 hy).1
        obtain ⟨hp2, z, hz, hoz⟩ := h3 i _ (List.getElem?_eq_getElem (by rw [hl]; omega))
        rw [hy] at hz; injection hz with hz; subst hz
        have := (hoz.lt b (by rw [e, e2])).2
        omega
    by_cases hi : i = yss.length
    · subst hi
      rw [List.getElem?_set_self (by omega)] at hp'
      injection hp' with hp'; subst hp'
      rw [List.getElem?_set_ne hij] at hq
      exact (old j q (fun e => hij e.symm) hq).symm
    · rw [List.getElem?_set_ne (fun e => hi e.symm)] at hp'
      by_cases hj : j = yss.length
      · subst hj
        rw [List.getElem?_set_self (by omega)] at hq
        injection hq with hq; subst hq
        exact old i p hi hp'
      · rw [List.getElem?_set_ne (fun e => hj e.symm)] at hq
        exact h4 i j p q hij hp' hq
end Go.Proofs.Ytcgapjicbgfpjaa

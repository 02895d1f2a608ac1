/-
  Tables in memory of which the blocks are known: kept wherever those blocks stay. No program in sight.
-/
import Derived.Test.YtioocaicmiggoaaLpa
namespace Go.Proofs.Ytioocaicmiggoaa
set_option linter.unusedVariables false
open Go.RowKit

/-- as SlR, the block being one of Q -/
def SlQ {α : Type} (Q : Nat → Prop) (F : Nat) (R : World → List Value → α → Prop) (w : World) (v : Value) (xs : List α) : Prop :=
  ∃ (A : Option Addr) (c : Nat), v = .slice A xs.length c ∧ xs.length ≤ c ∧ c ≤ maxLen ∧
    (0 < xs.length → ∃ b off, A = some ⟨b, off, none⟩ ∧ Q b ∧ ∀ (i : Nat) (x : α), xs[i]? = some x → ∃ cs : List Value, cs.length = F ∧ R w cs x ∧ ∀ (j : Nat) (u : Value), cs[j]? = some u → w.cell? ⟨b, off + i * F + j, none⟩ = some u)
def IntsQ (Q : Nat → Prop) (w : World) (cs : List Value) (l : List Int) : Prop := ∃ v, cs = [v] ∧ SlQ Q 1 IntC w v l
def TailQ (Q : Nat → Prop) (w : World) (cs : List Value) (x : TTail) : Prop := ∃ v, cs = [.int .i64 x.br, .int .i64 x.cl, v] ∧ SlQ Q 2 StopC w v x.bars ∧ wfi x.br ∧ wfi x.cl
def RowQ (Q : Nat → Prop) (w : World) (cs : List Value) (x : TRow) : Prop :=
  ∃ vb ve, cs = [.int .i64 x.par, .int .i64 x.ty, .bool x.many, .int .i64 x.win, vb, .int .i64 x.leave, .int .i64 x.guard, ve] ∧ SlQ Q 2 StopC w vb x.bars ∧ SlQ Q 3 (TailQ Q) w ve x.ends ∧ wfi x.par ∧ wfi x.ty ∧ wfi x.win ∧ wfi x.leave ∧ wfi x.guard
def CodeQ (Q : Nat → Prop) (w : World) (cs : List Value) (x : TCode) : Prop :=
  ∃ vi vc vl, cs = [.int .i64 x.regs, .int .i64 x.slots, vi, vc, vl] ∧ SlQ Q 4 InpC w vi x.inputs ∧ SlQ Q 2 ValC w vc x.consts ∧ SlQ Q 4 InsC w vl x.list ∧ wfi x.regs ∧ wfi x.slots
/-- cells in the blocks of Q stay -/
def KeepQ (Q : Nat → Prop) (w w' : World) : Prop := ∀ (p : Addr) (u : Value), Q p.block → w.cell? p = some u → w'.cell? p = some u
section
variable {Q Q' : Nat → Prop} {w w' : World}
theorem SlQ.keep {α : Type} {F : Nat} {R R' : World → List Value → α → Prop} {v : Value} {xs : List α} (h : SlQ Q F R w v xs) (hk : KeepQ Q w w') (hQ : ∀ b, Q b → Q' b) (hR : ∀ cs x, R w cs x → R' w' cs x) : SlQ Q' F R' w' v xs := by
  obtain ⟨A, c, hv, h1, h2, h3⟩ := h
  refine ⟨A, c, hv, h1, h2, fun hn => ?_⟩
  obtain ⟨b, off, hA, hq, hc⟩ := h3 hn
  refine ⟨b, off, hA, hQ b hq, fun i x hx => ?_⟩
  obtain ⟨cs, hl, hr, hcs⟩ := hc i x hx
  exact ⟨cs, hl, hR cs x hr, fun j u hu => hk _ _ hq (hcs j u hu)⟩
theorem IntsQ.keep {cs : List Value} {x : List Int} (h : IntsQ Q w cs x) (hk : KeepQ Q w w') (hQ : ∀ b, Q b → Q' b) : IntsQ Q' w' cs x := by
  obtain ⟨v, h1, h2⟩ := h
  exact ⟨v, h1, h2.keep hk hQ fun _ _ h => h⟩
theorem TailQ.keep {cs : List Value} {x : TTail} (h : TailQ Q w cs x) (hk : KeepQ Q w w') (hQ : ∀ b, Q b → Q' b) : TailQ Q' w' cs x := by
  obtain ⟨v, h1, h2, h3⟩ := h
  exact ⟨v, h1, h2.keep hk hQ fun _ _ h => h, h3⟩
theorem RowQ.keep {cs : List Value} {x : TRow} (h : RowQ Q w cs x) (hk : KeepQ Q w w') (hQ : ∀ b, Q b → Q' b) : RowQ Q' w' cs x := by
  obtain ⟨vb, ve, h1, h2, h3, h4⟩ := h
  exact ⟨vb, ve, h1, h2.keep hk hQ fun _ _ h => h, h3.keep hk hQ fun _ _ h => h.keep hk hQ, h4⟩
theorem CodeQ.keep {cs : List Value} {x : TCode} (h : CodeQ Q w cs x) (hk : KeepQ Q w w') (hQ : ∀ b, Q b → Q' b) : CodeQ Q' w' cs x := by
  obtain ⟨vi, vc, vl, h1, h2, h3, h4, h5⟩ := h
  exact ⟨vi, vc, vl, h1, h2.keep hk hQ fun _ _ h => h, h3.keep hk hQ fun _ _ h => h, h4.keep hk hQ fun _ _ h => h, h5⟩
theorem SlQ.out {α : Type} {F : Nat} {R R' : World → List Value → α → Prop} {v : Value} {xs : List α} (h : SlQ Q F R w v xs) (hR : ∀ cs x, R w cs x → R' w cs x) : SlR F R' w v xs := by
  obtain ⟨A, c, hv, h1, h2, h3⟩ := h
  refine ⟨A, c, hv, h1, h2, fun hn => ?_⟩
  obtain ⟨b, off, hA, hq, hc⟩ := h3 hn
  refine ⟨b, off, hA, fun i x hx => ?_⟩
  obtain ⟨cs, hl, hr, hcs⟩ := hc i x hx
  exact ⟨cs, hl, hR cs x hr, hcs⟩
theorem IntsQ.out {cs : List Value} {x : List Int} (h : IntsQ Q w cs x) : IntsC w cs x := by
  obtain ⟨v, h1, h2⟩ := h
  exact ⟨v, h1, h2.out fun _ _ h => h⟩
theorem TailQ.out {cs : List Value} {x : TTail} (h : TailQ Q w cs x) : TailC w cs x := by
  obtain ⟨v, h1, h2, h3⟩ := h
  exact ⟨v, h1, h2.out fun _ _ h => h, h3⟩
theorem RowQ.out {cs : List Value} {x : TRow} (h : RowQ Q w cs x) : RowC w cs x := by
  obtain ⟨vb, ve, h1, h2, h3, h4⟩ := h
  exact ⟨vb, ve, h1, h2.out fun _ _ h => h, h3.out fun _ _ h => h.out, h4⟩
theorem CodeQ.out {cs : List Value} {x : TCode} (h : CodeQ Q w cs x) : CodeC w cs x := by
  obtain ⟨vi, vc, vl, h1, h2, h3, h4, h5⟩ := h
  exact ⟨vi, vc, vl, h1, h2.out fun _ _ h => h, h3.out fun _ _ h => h, h4.out fun _ _ h => h, h5⟩
theorem SlQ.nil {α : Type} (F : Nat) (R : World → List Value → α → Prop) (w : World) : SlQ Q F R w (.slice none 0 0) [] := ⟨none, 0, rfl, Nat.le_refl _, by decide, fun h => absurd h (by simp)⟩
theorem KeepQ.of_below {B : Nat} (h : Below B w w') (hQ : ∀ b, Q b → b < B) : KeepQ Q w w' := fun p u hq hp => (h.cell (hQ _ hq)).trans hp
theorem KeepQ.of_grown {row : Option Nat} (h : w.grownBy w' row) (hQ : ∀ b, Q b → some b ≠ row) : KeepQ Q w w' := fun p u hq hp => (World.cell?_of_block (h.block p.block (cell_in hp) (hQ _ hq))).trans hp
theorem KeepQ.of_set {a : Addr} {v : Value} (hQ : ∀ b, Q b → b ≠ a.block) : KeepQ Q w (w.setCell a v) := fun p u hq hp => (World.cell?_setCell_other w a p v (fun e => hQ _ hq (by rw [e]))).trans hp
theorem KeepQ.trans {w'' : World} (h : KeepQ Q w w') (k : KeepQ Q w' w'') : KeepQ Q w w'' := fun p u hq hp => k p u hq (h p u hq hp)
end
/-- cells by cells, one list an element -/
def FlatR {α : Type} (F : Nat) (R : World → List Value → α → Prop) (w : World) (css : List (List Value)) (xs : List α) : Prop :=
  css.length = xs.length ∧ ∀ (i : Nat) (x : α), xs[i]? = some x → ∃ cs, css[i]? = some cs ∧ cs.length = F ∧ R w cs x
theorem FlatR.nil {α : Type} (F : Nat) (R : World → List Value → α → Prop) (w : World) : FlatR F R w [] [] := ⟨rfl, fun i x hx => by simp at hx⟩
theorem FlatR.snoc {α : Type} {F : Nat} {R : World → List Value → α → Prop} {w : World} {css : List (List Value)} {xs : List α} (h : FlatR F R w css xs) {cs : List Value} {x : α} (hl : cs.length = F) (hx : R w cs x) : FlatR F R w (css ++ [cs]) (xs ++ [x]) := by
  refine ⟨by simp [h.1], fun i y hy => ?_⟩
  rcases Nat.lt_or_ge i xs.length with hi | hi
  · rw [List.getElem?_append_left hi] at hy
    obtain ⟨c, h1, h2⟩ := h.2 i y hy
    exact ⟨c, by rw [List.getElem?_append_left (by rw [h.1]; exact hi)]; exact h1, h2⟩
  · rw [List.getElem?_append_right hi] at hy
    have hi0 : i - xs.length = 0 := by
      rcases Nat.eq_zero_or_pos (i - xs.length) with h0 | h0
      · exact h0
      · rw [List.getElem?_eq_none (by simp; omega)] at hy; cases hy
    rw [hi0] at hy
    simp at hy
    subst hy
    exact ⟨cs, by rw [List.getElem?_append_right (by rw [h.1]; exact hi), h.1, hi0]; rfl, hl, hx⟩
theorem FlatR.keep {α : Type} {F : Nat} {R R' : World → List Value → α → Prop} {w w' : World} {css : List (List Value)} {xs : List α} (h : FlatR F R w css xs) (hR : ∀ cs x, R w cs x → R' w' cs x) : FlatR F R' w' css xs :=
  ⟨h.1, fun i x hx => by obtain ⟨cs, h1, h2, h3⟩ := h.2 i x hx; exact ⟨cs, h1, h2, hR _ _ h3⟩⟩
theorem flat_len {F : Nat} : ∀ {css : List (List Value)}, (∀ cs ∈ css, cs.length = F) → css.flatten.length = css.length * F
  | [], _ => by simp
  | c :: css, h => by
    have h1 := flat_len (css := css) (fun cs hc => h cs (List.mem_cons_of_mem _ hc))
    have h2 := h c (by simp)
    rw [List.flatten_cons, List.length_append, h1, h2, List.length_cons, Nat.succ_mul]
    omega
theorem flat_get {F : Nat} : ∀ {css : List (List Value)} {i : Nat} {cs : List Value}, (∀ cs ∈ css, cs.length = F) → css[i]? = some cs → ∀ (j : Nat) (u : Value), cs[j]? = some u → css.flatten[i * F + j]? = some u
  | [], i, cs, _, hi => by simp at hi
  | c :: css, 0, cs, h, hi => fun j u hu => by
    simp at hi; subst hi
    have hj := (List.getElem?_eq_some_iff.1 hu).1
    rw [List.flatten_cons, Nat.zero_mul, Nat.zero_add, List.getElem?_append_left hj]
    exact hu
  | c :: css, i + 1, cs, h, hi => fun j u hu => by
    have h2 := h c (by simp)
    rw [List.getElem?_cons_succ] at hi
    have h3 := flat_get (css := css) (fun cs hc => h cs (List.mem_cons_of_mem _ hc)) hi j u hu
    rw [List.flatten_cons, List.getElem?_append_right (by rw [h2, Nat.succ_mul]; omega), h2, show (i + 1) * F + j - F = i * F + j by rw [Nat.succ_mul]; omega]
    exact h3
theorem FlatR.each {α : Type} {F : Nat} {R : World → List Value → α → Prop} {w : World} {css : List (List Value)} {xs : List α} (h : FlatR F R w css xs) : ∀ cs ∈ css, cs.length = F := by
  intro cs hc
  obtain ⟨i, hi, rfl⟩ := List.getElem_of_mem hc
  have hx : xs[i]? = some (xs[i]'(by rw [← h.1]; exact hi)) := List.getElem?_eq_getElem _
  obtain ⟨c, h1, h2, _⟩ := h.2 i _ hx
  rw [List.getElem?_eq_getElem hi] at h1
  injection h1 with h1
  rw [h1]; exact h2
/-- a row of the call's own, read as a list -/
theorem slq_of_own {α : Type} {Q : Nat → Prop} {F base : Nat} {e : TypeId} {R : World → List Value → α → Prop} {w : World} {v : Value} {css : List (List Value)} {xs : List α} (hf : FlatR F R w css xs) (ho : w.ownsRow base e F v xs.length css.flatten)
    (hQ : ∀ g, v.ownBlock = some g → base ≤ g → g < w.heap.size → Q g) (hnil : 0 < xs.length ∨ True) : SlQ Q F R w v xs := by
  rcases Nat.eq_zero_or_pos xs.length with h0 | h0
  · have hx : xs = [] := List.eq_nil_of_length_eq_zero h0
    subst hx
    obtain ⟨A, c, rfl⟩ := own_slice ho
    exact ⟨A, c, rfl, (own_caps ho).1, (own_caps ho).2, fun h => absurd h (by simp)⟩
  · obtain ⟨g, cap, rfl, hb, hlt, hnc, hcm, hc, _⟩ := own_shape ho h0
    refine ⟨some ⟨g, 0, none⟩, cap, rfl, hnc, hcm, fun _ => ⟨g, 0, rfl, hQ g rfl hb hlt, fun i x hx => ?_⟩⟩
    obtain ⟨cs, h1, h2, h3⟩ := hf.2 i x hx
    refine ⟨cs, h2, h3, fun j u hu => ?_⟩
    rw [Nat.zero_add]
    exact hc _ u (flat_get hf.each h1 j u hu)
/-- what came in, cells by cells -/
theorem flat_of_slr {α : Type} {F : Nat} {R : World → List Value → α → Prop} {w : World} {v : Value} {xs : List α} (h : SlR F R w v xs) :
    ∃ (css : List (List Value)) (A : Option Addr) (c : Nat), v = .slice A xs.length c ∧ xs.length ≤ c ∧ c ≤ maxLen ∧ FlatR F R w css xs ∧ (0 < F → Reads w w.heap.size F A xs.length css.flatten) := by
  obtain ⟨A, c, hv, h1, h2, h3⟩ := h
  rcases Nat.eq_zero_or_pos xs.length with h0 | h0
  · have hx : xs = [] := List.eq_nil_of_length_eq_zero h0
    subst hx
    exact ⟨[], A, c, hv, h1, h2, FlatR.nil _ _ _, fun _ => ⟨by simp, fun h => absurd h (by simp)⟩⟩
  · obtain ⟨b, off, hA, hc⟩ := h3 h0
    have hex : ∀ i, ∃ cs : List Value, i < xs.length → cs.length = F ∧ (∀ x, xs[i]? = some x → R w cs x) ∧ ∀ j u, cs[j]? = some u → w.cell? ⟨b, off + i * F + j, none⟩ = some u := fun i => by
      by_cases hi : i < xs.length
      · obtain ⟨cs, h4, h5, h6⟩ := hc i _ (List.getElem?_eq_getElem hi)
        exact ⟨cs, fun _ => ⟨h4, fun x hx => by rw [List.getElem?_eq_getElem hi] at hx; injection hx with hx; rw [← hx]; exact h5, h6⟩⟩
      · exact ⟨[], fun h => absurd h hi⟩
    obtain ⟨g, hg⟩ := Classical.axiomOfChoice hex
    have hget : ∀ i, i < xs.length → ((List.range xs.length).map g)[i]? = some (g i) := fun i hi => by rw [List.getElem?_map, List.getElem?_range hi]; rfl
    have hF : FlatR F R w ((List.range xs.length).map g) xs := ⟨by simp, fun i x hx => by
      have hi := (List.getElem?_eq_some_iff.1 hx).1
      exact ⟨g i, hget i hi, (hg i hi).1, (hg i hi).2.1 x hx⟩⟩
    refine ⟨(List.range xs.length).map g, A, c, hv, h1, h2, hF, fun hFp => ⟨by rw [flat_len hF.each, hF.1], fun _ => ⟨⟨b, off, none⟩, hA, ?_, fun k u hu => ?_⟩⟩⟩
    · obtain ⟨q1, q2, q3⟩ := hg 0 h0
      have hu := List.getElem?_eq_getElem (show 0 < (g 0).length by omega)
      have h9 := cell_in (q3 0 _ hu)
      exact h9
    · have hk := (List.getElem?_eq_some_iff.1 hu).1
      rw [flat_len hF.each, hF.1] at hk
      have hi : k / F < xs.length := Nat.div_lt_of_lt_mul (by rw [Nat.mul_comm]; exact hk)
      obtain ⟨q1, q2, q3⟩ := hg (k / F) hi
      have hj : k % F < (g (k / F)).length := by rw [q1]; exact Nat.mod_lt _ hFp
      have e1 := flat_get hF.each (hget _ hi) (k % F) _ (List.getElem?_eq_getElem hj)
      have e2 : k / F * F + k % F = k := by rw [Nat.mul_comm]; exact Nat.div_add_mod k F
      rw [e2, hu] at e1
      injection e1 with e1
      have e3 := q3 (k % F) _ (List.getElem?_eq_getElem hj)
      rw [← e1, Nat.add_assoc, e2] at e3
      rw [Go.WideShapes.add_plain]
      exact e3
end Go.Proofs.Ytioocaicmiggoaa

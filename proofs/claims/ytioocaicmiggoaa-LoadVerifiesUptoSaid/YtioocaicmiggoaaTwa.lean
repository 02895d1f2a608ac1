/-
  A list that a call collects, element by element, each with memory of its own. No walk.
-/
import Derived.Test.YtioocaicmiggoaaTwc
namespace Go.Proofs.Ytioocaicmiggoaa
set_option linter.unusedVariables false
open Go.RowKit

def QA (B : Nat) (v : Value) (w : World) (b : Nat) : Prop := B ≤ b ∧ b < w.heap.size ∧ some b ≠ v.ownBlock
section
variable {α : Type} {B : Nat} {e : TypeId} {F : Nat} {R : (Nat → Prop) → World → List Value → α → Prop} {w w' w2 w3 : World} {v v' : Value} {xs : List α} {css : List (List Value)}
theorem own_below (h : w.ownsRow B e F v xs.length css.flatten) (hb : Below w.heap.size w w') : w'.ownsRow B e F v xs.length css.flatten := by
  refine ⟨h.1, ?_⟩
  rcases h.2 with h1 | ⟨g, cap, cur, hv, hB, hh, hr⟩
  · exact .inl h1
  · have hlt : g < w.heap.size := (Array.getElem?_eq_some_iff.1 hh).1
    exact .inr ⟨g, cap, cur, hv, hB, (hb.block g hlt).trans hh, hr⟩
theorem own_lt {n s : Nat} {ys : List Value} (h : w.ownsRow B e s v n ys) {g : Nat} (hg : v.ownBlock = some g) : g < w.heap.size ∧ B ≤ g := by
  rcases h.2 with ⟨rfl, _⟩ | ⟨g', cap, cur, rfl, hB, hh, hr⟩
  · simp [Value.ownBlock] at hg
  · have : g' = g := by simpa [Value.ownBlock] using hg
    subst this
    exact ⟨(Array.getElem?_eq_some_iff.1 hh).1, hB⟩
end
def KeepsQ {α : Type} (R : (Nat → Prop) → World → List Value → α → Prop) : Prop := ∀ (Q Q' : Nat → Prop) (w w' : World) (cs : List Value) (x : α), R Q w cs x → KeepQ Q w w' → (∀ b, Q b → Q' b) → R Q' w' cs x
/-- v is a row of the call's own, from block B on; the elements' own memory lies from B on too, apart from the row -/
def Acc {α : Type} (B : Nat) (e : TypeId) (F : Nat) (R : (Nat → Prop) → World → List Value → α → Prop) (w : World) (v : Value) (xs : List α) (css : List (List Value)) : Prop :=
  w.ownsRow B e F v xs.length css.flatten ∧ FlatR F (R (QA B v w)) w css xs
section
variable {α : Type} {B : Nat} {e : TypeId} {F : Nat} {R : (Nat → Prop) → World → List Value → α → Prop} {w w' w2 w3 : World} {v v' : Value} {xs : List α} {css : List (List Value)}
theorem Acc.nil (w : World) : Acc B e F R w (.slice none 0 0) [] [] := ⟨World.ownsRow_nil _ _ _ _, FlatR.nil _ _ _⟩
theorem Acc.below (hR : KeepsQ R) (h : Acc B e F R w v xs css) (hb : Below w.heap.size w w') : Acc B e F R w' v xs css := by
  refine ⟨own_below h.1 hb, h.2.keep fun cs x hx => hR _ _ _ _ _ _ hx (KeepQ.of_below hb fun b hq => hq.2.1) fun b hq => ⟨hq.1, Nat.lt_of_lt_of_le hq.2.1 hb.size, hq.2.2⟩⟩
theorem Acc.step (hR : KeepsQ R) (h : Acc B e F R w v xs css) (hBw : B ≤ w.heap.size) (hb : Below w.heap.size w w2) {cs : List Value} {x : α} (hl : cs.length = F) (hx : R (fun b => w.heap.size ≤ b ∧ b < w2.heap.size) w2 cs x)
    (ho : w3.ownsRow B e F v' (xs.length + 1) (css.flatten ++ cs)) (hg : w2.grownBy w3 v.ownBlock) (hat : v'.ownBlock = v.ownBlock ∨ v'.ownBlock = some w2.heap.size) : Acc B e F R w3 v' (xs ++ [x]) (css ++ [cs]) := by
  have hvlt : ∀ g, v.ownBlock = some g → g < w.heap.size := fun g hg => (own_lt h.1 hg).1
  have hne : ∀ b, some b ≠ v.ownBlock → b < w2.heap.size → some b ≠ v'.ownBlock := fun b h1 h2 => by
    rcases hat with h3 | h3
    · rw [h3]; exact h1
    · rw [h3]; intro e; injection e with e; omega
  refine ⟨?_, FlatR.snoc ?_ hl ?_⟩
  · rw [List.length_append, List.flatten_append]
    simpa using ho
  · refine h.2.keep fun cs x hx => hR _ _ _ _ _ _ hx ?_ fun b hq => ⟨hq.1, Nat.lt_of_lt_of_le hq.2.1 (Nat.le_trans hb.size hg.size), hne b hq.2.2 (Nat.lt_of_lt_of_le hq.2.1 hb.size)⟩
    exact (KeepQ.of_below hb fun b hq => hq.2.1).trans (KeepQ.of_grown hg fun b hq => hq.2.2)
  · have hself : ∀ b, w.heap.size ≤ b → some b ≠ v.ownBlock := fun b hb2 e => by have := hvlt b e.symm; omega
    exact hR _ _ _ _ _ _ hx (KeepQ.of_grown hg fun b hq => hself b hq.1) fun b hq => ⟨Nat.le_trans hBw hq.1, Nat.lt_of_lt_of_le hq.2 hg.size, hne b (hself b hq.1) hq.2⟩
theorem Acc.done (h : Acc B e F R w v xs css) (hR : KeepsQ R) : SlQ (fun b => B ≤ b ∧ b < w.heap.size) F (R (fun b => B ≤ b ∧ b < w.heap.size)) w v xs := by
  refine slq_of_own (h.2.keep fun cs x hx => hR _ _ _ _ _ _ hx (fun p u _ hp => hp) fun b hq => ⟨hq.1, hq.2.1⟩) h.1 (fun g _ h1 h2 => ⟨h1, h2⟩) (.inr trivial)
/-- apart: the elements' memory is not the row's own block -/
theorem Acc.apart (h : Acc B e F R w v xs css) (hR : KeepsQ R) : SlQ (fun b => B ≤ b ∧ b < w.heap.size ∧ some b = v.ownBlock) F (R (QA B v w)) w v xs :=
  slq_of_own h.2 h.1 (fun g hg h1 h2 => ⟨h1, h2, hg.symm⟩) (.inr trivial)
end
theorem keeps_ints : KeepsQ IntsQ := fun Q Q' w w' cs x h hk hq => h.keep hk hq
theorem keeps_tail : KeepsQ TailQ := fun Q Q' w w' cs x h hk hq => h.keep hk hq
theorem keeps_row : KeepsQ RowQ := fun Q Q' w w' cs x h hk hq => h.keep hk hq
theorem keeps_code : KeepsQ CodeQ := fun Q Q' w w' cs x h hk hq => h.keep hk hq
end Go.Proofs.Ytioocaicmiggoaa

/-
  A region that draws its order: a load may be taken first while what it reads is known to stay, and nothing is asked of the operations that wait for it. No program in sight.
-/
import Derived.RegionTactic
import Derived.OrdersHeld
import Derived.Deep.RegionHeld
namespace Go.Proofs.Ytioocaicmiggoaa
open Go
set_option linter.unusedVariables false

section
variable {P : Program} {ops : Array Oper} {Q : Exit → Act → World → Prop} {md : Region.Mode} {S : World → Prop} {ex : Nat → Bool}
/-- whatever order is picked; behind each operation that is not excepted S is to be shown -/
def Till (P : Program) (md : Region.Mode) (ops : Array Oper) (Q : Exit → Act → World → Prop) (S : World → Prop) (ex : Nat → Bool) : Nat → Array Bool → Act → World → Prop
  | 0, listed, a, w => Region.ready md ops listed = [] ∧ Q .normal a w
  | f + 1, listed, a, w => (Region.ready md ops listed = [] → Q .normal a w) ∧
    ∀ j ∈ Region.ready md ops listed, wpOp P ops Q j (fun a' w' => (ex j = false → S w') ∧ Till P md ops Q S ex f (listed.setIfInBounds j true) a' w') a w
theorem till_any : ∀ (f : Nat) (listed : Array Bool) (a : Act) (w : World), Till P md ops Q S ex f listed a w → wpAny P md ops Q f listed a w
  | 0, _, _, _, h => h
  | f + 1, _, _, _, h => ⟨h.1, fun j hj => wpOp_mono (fun a' w' h' => till_any f _ a' w' h'.2) (h.2 j hj)⟩
/-- every operation that is excepted and still to come waits for number i -/
def waitsB (md : Region.Mode) (ops : Array Oper) (ex : Nat → Bool) (listed : Array Bool) (i : Nat) : Bool :=
  (List.range ops.size).all fun j => j == i || listed.getD j true || !ex j || (match ops[j]? with | some o => o.after.any (fun e => Region.binds md e && e.on == i) | none => true)
theorem waits_of {listed : Array Bool} {i j : Nat} {o : Oper} (h : waitsB md ops ex listed i = true) (ho : ops[j]? = some o) (hji : j ≠ i) (hun : listed.getD j true = false) (he : ex j = true) : ∃ e ∈ o.after, Region.binds md e = true ∧ e.on = i := by
  unfold waitsB at h
  rw [List.all_eq_true] at h
  have h1 := h j (List.mem_range.2 (Array.getElem?_eq_some_iff.1 ho).1)
  simp only [ho, he, hun, Bool.not_true, Bool.or_false, Bool.or_eq_true, beq_iff_eq, hji, false_or] at h1
  obtain ⟨e, hm, h2⟩ := Array.any_eq_true'.1 h1
  rw [Bool.and_eq_true, beq_iff_eq] at h2
  exact ⟨e, hm, h2.1, h2.2⟩
theorem waits_set {listed : Array Bool} {i j : Nat} (h : waitsB md ops ex listed i = true) : waitsB md ops ex (listed.setIfInBounds j true) i = true := by
  unfold waitsB at h ⊢
  rw [List.all_eq_true] at h ⊢
  intro k hk
  have h1 := h k hk
  by_cases hjk : j = k
  · subst hjk
    by_cases hl : j < listed.size
    · simp [hl]
    · rw [Array.setIfInBounds_eq_of_size_le (by omega)]; exact h1
  · rw [getD_set_ne true hjk]; exact h1
theorem not_waits {listed : Array Bool} {i j : Nat} {o : Oper} (hi : i ∈ Region.ready md ops listed) (hj : j ∈ Region.ready md ops listed) (ho : ops[j]? = some o) : ∀ e ∈ o.after, Region.binds md e = true → e.on ≠ i := by
  intro e he hb heq
  obtain ⟨_, o', ho', hall⟩ := mem_ready.1 hj
  rw [ho] at ho'; injection ho' with ho'; subst ho'
  have h1 := hall e he hb
  have h0 := (mem_ready.1 hi).1
  rw [heq] at h1
  by_cases hl : i < listed.size
  · simp [hl] at h0 h1
    rw [h0] at h1; cases h1
  · simp [hl] at h1
/-- what a drawn order may do first that yields one value wherever S holds -/
theorem till_first {i : Nat} {oi : Oper} {v : Value} (hi : ops[i]? = some oi) (hsel : ∀ (j : Nat) (o : Oper) cs b, ops[j]? = some o → o.op ≠ .select cs b)
    (hQ : ∀ c a w, Q (.panic c) (a.put oi.dst v) w → Q (.panic c) a w) : ∀ (f : Nat) (listed : Array Bool) (a : Act) (w : World),
      (∀ j oj, ops[j]? = some oj → j ≠ i → listed.getD j true = false → (∀ e ∈ oj.after, Region.binds md e = true → e.on ≠ i) → oi.apart ops oj = true) →
      waitsB md ops ex listed i = true → i ∈ Region.ready md ops listed → YieldsIf P ops S oi v a → S w →
      Till P md ops Q S ex f (listed.setIfInBounds i true) (a.put oi.dst v) w → Till P md ops Q S ex (f + 1) listed a w := by
  intro f
  induction f with
  | zero =>
    intro listed a w _ _ hr hy hS H
    refine ⟨fun h => (by rw [h] at hr; cases hr), fun j hj => ?_⟩
    by_cases hji : j = i
    · subst hji; exact hy.wpOp hi hS ⟨fun _ => hS, H⟩
    · have h1 := ready_mono hj hji
      rw [H.1] at h1; cases h1
  | succ f ih =>
    intro listed a w hfree hwait hr hy hS H
    refine ⟨fun h => (by rw [h] at hr; cases hr), fun j hj => ?_⟩
    by_cases hji : j = i
    · subst hji; exact hy.wpOp hi hS ⟨fun _ => hS, H⟩
    · obtain ⟨hun, oj, hoj, _⟩ := mem_ready.1 hj
      have hnot := not_waits hr hj hoj
      have hexj : ex j = false := by
        cases hx : ex j with
        | false => rfl
        | true =>
          obtain ⟨e, he, hb, heq⟩ := waits_of hwait hoj hji hun hx
          exact absurd heq (hnot e he hb)
      have h2 := wpOp_putIf hoj (hfree j oj hoj hji hun hnot) (fun cs b => hsel i oi cs b hi) (fun cs b => hsel j oj cs b hoj) hQ hy (H.2 j (ready_mono hj hji))
      refine wpOp_mono (fun a' w' h3 => ⟨h3.2.1, ih _ a' w' (fun k ok hk hki hunk hno => hfree k ok hk hki ?_ hno) (waits_set hwait) (ready_mono hr (Ne.symm hji)) h3.1 (h3.2.1 hexj) ?_⟩) h2
      · by_cases hjk : j = k
        · subst hjk; exact hun
        · rw [getD_set_ne true hjk] at hunk; exact hunk
      · rw [Array.setIfInBounds_comm _ _ hji]; exact h3.2.2
theorem till_take {i : Nat} {oi : Oper} {v : Value} {f : Nat} {listed : Array Bool} {a : Act} {w : World} (hi : ops[i]? = some oi) (hs : Region.noSelect ops = true) (hf : Region.free md ops listed i = true) (hr : (Region.ready md ops listed).contains i = true)
    (hw : waitsB md ops ex listed i = true) (hQ : ∀ c a w, Q (.panic c) (a.put oi.dst v) w → Q (.panic c) a w) (hy : YieldsIf P ops S oi v a) (hS : S w)
    (h : Till P md ops Q S ex f (listed.setIfInBounds i true) (a.put oi.dst v) w) : Till P md ops Q S ex (f + 1) listed a w :=
  till_first hi (Region.noSelect_spec hs) hQ f listed a w (Region.free_spec hi hf) hw (by simpa using hr) hy hS h
/-- .. and one that yields its value anywhere, if it is excepted -/
theorem till_pure1 {i : Nat} {oi : Oper} {v : Value} (hi : ops[i]? = some oi) (hex : ex i = true) (hsel : ∀ (j : Nat) (o : Oper) cs b, ops[j]? = some o → o.op ≠ .select cs b)
    (hQ : ∀ c a w, Q (.panic c) (a.put oi.dst v) w → Q (.panic c) a w) : ∀ (f : Nat) (listed : Array Bool) (a : Act) (w : World),
      (∀ j oj, ops[j]? = some oj → j ≠ i → listed.getD j true = false → (∀ e ∈ oj.after, Region.binds md e = true → e.on ≠ i) → oi.apart ops oj = true) →
      i ∈ Region.ready md ops listed → YieldsIf P ops (fun _ => True) oi v a →
      Till P md ops Q S ex f (listed.setIfInBounds i true) (a.put oi.dst v) w → Till P md ops Q S ex (f + 1) listed a w := by
  intro f
  induction f with
  | zero =>
    intro listed a w _ hr hy H
    refine ⟨fun h => (by rw [h] at hr; cases hr), fun j hj => ?_⟩
    by_cases hji : j = i
    · subst hji; exact hy.wpOp hi trivial ⟨fun h => (by rw [hex] at h; cases h), H⟩
    · have h1 := ready_mono hj hji
      rw [H.1] at h1; cases h1
  | succ f ih =>
    intro listed a w hfree hr hy H
    refine ⟨fun h => (by rw [h] at hr; cases hr), fun j hj => ?_⟩
    by_cases hji : j = i
    · subst hji; exact hy.wpOp hi trivial ⟨fun h => (by rw [hex] at h; cases h), H⟩
    · obtain ⟨hun, oj, hoj, _⟩ := mem_ready.1 hj
      have hnot := not_waits hr hj hoj
      have h2 := wpOp_putIf hoj (hfree j oj hoj hji hun hnot) (fun cs b => hsel i oi cs b hi) (fun cs b => hsel j oj cs b hoj) hQ hy (H.2 j (ready_mono hj hji))
      refine wpOp_mono (fun a' w' h3 => ⟨h3.2.1, ih _ a' w' (fun k ok hk hki hunk hno => hfree k ok hk hki ?_ hno) (ready_mono hr (Ne.symm hji)) h3.1 ?_⟩) h2
      · by_cases hjk : j = k
        · subst hjk; exact hun
        · rw [getD_set_ne true hjk] at hunk; exact hunk
      · rw [Array.setIfInBounds_comm _ _ hji]; exact h3.2.2
theorem till_pure {i : Nat} {oi : Oper} {v : Value} {f : Nat} {listed : Array Bool} {a : Act} {w : World} (hi : ops[i]? = some oi) (hs : Region.noSelect ops = true) (hf : Region.free md ops listed i = true) (hr : (Region.ready md ops listed).contains i = true)
    (hex : ex i = true) (hQ : ∀ c a w, Q (.panic c) (a.put oi.dst v) w → Q (.panic c) a w) (hy : YieldsIf P ops (fun _ => True) oi v a)
    (h : Till P md ops Q S ex f (listed.setIfInBounds i true) (a.put oi.dst v) w) : Till P md ops Q S ex (f + 1) listed a w :=
  till_pure1 hi hex (Region.noSelect_spec hs) hQ f listed a w (Region.free_spec hi hf) (by simpa using hr) hy h
def TillAll (P : Program) (md : Region.Mode) (ops : Array Oper) (Q : Exit → Act → World → Prop) (S : World → Prop) (ex : Nat → Bool) (f : Nat) (listed : Array Bool) (a : Act) (w : World) (rs : List Nat) : Prop :=
  ∀ j ∈ rs, wpOp P ops Q j (fun a' w' => (ex j = false → S w') ∧ Till P md ops Q S ex f (listed.setIfInBounds j true) a' w') a w
theorem TillAll.nil {f : Nat} {listed : Array Bool} {a : Act} {w : World} : TillAll P md ops Q S ex f listed a w [] := fun _ h => by cases h
theorem TillAll.cons {f : Nat} {listed : Array Bool} {a : Act} {w : World} {i : Nat} {o : Oper} {rs : List Nat} (ho : ops[i]? = some o)
    (h : ∀ K' : Act → World → Prop, Shut (∀ a w, (ex i = false → S w) → Till P md ops Q S ex f (listed.setIfInBounds i true) a w → K' a w) → if Region.wanted o (yielded ops a.tmps) = true then Oper.wp P o a w K' Q else K' (a.put o.dst undef) w)
    (hs : TillAll P md ops Q S ex f listed a w rs) : TillAll P md ops Q S ex f listed a w (i :: rs) := fun j hj => by
  rcases List.mem_cons.1 hj with rfl | hj
  · exact wpOp_step ho (fun K' hK => h K' (fun a w h1 h2 => hK a w ⟨h1, h2⟩))
  · exact hs j hj
theorem till_ready {rs : List Nat} {f : Nat} {listed : Array Bool} {a : Act} {w : World} (hr : Region.ready md ops listed = rs) (hne : rs ≠ []) (h : TillAll P md ops Q S ex f listed a w rs) : Till P md ops Q S ex (f + 1) listed a w :=
  ⟨fun h0 => absurd (hr ▸ h0) hne, fun j hj => h j (hr ▸ hj)⟩
theorem till_done {listed : Array Bool} {a : Act} {w : World} (hr : Region.ready md ops listed = []) (h : Q .normal a w) : ∀ f, Till P md ops Q S ex f listed a w
  | 0 => ⟨hr, h⟩
  | f + 1 => ⟨fun _ => h, fun j hj => by rw [hr] at hj; cases hj⟩
theorem region_till {id : Nat} {a : Act} {w : World} (S : World → Prop) (ex : Nat → Bool) (hm : P.follows .mixedOrders = true) (h : Till P .any ops Q S ex ops.size (Array.replicate ops.size false) a w.drew) : (Code.region id ops true).wp P Q a w :=
  wp_region_any hm (till_any _ _ _ _ h)
end
end Go.Proofs.Ytioocaicmiggoaa

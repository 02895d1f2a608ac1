/-
  Maps from int to bool that a function makes and fills with true: as lists of ints.
-/
import Derived.Maps.OwnOps
import Derived.Maps.OwnSet
import Derived.Test.YtioocaicmiggoaaLvr
namespace Go.Proofs.Ytioocaicmiggoaa
set_option linter.unusedVariables false
set_option linter.unusedSimpArgs false
open Go.RowKit Go.Deep Go.Maps

theorem law_ib : Keyed Try.prog 3 := int_keyed Try.underlying3
theorem zero_bool (w : World) : (zeroValue 4).run Try.prog w = .ok (.bool false) w := by kernel_rfl
/-- block b is a map of the keys S, each true -/
def SetX (w : World) (b n : Nat) (S : List Int) : Prop :=
  ∃ D : DataW Unit, w.ownsMap Try.prog 3 (plainElem Try.prog 4) b n D ∧ Maps.size D = S.length ∧ (∀ k, wfi k → has D (.int .i64 k) = decide (k ∈ S) ∧ D.atKey (.int .i64 k) (.lit (.bool false)) = .lit (.bool (decide (k ∈ S))))
def addS (k : Int) (S : List Int) : List Int := if k ∈ S then S else k :: S
theorem mem_addS (k j : Int) (S : List Int) : j ∈ addS k S ↔ j = k ∨ j ∈ S := by
  unfold addS
  split
  · constructor
    · exact .inr
    · rintro (rfl | h) <;> assumption
  · simp
theorem plain_bool_inv {P : Program} {e : TypeId} (he : P.underlying e = some .bool) {v : Value} {z : DataW Unit × List MemPlace} (h : plainElem P e v = some z) : ∃ x, v = .bool x ∧ z = (.lit (.bool x), []) := by
  unfold plainElem at h
  simp only [he] at h
  cases v with
  | bool x => simp at h; exact ⟨x, rfl, h.symm⟩
  | _ => simp at h
theorem SetX.made (w : World) : SetX (w.alloc (.map #[] 0)) w.heap.size 0 [] :=
  ⟨.map [], World.ownsMap_made _ _ _ _, rfl, fun k hk => ⟨by simp [has_eq], rfl⟩⟩
theorem SetX.lt {w : World} {b n : Nat} {S : List Int} (h : SetX w b n S) : b < w.heap.size := by
  obtain ⟨D, h1, _⟩ := h
  exact h1.lt
theorem SetX.mono {w : World} {b n n' : Nat} {S : List Int} (h : SetX w b n S) (hn : n ≤ n') : SetX w b n' S := by
  obtain ⟨D, h1, h2⟩ := h
  exact ⟨D, h1.mono hn, h2⟩
theorem SetX.kept {w w' : World} {row : Option Nat} {b n : Nat} {S : List Int} (h : SetX w b n S) (hg : w.grownBy w' row) (hne : some b ≠ row) : SetX w' b n S := by
  obtain ⟨D, h1, h2⟩ := h
  exact ⟨D, h1.kept hg hne, h2⟩
theorem SetX.below {w w' : World} {B b n : Nat} {S : List Int} (h : SetX w b n S) (hb : Below B w w') (hB : b < B) : SetX w' b n S := by
  obtain ⟨D, ⟨es, clock, hh, h1⟩, h2⟩ := h
  exact ⟨D, ⟨es, clock, (hb.block b hB).trans hh, h1⟩, h2⟩
theorem SetX.alloc {w : World} {b n : Nat} {S : List Int} (h : SetX w b n S) (o : Obj) : SetX (w.alloc o) b n S := by
  obtain ⟨D, h1, h2⟩ := h
  exact ⟨D, h1.alloc o, h2⟩
theorem SetX.drewN {w : World} {b n : Nat} {S : List Int} (h : SetX w b n S) (k : Nat) : SetX (w.drewN k) b n S := by
  obtain ⟨D, ⟨es, clock, hh, h1⟩, h2⟩ := h
  exact ⟨D, ⟨es, clock, hh, h1⟩, h2⟩
theorem SetX.look {w : World} {b n : Nat} {S : List Int} (h : SetX w b n S) {k : Int} (hk : wfi k) : (Instr.lookup 60 (.map (some b)) (.int .i64 k) false).run Try.prog w = .ok (.bool (decide (k ∈ S))) w := by
  obtain ⟨D, h1, h2, h3⟩ := h
  obtain ⟨v, ps, hrun, hv⟩ := h1.lookup law_ib Try.underlying60 (zero_bool w) (plainElem_bool Try.underlying4 false) (keyOf_int_mk Try.underlying3 hk)
  obtain ⟨x, rfl, hx⟩ := plain_bool_inv Try.underlying4 hv
  have hx : D.atKey (.int .i64 k) (.lit (.bool false)) = .lit (.bool x) := congrArg Prod.fst hx
  have h4 := (h3 k hk).2.symm.trans hx
  simp only [DataW.lit.injEq, Lit.bool.injEq] at h4
  exact hrun.trans (by rw [h4])
theorem SetX.len {w : World} {b n : Nat} {S : List Int} (h : SetX w b n S) (ty : TypeId) : (Builtin.len_ #[60] ty #[.map (some b)]).run Try.prog w = .ok (.int .i64 S.length) w := by
  obtain ⟨D, h1, h2, h3⟩ := h
  have := h1.len Try.underlying60 ty
  rw [h2] at this
  exact this
theorem SetX.store {w : World} {b n : Nat} {S : List Int} (h : SetX w b n S) {k : Int} (hk : wfi k) (hn : n < maxLen) :
    ∃ w', (Instr.mapUpdate 60 (.map (some b)) (.int .i64 k) (.bool true)).run Try.prog w = .ok () w' ∧ SetX w' b (n + 1) (addS k S) ∧ w.grownBy w' (some b) := by
  obtain ⟨D, h1, h2, h3⟩ := h
  have hkey : keyOf Try.prog 3 (.int .i64 k) = some (.int .i64 k) := keyOf_int_mk Try.underlying3 hk
  have htidy := h1.tidy law_ib
  obtain ⟨w', hrun, ho, hg⟩ := h1.update law_ib Try.underlying60 hn hkey (plainElem_bool Try.underlying4 true)
  refine ⟨w', hrun, ⟨_, ho, ?_, fun j hj => ?_⟩, hg⟩
  · rw [size_put htidy, (h3 k hk).1]
    unfold addS
    by_cases hm : k ∈ S
    · rw [decide_eq_true hm, if_pos hm, if_pos rfl, h2]
    · rw [decide_eq_false hm, if_neg hm, if_neg (by simp), h2]; rfl
  · have hkl : WideAt.IsKeyLit (.int .i64 k) := law_ib.key hkey
    by_cases hjk : j = k
    · subst hjk
      have hm : j ∈ addS j S := (mem_addS j j S).2 (.inl rfl)
      rw [decide_eq_true hm]
      exact ⟨has_put_same htidy.isMap hkl _, atKey_put_same htidy.isMap hkl _ _⟩
    · have hne : Lit.int .i64 j ≠ .int .i64 k := fun h => by injection h; exact hjk (by assumption)
      rw [has_put_other hne, atKey_put_other hne]
      have hm : decide (j ∈ addS k S) = decide (j ∈ S) := by
        rw [Bool.eq_iff_iff, decide_eq_true_eq, decide_eq_true_eq, mem_addS]
        exact ⟨fun h => h.resolve_left hjk, .inr⟩
      rw [hm]
      exact h3 j hj
end Go.Proofs.Ytioocaicmiggoaa

/-
  The document's Add, whatever it is asked.
-/
import Derived.Deep.DrawnRows
import Derived.Test.YtcgapjicbgfpjaaRefb
namespace Go.Proofs.Ytcgapjicbgfpjaa
set_option linter.unusedVariables false
set_option linter.unusedSimpArgs false
open Go.RowKit Go.Maps

attribute [local go_sem ↓] Go.wp_at_zero Go.wp_at_succ
section
variable {w : World} {base B : Nat} {S : St} {m : Int} {v : Value}
theorem ref_add_any (h : RefX w base B S m v) (hS : S.length ≤ 1000000) (hu : Uniq S) (hbd : Bnd S) (p e : Int) (f : Bool) :
    Calls Try.prog 17 #[.pointer (some ⟨B, 0, none⟩), .int .i64 p, .int .i64 e, .bool f] w (RefAddPost w base B v m (addS S m p e f).1 (addS S m p e f).2.1 (addS S m p e f).2.2) := by
  have no : ∀ {w' : World} {en : Ending}, en = .returned (.tuple #[.int .i64 (-1), .bool false]) ∧ w = w' → RefAddPost w base B v m S (-1) false en w' := fun {w' en} ⟨h1, h2⟩ => by
    subst h2
    exact ⟨h1, v, h, Moved.refl _ _ _⟩
  by_cases he0 : e < 0
  · have ea : addS S m p e f = (S, -1, false) := by unfold addS; rw [if_pos he0]
    rw [ea]
    exact (ref_add_neg B w p e f he0).mono fun _ _ h => no h
  · by_cases h1 : p = -1
    · subst h1
      cases f
      · exact ref_add_root_false h hS hu hbd e (by omega)
      · exact ref_add_root_true h hS hu hbd e (by omega)
    · cases hh : hasB S p with
      | false =>
        have ea : addS S m p e f = (S, -1, false) := by unfold addS; rw [if_neg he0, if_pos ⟨h1, hh⟩]
        rw [ea]
        exact (ref_add_no h hS p e f (by omega) (by rw [beq_eq_false_iff_ne]; exact h1) hh).mono fun _ _ h => no h
      | true =>
        rw [cellAt_has] at hh
        obtain ⟨b, hb2⟩ := Option.isSome_iff_exists.1 hh
        obtain ⟨pn, rfl, hat⟩ := cellAt_some hb2
        cases f
        · exact ref_add_behind_false h hS hu hbd pn b hat e (by omega)
        · exact ref_add_behind_true h hS hu hbd pn b hat e (by omega)
end
end Go.Proofs.Ytcgapjicbgfpjaa

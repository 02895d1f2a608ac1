/-
  Add, whatever it is asked.
-/
import Derived.Test.YtcgapjicbgfpjaaNewc
import Derived.Test.YtcgapjicbgfpjaaSame
namespace Go.Proofs.Ytcgapjicbgfpjaa
set_option linter.unusedVariables false
set_option linter.unusedSimpArgs false
open Go.RowKit Go.Maps

/-- what Add does: the cells then, the number, whether it was taken -/
def addS (S : St) (m : Int) (p e : Int) (f : Bool) : St × Int × Bool :=
  if e < 0 then (S, -1, false)
  else if p ≠ -1 ∧ hasB S p = false then (S, -1, false)
  else match idx S p e (keyF p f) with
    | some i => (match at? S i with
      | some c => (S.set i (some { c with own := c.own + 1 }), (i : Int), true)
      | none => (S, -1, false))
    | none => if m ≤ (cnt S : Int) then (S, -1, false)
      else if p = -1 then ((putS S ⟨p, e, true, 1, 0⟩).1, ((putS S ⟨p, e, true, 1, 0⟩).2 : Int), true)
      else match at? S p.toNat with
        | some b => ((putS S ⟨p, e, f, 1, 0⟩).1.set p.toNat (some { b with behind := b.behind + 1 }), ((putS S ⟨p, e, f, 1, 0⟩).2 : Int), true)
        | none => (S, -1, false)
/-- the counts are small -/
def Bnd (S : St) : Prop := ∀ i c, at? S i = some c → 0 ≤ c.own ∧ c.own < 1000000000 ∧ 0 ≤ c.behind ∧ c.behind < 1000000000
theorem add_any (T : Nat → Prop) (w : World) (P : Nat) (S : St) (m : Int) (h : PoolW T w P S m) (hT : ∀ g, T g → g < w.heap.size) (hS : S.length ≤ 1000000) (hu : Uniq S) (hb : Bnd S) (p e : Int) (f : Bool) (hp : wfi p) (he : wfi e) :
    Calls Try.prog 10 #[.pointer (some ⟨P, 0, none⟩), .int .i64 p, .int .i64 e, .bool f] w (AddPost T w P (addS S m p e f).1 m (addS S m p e f).2.1 (addS S m p e f).2.2) := by
  obtain ⟨A1, A2, c1, c2, M, xs, D, hx, hd⟩ := h
  have no : ∀ {w' : World} {en : Ending}, en = .returned (.tuple #[.int .i64 (-1), .bool false]) ∧ w = w' → AddPost T w P S m (-1) false en w' := fun {w' en} ⟨h1, h2⟩ => by
    subst h2
    exact ⟨h1, ⟨_, _, _, _, _, _, _, hx, hd⟩, KeptT.refl T w⟩
  unfold addS
  by_cases he0 : e < 0
  · rw [if_pos he0]
    exact (add_neg P w p e f he0).mono fun _ _ h => no h
  · rw [if_neg he0]
    by_cases hh : p ≠ -1 ∧ hasB S p = false
    · rw [if_pos hh]
      exact (add_no hx hS p e f (by omega) (by rw [beq_eq_false_iff_ne]; exact hh.1) hh.2).mono fun _ _ h => no h
    · rw [if_neg hh]
      have hp1 : p = -1 ∨ hasB S p = true := by
        by_cases h1 : p = -1
        · exact .inl h1
        · cases h2 : hasB S p with
          | true => exact .inr rfl
          | false => exact absurd ⟨h1, h2⟩ hh
      cases hi : idx S p e (keyF p f) with
      | some i =>
        obtain ⟨c, hc, _⟩ := idx_some hi
        have hbc := hb i c hc
        simp only [hc]
        exact add_again hx hd hS hu p e f (by omega) hp he hp1 i c hi hc hbc.2.1 hbc.1
      | none =>
        simp only
        by_cases hm : m ≤ (cnt S : Int)
        · rw [if_pos hm]
          exact add_full hx hd hS p e f (by omega) hp he hp1 hi hm
        · rw [if_neg hm]
          by_cases h1 : p = -1
          · rw [if_pos h1]
            subst h1
            have e1 : keyF (-1) f = true := by unfold keyF; simp
            rw [e1] at hi
            cases f
            · exact add_root_false hx hd hT hS hu e (by omega) he hi (by omega)
            · exact add_root_true hx hd hT hS hu e (by omega) he hi (by omega)
          · rw [if_neg h1]
            have h2 := hp1.resolve_left h1
            rw [cellAt_has] at h2
            obtain ⟨b, hb2⟩ := Option.isSome_iff_exists.1 h2
            obtain ⟨pn, rfl, hat⟩ := cellAt_some hb2
            have e1 : keyF (pn : Int) f = f := by unfold keyF; rw [show ((pn : Int) == -1) = false by rw [beq_eq_false_iff_ne]; omega]; simp
            rw [e1] at hi
            have hbc := hb pn b hat
            simp only [Int.toNat_natCast, hat]
            cases f
            · exact add_behind_false hx hd hT hS hu pn b hat hbc.2.2.1 hbc.2.2.2 e (by omega) he hi (by omega)
            · exact add_behind_true hx hd hT hS hu pn b hat hbc.2.2.1 hbc.2.2.2 e (by omega) he hi (by omega)
end Go.Proofs.Ytcgapjicbgfpjaa

/-
  The live cells behind a cell, counted; for Drop's loop (under way).
-/
import Derived.Test.YtcgapjicbgfpjaaDrop
namespace Go.Proofs.Ytcgapjicbgfpjaa
set_option linter.unusedVariables false
open Go.RowKit Go.Maps

def isKid (i : Int) : Option Cl → Bool
  | some d => d.prev == i
  | none => false
def kids (S : St) (i : Int) : Nat := S.countP (isKid i)
theorem countP_turn {α : Type} (p : α → Bool) : ∀ (l : List α) (q : Nat) (o : α) (h : q < l.length), (l.set q o).countP p + (if p l[q] then 1 else 0) = l.countP p + (if p o then 1 else 0)
  | [], q, o, h => absurd h (by simp)
  | a :: l, 0, o, h => by simp only [List.set_cons_zero, List.countP_cons, List.getElem_cons_zero]; omega
  | a :: l, q + 1, o, h => by
    have := countP_turn p l q o (by simpa using h)
    simp only [List.set_cons_succ, List.countP_cons, List.getElem_cons_succ]; omega
theorem kids_none {S : St} {i : Int} (h : kids S i = 0) {k : Nat} {d : Cl} (hd : at? S k = some d) : d.prev ≠ i := fun e => by
  have h1 := List.countP_eq_zero.1 h (some d) (List.mem_of_getElem? (at_some.1 hd))
  simp [isKid, e] at h1
/-- one before each live cell, or it is a root; behind counts the live ones -/
def Par (S : St) : Prop := ∀ k d, at? S k = some d → d.prev = -1 ∨ (cellAt S d.prev).isSome = true
def Kids (S : St) : Prop := ∀ k d, at? S k = some d → d.behind = (kids S k : Int)
/-- a cell with nobody behind goes: each other one keeps the one before it -/
theorem par_go {S : St} {q : Nat} (h : Par S) (hk : kids S (q : Int) = 0) (hq : q < S.length) : Par (S.set q none) := fun k d hd => by
  by_cases hkq : q = k
  · subst hkq; rw [at_set_same hq] at hd; cases hd
  · rw [at_set_other hkq] at hd
    refine (h k d hd).imp id fun h1 => ?_
    obtain ⟨c, hc⟩ := Option.isSome_iff_exists.1 h1
    obtain ⟨n, hn, hat⟩ := cellAt_some hc
    have hne : q ≠ n := fun e => kids_none hk hd (by rw [hn, e])
    unfold cellAt
    rw [hn, if_pos (by omega), Int.toNat_natCast, at_set_other hne, hat]; rfl
theorem get_of_at {S : St} {q : Nat} {c : Cl} (h : at? S q = some c) : S[q]'(at_lt h) = some c := by
  have h1 := at_some.1 h
  rw [List.getElem?_eq_getElem (at_lt h)] at h1
  injection h1
theorem kids_stay {S : St} {q : Nat} {c c' : Cl} (h : at? S q = some c) (hp : c'.prev = c.prev) (i : Int) : kids (S.set q (some c')) i = kids S i := by
  have h1 := countP_turn (isKid i) S q (some c') (at_lt h)
  rw [get_of_at h] at h1
  have h2 : isKid i (some c') = isKid i (some c) := by simp [isKid, hp]
  rw [h2] at h1
  unfold kids; omega
theorem kids_gone {S : St} {q : Nat} {c : Cl} (h : at? S q = some c) (i : Int) : kids (S.set q none) i + (if c.prev = i then 1 else 0) = kids S i := by
  have h1 := countP_turn (isKid i) S q none (at_lt h)
  rw [get_of_at h] at h1
  have h2 : isKid i none = false := rfl
  have h3 : isKid i (some c) = (c.prev == i) := rfl
  rw [h2, h3] at h1
  unfold kids
  by_cases e : c.prev = i
  · rw [if_pos e]; rw [if_pos (by rw [e]; simp)] at h1; simp at h1; exact h1
  · rw [if_neg e]; rw [if_neg (by simpa using e)] at h1; simp at h1; exact h1
/-- own counts up or down -/
theorem kids_own {S : St} {q : Nat} {c c' : Cl} (hK : Kids S) (h : at? S q = some c) (hp : c'.prev = c.prev) (hb : c'.behind = c.behind) : Kids (S.set q (some c')) := fun k d hd => by
  rw [kids_stay h hp]
  by_cases hkq : q = k
  · subst hkq; rw [at_set_same (at_lt h)] at hd; injection hd with hd; subst hd; rw [hb]; exact hK q c h
  · rw [at_set_other hkq] at hd; exact hK k d hd
/-- a root goes -/
theorem kids_root {S : St} {q : Nat} {c : Cl} (hK : Kids S) (h : at? S q = some c) (hp : c.prev = -1) : Kids (S.set q none) := fun k d hd => by
  have h1 := kids_gone h (k : Int)
  rw [if_neg (by omega)] at h1
  by_cases hkq : q = k
  · subst hkq; rw [at_set_same (at_lt h)] at hd; cases hd
  · rw [at_set_other hkq] at hd
    have := hK k d hd
    omega
/-- one that has one before it goes -/
theorem kids_fall {S : St} {q n : Nat} {c b : Cl} (hK : Kids S) (h : at? S q = some c) (hp : c.prev = (n : Int)) (hb : at? S n = some b) (hne : q ≠ n) :
    Kids ((S.set q none).set n (some { b with behind := b.behind - 1 })) := fun k d hd => by
  have hb' : at? (S.set q none) n = some b := by rw [at_set_other hne]; exact hb
  rw [kids_stay (c' := { b with behind := b.behind - 1 }) hb' rfl]
  have h1 := kids_gone h (k : Int)
  by_cases hkn : n = k
  · subst hkn
    rw [at_set_same (at_lt hb')] at hd; injection hd with hd; subst hd
    rw [if_pos hp] at h1
    have := hK n b hb
    show b.behind - 1 = _
    omega
  · rw [at_set_other hkn] at hd
    by_cases hkq : q = k
    · subst hkq; rw [at_set_same (at_lt h)] at hd; cases hd
    · rw [at_set_other hkq] at hd
      rw [if_neg (by omega)] at h1
      have := hK k d hd
      omega
theorem live_set {S : St} {q : Nat} {c c' : Cl} (h : at? S q = some c) (i : Int) : (cellAt (S.set q (some c')) i).isSome = (cellAt S i).isSome := by
  unfold cellAt
  by_cases hi : 0 ≤ i
  · rw [if_pos hi, if_pos hi]
    by_cases hq : q = i.toNat
    · rw [← hq, at_set_same (at_lt h), h]; rfl
    · rw [at_set_other hq]
  · rw [if_neg hi, if_neg hi]
/-- a cell's counts change: each keeps the one before it -/
theorem par_stay {S : St} {q : Nat} {c c' : Cl} (hP : Par S) (h : at? S q = some c) (hp : c'.prev = c.prev) : Par (S.set q (some c')) := fun k d hd => by
  rw [live_set h]
  by_cases hkq : q = k
  · subst hkq; rw [at_set_same (at_lt h)] at hd; injection hd with hd; subst hd; rw [hp]; exact hP q c h
  · rw [at_set_other hkq] at hd; exact hP k d hd
/-- what Drop's loop holds on to -/
def DInv (S : St) : Prop := Uniq S ∧ Wf S ∧ Par S ∧ Kids S
theorem wf_stay {S : St} {q : Nat} {c c' : Cl} (hw : Wf S) (h : at? S q = some c) (h1 : c'.prev = c.prev) (h2 : c'.event = c.event) : Wf (S.set q (some c')) := fun k d hd => by
  by_cases hkq : q = k
  · subst hkq; rw [at_set_same (at_lt h)] at hd; injection hd with hd; subst hd; rw [h1, h2]; exact hw q c h
  · rw [at_set_other hkq] at hd; exact hw k d hd
theorem dinv_own {S : St} {q : Nat} {c : Cl} (hI : DInv S) (h : at? S q = some c) (o : Int) : DInv (S.set q (some { c with own := o })) := by
  obtain ⟨hu, hw, hp, hk⟩ := hI
  exact ⟨uniq_stay hu (turn_set (at_lt h) _) h rfl rfl rfl, wf_stay hw h rfl rfl, par_stay hp h rfl, kids_own hk h rfl rfl⟩
theorem dinv_root {S : St} {q : Nat} {c : Cl} (hI : DInv S) (h : at? S q = some c) (hb : c.behind = 0) (hp1 : c.prev = -1) : DInv (S.set q none) := by
  obtain ⟨hu, hw, hp, hk⟩ := hI
  have h0 : kids S (q : Int) = 0 := by have := hk q c h; omega
  exact ⟨uniq_go hu (turn_set (at_lt h) _), wf_set hw, par_go hp h0 (at_lt h), kids_root hk h hp1⟩
theorem dinv_fall {S : St} {q n : Nat} {c b : Cl} (hI : DInv S) (h : at? S q = some c) (hb : c.behind = 0) (hp1 : c.prev = (n : Int)) (hn : at? S n = some b) :
    q ≠ n ∧ DInv ((S.set q none).set n (some { b with behind := b.behind - 1 })) := by
  obtain ⟨hu, hw, hp, hk⟩ := hI
  have h0 : kids S (q : Int) = 0 := by have := hk q c h; omega
  have hne : q ≠ n := fun e => kids_none h0 h (by rw [hp1, e])
  have hn' : at? (S.set q none) n = some b := by rw [at_set_other hne]; exact hn
  exact ⟨hne, uniq_stay (uniq_go hu (turn_set (at_lt h) _)) (turn_set (at_lt hn') _) hn' rfl rfl rfl, wf_stay (c' := { b with behind := b.behind - 1 }) (wf_set hw) hn' rfl rfl, par_stay (c' := { b with behind := b.behind - 1 }) (par_go hp h0 (at_lt h)) hn' rfl, kids_fall hk h hp1 hn hne⟩
end Go.Proofs.Ytcgapjicbgfpjaa

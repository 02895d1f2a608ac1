/-
  What a pool's map holds when a cell comes, stays, or goes. No walk.
-/
import Derived.Test.YtcgapjicbgfpjaaCells
namespace Go.Proofs.Ytcgapjicbgfpjaa
set_option linter.unusedVariables false
set_option linter.unusedSimpArgs false
open Go.RowKit Go.Maps

/-- S' is S but at q -/
def Turn (S S' : St) (q : Nat) (o : Option Cl) : Prop := ∀ j, at? S' j = if j = q then o else at? S j
theorem turn_set {S : St} {q : Nat} (h : q < S.length) (o : Option Cl) : Turn S (S.set q o) q o := fun j => by
  by_cases e : j = q
  · subst e; rw [if_pos rfl, at_set_same h]
  · rw [if_neg e, at_set_other (fun h => e h.symm)]
theorem turn_app (S : St) (c : Cl) : Turn S (S ++ [some c]) S.length (some c) := fun j => by
  by_cases e : j = S.length
  · subst e; rw [if_pos rfl, at_app_last]
  · rw [if_neg e]
    rcases Nat.lt_or_ge j S.length with h | h
    · rw [at_app_lt h]
    · rw [at_none_ge h, at_none_ge (by simp; omega)]

theorem idx_char {S : St} (hu : Uniq S) {p e : Int} {f : Bool} {i : Nat} : idx S p e f = some i ↔ ∃ c, at? S i = some c ∧ c.prev = p ∧ c.event = e ∧ c.fresh = f := by
  constructor
  · exact idx_some
  · rintro ⟨c, hc, rfl, rfl, rfl⟩
    exact idx_of hu hc
theorem idx_not {S : St} {p e : Int} {f : Bool} (h : ∀ i c, at? S i = some c → ¬ (c.prev = p ∧ c.event = e ∧ c.fresh = f)) : idx S p e f = none := by
  cases hi : idx S p e f with
  | none => rfl
  | some i =>
    obtain ⟨c, hc, hk⟩ := idx_some hi
    exact absurd hk (h i c hc)

theorem uniq_come {S S' : St} {q : Nat} {c : Cl} (hu : Uniq S) (ht : Turn S S' q (some c)) (hn : idx S c.prev c.event c.fresh = none) : Uniq S' := by
  intro i j a b ha hb h1 h2 h3
  rw [ht i] at ha
  rw [ht j] at hb
  by_cases hi : i = q <;> by_cases hj : j = q
  · omega
  · rw [if_pos hi] at ha; rw [if_neg hj] at hb
    injection ha with ha; subst ha
    exact absurd ⟨h1.symm, h2.symm, h3.symm⟩ (idx_none hn hb)
  · rw [if_neg hi] at ha; rw [if_pos hj] at hb
    injection hb with hb; subst hb
    exact absurd ⟨h1, h2, h3⟩ (idx_none hn ha)
  · rw [if_neg hi] at ha; rw [if_neg hj] at hb
    exact hu i j a b ha hb h1 h2 h3
theorem uniq_stay {S S' : St} {q : Nat} {c c' : Cl} (hu : Uniq S) (ht : Turn S S' q (some c')) (hc : at? S q = some c) (h1 : c'.prev = c.prev) (h2 : c'.event = c.event) (h3 : c'.fresh = c.fresh) : Uniq S' := by
  intro i j a b ha hb k1 k2 k3
  have e : ∀ i a, at? S' i = some a → ∃ a', at? S i = some a' ∧ a.prev = a'.prev ∧ a.event = a'.event ∧ a.fresh = a'.fresh := fun i a ha => by
    rw [ht i] at ha
    by_cases hi : i = q
    · rw [if_pos hi] at ha; injection ha with ha; subst ha
      exact ⟨c, hi ▸ hc, h1, h2, h3⟩
    · rw [if_neg hi] at ha; exact ⟨a, ha, rfl, rfl, rfl⟩
  obtain ⟨a', ha', a1, a2, a3⟩ := e i a ha
  obtain ⟨b', hb', b1, b2, b3⟩ := e j b hb
  exact hu i j a' b' ha' hb' (by rw [← a1, ← b1, k1]) (by rw [← a2, ← b2, k2]) (by rw [← a3, ← b3, k3])
theorem uniq_go {S S' : St} {q : Nat} (hu : Uniq S) (ht : Turn S S' q none) : Uniq S' := by
  have e : ∀ i a, at? S' i = some a → at? S i = some a := fun i a ha => by
    rw [ht i] at ha
    by_cases hi : i = q
    · rw [if_pos hi] at ha; cases ha
    · rwa [if_neg hi] at ha
  exact fun i j a b ha hb => hu i j a b (e i a ha) (e j b hb)

theorem cnt_set (S : St) (q : Nat) (o : Option Cl) (h : q < S.length) : cnt (S.set q o) + (if (at? S q).isSome then 1 else 0) = cnt S + (if o.isSome then 1 else 0) := by
  unfold cnt at?
  induction S generalizing q with
  | nil => simp at h
  | cons a S ih =>
    cases q with
    | zero => cases a <;> cases o <;> simp
    | succ q =>
      have := ih q (by simpa using h)
      simp only [List.set_cons_succ, List.countP_cons, List.getElem?_cons_succ]
      omega
theorem cnt_app (S : St) (c : Cl) : cnt (S ++ [some c]) = cnt S + 1 := by unfold cnt; simp
theorem cnt_le (S : St) : cnt S ≤ S.length := List.countP_le_length

/-- all keys are of the program's numbers -/
def Wf (S : St) : Prop := ∀ i c, at? S i = some c → wfi c.prev ∧ wfi c.event
theorem dok_come {D : DataW Unit} {S S' : St} {q : Nat} {c : Cl} (hd : DOk D S) (hm : Tidy D) (hu : Uniq S) (ht : Turn S S' q (some c)) (hq : at? S q = none) (hn : idx S c.prev c.event c.fresh = none) (hp : wfi c.prev) (he : wfi c.event) (hc : cnt S' = cnt S + 1) :
    DOk (D.put (kl c.prev c.event c.fresh) (.lit (.int .i64 (q : Nat)))) S' := by
  have hu' := uniq_come hu ht hn
  have hk : WideAt.IsKeyLit (kl c.prev c.event c.fresh) := law_key.key (key_of _ _ _ hp he)
  refine ⟨fun p e f wp we => ?_, ?_⟩
  · by_cases hkey : c.prev = p ∧ c.event = e ∧ c.fresh = f
    · obtain ⟨rfl, rfl, rfl⟩ := hkey
      have hi : idx S' c.prev c.event c.fresh = some q := idx_of hu' (by rw [ht q, if_pos rfl])
      rw [hi]
      exact ⟨has_put_same hm.isMap hk _, atKey_put_same hm.isMap hk _ _⟩
    · have hne : kl p e f ≠ kl c.prev c.event c.fresh := fun h => by
        obtain ⟨h1, h2, h3⟩ := key_inj wp we hp he h
        exact hkey ⟨h1.symm, h2.symm, h3.symm⟩
      have hi : idx S' p e f = idx S p e f := by
        cases hx : idx S p e f with
        | none =>
          refine idx_not fun i a ha hk2 => ?_
          rw [ht i] at ha
          by_cases hiq : i = q
          · rw [if_pos hiq] at ha; injection ha with ha; subst ha; exact hkey hk2
          · rw [if_neg hiq] at ha; exact idx_none hx ha hk2
        | some i =>
          obtain ⟨a, ha, hk2⟩ := idx_some hx
          have hiq : i ≠ q := fun e => by rw [e, hq] at ha; cases ha
          exact (idx_char hu').2 ⟨a, by rw [ht i, if_neg hiq]; exact ha, hk2⟩
      rw [hi, has_put_other hne, atKey_put_other hne]
      exact hd.1 p e f wp we
  · rw [size_put hm, (hd.1 _ _ _ hp he).1, hn, hd.2, hc]; rfl
theorem dok_stay {D : DataW Unit} {S S' : St} {q : Nat} {c c' : Cl} (hd : DOk D S) (hu : Uniq S) (ht : Turn S S' q (some c')) (hc : at? S q = some c) (h1 : c'.prev = c.prev) (h2 : c'.event = c.event) (h3 : c'.fresh = c.fresh) (hn : cnt S' = cnt S) : DOk D S' := by
  have hu' := uniq_stay hu ht hc h1 h2 h3
  refine ⟨fun p e f wp we => ?_, by rw [hd.2, hn]⟩
  have hi : idx S' p e f = idx S p e f := by
    cases hx : idx S p e f with
    | none =>
      refine idx_not fun i a ha hk2 => ?_
      rw [ht i] at ha
      by_cases hiq : i = q
      · rw [if_pos hiq] at ha; injection ha with ha; subst ha
        exact idx_none hx hc ⟨by rw [← h1]; exact hk2.1, by rw [← h2]; exact hk2.2.1, by rw [← h3]; exact hk2.2.2⟩
      · rw [if_neg hiq] at ha; exact idx_none hx ha hk2
    | some i =>
      obtain ⟨a, ha, k1, k2, k3⟩ := idx_some hx
      by_cases hiq : i = q
      · subst hiq
        rw [hc] at ha; injection ha with ha; subst ha
        exact (idx_char hu').2 ⟨c', by rw [ht i, if_pos rfl], by rw [h1, k1], by rw [h2, k2], by rw [h3, k3]⟩
      · exact (idx_char hu').2 ⟨a, by rw [ht i, if_neg hiq]; exact ha, k1, k2, k3⟩
  rw [hi]
  exact hd.1 p e f wp we
theorem dok_go {D : DataW Unit} {S S' : St} {q : Nat} {c : Cl} (hd : DOk D S) (hm : Tidy D) (hu : Uniq S) (ht : Turn S S' q none) (hc : at? S q = some c) (hp : wfi c.prev) (he : wfi c.event) (hn : cnt S' + 1 = cnt S) : DOk (D.del (kl c.prev c.event c.fresh)) S' := by
  have hu' := uniq_go hu ht
  have hi0 := idx_of hu hc
  refine ⟨fun p e f wp we => ?_, ?_⟩
  · by_cases hkey : c.prev = p ∧ c.event = e ∧ c.fresh = f
    · obtain ⟨rfl, rfl, rfl⟩ := hkey
      have hi : idx S' c.prev c.event c.fresh = none := by
        refine idx_not fun i a ha hk2 => ?_
        rw [ht i] at ha
        by_cases hiq : i = q
        · rw [if_pos hiq] at ha; cases ha
        · rw [if_neg hiq] at ha
          exact hiq (hu i q a c ha hc hk2.1 hk2.2.1 hk2.2.2)
      rw [hi]
      exact ⟨has_del_same, atKey_del_same _⟩
    · have hne : kl p e f ≠ kl c.prev c.event c.fresh := fun h => by
        obtain ⟨h1, h2, h3⟩ := key_inj wp we hp he h
        exact hkey ⟨h1.symm, h2.symm, h3.symm⟩
      have hi : idx S' p e f = idx S p e f := by
        cases hx : idx S p e f with
        | none =>
          refine idx_not fun i a ha hk2 => ?_
          rw [ht i] at ha
          by_cases hiq : i = q
          · rw [if_pos hiq] at ha; cases ha
          · rw [if_neg hiq] at ha; exact idx_none hx ha hk2
        | some i =>
          obtain ⟨a, ha, hk2⟩ := idx_some hx
          have hiq : i ≠ q := fun e => by
            subst e
            rw [hc] at ha; injection ha with ha; subst ha
            exact hkey hk2
          exact (idx_char hu').2 ⟨a, by rw [ht i, if_neg hiq]; exact ha, hk2⟩
      rw [hi, has_del_other hne, atKey_del_other hne]
      exact hd.1 p e f wp we
  · have h := size_del (k := kl c.prev c.event c.fresh) hm
    rw [(hd.1 _ _ _ hp he).1, hi0, hd.2] at h
    simp at h
    omega
end Go.Proofs.Ytcgapjicbgfpjaa

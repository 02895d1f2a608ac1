/-
  What Add and Drop keep of a pool's counts, and PoolBalances' own state. No walk.
-/
import Derived.Test.YtcgapjicbgfpjaaKids
namespace Go.Proofs.Ytcgapjicbgfpjaa
set_option linter.unusedVariables false
set_option linter.unusedSimpArgs false
open Go.RowKit Go.Maps

theorem cellAt_nat (S : St) (n : Nat) : cellAt S (n : Int) = at? S n := by unfold cellAt; rw [if_pos (by omega), Int.toNat_natCast]
theorem cellAt_neg (S : St) : cellAt S (-1) = none := rfl
theorem kids_none_of {S : St} {i : Int} (h : ∀ k d, at? S k = some d → d.prev ≠ i) : kids S i = 0 := by
  unfold kids
  rw [List.countP_eq_zero]
  intro o ho
  obtain ⟨k, hk, rfl⟩ := List.getElem_of_mem ho
  cases e : S[k] with
  | none => simp [isKid]
  | some d =>
    have h1 := h k d (at_some.2 (by rw [List.getElem?_eq_getElem hk, e]))
    simpa [isKid] using h1
theorem kids_some {S : St} {i : Int} (h : kids S i ≠ 0) : ∃ k d, at? S k = some d ∧ d.prev = i := by
  apply Classical.byContradiction
  intro hn
  exact h (kids_none_of fun k d hd e => hn ⟨k, d, hd, e⟩)
theorem kids_put (S : St) (c : Cl) (i : Int) : kids (putS S c).1 i = kids S i + (if c.prev = i then 1 else 0) := by
  have hk : ∀ c : Cl, isKid i (some c) = (c.prev == i) := fun _ => rfl
  unfold putS kids
  cases h : S.findIdx? (fun o => o.isNone) with
  | none =>
    simp only [List.countP_append, List.countP_cons, List.countP_nil, hk]
    by_cases e : c.prev = i <;> simp [e]
  | some q =>
    rw [List.findIdx?_eq_some_iff_getElem] at h
    obtain ⟨hq, hn, _⟩ := h
    have hn' : S[q] = none := by simpa using hn
    have h1 := countP_turn (isKid i) S q (some c) hq
    rw [hn'] at h1
    simp only [hk] at h1
    by_cases e : c.prev = i
    · simp [e, isKid] at h1 ⊢; omega
    · simp [e, isKid] at h1 ⊢; omega
/-- a live cell's kids are of live ones: nobody is behind a cell that is not there -/
theorem kids_free {S : St} (hp : Par S) {q : Nat} (h : at? S q = none) : kids S (q : Int) = 0 := kids_none_of fun k d hd e => by
  rcases hp k d hd with h1 | h1
  · omega
  · rw [e, cellAt_nat, h] at h1; cases h1
theorem live_put {S : St} (c : Cl) {i : Int} (h : (cellAt S i).isSome = true) : (cellAt (putS S c).1 i).isSome = true := by
  obtain ⟨d, hd⟩ := Option.isSome_iff_exists.1 h
  obtain ⟨n, rfl, hat⟩ := cellAt_some hd
  rw [cellAt_nat, come_at c hat]; rfl
theorem at_put {S : St} {c : Cl} {k : Nat} {d : Cl} (h : at? (putS S c).1 k = some d) : (k = (putS S c).2 ∧ d = c) ∨ (k ≠ (putS S c).2 ∧ at? S k = some d) := by
  have ht := (put_facts S c).1 k
  rw [ht] at h
  by_cases e : k = (putS S c).2
  · rw [if_pos e] at h; injection h with h; exact .inl ⟨e, h.symm⟩
  · rw [if_neg e] at h; exact .inr ⟨e, h⟩
theorem wf_put {S : St} {c : Cl} (hw : Wf S) (h1 : wfi c.prev) (h2 : wfi c.event) : Wf (putS S c).1 := fun k d hd => by
  rcases at_put hd with ⟨_, rfl⟩ | ⟨_, h⟩
  · exact ⟨h1, h2⟩
  · exact hw k d h
theorem par_put {S : St} {c : Cl} (hp : Par S) (h : c.prev = -1 ∨ (cellAt S c.prev).isSome = true) : Par (putS S c).1 := fun k d hd => by
  rcases at_put hd with ⟨_, rfl⟩ | ⟨_, h1⟩
  · exact h.imp id (live_put _)
  · exact (hp k d h1).imp id (live_put c)
/-- a new root -/
theorem dinv_root_put {S : St} {c : Cl} (hI : DInv S) (h : c.prev = -1) (hb : c.behind = 0) (he : wfi c.event) (hw : wfi c.prev) (hi : idx S c.prev c.event c.fresh = none) : DInv (putS S c).1 := by
  obtain ⟨hu, hwf, hp, hk⟩ := hI
  have hf := put_facts S c
  refine ⟨uniq_come hu hf.1 hi, wf_put hwf hw he, par_put hp (.inl h), fun k d hd => ?_⟩
  have h1 := kids_put S c (k : Int)
  rw [if_neg (by omega)] at h1
  rcases at_put hd with ⟨e, rfl⟩ | ⟨_, h2⟩
  · rw [e] at h1 ⊢
    rw [kids_free hp hf.2.1] at h1
    omega
  · have := hk k d h2; omega
/-- a new one behind another -/
theorem dinv_behind_put {S : St} {c b : Cl} {n : Nat} (hI : DInv S) (h : c.prev = (n : Int)) (hn : at? S n = some b) (hb : c.behind = 0) (he : wfi c.event) (hw : wfi c.prev) (hi : idx S c.prev c.event c.fresh = none) :
    DInv ((putS S c).1.set n (some { b with behind := b.behind + 1 })) := by
  obtain ⟨hu, hwf, hp, hk⟩ := hI
  have hf := put_facts S c
  have hn' : at? (putS S c).1 n = some b := come_at c hn
  have hne : (putS S c).2 ≠ n := fun e => by have := hf.2.1; rw [e, hn] at this; cases this
  refine ⟨uniq_stay (uniq_come hu hf.1 hi) (turn_set (at_lt hn') _) hn' rfl rfl rfl, wf_stay (c' := { b with behind := b.behind + 1 }) (wf_put hwf hw he) hn' rfl rfl, par_stay (c' := { b with behind := b.behind + 1 }) (par_put hp (.inr (by rw [h, cellAt_nat, hn]; rfl))) hn' rfl, fun k d hd => ?_⟩
  rw [kids_stay (c' := { b with behind := b.behind + 1 }) hn' rfl]
  have h1 := kids_put S c (k : Int)
  rw [h] at h1
  by_cases hkn : n = k
  · subst hkn
    rw [at_set_same (at_lt hn')] at hd; injection hd with hd; subst hd
    rw [if_pos rfl] at h1
    have := hk n b hn
    show b.behind + 1 = _
    omega
  · rw [at_set_other hkn] at hd
    rw [if_neg (by omega)] at h1
    rcases at_put hd with ⟨e, rfl⟩ | ⟨_, h2⟩
    · rw [e] at h1 ⊢
      rw [kids_free hp hf.2.1] at h1
      omega
    · have := hk k d h2; omega

/-- each cell comes behind the one before it; a root is fresh -/
def Low (S : St) : Prop := ∀ k d, at? S k = some d → d.prev < (k : Int)
def RootF (S : St) : Prop := ∀ k d, at? S k = some d → d.prev = -1 → d.fresh = true
/-- a cell is held as often as it was told -/
def Own (S : St) (cs : List Nat) : Prop := (∀ k d, at? S k = some d → d.own = (cs.count k : Int)) ∧ ∀ c, c ∈ cs → (at? S c).isSome = true
def BInv (S : St) (cs : List Nat) : Prop := DInv S ∧ Low S ∧ RootF S ∧ Own S cs
/-- each but one is held, by itself or by one behind it -/
def TightBut (j : Int) (S : St) : Prop := ∀ k d, at? S k = some d → (k : Int) ≠ j → 0 < d.own + d.behind

theorem chain_of {S : St} (hp : Par S) (hl : Low S) (hr : RootF S) : ∀ (k : Nat) (i : Int), i < k → Chain k S i := by
  intro k
  induction k with
  | zero =>
    intro i hi
    show cellAt S i = none
    unfold cellAt; rw [if_neg (by omega)]
  | succ k ih =>
    intro i hi
    cases h : cellAt S i with
    | none => exact .inl h
    | some c =>
      obtain ⟨n, rfl, hat⟩ := cellAt_some h
      have h1 := hl n c hat
      refine .inr ⟨c, h, ih c.prev (by omega), fun hf => ?_⟩
      rcases hp n c hat with h2 | h2
      · rw [hr n c hat h2] at hf; cases hf
      · exact h2
theorem bnd_of {S : St} {cs : List Nat} (h : BInv S cs) (hS : S.length < 1000000) (hc : cs.length < 1000000) : Bnd S := fun i c hat => by
  have h1 := h.2.2.2.1 i c hat
  have h2 := h.1.2.2.2 i c hat
  have h3 : cs.count i ≤ cs.length := List.count_le_length
  have h4 : kids S (i : Int) ≤ S.length := List.countP_le_length
  omega
/-- at the end nobody is there -/
theorem none_left {S : St} (h : BInv S []) (ht : TightBut (-1) S) : ∀ k, at? S k = none := by
  have hb : ∀ (m k : Nat), S.length - k = m → at? S k = none := by
    intro m
    induction m using Nat.strongRecOn with
    | ind m ih =>
      intro k hm
      cases hat : at? S k with
      | none => rfl
      | some d =>
        have h1 := h.2.2.2.1 k d hat
        have h2 := h.1.2.2.2 k d hat
        have h3 := ht k d hat (by omega)
        simp at h1
        obtain ⟨j, e, hj, he⟩ := kids_some (S := S) (i := (k : Int)) (by omega)
        have h4 := h.2.1 j e hj
        have h5 := at_lt hj
        have := ih (S.length - j) (by omega) j rfl
        rw [this] at hj; cases hj
  exact fun k => hb _ k rfl
theorem cnt_none {S : St} (h : ∀ k, at? S k = none) : cnt S = 0 := by
  unfold cnt
  rw [List.countP_eq_zero]
  intro o ho
  obtain ⟨k, hk, rfl⟩ := List.getElem_of_mem ho
  have := h k
  unfold at? at this
  rw [List.getElem?_eq_getElem hk] at this
  rw [show S[k] = none from this]; simp
/-- what falls was not held -/
theorem fall_inv (cs : List Nat) : ∀ (k : Nat) (S : St) (j : Int), BInv S cs → TightBut j S → cnt S ≤ k → BInv (fallS k S j) cs ∧ TightBut (-1) (fallS k S j) ∧ (fallS k S j).length = S.length := by
  intro k
  induction k with
  | zero =>
    intro S j hI ht hc
    refine ⟨hI, fun i d hd _ => ?_, rfl⟩
    have hd : at? S i = some d := hd
    have h1 := cnt_set S i none (at_lt hd)
    rw [hd] at h1; simp at h1; omega
  | succ k ih =>
    intro S j hI ht hc
    unfold fallS
    cases h : cellAt S j with
    | none =>
      refine ⟨hI, fun i d hd _ => ht i d hd (fun e => ?_), rfl⟩
      rw [← e, cellAt_nat, hd] at h; cases h
    | some c =>
      obtain ⟨q, rfl, hat⟩ := cellAt_some h
      simp only [Int.toNat_natCast]
      by_cases hb : 0 < c.own + c.behind
      · rw [if_pos hb]
        refine ⟨hI, fun i d hd _ => ?_, rfl⟩
        by_cases e : i = q
        · subst e; rw [hat] at hd; injection hd with hd; subst hd; exact hb
        · exact ht i d hd (by omega)
      · rw [if_neg hb]
        obtain ⟨hD, hL, hR, hO⟩ := hI
        have ho := hO.1 q c hat
        have hk := hD.2.2.2 q c hat
        have hb0 : c.behind = 0 := by omega
        have ho0 : cs.count q = 0 := by omega
        have hnm : q ∉ cs := List.count_eq_zero.1 ho0
        have hcs := cnt_set S q none (at_lt hat)
        rw [hat] at hcs; simp at hcs
        have hset : ∀ {i d}, at? (S.set q none) i = some d → i ≠ q ∧ at? S i = some d := fun {i d} hd => by
          by_cases e : q = i
          · subst e; rw [at_set_same (at_lt hat)] at hd; cases hd
          · rw [at_set_other e] at hd; exact ⟨fun h => e h.symm, hd⟩
        have hpl : c.prev ≠ (q : Int) := by have := hL q c hat; omega
        cases hp : cellAt (S.set q none) c.prev with
        | none =>
          have hp1 : c.prev = -1 := by
            rcases hD.2.2.1 q c hat with h1 | h1
            · exact h1
            · obtain ⟨b, hb⟩ := Option.isSome_iff_exists.1 h1
              obtain ⟨n, hn, hatn⟩ := cellAt_some hb
              rw [hn, cellAt_nat, at_set_other (by omega), hatn] at hp; cases hp
          refine ⟨⟨dinv_root hD hat hb0 hp1, fun i d hd => hL i d (hset hd).2, fun i d hd => hR i d (hset hd).2, fun i d hd => hO.1 i d (hset hd).2, fun x hx => ?_⟩, fun i d hd _ => ht i d (hset hd).2 (by have := (hset hd).1; omega), by simp⟩
          rw [at_set_other (fun e => hnm (by rw [e]; exact hx))]; exact hO.2 x hx
        | some b =>
          obtain ⟨n, hn, hatn⟩ := cellAt_some hp
          obtain ⟨hnq, hatn'⟩ := hset hatn
          obtain ⟨_, hD'⟩ := dinv_fall hD hat hb0 hn hatn'
          have hset2 : ∀ {i d}, at? ((S.set q none).set n (some { b with behind := b.behind - 1 })) i = some d → (i = n ∧ d = { b with behind := b.behind - 1 }) ∨ (i ≠ n ∧ i ≠ q ∧ at? S i = some d) := fun {i d} hd => by
            by_cases e : n = i
            · subst e; rw [at_set_same (at_lt hatn)] at hd; injection hd with hd; exact .inl ⟨rfl, hd.symm⟩
            · rw [at_set_other e] at hd; exact .inr ⟨fun h => e h.symm, hset hd⟩
          have h2 := cnt_stay (c' := { b with behind := b.behind - 1 }) hatn
          rw [hn]
          simp only [Int.toNat_natCast]
          have H := ih ((S.set q none).set n (some { b with behind := b.behind - 1 })) (n : Int) ⟨hD', fun i d hd => ?_, fun i d hd hd1 => ?_, fun i d hd => ?_, fun x hx => ?_⟩ (fun i d hd hin => ?_) (by omega)
          · refine ⟨H.1, H.2.1, by rw [H.2.2]; simp⟩
          · rcases hset2 hd with ⟨rfl, rfl⟩ | ⟨_, _, h⟩
            · exact hL i b hatn'
            · exact hL i d h
          · rcases hset2 hd with ⟨rfl, rfl⟩ | ⟨_, _, h⟩
            · exact hR i b hatn' hd1
            · exact hR i d h hd1
          · rcases hset2 hd with ⟨rfl, rfl⟩ | ⟨_, _, h⟩
            · exact hO.1 i b hatn'
            · exact hO.1 i d h
          · by_cases e : n = x
            · subst e; rw [at_set_same (at_lt hatn)]; rfl
            · rw [at_set_other e, at_set_other (fun e => hnm (by rw [e]; exact hx))]; exact hO.2 x hx
          · rcases hset2 hd with ⟨rfl, rfl⟩ | ⟨_, h1, h⟩
            · exact absurd rfl hin
            · exact ht i d h (by omega)
/-- one hold less -/
theorem drop_inv {S : St} {x : Nat} {cs : List Nat} (hI : BInv S (x :: cs)) (ht : TightBut (-1) S) :
    ∃ c, at? S x = some c ∧ 0 < c.own ∧ BInv (dropS (cnt S) S x).1 cs ∧ TightBut (-1) (dropS (cnt S) S x).1 ∧ (dropS (cnt S) S x).1.length = S.length := by
  obtain ⟨hD, hL, hR, hO⟩ := hI
  obtain ⟨c, hc⟩ := Option.isSome_iff_exists.1 (hO.2 x (by simp))
  have ho := hO.1 x c hc
  rw [List.count_cons_self] at ho
  refine ⟨c, hc, by omega, ?_⟩
  unfold dropS
  rw [cellAt_nat, hc]
  simp only [Int.toNat_natCast]
  rw [if_neg (by omega)]
  have hset : ∀ {i d}, at? (S.set x (some { c with own := c.own - 1 })) i = some d → (i = x ∧ d = { c with own := c.own - 1 }) ∨ (i ≠ x ∧ at? S i = some d) := fun {i d} hd => by
    by_cases e : x = i
    · subst e; rw [at_set_same (at_lt hc)] at hd; injection hd with hd; exact .inl ⟨rfl, hd.symm⟩
    · rw [at_set_other e] at hd; exact .inr ⟨fun h => e h.symm, hd⟩
  have H := fall_inv cs (cnt S) (S.set x (some { c with own := c.own - 1 })) (x : Int) ⟨dinv_own hD hc _, fun i d hd => ?_, fun i d hd hd1 => ?_, fun i d hd => ?_, fun y hy => ?_⟩ (fun i d hd hin => ?_) (Nat.le_of_eq (cnt_stay hc))
  · exact ⟨H.1, H.2.1, by rw [H.2.2]; simp⟩
  · rcases hset hd with ⟨rfl, rfl⟩ | ⟨_, h⟩
    · exact hL i c hc
    · exact hL i d h
  · rcases hset hd with ⟨rfl, rfl⟩ | ⟨_, h⟩
    · exact hR i c hc hd1
    · exact hR i d h hd1
  · rcases hset hd with ⟨rfl, rfl⟩ | ⟨e, h⟩
    · show c.own - 1 = _; omega
    · have := hO.1 i d h
      rw [List.count_cons_of_ne (fun h => e h.symm)] at this
      exact this
  · by_cases e : x = y
    · subst e; rw [at_set_same (at_lt hc)]; rfl
    · rw [at_set_other e]; exact hO.2 y (List.mem_cons_of_mem _ hy)
  · rcases hset hd with ⟨rfl, rfl⟩ | ⟨_, h⟩
    · exact absurd rfl hin
    · exact ht i d h (by omega)
/-- no number is free -/
def NoFree (S : St) : Prop := ∀ k, k < S.length → (at? S k).isSome = true
theorem own_more {S S' : St} {cs : List Nat} {i : Nat} (hO : Own S cs) (hi : (at? S' i).isSome = true) (hlive : ∀ x, (at? S x).isSome = true → (at? S' x).isSome = true)
    (h : ∀ k d, at? S' k = some d → (k = i ∧ d.own = (cs.count k : Int) + 1) ∨ (k ≠ i ∧ d.own = (cs.count k : Int))) : Own S' (cs ++ [i]) := by
  refine ⟨fun k d hd => ?_, fun c hc => ?_⟩
  · rw [List.count_append]
    rcases h k d hd with ⟨rfl, h1⟩ | ⟨h0, h1⟩
    · rw [h1]; simp
    · rw [h1, List.count_singleton, if_neg (by simpa using fun e => h0 e.symm)]; simp
  · rw [List.mem_append] at hc
    rcases hc with hc | hc
    · exact hlive c (hO.2 c hc)
    · simp at hc; subst hc; exact hi
theorem put_fresh {S : St} (hn : NoFree S) (c : Cl) : (putS S c).2 = S.length ∧ NoFree (putS S c).1 ∧ (putS S c).1.length ≤ S.length + 1 := by
  have hf := put_facts S c
  have hq : (putS S c).2 = S.length := by
    rcases Nat.lt_or_ge (putS S c).2 S.length with h | h
    · have := hn _ h; rw [hf.2.1] at this; cases this
    · exact Nat.le_antisymm hf.2.2.2.2 h
  refine ⟨hq, fun k hk => ?_, hf.2.2.2.1⟩
  rw [hf.1 k]
  by_cases e : k = (putS S c).2
  · rw [if_pos e]; rfl
  · rw [if_neg e]; exact hn k (by have := hf.2.2.2.1; omega)
theorem add_inv {S : St} {cs : List Nat} (hI : BInv S cs) (ht : TightBut (-1) S) (hn : NoFree S) (hl : S.length ≤ cs.length) (hc : cs.length ≤ 150) {p : Int} (hp : p = -1 ∨ ∃ c : Nat, c ∈ cs ∧ p = (c : Int)) (hpw : wfi p) {e : Int} (he : 0 ≤ e) (hew : wfi e) (f : Bool) :
    ∃ (S' : St) (i : Nat), addS S 400 p e f = (S', (i : Int), true) ∧ BInv S' (cs ++ [i]) ∧ TightBut (-1) S' ∧ NoFree S' ∧ S'.length ≤ cs.length + 1 := by
  have hhas : ¬ (p ≠ -1 ∧ hasB S p = false) := by
    rintro ⟨h1, h2⟩
    rcases hp with h | ⟨c, h, rfl⟩
    · exact h1 h
    · rw [has_nat, hI.2.2.2.2 c h] at h2; cases h2
  have hcnt := cnt_le S
  obtain ⟨hD, hL, hR, hO⟩ := hI
  unfold addS
  rw [if_neg (by omega), if_neg hhas]
  cases hi : idx S p e (keyF p f) with
  | some i =>
    obtain ⟨c, hat, h1, h2, h3⟩ := idx_some hi
    simp only [hat]
    refine ⟨_, i, rfl, ⟨dinv_own hD hat _, ?_, ?_, ?_⟩, ?_, ?_, by simp; omega⟩
    · intro k d hd
      by_cases hk : i = k
      · subst hk; rw [at_set_same (at_lt hat)] at hd; injection hd with hd; subst hd; exact hL i c hat
      · rw [at_set_other hk] at hd; exact hL k d hd
    · intro k d hd hd1
      by_cases hk : i = k
      · subst hk; rw [at_set_same (at_lt hat)] at hd; injection hd with hd; subst hd; exact hR i c hat hd1
      · rw [at_set_other hk] at hd; exact hR k d hd hd1
    · refine own_more hO (by rw [at_set_same (at_lt hat)]; rfl) (fun x hx => ?_) (fun k d hd => ?_)
      · by_cases hk : i = x
        · subst hk; rw [at_set_same (at_lt hat)]; rfl
        · rw [at_set_other hk]; exact hx
      · by_cases hk : i = k
        · subst hk; rw [at_set_same (at_lt hat)] at hd; injection hd with hd; subst hd
          exact .inl ⟨rfl, by show c.own + 1 = _; rw [hO.1 i c hat]⟩
        · rw [at_set_other hk] at hd; exact .inr ⟨fun h => hk h.symm, hO.1 k d hd⟩
    · intro k d hd hk1
      by_cases hk : i = k
      · subst hk; rw [at_set_same (at_lt hat)] at hd; injection hd with hd; subst hd
        have := ht i c hat hk1
        show 0 < c.own + 1 + c.behind; omega
      · rw [at_set_other hk] at hd; exact ht k d hd hk1
    · intro k hk
      by_cases hki : i = k
      · subst hki; rw [at_set_same (at_lt hat)]; rfl
      · rw [at_set_other hki]; exact hn k (by simpa using hk)
  | none =>
    simp only
    rw [if_neg (by omega)]
    have hnew : ∀ (q : Nat), at? S q = none → cs.count q = 0 := fun q hq => List.count_eq_zero.2 fun hm => by
      have := hO.2 q hm; rw [hq] at this; cases this
    by_cases hp1 : p = -1
    · rw [if_pos hp1]
      subst hp1
      have hf := put_facts S ⟨-1, e, true, 1, 0⟩
      obtain ⟨hq, hnf, hlen⟩ := put_fresh hn ⟨-1, e, true, 1, 0⟩
      have ek : keyF (-1) f = true := by unfold keyF; simp
      rw [ek] at hi
      refine ⟨_, _, rfl, ⟨dinv_root_put hD rfl rfl hew hpw hi, ?_, ?_, ?_⟩, ?_, hnf, by omega⟩
      · intro k d hd
        rcases at_put hd with ⟨_, rfl⟩ | ⟨_, h⟩
        · show (-1 : Int) < _; omega
        · exact hL k d h
      · intro k d hd hd1
        rcases at_put hd with ⟨_, rfl⟩ | ⟨_, h⟩
        · rfl
        · exact hR k d h hd1
      · refine own_more hO (by rw [hf.1, if_pos rfl]; rfl) (fun x hx => ?_) (fun k d hd => ?_)
        · obtain ⟨d, hd⟩ := Option.isSome_iff_exists.1 hx
          rw [come_at _ hd]; rfl
        · rcases at_put hd with ⟨rfl, rfl⟩ | ⟨h0, h⟩
          · exact .inl ⟨rfl, by rw [hnew _ hf.2.1]; rfl⟩
          · exact .inr ⟨h0, hO.1 k d h⟩
      · intro k d hd hk1
        rcases at_put hd with ⟨rfl, rfl⟩ | ⟨h0, h⟩
        · show (0 : Int) < 1 + 0; omega
        · exact ht k d h hk1
    · rw [if_neg hp1]
      obtain ⟨n, hnm, rfl⟩ := hp.resolve_left hp1
      obtain ⟨b, hb⟩ := Option.isSome_iff_exists.1 (hO.2 n hnm)
      simp only [Int.toNat_natCast, hb]
      have hf := put_facts S ⟨(n : Int), e, f, 1, 0⟩
      obtain ⟨hq, hnf, hlen⟩ := put_fresh hn ⟨(n : Int), e, f, 1, 0⟩
      have ek : keyF (n : Int) f = f := by unfold keyF; rw [show ((n : Int) == -1) = false by rw [beq_eq_false_iff_ne]; omega]; simp
      rw [ek] at hi
      have hb' : at? (putS S ⟨(n : Int), e, f, 1, 0⟩).1 n = some b := come_at _ hb
      have hnl := at_lt hb
      have hset : ∀ {i d}, at? ((putS S ⟨(n : Int), e, f, 1, 0⟩).1.set n (some { b with behind := b.behind + 1 })) i = some d →
          (i = n ∧ d = { b with behind := b.behind + 1 }) ∨ (i ≠ n ∧ i = (putS S ⟨(n : Int), e, f, 1, 0⟩).2 ∧ d = ⟨(n : Int), e, f, 1, 0⟩) ∨ (i ≠ n ∧ i ≠ (putS S ⟨(n : Int), e, f, 1, 0⟩).2 ∧ at? S i = some d) := fun {i d} hd => by
        by_cases e : n = i
        · subst e; rw [at_set_same (at_lt hb')] at hd; injection hd with hd; exact .inl ⟨rfl, hd.symm⟩
        · rw [at_set_other e] at hd
          rcases at_put hd with ⟨h1, h2⟩ | ⟨h1, h2⟩
          · exact .inr (.inl ⟨fun h => e h.symm, h1, h2⟩)
          · exact .inr (.inr ⟨fun h => e h.symm, h1, h2⟩)
      have hqn : (putS S ⟨(n : Int), e, f, 1, 0⟩).2 ≠ n := by omega
      refine ⟨_, _, rfl, ⟨dinv_behind_put hD rfl hb rfl hew hpw hi, ?_, ?_, ?_⟩, ?_, ?_, by simp; omega⟩
      · intro k d hd
        rcases hset hd with ⟨rfl, rfl⟩ | ⟨_, h1, rfl⟩ | ⟨_, _, h⟩
        · exact hL k b hb
        · show (n : Int) < _; omega
        · exact hL k d h
      · intro k d hd hd1
        rcases hset hd with ⟨rfl, rfl⟩ | ⟨_, h1, rfl⟩ | ⟨_, _, h⟩
        · exact hR k b hb hd1
        · exact absurd hd1 (by show ¬ (n : Int) = -1; omega)
        · exact hR k d h hd1
      · refine own_more hO (by rw [at_set_other hqn.symm, hf.1, if_pos rfl]; rfl) (fun x hx => ?_) (fun k d hd => ?_)
        · by_cases hk : n = x
          · subst hk; rw [at_set_same (at_lt hb')]; rfl
          · obtain ⟨d, hd⟩ := Option.isSome_iff_exists.1 hx
            rw [at_set_other hk, come_at _ hd]; rfl
        · rcases hset hd with ⟨rfl, rfl⟩ | ⟨_, rfl, rfl⟩ | ⟨_, h0, h⟩
          · exact .inr ⟨hqn.symm, hO.1 k b hb⟩
          · exact .inl ⟨rfl, by rw [hnew _ hf.2.1]; rfl⟩
          · exact .inr ⟨h0, hO.1 k d h⟩
      · intro k d hd hk1
        rcases hset hd with ⟨rfl, rfl⟩ | ⟨_, rfl, rfl⟩ | ⟨_, h0, h⟩
        · have := ht k b hb hk1
          show 0 < b.own + (b.behind + 1); omega
        · show (0 : Int) < 1 + 0; omega
        · exact ht k d h hk1
      · intro k hk
        by_cases hki : n = k
        · subst hki; rw [at_set_same (at_lt hb')]; rfl
        · rw [at_set_other hki]; exact hnf k (by simpa using hk)
theorem at_nil (k : Nat) : at? ([] : St) k = none := rfl
theorem no_nil {k : Nat} {d : Cl} {p : Prop} (h : at? ([] : St) k = some d) : p := by rw [at_nil] at h; cases h
theorem binv_nil : BInv [] [] ∧ TightBut (-1) [] ∧ NoFree [] :=
  ⟨⟨⟨fun i j c d hc _ _ _ _ => no_nil hc, fun i c hc => no_nil hc, fun i c hc => no_nil hc, fun i c hc => no_nil hc⟩, fun i c hc => no_nil hc, fun i c hc => no_nil hc, fun i c hc => no_nil hc, fun c hc => absurd hc (by simp)⟩, fun i c hc _ => no_nil hc, fun k hk => absurd hk (by simp)⟩
end Go.Proofs.Ytcgapjicbgfpjaa

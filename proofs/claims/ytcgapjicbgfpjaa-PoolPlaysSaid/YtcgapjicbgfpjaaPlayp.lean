/-
  What the calls of PoolPlays keep of a pool's state. No walk.
-/
import Derived.Test.YtcgapjicbgfpjaaRefq
namespace Go.Proofs.Ytcgapjicbgfpjaa
set_option linter.unusedVariables false
set_option linter.unusedSimpArgs false
open Go.RowKit Go.Maps Go.Deep

/-- what is there then was there, with the same one before it, and held no more -/
def Sub (S S' : St) : Prop := ∀ k d, at? S' k = some d → ∃ d', at? S k = some d' ∧ d.prev = d'.prev ∧ d.fresh = d'.fresh ∧ 0 ≤ d.own ∧ d.own ≤ d'.own
theorem sub_trans {a b c : St} (h : Sub a b) (k : Sub b c) : Sub a c := fun i d hd => by
  obtain ⟨d', h1, h2, h3, h4, h5⟩ := k i d hd
  obtain ⟨d2, k1, k2, k3, k4, k5⟩ := h i d' h1
  exact ⟨d2, k1, h2.trans k2, h3.trans k3, h4, by omega⟩
theorem sub_refl {S : St} (h : ∀ k d, at? S k = some d → 0 ≤ d.own) : Sub S S := fun k d hd => ⟨d, hd, rfl, rfl, h k d hd, by omega⟩
def OwnLe (S : St) (t : Nat) : Prop := ∀ k d, at? S k = some d → 0 ≤ d.own ∧ d.own ≤ (t : Int)
def Ranked (S : St) (t : Nat) : Prop := ∃ rk : Nat → Nat, ∀ k d, at? S k = some d → rk k < t ∧ ∀ n : Nat, d.prev = (n : Int) → rk n < rk k
def PInv (S : St) (t : Nat) : Prop := DInv S ∧ RootF S ∧ Ranked S t ∧ OwnLe S t ∧ S.length ≤ t
theorem pinv_nil : PInv [] 0 :=
  ⟨binv_nil.1.1, fun k d hd => no_nil hd, ⟨fun _ => 0, fun k d hd => no_nil hd⟩, fun k d hd => no_nil hd, Nat.le_refl _⟩
theorem pinv_up {S : St} {t : Nat} (h : PInv S t) : PInv S (t + 1) := by
  obtain ⟨h1, h2, ⟨rk, h3⟩, h4, h5⟩ := h
  exact ⟨h1, h2, ⟨rk, fun k d hd => ⟨by have := (h3 k d hd).1; omega, (h3 k d hd).2⟩⟩, fun k d hd => by have := h4 k d hd; omega, by omega⟩
theorem PInv.bnd {S : St} {t : Nat} (h : PInv S t) (ht : t ≤ 1000) : Bnd S := fun i c hc => by
  have h1 := h.2.2.2.1 i c hc
  have h2 := h.1.2.2.2 i c hc
  have h3 : kids S (i : Int) ≤ S.length := List.countP_le_length
  have h4 := h.2.2.2.2
  omega
theorem PInv.ownB {S : St} {t : Nat} (h : PInv S t) (ht : t ≤ 1000) : OwnB S := fun i c hc => by have := h.2.2.2.1 i c hc; omega
theorem PInv.chain {S : St} {t : Nat} (h : PInv S t) (i : Int) : Chain t S i := by
  obtain ⟨⟨_, _, hp, _⟩, hr, ⟨rk, hrk⟩, _⟩ := h
  have key : ∀ (j : Nat) (i : Int), (∀ n : Nat, i = (n : Int) → (at? S n).isSome = true → rk n < j) → Chain j S i := by
    intro j
    induction j with
    | zero =>
      intro i hi
      show cellAt S i = none
      cases hc : cellAt S i with
      | none => rfl
      | some c =>
        obtain ⟨n, rfl, hat⟩ := cellAt_some hc
        have := hi n rfl (by rw [hat]; rfl); omega
    | succ j ih =>
      intro i hi
      cases hc : cellAt S i with
      | none => exact .inl hc
      | some c =>
        obtain ⟨n, rfl, hat⟩ := cellAt_some hc
        have h1 := hi n rfl (by rw [hat]; rfl)
        refine .inr ⟨c, hc, ih c.prev (fun n2 hn2 _ => by have := (hrk n c hat).2 n2 hn2; omega), fun hf => ?_⟩
        rcases hp n c hat with h2 | h2
        · rw [hr n c hat h2] at hf; cases hf
        · exact h2
  refine key t i fun n hn hl => ?_
  obtain ⟨d, hd⟩ := Option.isSome_iff_exists.1 hl
  exact (hrk n d hd).1
theorem pinv_sub {S S' : St} {t : Nat} (h : PInv S t) (hD : DInv S') (hs : Sub S S') (hl : S'.length = S.length) : PInv S' t := by
  obtain ⟨h1, h2, ⟨rk, h3⟩, h4, h5⟩ := h
  refine ⟨hD, fun k d hd hp => ?_, ⟨rk, fun k d hd => ?_⟩, fun k d hd => ?_, by omega⟩
  · obtain ⟨d', k1, k2, k3, _⟩ := hs k d hd
    rw [k3]; exact h2 k d' k1 (by rw [← k2]; exact hp)
  · obtain ⟨d', k1, k2, k3, _⟩ := hs k d hd
    rw [k2]; exact h3 k d' k1
  · obtain ⟨d', k1, k2, k3, k4, k5⟩ := hs k d hd
    have := h4 k d' k1; omega
theorem fall_keep : ∀ (k : Nat) (S : St) (j : Int), DInv S → (∀ i d, at? S i = some d → 0 ≤ d.own) → DInv (fallS k S j) ∧ Sub S (fallS k S j) ∧ (fallS k S j).length = S.length := by
  intro k
  induction k with
  | zero => intro S j hD ho; exact ⟨hD, sub_refl ho, rfl⟩
  | succ k ih =>
    intro S j hD ho
    unfold fallS
    cases h : cellAt S j with
    | none => exact ⟨hD, sub_refl ho, rfl⟩
    | some c =>
      obtain ⟨q, rfl, hat⟩ := cellAt_some h
      simp only [Int.toNat_natCast]
      by_cases hb : 0 < c.own + c.behind
      · rw [if_pos hb]; exact ⟨hD, sub_refl ho, rfl⟩
      · rw [if_neg hb]
        have hk := hD.2.2.2 q c hat
        have ho1 := ho q c hat
        have hb0 : c.behind = 0 := by omega
        have hset : ∀ {i d}, at? (S.set q none) i = some d → i ≠ q ∧ at? S i = some d := fun {i d} hd => by
          by_cases e : q = i
          · subst e; rw [at_set_same (at_lt hat)] at hd; cases hd
          · rw [at_set_other e] at hd; exact ⟨fun h => e h.symm, hd⟩
        cases hp : cellAt (S.set q none) c.prev with
        | none =>
          have hp1 : c.prev = -1 := by
            rcases hD.2.2.1 q c hat with h1 | h1
            · exact h1
            · obtain ⟨b, hb⟩ := Option.isSome_iff_exists.1 h1
              obtain ⟨n, hn, hatn⟩ := cellAt_some hb
              have hnq := (dinv_fall hD hat hb0 hn hatn).1
              rw [hn, cellAt_nat, at_set_other hnq, hatn] at hp; cases hp
          exact ⟨dinv_root hD hat hb0 hp1, fun i d hd => ⟨d, (hset hd).2, rfl, rfl, ho i d (hset hd).2, by omega⟩, by simp⟩
        | some b =>
          obtain ⟨n, hn, hatn⟩ := cellAt_some hp
          obtain ⟨hnq, hatn'⟩ := hset hatn
          obtain ⟨_, hD'⟩ := dinv_fall hD hat hb0 hn hatn'
          have hsub : Sub S ((S.set q none).set n (some { b with behind := b.behind - 1 })) := fun i d hd => by
            by_cases e : n = i
            · subst e; rw [at_set_same (at_lt hatn)] at hd; injection hd with hd; subst hd
              exact ⟨b, hatn', rfl, rfl, ho n b hatn', by show b.own ≤ b.own; omega⟩
            · rw [at_set_other e] at hd
              exact ⟨d, (hset hd).2, rfl, rfl, ho i d (hset hd).2, by omega⟩
          rw [hn]
          simp only [Int.toNat_natCast]
          obtain ⟨r1, r2, r3⟩ := ih _ (n : Int) hD' (fun i d hd => by obtain ⟨_, _, _, _, h4, _⟩ := hsub i d hd; exact h4)
          exact ⟨r1, sub_trans hsub r2, by rw [r3]; simp⟩
theorem pinv_drop {S : St} {t : Nat} (h : PInv S t) (i : Int) : PInv (dropS (cnt S) S i).1 t := by
  unfold dropS
  cases hc : cellAt S i with
  | none => exact h
  | some c =>
    obtain ⟨q, rfl, hat⟩ := cellAt_some hc
    simp only
    by_cases h0 : c.own = 0
    · rw [if_pos h0]; exact h
    · rw [if_neg h0]
      simp only [Int.toNat_natCast]
      have ho := h.2.2.2.1 q c hat
      have hD := dinv_own h.1 hat (c.own - 1)
      have hs : Sub S (S.set q (some { c with own := c.own - 1 })) := fun k d hd => by
        by_cases e : q = k
        · subst e; rw [at_set_same (at_lt hat)] at hd; injection hd with hd; subst hd
          exact ⟨c, hat, rfl, rfl, by show 0 ≤ c.own - 1; omega, by show c.own - 1 ≤ c.own; omega⟩
        · rw [at_set_other e] at hd; exact ⟨d, hd, rfl, rfl, (h.2.2.2.1 k d hd).1, by omega⟩
      obtain ⟨r1, r2, r3⟩ := fall_keep (cnt S) _ (q : Int) hD (fun i d hd => by obtain ⟨_, _, _, _, h4, _⟩ := hs i d hd; exact h4)
      exact pinv_sub h r1 (sub_trans hs r2) (by rw [r3]; simp)
/-- one hold more -/
def holdS (S : St) (i : Int) : St := match cellAt S i with
  | none => S
  | some c => S.set i.toNat (some { c with own := c.own + 1 })
theorem pinv_own {S : St} {t q : Nat} {c : Cl} (h : PInv S t) (hat : at? S q = some c) : PInv (S.set q (some { c with own := c.own + 1 })) (t + 1) := by
  obtain ⟨h1, h2, ⟨rk, h3⟩, h4, h5⟩ := h
  have hset : ∀ {k d}, at? (S.set q (some { c with own := c.own + 1 })) k = some d → (k = q ∧ d = { c with own := c.own + 1 }) ∨ at? S k = some d := fun {k d} hd => by
    by_cases e : q = k
    · subst e; rw [at_set_same (at_lt hat)] at hd; injection hd with hd; exact .inl ⟨rfl, hd.symm⟩
    · rw [at_set_other e] at hd; exact .inr hd
  refine ⟨dinv_own h1 hat _, fun k d hd hp => ?_, ⟨rk, fun k d hd => ?_⟩, fun k d hd => ?_, by simp; omega⟩
  · rcases hset hd with ⟨rfl, rfl⟩ | h
    · exact h2 k c hat hp
    · exact h2 k d h hp
  · rcases hset hd with ⟨rfl, rfl⟩ | h
    · exact ⟨by have := (h3 k c hat).1; omega, (h3 k c hat).2⟩
    · exact ⟨by have := (h3 k d h).1; omega, (h3 k d h).2⟩
  · rcases hset hd with ⟨rfl, rfl⟩ | h
    · have := h4 k c hat
      show 0 ≤ c.own + 1 ∧ c.own + 1 ≤ _; omega
    · have := h4 k d h; omega
theorem pinv_hold {S : St} {t : Nat} (h : PInv S t) (i : Int) : PInv (holdS S i) (t + 1) := by
  unfold holdS
  cases hc : cellAt S i with
  | none => exact pinv_up h
  | some c =>
    obtain ⟨q, rfl, hat⟩ := cellAt_some hc
    simp only [Int.toNat_natCast]
    exact pinv_own h hat
theorem par_of_live {S : St} {q : Nat} (hp : Par S) (hq : at? S q = none) {k : Nat} {d : Cl} (hd : at? S k = some d) : d.prev ≠ (q : Int) := fun e => by
  rcases hp k d hd with h1 | h1
  · omega
  · rw [e, cellAt_nat, hq] at h1; cases h1
theorem pinv_add {S : St} {t : Nat} (h : PInv S t) (m p e : Int) (f : Bool) (hpw : wfi p) (hew : wfi e) : PInv (addS S m p e f).1 (t + 1) := by
  unfold addS
  by_cases he : e < 0
  · rw [if_pos he]; exact pinv_up h
  · rw [if_neg he]
    by_cases hh : p ≠ -1 ∧ hasB S p = false
    · rw [if_pos hh]; exact pinv_up h
    · rw [if_neg hh]
      cases hi : idx S p e (keyF p f) with
      | some i =>
        obtain ⟨c, hat, _⟩ := idx_some hi
        simp only [hat]
        exact pinv_own h hat
      | none =>
        simp only
        by_cases hm : m ≤ (cnt S : Int)
        · rw [if_pos hm]; exact pinv_up h
        · rw [if_neg hm]
          obtain ⟨h1, h2, ⟨rk, h3⟩, h4, h5⟩ := h
          by_cases hp1 : p = -1
          · rw [if_pos hp1]
            subst hp1
            have hf := put_facts S ⟨-1, e, true, 1, 0⟩
            have ek : keyF (-1) f = true := by unfold keyF; simp
            rw [ek] at hi
            refine ⟨dinv_root_put h1 rfl rfl hew hpw hi, fun k d hd hp => ?_, ⟨fun k => if k = (putS S ⟨-1, e, true, 1, 0⟩).2 then t else rk k, fun k d hd => ?_⟩, fun k d hd => ?_, by have := hf.2.2.2.1; show (putS S ⟨-1, e, true, 1, 0⟩).1.length ≤ _; omega⟩
            · rcases at_put hd with ⟨_, rfl⟩ | ⟨_, h⟩
              · rfl
              · exact h2 k d h hp
            · rcases at_put hd with ⟨e1, rfl⟩ | ⟨e1, h⟩
              · simp only [e1, if_true]
                refine ⟨by omega, fun n hn => ?_⟩
                have hn : (-1 : Int) = (n : Int) := hn
                omega
              · simp only [if_neg e1]
                refine ⟨by have := (h3 k d h).1; omega, fun n hn => ?_⟩
                have hnq : n ≠ (putS S ⟨-1, e, true, 1, 0⟩).2 := fun e9 => par_of_live h1.2.2.1 hf.2.1 h (by rw [hn, e9])
                simp only [if_neg hnq]
                exact (h3 k d h).2 n hn
            · rcases at_put hd with ⟨_, rfl⟩ | ⟨_, h⟩
              · show (0 : Int) ≤ 1 ∧ (1 : Int) ≤ _; omega
              · have := h4 k d h; omega
          · rw [if_neg hp1]
            have hp2 : hasB S p = true := by
              cases h9 : hasB S p with
              | true => rfl
              | false => exact absurd ⟨hp1, h9⟩ hh
            rw [cellAt_has] at hp2
            obtain ⟨b, hb⟩ := Option.isSome_iff_exists.1 hp2
            obtain ⟨n, rfl, hat⟩ := cellAt_some hb
            simp only [Int.toNat_natCast, hat]
            have hf := put_facts S ⟨(n : Int), e, f, 1, 0⟩
            have ek : keyF (n : Int) f = f := by unfold keyF; rw [show ((n : Int) == -1) = false by rw [beq_eq_false_iff_ne]; omega]; simp
            rw [ek] at hi
            have hb' : at? (putS S ⟨(n : Int), e, f, 1, 0⟩).1 n = some b := come_at _ hat
            have hset : ∀ {i d}, at? ((putS S ⟨(n : Int), e, f, 1, 0⟩).1.set n (some { b with behind := b.behind + 1 })) i = some d →
                (i = n ∧ d = { b with behind := b.behind + 1 }) ∨ (i = (putS S ⟨(n : Int), e, f, 1, 0⟩).2 ∧ d = ⟨(n : Int), e, f, 1, 0⟩) ∨ (i ≠ (putS S ⟨(n : Int), e, f, 1, 0⟩).2 ∧ at? S i = some d) := fun {i d} hd => by
              by_cases e9 : n = i
              · subst e9; rw [at_set_same (at_lt hb')] at hd; injection hd with hd; exact .inl ⟨rfl, hd.symm⟩
              · rw [at_set_other e9] at hd
                exact .inr (at_put hd)
            have hqn : n ≠ (putS S ⟨(n : Int), e, f, 1, 0⟩).2 := fun e9 => by have := hf.2.1; rw [← e9, hat] at this; cases this
            refine ⟨dinv_behind_put h1 rfl hat rfl hew hpw hi, fun k d hd hp => ?_, ⟨fun k => if k = (putS S ⟨(n : Int), e, f, 1, 0⟩).2 then t else rk k, fun k d hd => ?_⟩, fun k d hd => ?_, by have := hf.2.2.2.1; simp; omega⟩
            · rcases hset hd with ⟨rfl, rfl⟩ | ⟨_, rfl⟩ | ⟨_, h⟩
              · exact h2 k b hat hp
              · exact absurd hp (by show ¬ (n : Int) = -1; omega)
              · exact h2 k d h hp
            · have old : ∀ {k d}, k ≠ (putS S ⟨(n : Int), e, f, 1, 0⟩).2 → at? S k = some d → (if k = (putS S ⟨(n : Int), e, f, 1, 0⟩).2 then t else rk k) < t + 1 ∧ ∀ n2 : Nat, d.prev = (n2 : Int) → (if n2 = (putS S ⟨(n : Int), e, f, 1, 0⟩).2 then t else rk n2) < (if k = (putS S ⟨(n : Int), e, f, 1, 0⟩).2 then t else rk k) := fun {k d} e1 h => by
                simp only [if_neg e1]
                refine ⟨by have := (h3 k d h).1; omega, fun n2 hn => ?_⟩
                have hnq : n2 ≠ (putS S ⟨(n : Int), e, f, 1, 0⟩).2 := fun e9 => par_of_live h1.2.2.1 hf.2.1 h (by rw [hn, e9])
                simp only [if_neg hnq]
                exact (h3 k d h).2 n2 hn
              rcases hset hd with ⟨rfl, rfl⟩ | ⟨e1, rfl⟩ | ⟨e1, h⟩
              · exact ⟨(old hqn hat).1, fun n2 hn => (old hqn hat).2 n2 hn⟩
              · simp only [e1, if_true]
                refine ⟨by omega, fun n2 hn => ?_⟩
                have hn : (n : Int) = (n2 : Int) := hn
                have hn : n2 = n := by omega
                subst hn
                simp only [if_neg hqn]
                exact (h3 n2 b hat).1
              · exact old e1 h
            · rcases hset hd with ⟨rfl, rfl⟩ | ⟨_, rfl⟩ | ⟨_, h⟩
              · have := h4 k b hat; show 0 ≤ b.own ∧ b.own ≤ _; omega
              · show (0 : Int) ≤ 1 ∧ (1 : Int) ≤ _; omega
              · have := h4 k d h; omega
end Go.Proofs.Ytcgapjicbgfpjaa

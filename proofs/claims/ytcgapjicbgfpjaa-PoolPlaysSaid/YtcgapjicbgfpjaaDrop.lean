/-
  Drop, the state's side: a cell that goes. (Under way: the walk is not begun.)
-/
import Derived.Test.YtcgapjicbgfpjaaSeen
namespace Go.Proofs.Ytcgapjicbgfpjaa
set_option linter.unusedVariables false
set_option linter.unusedSimpArgs false
open Go.RowKit Go.Maps

/-- what falls: a cell that nobody holds and nobody is behind, then the one before it -/
def fallS : Nat → St → Int → St
  | 0, S, _ => S
  | k + 1, S, i => match cellAt S i with
    | none => S
    | some c => if 0 < c.own + c.behind then S else match cellAt (S.set i.toNat none) c.prev with
      | none => S.set i.toNat none
      | some b => fallS k ((S.set i.toNat none).set c.prev.toNat (some { b with behind := b.behind - 1 })) c.prev
/-- what Drop does -/
def dropS (k : Nat) (S : St) (i : Int) : St × Bool := match cellAt S i with
  | none => (S, false)
  | some c => if c.own = 0 then (S, false) else (fallS k (S.set i.toNat (some { c with own := c.own - 1 })) i, true)
section
variable {T : Nat → Prop} {w : World} {P : Nat} {S : St} {m : Int} {A1 : Option Addr} {c1 c2 M g : Nat} {xs : List Cl} {D : DataW Unit}
theorem set_free (h : PoolX T w P S m A1 (some ⟨g, 0, none⟩) c1 c2 M xs D) {i : Nat} (hi : i < S.length) :
    PoolX T (w.setCell ⟨g, i, none⟩ (.bool true)) P (S.set i none) m A1 (some ⟨g, 0, none⟩) c1 c2 M xs D := by
  have hP : g ≠ P := fun e => own_blk_ne h.free h.blk (by decide) (by simp [Value.ownBlock, e])
  have hM : g ≠ M := fun e => own_map_ne h.free h.at_ (by simp [Value.ownBlock, e])
  have o1 := (h.free.stored i (.bool true)).1
  have hg : w.grownBy (w.setCell ⟨g, i, none⟩ (.bool true)) (some g) := only_setCell (p := ⟨g, i, none⟩) (World.grownBy.refl w (some g)) (.inl rfl) (.bool true)
  have hlen : (S.set i none).length = S.length := by simp
  have hmap : (S.set i none).map (fun o => Value.bool o.isNone) = (S.map fun o => Value.bool o.isNone).set i (.bool true) := by rw [List.map_set]; rfl
  refine ⟨?_, ?_, ?_, h.at_.kept hg (fun e => hM (by injection e with e; exact e.symm)), by rw [hlen]; exact h.len, ?_, h.tP, h.tM, h.tA, h.tB⟩
  · rw [hlen]; exact h.blk.far (p := ⟨g, i, none⟩) hP.symm _
  · rw [hlen]
    refine h.all.kept hg ?_
    cases hv : (Value.slice A1 S.length c1).ownBlock with
    | none => exact .inl rfl
    | some b => exact .inr (fun e => own_ne h.all h.free (by decide) (g := b) (by rw [hv]) (by
        injection e with e
        rw [e]; rfl))
  · rw [hlen, hmap]; exact o1
  · intro k d hd
    by_cases hk : i = k
    · subst hk
      rw [at_set_same hi] at hd
      cases hd
    · rw [at_set_other hk] at hd
      exact h.live k d hd
theorem poolx_unmap {A2 : Option Addr} {w' : World} {n : Nat} {D' : DataW Unit} (h : PoolX T w P S m A1 A2 c1 c2 M xs D) (hm : w'.ownsMap Try.prog 59 (plainElem Try.prog 3) M n D') (ht : w.mapTurned w' M) : PoolX T w' P S m A1 A2 c1 c2 M xs D' := by
  have hg := ht.grown
  refine ⟨h.blk.grown hg (fun e => blk_map_ne h.blk h.at_ (by injection e)), h.all.kept hg ?_, h.free.kept hg ?_, map_tight hm, h.len, h.live, h.tP, h.tM, h.tA, h.tB⟩
  · exact .inr (own_map_ne h.all h.at_)
  · exact .inr (own_map_ne h.free h.at_)
/-- delete, as the walk meets it: the run, and how the pool lies then -/
theorem drop_key {A2 : Option Addr} (h : PoolX T w P S m A1 A2 c1 c2 M xs D) (p e : Int) (f : Bool) (hp : wfi p) (he : wfi e) (ty : TypeId) :
    ∃ w', (Builtin.delete_ #[52, 59] ty #[.map (some M), kv p e f]).run Try.prog w = .ok (.tuple #[]) w' ∧ PoolX T w' P S m A1 A2 c1 c2 M xs (D.del (kl p e f)) ∧ w.mapTurned w' M := by
  obtain ⟨w', hrun, hm, ht⟩ := h.at_.drop law_key Try.underlying52 (key_of p e f hp he) ty
  exact ⟨w', hrun, poolx_unmap h hm ht, ht⟩
/-- a cell goes: from the map, and its flag; the data and the state agree then -/
theorem go_dok {S : St} {D : DataW Unit} {i : Nat} {c : Cl} (hd : DOk D S) (hm : Tidy D) (hu : Uniq S) (hc : at? S i = some c) (hp : wfi c.prev) (he : wfi c.event) : DOk (D.del (kl c.prev c.event c.fresh)) (S.set i none) := by
  refine dok_go hd hm hu (turn_set (at_lt hc) none) hc hp he ?_
  have h := cnt_set S i none (at_lt hc)
  rw [hc] at h
  simpa using h
theorem wf_set {S : St} {i : Nat} (h : Wf S) : Wf (S.set i none) := fun k c hc => by
  by_cases hk : i = k
  · subst hk
    by_cases hi : i < S.length
    · rw [at_set_same hi] at hc; cases hc
    · have := at_lt hc; simp at this; omega
  · rw [at_set_other hk] at hc; exact h k c hc
theorem drop_no {A2 : Option Addr} (h : PoolX T w P S m A1 A2 c1 c2 M xs D) (i : Int) (hS : S.length ≤ 1000000) (hh : hasB S i = false) :
    Calls Try.prog 15 #[.pointer (some ⟨P, 0, none⟩), .int .i64 i] w fun e w' => e = .returned (.bool false) ∧ w = w' := by
  have C := Lib.hid (has_any h i hS)
  rw [hh] at C
  clear h hh
  go_enter Try.func15, Try.ntmps15
  go_wp2_with fail
  refine C.out.mono ?_
  rintro e w' ⟨rfl, rfl⟩
  go_wp2_with fail
  go_ret
  exact ⟨rfl, rfl⟩
theorem drop_zero {A2 : Option Addr} (h : PoolX T w P S m A1 A2 c1 c2 M xs D) (n : Nat) (c : Cl) (hS : S.length ≤ 1000000) (hc : at? S n = some c) (h0 : c.own = 0) :
    Calls Try.prog 15 #[.pointer (some ⟨P, 0, none⟩), .int .i64 n] w fun e w' => e = .returned (.bool false) ∧ w = w' := by
  have C := Lib.hid (has_any h n hS)
  rw [has_nat, hc] at C
  have hn := at_lt hc
  have k0 := h.k0
  obtain ⟨g, rfl, _, _, _, _, q3, _⟩ := h.allAt hc
  rw [h0] at q3
  have b1 : (0 : Int) ≤ (n : Int) := by omega
  have b2 : (n : Int) < (S.length : Int) := by omega
  clear h hc
  go_enter Try.func15, Try.ntmps15
  go_wp2_with fail
  refine C.out.mono ?_
  rintro e w' ⟨rfl, rfl⟩
  go_wp2_with fail
  go_ret
  exact ⟨rfl, rfl⟩
end
end Go.Proofs.Ytcgapjicbgfpjaa

/-
  The walk of Add: where the pool is full.
-/
import Derived.Test.YtcgapjicbgfpjaaAgain
namespace Go.Proofs.Ytcgapjicbgfpjaa
set_option linter.unusedVariables false
set_option linter.unusedSimpArgs false
open Go.RowKit Go.Maps

section
variable {T : Nat → Prop} {w : World} {P : Nat} {S : St} {m : Int} {A1 A2 : Option Addr} {c1 c2 M : Nat} {xs : List Cl} {D : DataW Unit}
set_option maxRecDepth 100000 in
set_option maxHeartbeats 2000000 in
theorem add_full (h : PoolX T w P S m A1 A2 c1 c2 M xs D) (hd : DOk D S) (hS : S.length ≤ 1000000) (p e : Int) (f : Bool) (he : 0 ≤ e) (hpw : wfi p) (hew : wfi e) (hp : p = -1 ∨ hasB S p = true) (hi : idx S p e (keyF p f) = none) (hm : m ≤ (cnt S : Int)) :
    Calls Try.prog 10 #[.pointer (some ⟨P, 0, none⟩), .int .i64 p, .int .i64 e, .bool f] w (AddPost T w P S m (-1) false) := by
  have C := Lib.hid (has_any h p hS)
  have L := Lib.hid fun o n => look_at (((h.keep (w' := w.alloc o) fun g hg _ => Below.heap_alloc w o g hg).keep (w' := (w.alloc o).drewN n) fun _ _ _ => rfl)) hd p e (keyF p f) hpw hew
  rw [hi] at L
  unfold kv at L
  have N : ∀ o n, (Builtin.len_ #[52] 3 #[.map (some M)]).run Try.prog ((w.alloc o).drewN n) = .ok (.int .i64 (cnt S : Nat)) ((w.alloc o).drewN n) := fun o n => by
    have h1 := ((h.keep (w' := w.alloc o) fun g hg _ => Below.heap_alloc w o g hg).keep (w' := (w.alloc o).drewN n) fun _ _ _ => rfl)
    have h2 := h1.at_.len Try.underlying52 3
    rw [hd.2] at h2
    exact h2
  have HE : Hid (∀ o n k, PoolW T (((w.alloc o).drewN n).drewN k) P S m ∧ KeptT T w (((w.alloc o).drewN n).drewN k)) := Lib.hid fun o n k =>
    ⟨⟨_, _, _, _, _, _, _, ((h.keep (w' := w.alloc o) fun g hg _ => Below.heap_alloc w o g hg).keep (w' := ((w.alloc o).drewN n).drewN k) fun _ _ _ => rfl), hd⟩, (((KeptT.refl T w).alloc o).drewN n).drewN k⟩
  have k2 := h.k2
  have k3 := h.k3
  have hlP : P < w.heap.size := h.blk.lt
  obtain ⟨ct, hct⟩ : ∃ ct, ((cnt S : Nat) : Int) = ct := ⟨_, rfl⟩
  rw [hct] at N hm
  clear h hct
  by_cases hp1 : p = -1
  · subst hp1
    have e1 : keyF (-1) f = true := by unfold keyF; simp
    rw [e1] at L
    have LL := L.out
    clear C hi e1 L
    cases f
    all_goals
      go_enter Try.func10, Try.ntmps10
      go_wp2_with fail
      go_quiet (fail)
      go_wp2_with fail
      go_quiet (fail)
      go_wp2_with fail
      go_ret2
      exact ⟨rfl, HE.out _ _ _⟩
  · have e1 : keyF p f = f := by unfold keyF; rw [show (p == -1) = false by rw [beq_eq_false_iff_ne]; exact hp1]; simp
    rw [e1] at L
    have LL := L.out
    have hp3 : (p == -1) = false := by rw [beq_eq_false_iff_ne]; exact hp1
    have hp2 : (p != -1) = true := by unfold bne; rw [hp3]; rfl
    rw [hp.resolve_left hp1] at C
    clear hi e1 L hp hp1
    cases f
    all_goals
      go_enter Try.func10, Try.ntmps10
      go_wp2_with fail
      refine C.out.mono ?_
      rintro e w' ⟨rfl, rfl⟩
      go_wp2_with fail
      go_quiet (fail)
      go_wp2_with fail
      go_quiet (fail)
      go_wp2_with fail
      go_ret2
      exact ⟨rfl, HE.out _ _ _⟩
end
end Go.Proofs.Ytcgapjicbgfpjaa

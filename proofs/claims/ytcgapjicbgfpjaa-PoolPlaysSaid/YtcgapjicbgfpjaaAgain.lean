/-
  The walk of Add: where it refuses, and where the cell is there.
-/
import Derived.Deep.DrawnRows
import Derived.Test.YtcgapjicbgfpjaaField
namespace Go.Proofs.Ytcgapjicbgfpjaa
set_option linter.unusedVariables false
set_option linter.unusedSimpArgs false
open Go.RowKit Go.Maps

attribute [local go_sem ↓] Go.wp_at_zero Go.wp_at_succ
section
variable {T : Nat → Prop} {w : World} {P : Nat} {S : St} {m : Int} {A1 A2 : Option Addr} {c1 c2 M : Nat} {xs : List Cl} {D : DataW Unit}
theorem add_neg (P : Nat) (w : World) (p e : Int) (f : Bool) (he : e < 0) :
    Calls Try.prog 10 #[.pointer (some ⟨P, 0, none⟩), .int .i64 p, .int .i64 e, .bool f] w fun e w' => e = .returned (.tuple #[.int .i64 (-1), .bool false]) ∧ w = w' := by
  go_enter Try.func10, Try.ntmps10
  go_wp2_with fail
  go_ret2
  exact ⟨rfl, rfl⟩
theorem add_nil (w : World) (p e : Int) (f : Bool) :
    Calls Try.prog 10 #[.pointer none, .int .i64 p, .int .i64 e, .bool f] w fun e w' => e = .returned (.tuple #[.int .i64 (-1), .bool false]) ∧ w = w' := by
  go_enter Try.func10, Try.ntmps10
  go_wp2_with fail
  go_ret2
  exact ⟨rfl, rfl⟩
set_option maxRecDepth 100000 in
theorem add_no (h : PoolX T w P S m A1 A2 c1 c2 M xs D) (hS : S.length ≤ 1000000) (p e : Int) (f : Bool) (he : 0 ≤ e) (hp : (p == -1) = false) (hh : hasB S p = false) :
    Calls Try.prog 10 #[.pointer (some ⟨P, 0, none⟩), .int .i64 p, .int .i64 e, .bool f] w fun e w' => e = .returned (.tuple #[.int .i64 (-1), .bool false]) ∧ w = w' := by
  have C := Lib.hid (has_any h p hS)
  rw [hh] at C
  have hp2 : (p != -1) = true := by unfold bne; rw [hp]; rfl
  clear h hh
  go_enter Try.func10, Try.ntmps10
  go_wp2_with fail
  refine C.out.mono ?_
  rintro e w' ⟨rfl, rfl⟩
  go_wp2_with fail
  go_ret2
  exact ⟨rfl, rfl⟩

/-- what Add asks the map for -/
def keyF (p : Int) (f : Bool) : Bool := f || p == -1
def AddPost (T : Nat → Prop) (w : World) (P : Nat) (S : St) (m : Int) (i : Int) (ok : Bool) (e : Ending) (w' : World) : Prop :=
  e = .returned (.tuple #[.int .i64 i, .bool ok]) ∧ PoolW T w' P S m ∧ KeptT T w w'
theorem look_at (h : PoolX T w P S m A1 A2 c1 c2 M xs D) (hd : DOk D S) (p e : Int) (g : Bool) (hp : wfi p) (he : wfi e) :
    (Instr.lookup 52 (.map (some M)) (kv p e g) true).run Try.prog w = .ok (.tuple #[.int .i64 ((idx S p e g).getD 0 : Nat), .bool (idx S p e g).isSome]) w := by
  obtain ⟨v, ps, hrun, hv⟩ := h.at_.look_ok law_key Try.underlying52 (zero_int w) (zd := .lit (.int .i64 0)) (zp := []) (plainElem_int Try.underlying3 (by decide)) (key_of p e g hp he)
  obtain ⟨h1, h2⟩ := hd.1 p e g hp he
  rw [h2] at hv
  obtain ⟨a, rfl, hz, _⟩ := plainElem_int_inv Try.underlying3 hv
  rw [h1] at hrun
  rw [hrun]
  injection hz with hz
  injection hz with hz
  injection hz with _ hz
  rw [hz]
set_option maxRecDepth 100000 in
set_option maxHeartbeats 2000000 in
theorem add_again (h : PoolX T w P S m A1 A2 c1 c2 M xs D) (hd : DOk D S) (hS : S.length ≤ 1000000) (hu : Uniq S) (p e : Int) (f : Bool) (he : 0 ≤ e) (hpw : wfi p) (hew : wfi e) (hp : p = -1 ∨ hasB S p = true) (i : Nat) (c : Cl) (hi : idx S p e (keyF p f) = some i) (hc : at? S i = some c) (ho : c.own < 1000000000) (ho2 : 0 ≤ c.own) :
    Calls Try.prog 10 #[.pointer (some ⟨P, 0, none⟩), .int .i64 p, .int .i64 e, .bool f] w (AddPost T w P (S.set i (some { c with own := c.own + 1 })) m i true) := by
  have C := Lib.hid (has_any h p hS)
  have L := Lib.hid fun o n => look_at (((h.keep (w' := w.alloc o) fun g hg _ => Below.heap_alloc w o g hg).keep (w' := (w.alloc o).drewN n) fun _ _ _ => rfl)) hd p e (keyF p f) hpw hew
  have HE : Hid (∀ o n g, A1 = some ⟨g, 0, none⟩ → PoolW T (((w.alloc o).drewN n).setCell ⟨g, i * 5 + 3, none⟩ (.int .i64 (c.own + 1))) P (S.set i (some { c with own := c.own + 1 })) m ∧ KeptT T w (((w.alloc o).drewN n).setCell ⟨g, i * 5 + 3, none⟩ (.int .i64 (c.own + 1)))) := Lib.hid fun o n g hA => by
    subst hA
    have h1 := ((h.keep (w' := w.alloc o) fun g hg _ => Below.heap_alloc w o g hg).keep (w' := (w.alloc o).drewN n) fun _ _ _ => rfl)
    have h2 := set_field h1 hc 3 (.int .i64 (c.own + 1)) (by omega) (c' := { c with own := c.own + 1 }) rfl
    exact ⟨⟨_, _, _, _, _, _, _, h2, dok_stay hd hu (turn_set (at_lt hc) _) hc rfl rfl rfl (cnt_stay hc)⟩, kept_field h1 _ _ (((KeptT.refl T w).alloc o).drewN n)⟩
  rw [hi] at L
  unfold kv at L
  have k0 := h.k0
  have k2 := h.k2
  obtain ⟨g, rfl, q5, _, _, _, q3, _⟩ := h.allAt hc
  have hil := at_lt hc
  have hgl : g < w.heap.size := (h.all.lt g rfl).2
  have hlP : P < w.heap.size := h.blk.lt
  have b1 : (0 : Int) ≤ (i : Int) := by omega
  have b2 : (i : Int) < (S.length : Int) := by omega
  clear h hc
  by_cases hp1 : p = -1
  · subst hp1
    have e1 : keyF (-1) f = true := by unfold keyF; simp
    rw [e1] at L
    have LL := L.out
    clear C hi e1 L
    cases f
    all_goals
      go_enter Try.func10, Try.ntmps10
      go_wp2_with fail
      go_quiet (fail)
      go_wp2_with fail
      go_ret2
      exact ⟨rfl, HE.out _ _ _ rfl⟩
  · have e1 : keyF p f = f := by unfold keyF; rw [show (p == -1) = false by rw [beq_eq_false_iff_ne]; exact hp1]; simp
    rw [e1] at L
    have LL := L.out
    have hp3 : (p == -1) = false := by rw [beq_eq_false_iff_ne]; exact hp1
    have hp2 : (p != -1) = true := by unfold bne; rw [hp3]; rfl
    rw [hp.resolve_left hp1] at C
    clear hi e1 L hp hp1
    cases f
    all_goals
      go_enter Try.func10, Try.ntmps10
      go_wp2_with fail
      refine C.out.mono ?_
      rintro e w' ⟨rfl, rfl⟩
      go_wp2_with fail
      go_quiet (fail)
      go_wp2_with fail
      go_ret2
      exact ⟨rfl, HE.out _ _ _ rfl⟩
end
end Go.Proofs.Ytcgapjicbgfpjaa

/-
  What is read of a pool; the walks of has and Used.
-/
import Derived.WalkKit
import Derived.WalkSpells
import Derived.Outline
import Derived.Deep.DrawnRows
import Derived.Deep.QuietTactic
import Derived.BigQuiet
import Derived.WalkLawsBesides
import Derived.Test.YtcgapjicbgfpjaaSt
namespace Go.Proofs.Ytcgapjicbgfpjaa
set_option linter.unusedVariables false
set_option linter.unusedSimpArgs false
open Go.RowKit Go.Maps

theorem flat_cells : ∀ (xs : List Cl) (i j : Nat) (c : Cl), xs[i]? = some c → j < 5 → (xs.flatMap Cl.cells)[i * 5 + j]? = c.cells[j]? := by
  intro xs
  induction xs with
  | nil => intro i j c h _; simp at h
  | cons x xs ih =>
    intro i j c h hj
    rw [List.flatMap_cons]
    have hl : x.cells.length = 5 := rfl
    cases i with
    | zero =>
      simp at h; subst h
      rw [Nat.zero_mul, Nat.zero_add, List.getElem?_append_left (by omega)]
    | succ i =>
      rw [List.getElem?_append_right (by omega), hl, show (i + 1) * 5 + j - 5 = i * 5 + j by omega]
      exact ih i j c (by simpa using h) hj

section
variable {T : Nat → Prop} {w : World} {P : Nat} {S : St} {m : Int} {A1 A2 : Option Addr} {c1 c2 M : Nat} {xs : List Cl} {D : DataW Unit}
theorem PoolX.k0 (h : PoolX T w P S m A1 A2 c1 c2 M xs D) : w.cell? ⟨P, 0, none⟩ = some (.slice A1 S.length c1) := h.blk.cell 0
theorem PoolX.k1 (h : PoolX T w P S m A1 A2 c1 c2 M xs D) : w.cell? ⟨P, 1, none⟩ = some (.slice A2 S.length c2) := h.blk.cell 1
theorem PoolX.k2 (h : PoolX T w P S m A1 A2 c1 c2 M xs D) : w.cell? ⟨P, 2, none⟩ = some (.map (some M)) := h.blk.cell 2
theorem PoolX.k3 (h : PoolX T w P S m A1 A2 c1 c2 M xs D) : w.cell? ⟨P, 3, none⟩ = some (.int .i64 m) := h.blk.cell 3
theorem own_form {base : Nat} {e : TypeId} {size n c : Nat} {A : Option Addr} {ys : List Value} (h : w.ownsRow base e size (.slice A n c) n ys) (hn : 0 < n) : ∃ g, A = some ⟨g, 0, none⟩ := by
  obtain ⟨g, cap, hv, _⟩ := h.form hn
  injection hv with hv
  exact ⟨g, hv⟩
theorem own_caps {base : Nat} {e : TypeId} {size n c : Nat} {A : Option Addr} {ys : List Value} (h : w.ownsRow base e size (.slice A n c) n ys) : n ≤ c ∧ c ≤ maxLen := by
  rcases h.2 with ⟨hv, hy⟩ | ⟨g, cap, cur, hv, _, _, hnc, hm, _⟩
  · injection hv with _ h2 h3
    subst h2 h3
    exact ⟨Nat.le_refl _, by decide⟩
  · injection hv with _ _ h3
    subst h3
    exact ⟨hnc, hm⟩
theorem PoolX.freeAt (h : PoolX T w P S m A1 A2 c1 c2 M xs D) {i : Nat} (hi : i < S.length) :
    ∃ g, A2 = some ⟨g, 0, none⟩ ∧ w.cell? ⟨g, i, none⟩ = some (.bool (at? S i).isNone) ∧ ∀ j, w.frozen? ⟨g, j, none⟩ = false := by
  obtain ⟨g, rfl⟩ := own_form h.free (by omega)
  refine ⟨g, rfl, ?_, h.free.frozenAt⟩
  rw [h.free.cellAt i (by omega), List.getElem?_map, List.getElem?_eq_getElem hi]
  unfold at?
  rw [List.getElem?_eq_getElem hi]
  cases S[i] <;> rfl
theorem PoolX.allAt (h : PoolX T w P S m A1 A2 c1 c2 M xs D) {i : Nat} {c : Cl} (hc : at? S i = some c) :
    ∃ g, A1 = some ⟨g, 0, none⟩ ∧ (∀ j, w.frozen? ⟨g, j, none⟩ = false) ∧ w.cell? ⟨g, i * 5, none⟩ = some (.int .i64 c.prev) ∧ w.cell? ⟨g, i * 5 + 1, none⟩ = some (.int .i64 c.event) ∧
      w.cell? ⟨g, i * 5 + 2, none⟩ = some (.bool c.fresh) ∧ w.cell? ⟨g, i * 5 + 3, none⟩ = some (.int .i64 c.own) ∧ w.cell? ⟨g, i * 5 + 4, none⟩ = some (.int .i64 c.behind) := by
  have hi := at_lt hc
  obtain ⟨g, rfl⟩ := own_form h.all (by omega)
  have hx := h.live i c hc
  have hj : ∀ j, j < 5 → w.cell? ⟨g, i * 5 + j, none⟩ = c.cells[j]? := fun j hj => by
    rw [h.all.cellAt (i * 5 + j) (by omega)]
    exact flat_cells xs i j c hx hj
  exact ⟨g, rfl, h.all.frozenAt, hj 0 (by omega), hj 1 (by omega), hj 2 (by omega), hj 3 (by omega), hj 4 (by omega)⟩

theorem has_neg {i : Int} (h : i < 0) : hasB S i = false := by unfold hasB; rw [decide_eq_false (by omega)]; rfl
theorem has_nat (n : Nat) : hasB S (n : Int) = (at? S n).isSome := by unfold hasB; rw [decide_eq_true (by omega), Int.toNat_natCast]; rfl
theorem has_big {n : Nat} (h : S.length ≤ n) : hasB S (n : Int) = false := by
  rw [has_nat]; unfold at?; rw [List.getElem?_eq_none h]; rfl

theorem has_any (h : PoolX T w P S m A1 A2 c1 c2 M xs D) (i : Int) (hS : S.length ≤ 1000000) :
    Calls Try.prog 24 #[.pointer (some ⟨P, 0, none⟩), .int .i64 i] w fun e w' => e = .returned (.bool (hasB S i)) ∧ w = w' := by
  have k0 := h.k0
  have k1 := h.k1
  by_cases hi : i < 0
  · rw [has_neg hi]
    clear h
    go_enter Try.func24, Try.ntmps24
    go_wp2_with fail
    go_ret
    exact ⟨rfl, rfl⟩
  · obtain ⟨n, rfl⟩ : ∃ n : Nat, i = n := ⟨i.toNat, by omega⟩
    clear hi
    by_cases hn : n < S.length
    · rw [has_nat]
      obtain ⟨g, rfl, hc, _⟩ := h.freeAt hn
      obtain ⟨o, ho⟩ : ∃ o, at? S n = o := ⟨_, rfl⟩
      rw [ho] at hc ⊢
      have e : o.isSome = !o.isNone := by cases o <;> rfl
      rw [e]
      obtain ⟨b, hb⟩ : ∃ b, o.isNone = b := ⟨_, rfl⟩
      rw [hb] at hc ⊢
      clear h ho e hb
      go_enter Try.func24, Try.ntmps24
      go_wp2_with fail
      go_ret
      exact ⟨rfl, rfl⟩
    · rw [has_big (by omega)]
      clear h
      have hn' : S.length ≤ n := by omega
      go_enter Try.func24, Try.ntmps24
      go_wp2_with fail
      go_ret
      exact ⟨rfl, rfl⟩

theorem used_any (h : PoolX T w P S m A1 A2 c1 c2 M xs D) (hd : DOk D S) :
    Calls Try.prog 11 #[.pointer (some ⟨P, 0, none⟩)] w fun e w' => e = .returned (.int .i64 (cnt S : Nat)) ∧ w = w' := by
  have k2 := h.k2
  have hl := h.at_.len Try.underlying52 3
  rw [hd.2] at hl
  clear h
  go_enter Try.func11, Try.ntmps11
  go_wp2_with fail
  go_ret
  exact ⟨rfl, rfl⟩
theorem used_nil : Calls Try.prog 11 #[.pointer none] w fun e w' => e = .returned (.int .i64 0) ∧ w = w' := by
  go_enter Try.func11, Try.ntmps11
  go_wp2_with fail
  go_ret
  exact ⟨rfl, rfl⟩

theorem held_no (h : PoolX T w P S m A1 A2 c1 c2 M xs D) (i : Int) (hS : S.length ≤ 1000000) (hh : hasB S i = false) :
    Calls Try.prog 14 #[.pointer (some ⟨P, 0, none⟩), .int .i64 i] w fun e w' => e = .returned (.int .i64 0) ∧ w = w' := by
  have C := Lib.hid (has_any h i hS)
  rw [hh] at C
  clear h hh
  go_enter Try.func14, Try.ntmps14
  go_wp2_with fail
  refine C.out.mono ?_
  rintro e w' ⟨rfl, rfl⟩
  go_wp2_with fail
  go_ret
  exact ⟨rfl, rfl⟩
theorem held_yes (h : PoolX T w P S m A1 A2 c1 c2 M xs D) (n : Nat) (c : Cl) (hS : S.length ≤ 1000000) (hc : at? S n = some c) (h0 : -1000000000 ≤ c.own + c.behind) (h1 : c.own + c.behind ≤ 1000000000) :
    Calls Try.prog 14 #[.pointer (some ⟨P, 0, none⟩), .int .i64 n] w fun e w' => e = .returned (.int .i64 (c.own + c.behind)) ∧ ∃ k, w' = w.drewN k := by
  have C := Lib.hid (has_any h n hS)
  rw [has_nat, hc] at C
  have hn := at_lt hc
  have k0 := h.k0
  obtain ⟨g, rfl, _, _, _, _, q3, q4⟩ := h.allAt hc
  have s1 : IntKind.i64.wrap (c.own + c.behind) = c.own + c.behind := by rw [IntKind.wrap_i64]; omega
  have b1 : (0 : Int) ≤ (n : Int) := by omega
  have b2 : (n : Int) < (S.length : Int) := by omega
  clear h hc
  go_enter Try.func14, Try.ntmps14
  go_wp2_with fail
  refine C.out.mono ?_
  rintro e w' ⟨rfl, rfl⟩
  go_wp2_with fail
  go_quiet (fail)
  go_wp2_with fail
  go_ret
  exact ⟨rfl, nq, rfl⟩
theorem held_nil (i : Int) : Calls Try.prog 14 #[.pointer none, .int .i64 i] w fun e w' => e = .returned (.int .i64 0) ∧ w = w' := by
  go_enter Try.func14, Try.ntmps14
  go_wp2_with fail
  go_ret
  exact ⟨rfl, rfl⟩
end

theorem dok_nil : DOk (.map []) [] := ⟨fun p e f _ _ => ⟨rfl, rfl⟩, rfl⟩
/-- a new pool -/
def NewPost (T : Nat → Prop) (m : Int) (w : World) (e : Ending) (w' : World) : Prop :=
  ∃ P, e = .returned (.pointer (some ⟨P, 0, none⟩)) ∧ PoolW T w' P [] m ∧ KeptT T w w' ∧ Below w.heap.size w w'
theorem new_pool (T : Nat → Prop) (w : World) (hT : ∀ g, T g → g < w.heap.size) (m : Int) :
    PoolW T ((w.alloc (.map #[] 0)).alloc (.cells #[.slice none 0 0, .slice none 0 0, .map (some w.heap.size), .int .i64 m] 57)) (w.heap.size + 1) [] m := by
  have hm := (World.ownsMap_made (H := Unit) w Try.prog 59 (plainElem Try.prog 3)).alloc (.cells #[.slice none 0 0, .slice none 0 0, .map (some w.heap.size), .int .i64 m] 57)
  refine ⟨none, none, 0, 0, w.heap.size, [], .map [], ⟨?_, World.ownsRow_nil _ _ _ _, World.ownsRow_nil _ _ _ _, hm, rfl, fun i c h => by simp [at?] at h, fun h => ?_, fun h => ?_, (fun a e => by cases e), (fun a e => by cases e)⟩, dok_nil⟩
  · have h := Blk.new (w.alloc (.map #[] 0)) 57 #[.slice none 0 0, .slice none 0 0, .map (some w.heap.size), .int .i64 m]
    rw [World.size_alloc] at h
    exact h
  · have := hT _ h; omega
  · have := hT _ h; omega
theorem new_any (T : Nat → Prop) (w : World) (hT : ∀ g, T g → g < w.heap.size) (a : Int) :
    Calls Try.prog 8 #[.int .i64 a] w (NewPost T (max 0 a) w) := by
  have hmm := @run_makeMap Try.prog
  have HP := Lib.hid (new_pool T w hT)
  have HK := Lib.hid (fun o o2 => ((KeptT.refl T w).alloc o).alloc o2)
  have HB := Lib.hid (fun o o2 => ((Below.refl w.heap.size w).alloc (Nat.le_refl _) o).alloc (by simp) o2)
  by_cases ha : 0 < a
  · have e : max 0 a = a := by omega
    rw [e]
    clear e
    go_enter Try.func8, Try.ntmps8
    go_wp2_with fail
    go_ret
    exact ⟨_, rfl, HP.out _, HK.out _ _, HB.out _ _⟩
  · have e : max 0 a = 0 := by omega
    rw [e]
    clear e
    have ha' : a ≤ 0 := by omega
    go_enter Try.func8, Try.ntmps8
    go_wp2_with fail
    go_ret
    exact ⟨_, rfl, HP.out _, HK.out _ _, HB.out _ _⟩
end Go.Proofs.Ytcgapjicbgfpjaa

/-
  The document's pool in memory; what it reads, and its Has, Held, Used.
-/
import Derived.Test.YtcgapjicbgfpjaaBalr
namespace Go.Proofs.Ytcgapjicbgfpjaa
set_option linter.unusedVariables false
set_option linter.unusedSimpArgs false
open Go.RowKit Go.Maps

def refL : Option Cl → List Value
  | none => [.bool false, .int .i64 0, .int .i64 0, .bool false, .int .i64 0, .int .i64 0]
  | some c => [.bool true, .int .i64 c.prev, .int .i64 c.event, .bool c.fresh, .int .i64 c.own, .int .i64 c.behind]
theorem refL_len (o : Option Cl) : (refL o).length = 6 := by cases o <;> rfl
theorem flat6_at : ∀ (S : St) (i j : Nat) (o : Option Cl), S[i]? = some o → j < 6 → (S.flatMap refL)[i * 6 + j]? = (refL o)[j]? := by
  intro S
  induction S with
  | nil => intro i j o h _; simp at h
  | cons x S ih =>
    intro i j o h hj
    have hl := refL_len x
    rw [List.flatMap_cons]
    cases i with
    | zero =>
      simp at h; subst h
      rw [Nat.zero_mul, Nat.zero_add, List.getElem?_append_left (by omega)]
    | succ i =>
      rw [List.getElem?_append_right (by omega), hl, show (i + 1) * 6 + j - 6 = i * 6 + j by omega]
      exact ih i j o (by simpa using h) hj
theorem flat6_set (o o' : Option Cl) (j : Nat) (u : Value) (hj : j < 6) (hc : refL o' = (refL o).set j u) : ∀ (S : St) (i : Nat), S[i]? = some o → (S.flatMap refL).set (i * 6 + j) u = (S.set i o').flatMap refL := by
  intro S
  induction S with
  | nil => intro i h; simp at h
  | cons x S ih =>
    intro i h
    have hl := refL_len x
    cases i with
    | zero =>
      simp at h; subst h
      rw [Nat.zero_mul, Nat.zero_add, List.flatMap_cons, List.set_append, if_pos (by omega), List.set_cons_zero, List.flatMap_cons, hc]
    | succ i =>
      rw [List.flatMap_cons, List.set_append, if_neg (by omega), hl, show (i + 1) * 6 + j - 6 = i * 6 + j by omega, ih i (by simpa using h), List.set_cons_succ, List.flatMap_cons]
theorem flat6_all (a0 a1 a2 a3 a4 a5 : Value) (o : Option Cl) (ho : refL o = [a0, a1, a2, a3, a4, a5]) : ∀ (S : St) (i : Nat), i < S.length →
    ((((((S.flatMap refL).set (i * 6) a0).set (i * 6 + 1) a1).set (i * 6 + 2) a2).set (i * 6 + 3) a3).set (i * 6 + 4) a4).set (i * 6 + 5) a5 = (S.set i o).flatMap refL := by
  intro S
  induction S with
  | nil => intro i h; simp at h
  | cons x S ih =>
    intro i h
    have hl := refL_len x
    cases i with
    | zero =>
      rw [List.set_cons_zero, List.flatMap_cons, List.flatMap_cons, ho]
      cases x <;> simp [refL]
    | succ i =>
      have h1 := ih i (by simpa using h)
      rw [List.set_cons_succ, List.flatMap_cons, List.flatMap_cons, ← h1]
      have e : ∀ (ys : List Value) (k : Nat) (v : Value), (refL x ++ ys).set ((i + 1) * 6 + k) v = refL x ++ ys.set (i * 6 + k) v := fun ys k v => by
        rw [List.set_append, if_neg (by omega), hl, show (i + 1) * 6 + k - 6 = i * 6 + k by omega]
      have e0 := e
      rw [show (i + 1) * 6 = (i + 1) * 6 + 0 from rfl, show (i + 1) * 6 + 0 + 1 = (i + 1) * 6 + 1 from rfl, show (i + 1) * 6 + 0 + 2 = (i + 1) * 6 + 2 from rfl, show (i + 1) * 6 + 0 + 3 = (i + 1) * 6 + 3 from rfl, show (i + 1) * 6 + 0 + 4 = (i + 1) * 6 + 4 from rfl, show (i + 1) * 6 + 0 + 5 = (i + 1) * 6 + 5 from rfl, e, e, e, e, e, e]
      rfl

/-- how the document's pool lies -/
structure RefX (w : World) (base B : Nat) (S : St) (m : Int) (v : Value) : Prop where
  blk : Blk w B 50 #[v, .int .i64 m]
  row : w.ownsRow base 47 6 v S.length (S.flatMap refL)
  hB : base ≤ B
/-- what a call that moves it leaves -/
def Moved (w w' : World) (B : Nat) (v v' : Value) : Prop := KeptT (fun g => g ≠ B ∧ v.ownBlock ≠ some g) w w' ∧ (v'.ownBlock = v.ownBlock ∨ ∀ g, v'.ownBlock = some g → w.heap.size ≤ g)
theorem Moved.refl (w : World) (B : Nat) (v : Value) : Moved w w B v v := ⟨KeptT.refl _ w, .inl rfl⟩
theorem Moved.of_below {w w' : World} (hb : Below w.heap.size w w') (B : Nat) (v : Value) : Moved w w' B v v := ⟨⟨hb.os, hb.tape, hb.output, hb.size, fun g hg _ => hb.block g hg⟩, .inl rfl⟩
theorem Moved.trans {a b c : World} {B : Nat} {u v x : Value} (h : Moved a b B u v) (k : Moved b c B v x) : Moved a c B u x := by
  refine ⟨⟨k.1.1.trans h.1.1, k.1.2.1.trans h.1.2.1, k.1.2.2.1.trans h.1.2.2.1, Nat.le_trans h.1.2.2.2.1 k.1.2.2.2.1, fun g hg hn => ?_⟩, ?_⟩
  · refine (k.1.2.2.2.2 g (Nat.lt_of_lt_of_le hg h.1.2.2.2.1) ⟨hn.1, fun e => ?_⟩).trans (h.1.2.2.2.2 g hg hn)
    rcases h.2 with h2 | h2
    · exact hn.2 (h2 ▸ e)
    · have := h2 g e; omega
  · rcases k.2 with k2 | k2
    · rw [k2]; exact h.2
    · exact .inr fun g e => Nat.le_trans h.1.2.2.2.1 (k2 g e)
section
variable {w : World} {base B : Nat} {S : St} {m : Int} {v : Value}
theorem RefX.slice (h : RefX w base B S m v) : ∃ A c, v = .slice A S.length c ∧ S.length ≤ c ∧ c ≤ maxLen := by
  obtain ⟨A, c, rfl⟩ := own_slice h.row
  exact ⟨A, c, rfl, own_caps h.row⟩
theorem RefX.k0 (h : RefX w base B S m v) : w.cell? ⟨B, 0, none⟩ = some v := h.blk.cell 0
theorem RefX.k1 (h : RefX w base B S m v) : w.cell? ⟨B, 1, none⟩ = some (.int .i64 m) := h.blk.cell 1
theorem RefX.stay {w' : World} (h : RefX w base B S m v) (hb : Below w.heap.size w w') : RefX w' base B S m v :=
  ⟨h.blk.below hb h.blk.lt, h.row.kept (only_of_below hb none) (by cases v.ownBlock <;> simp), h.hB⟩
theorem RefX.at_ (h : RefX w base B S m v) {i : Nat} {o : Option Cl} (ho : S[i]? = some o) : ∃ g c, v = .slice (some ⟨g, 0, none⟩) S.length c ∧ base ≤ g ∧ g < w.heap.size ∧ S.length ≤ c ∧ c ≤ maxLen ∧ (∀ j, w.frozen? ⟨g, j, none⟩ = false) ∧
    ∀ j u, (refL o)[j]? = some u → w.cell? ⟨g, i * 6 + j, none⟩ = some u := by
  have hi : i < S.length := (List.getElem?_eq_some_iff.1 ho).1
  obtain ⟨g, cap, hv, hg, h1⟩ := h.row.form (by omega)
  obtain ⟨hc1, hc2⟩ := own_caps (hv ▸ h.row)
  subst hv
  refine ⟨g, cap, rfl, hg, h1, hc1, hc2, h.row.frozenAt, fun j u hu => ?_⟩
  have hj : j < 6 := by have := (List.getElem?_eq_some_iff.1 hu).1; rwa [refL_len] at this
  rw [h.row.cellAt (i * 6 + j) (by omega), flat6_at S i j o ho hj]; exact hu
theorem RefX.six (h : RefX w base B S m v) {i : Nat} {o : Option Cl} (ho : S[i]? = some o) {a0 a1 a2 a3 a4 a5 : Value} (hl : refL o = [a0, a1, a2, a3, a4, a5]) : ∃ g c, v = .slice (some ⟨g, 0, none⟩) S.length c ∧ base ≤ g ∧ g < w.heap.size ∧ S.length ≤ c ∧ c ≤ maxLen ∧ (∀ j, w.frozen? ⟨g, j, none⟩ = false) ∧
    w.cell? ⟨g, i * 6, none⟩ = some a0 ∧ w.cell? ⟨g, i * 6 + 1, none⟩ = some a1 ∧ w.cell? ⟨g, i * 6 + 2, none⟩ = some a2 ∧ w.cell? ⟨g, i * 6 + 3, none⟩ = some a3 ∧ w.cell? ⟨g, i * 6 + 4, none⟩ = some a4 ∧ w.cell? ⟨g, i * 6 + 5, none⟩ = some a5 := by
  obtain ⟨g, c, hv, h1, h2, h3, h4, h5, h6⟩ := h.at_ ho
  rw [hl] at h6
  exact ⟨g, c, hv, h1, h2, h3, h4, h5, h6 0 _ rfl, h6 1 _ rfl, h6 2 _ rfl, h6 3 _ rfl, h6 4 _ rfl, h6 5 _ rfl⟩
theorem at_cases (S : St) {i : Nat} (h : i < S.length) : S[i]? = some (at? S i) := by
  unfold at?; rw [List.getElem?_eq_getElem h]; rfl
theorem ref_has (h : RefX w base B S m v) (i : Int) (hS : S.length ≤ 1000000) :
    Calls Try.prog 19 #[.pointer (some ⟨B, 0, none⟩), .int .i64 i] w fun e w' => e = .returned (.bool (hasB S i)) ∧ w = w' := by
  have k0 := h.k0
  by_cases hi : i < 0
  · rw [has_neg hi]
    clear h
    go_enter Try.func19, Try.ntmps19
    go_wp2_with fail
    go_ret
    exact ⟨rfl, rfl⟩
  · obtain ⟨n, rfl⟩ : ∃ n : Nat, i = n := ⟨i.toNat, by omega⟩
    clear hi
    by_cases hn : n < S.length
    · rw [has_nat]
      obtain ⟨g, c, rfl, _, _, hc1, hc2, _, hc⟩ := h.at_ (at_cases S hn)
      obtain ⟨o, ho⟩ : ∃ o, at? S n = o := ⟨_, rfl⟩
      rw [ho] at hc ⊢
      have c0 : w.cell? ⟨g, n * 6, none⟩ = some (.bool o.isSome) := hc 0 _ (by cases o <;> rfl)
      obtain ⟨b, hb⟩ : ∃ b, o.isSome = b := ⟨_, rfl⟩
      rw [hb] at c0 ⊢
      clear h ho hb hc
      unfold maxLen at hc2
      go_enter Try.func19, Try.ntmps19
      go_wp2_with fail
      go_ret
      exact ⟨rfl, rfl⟩
    · rw [has_big (by omega)]
      obtain ⟨A, c, rfl, hc1, hc2⟩ := h.slice
      unfold maxLen at hc2
      clear h
      have hn' : S.length ≤ n := by omega
      go_enter Try.func19, Try.ntmps19
      go_wp2_with fail
      go_ret
      exact ⟨rfl, rfl⟩
theorem ref_held_no (h : RefX w base B S m v) (i : Int) (hS : S.length ≤ 1000000) (hh : hasB S i = false) :
    Calls Try.prog 22 #[.pointer (some ⟨B, 0, none⟩), .int .i64 i] w fun e w' => e = .returned (.int .i64 0) ∧ w = w' := by
  have C := Lib.hid (ref_has h i hS)
  rw [hh] at C
  clear h hh
  go_enter Try.func22, Try.ntmps22
  go_wp2_with fail
  refine C.out.mono ?_
  rintro e w' ⟨rfl, rfl⟩
  go_wp2_with fail
  go_ret
  exact ⟨rfl, rfl⟩
theorem ref_held_yes (h : RefX w base B S m v) (n : Nat) (c : Cl) (hS : S.length ≤ 1000000) (hc : at? S n = some c) (h0 : -1000000000 ≤ c.own + c.behind) (h1 : c.own + c.behind ≤ 1000000000) :
    Calls Try.prog 22 #[.pointer (some ⟨B, 0, none⟩), .int .i64 n] w fun e w' => e = .returned (.int .i64 (c.own + c.behind)) ∧ ∃ k, w' = w.drewN k := by
  have C := Lib.hid (ref_has h n hS)
  rw [has_nat, hc] at C
  have hn := at_lt hc
  have k0 := h.k0
  obtain ⟨g, cp, rfl, _, _, hc1, hc2, _, hcc⟩ := h.at_ (at_some.1 hc)
  have q4 := hcc 4 _ rfl
  have q5 := hcc 5 _ rfl
  unfold maxLen at hc2
  have s1 : IntKind.i64.wrap (c.own + c.behind) = c.own + c.behind := by rw [IntKind.wrap_i64]; omega
  have b1 : (0 : Int) ≤ (n : Int) := by omega
  have b2 : (n : Int) < (S.length : Int) := by omega
  clear h hc hcc
  go_enter Try.func22, Try.ntmps22
  go_wp2_with fail
  refine C.out.mono ?_
  rintro e w' ⟨rfl, rfl⟩
  go_wp2_with fail
  go_quiet (fail)
  go_wp2_with fail
  go_ret
  exact ⟨rfl, nq, rfl⟩
end
/-- a new one -/
theorem ref_new (w : World) (a : Int) :
    Calls Try.prog 16 #[.int .i64 a] w fun e w' => e = .returned (.pointer (some ⟨w.heap.size, 0, none⟩)) ∧ RefX w' w.heap.size w.heap.size [] (max 0 a) (.slice none 0 0) ∧ Below w.heap.size w w' := by
  have HX : Hid (∀ mm : Int, RefX (w.alloc (.cells #[.slice none 0 0, .int .i64 mm] 50)) w.heap.size w.heap.size [] mm (.slice none 0 0)) := Lib.hid fun mm => ⟨Blk.new w _ _, World.ownsRow_nil _ _ _ _, Nat.le_refl _⟩
  have HB := Lib.hid (fun o => (Below.refl w.heap.size w).alloc (Nat.le_refl _) o)
  by_cases ha : 0 < a
  · have e : max 0 a = a := by omega
    rw [e]
    clear e
    go_enter Try.func16, Try.ntmps16
    go_wp2_with fail
    go_ret
    exact ⟨rfl, HX.out _, HB.out _⟩
  · have e : max 0 a = 0 := by omega
    rw [e]
    clear e
    have ha' : a ≤ 0 := by omega
    go_enter Try.func16, Try.ntmps16
    go_wp2_with fail
    go_ret
    exact ⟨rfl, HX.out _, HB.out _⟩
end Go.Proofs.Ytcgapjicbgfpjaa

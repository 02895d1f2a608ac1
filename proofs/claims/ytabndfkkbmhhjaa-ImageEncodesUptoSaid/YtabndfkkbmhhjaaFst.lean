/-
  How the program's flow lies in memory, what it does to a number, and what its calls leave alone. No walk.
-/
import Derived.Test.YtabndfkkbmhhjaaSnu
import Derived.Test.YtabndfkkbmhhjaaFow
import Derived.Test.YtabndfkkbmhhjaaCnv
import Derived.Test.YtabndfkkbmhhjaaLty
import Derived.Test.YtabndfkkbmhhjaaTwq
import Derived.Deep.RegionHeld3
namespace Go.Proofs.Ytabndfkkbmhhjaa
set_option linter.unusedVariables false
set_option linter.unusedSimpArgs false
open Go.RowKit Go.Deep

/-- a flow that reads, from a place on, or that writes, behind bytes -/
inductive FSt where
  | rd (R : Nat) (A : Option Addr) (n c : Nat) (l : List UInt8) (p : Nat)
  | wr (bs : List UInt8)
def FSt.room : FSt → Nat
  | .rd .. => 0
  | .wr bs => bs.length
def FlX (B : Nat) (w : World) (F : Nat) : FSt → Prop
  | .rd R A n c l p => B ≤ F ∧ B ≤ R ∧ Blk w F 62 #[.pointer (some ⟨R, 0, none⟩), .slice none 0 0, .bool true] ∧ Rdr w R A n c p ∧ Reads w R 1 A n (bv l) ∧ l.length = n ∧ p ≤ n ∧ n ≤ 65536
  | .wr bs => B ≤ F ∧ ∃ v, Blk w F 62 #[.pointer none, v, .bool false] ∧ OwnB B w v bs
def hot (t : TypeId) : Prop := t = 5 ∨ t = 62 ∨ t = 99
/-- what a call leaves alone, but for one block -/
def Fr (B tb : Nat) (w w' : World) : Prop := Below B w w' ∧ ∀ b t cs, b ≠ tb → ¬ hot t → Blk w b t cs → Blk w' b t cs
section
variable {B tb tb2 : Nat} {w w1 w2 : World}
theorem Fr.refl (B tb : Nat) (w : World) : Fr B tb w w := ⟨Below.refl _ _, fun _ _ _ _ _ h => h⟩
theorem Fr.trans (h : Fr B tb w w1) (k : Fr B tb w1 w2) : Fr B tb w w2 := ⟨h.1.trans k.1, fun b t cs h1 h2 h3 => k.2 b t cs h1 h2 (h.2 b t cs h1 h2 h3)⟩
theorem Fr.below (hB : B ≤ w.heap.size) (h : Below w.heap.size w w1) : Fr B tb w w1 := ⟨h.mono hB, fun b t cs _ _ h3 => h3.below h h3.lt⟩
theorem Fr.new (h : Fr B tb w w1) (k : Fr B tb2 w1 w2) (hn : w.heap.size ≤ tb2) : Fr B tb w w2 :=
  ⟨h.1.trans k.1, fun b t cs h1 h2 h3 => k.2 b t cs (fun e => by have := h3.lt; omega) h2 (h.2 b t cs h1 h2 h3)⟩
theorem Fr.set_ (h : Fr B tb w w1) (hB : B ≤ tb) (i : Nat) (u : Value) : Fr B tb w (w1.setCell ⟨tb, i, none⟩ u) :=
  ⟨h.1.setCell hB u, fun b t cs h1 h2 h3 => (h.2 b t cs h1 h2 h3).far (p := ⟨tb, i, none⟩) h1 u⟩
theorem Fr.size (h : Fr B tb w w1) : w.heap.size ≤ w1.heap.size := h.1.size
theorem Fr.alloc (h : Fr B tb w w1) (hB : B ≤ w1.heap.size) (o : Obj) : Fr B tb w (w1.alloc o) := h.trans (Fr.below hB ((Below.refl _ _).alloc (Nat.le_refl _) o))
end
section
variable {B F tb : Nat} {w w' : World} {st : FSt}
theorem FlX.lt (h : FlX B w F st) : B ≤ F ∧ F < w.heap.size := by
  cases st with
  | rd R A n c l p => exact ⟨h.1, h.2.2.1.lt⟩
  | wr bs => obtain ⟨h1, v, h2, _⟩ := h; exact ⟨h1, h2.lt⟩
theorem FlX.below (h : FlX B w F st) (hb : Below w.heap.size w w') : FlX B w' F st := by
  cases st with
  | rd R A n c l p =>
    obtain ⟨h1, h2, h3, h4, h5, h6, h7⟩ := h
    exact ⟨h1, h2, h3.below hb h3.lt, Blk.below h4 hb (Blk.lt h4), h5.keep (fun p hp => hb.cell (by have := Blk.lt h4; omega)), h6, h7⟩
  | wr bs =>
    obtain ⟨h1, v, h2, h3⟩ := h
    exact ⟨h1, v, h2.below hb h2.lt, h3.below hb⟩
/-- a store into a block of another kind -/
theorem FlX.set_ (h : FlX B w F st) {t : TypeId} {cs : Array Value} (ht : ¬ hot t) (hb : Blk w tb t cs) (hr : ∀ R A n c l p, st = .rd R A n c l p → R ≤ tb) (i : Nat) (u : Value) : FlX B (w.setCell ⟨tb, i, none⟩ u) F st := by
  have t1 : t ≠ 5 := fun e => ht (.inl e)
  have t2 : t ≠ 62 := fun e => ht (.inr (.inl e))
  have t3 : t ≠ 99 := fun e => ht (.inr (.inr e))
  cases st with
  | rd R A n c l p =>
    obtain ⟨h1, h2, h3, h4, h5, h6, h7⟩ := h
    exact ⟨h1, h2, h3.far (p := ⟨tb, i, none⟩) (Blk.ne_ h3 hb (Ne.symm t2)) u, Blk.far h4 (p := ⟨tb, i, none⟩) (Blk.ne_ h4 hb (Ne.symm t3)) u, h5.setCell (p := ⟨tb, i, none⟩) (hr R A n c l p rfl) u, h6, h7⟩
  | wr bs =>
    obtain ⟨h1, v, h2, h3⟩ := h
    exact ⟨h1, v, h2.far (p := ⟨tb, i, none⟩) (Blk.ne_ h2 hb (Ne.symm t2)) u, h3.far (h3.ne hb (Ne.symm t1)) u⟩
end
/-- the reader lies below -/
def FSt.rdUp (st : FSt) (tb : Nat) : Prop := ∀ R A n c l p, st = .rd R A n c l p → R ≤ tb
theorem FlX.rdUp {B F : Nat} {w : World} {st : FSt} (h : FlX B w F st) {tb : Nat} (ht : w.heap.size ≤ tb) : st.rdUp tb := by
  rintro R A n c l p rfl
  have := Blk.lt h.2.2.2.1
  omega
def stopP (ec : Int) : List PanicEntry := [{ v := .iface 104 (.agg #[.int .i64 ec]), recovered := false }]
def errOk (st : FSt) (ec : Int) : Prop := (ec = 3 ∨ ec = 32) ∧ ∀ bs, st = .wr bs → ec = 3
/-- a number through a flow: what stands there, or the number that is written -/
def num : FSt → Int → Option (FSt × Int)
  | .rd R A n c l p, _ => match dec (l.drop p) with
    | some (v, k) => if numOk (zag v) then some (.rd R A n c l (p + k), zag v) else none
    | none => none
  | .wr bs, a => if numOk a then some (.wr (bs ++ vb (zig a)), a) else none
def bitsF : FSt → Int → Option (FSt × Int)
  | .rd R A n c l p, _ => match dec (l.drop p) with
    | some (v, k) => some (.rd R A n c l (p + k), v)
    | none => none
  | .wr bs, a => some (.wr (bs ++ vb a.toNat), a)
/-- each element of a list, one behind the other -/
def runL {α : Type} (one : FSt → α → Option (FSt × α)) : FSt → List α → Option (FSt × List α)
  | st, [] => some (st, [])
  | st, x :: xs => match one st x with
    | none => none
    | some (s, y) => match runL one s xs with
      | none => none
      | some (s2, ys) => some (s2, y :: ys)
/-- two states of one flow -/
def FSt.kin : FSt → FSt → Prop
  | .rd R A n c l _, .rd R' A' n' c' l' _ => R = R' ∧ A = A' ∧ n = n' ∧ c = c' ∧ l = l'
  | .wr _, .wr _ => True
  | _, _ => False
/-- what one part of the flow costs, and that it stays one flow -/
def Fine {α : Type} (one : FSt → α → Option (FSt × α)) (C : Nat) : Prop := ∀ st x st' y, one st x = some (st', y) → st'.room ≤ st.room + C ∧ st.kin st'
theorem kin_refl (st : FSt) : st.kin st := by cases st <;> simp [FSt.kin]
theorem kin_trans {a b c : FSt} (h : a.kin b) (k : b.kin c) : a.kin c := by
  cases a <;> cases b <;> cases c <;> simp only [FSt.kin] at h k ⊢
  obtain ⟨rfl, rfl, rfl, rfl, rfl⟩ := h
  exact k
theorem kin_err {a b : FSt} (h : a.kin b) {ec : Int} (he : errOk b ec) : errOk a ec := by
  refine ⟨he.1, ?_⟩
  rintro bs rfl
  cases b with
  | rd => exact absurd h (by simp [FSt.kin])
  | wr b2 => exact he.2 b2 rfl
theorem kin_up {a b : FSt} (h : a.kin b) {tb : Nat} (hu : a.rdUp tb) : b.rdUp tb := by
  rintro R A n c l p rfl
  cases a with
  | wr => exact absurd h (by simp [FSt.kin])
  | rd R2 A2 n2 c2 l2 p2 => obtain ⟨rfl, _⟩ := h; exact hu _ _ _ _ _ _ rfl
theorem fine_num : Fine num 10 := by
  rintro st x st' y h
  cases st with
  | rd R A n c l p =>
    simp only [num] at h
    split at h
    · split at h
      · cases h; simp [FSt.room, FSt.kin]
      · cases h
    · cases h
  | wr bs =>
    simp only [num] at h
    split at h
    · cases h
      have := (vb_len (zig x)).2
      simp [FSt.room, FSt.kin]; omega
    · cases h
theorem fine_bits : Fine bitsF 10 := by
  rintro st x st' y h
  cases st with
  | rd R A n c l p =>
    simp only [bitsF] at h
    split at h
    · cases h; simp [FSt.room, FSt.kin]
    · cases h
  | wr bs =>
    simp only [bitsF] at h
    cases h
    have := (vb_len x.toNat).2
    simp [FSt.room, FSt.kin]; omega
theorem fine_run {α : Type} {one : FSt → α → Option (FSt × α)} {C : Nat} (h : Fine one C) : ∀ (xs : List α) (st st' : FSt) (ys : List α), runL one st xs = some (st', ys) → st'.room ≤ st.room + C * xs.length ∧ st.kin st' ∧ ys.length = xs.length := by
  intro xs
  induction xs with
  | nil => intro st st' ys h1; simp only [runL] at h1; cases h1; exact ⟨by simp, kin_refl _, rfl⟩
  | cons x xs ih =>
    intro st st' ys h1
    simp only [runL] at h1
    split at h1
    · cases h1
    · rename_i s y hs
      split at h1
      · cases h1
      · rename_i s2 zs hz
        cases h1
        obtain ⟨a1, a2⟩ := h _ _ _ _ hs
        obtain ⟨b1, b2, b3⟩ := ih _ _ _ hz
        refine ⟨?_, kin_trans a2 b2, by simp [b3]⟩
        simp only [List.length_cons, Nat.mul_succ]; omega
theorem run_take {α : Type} {one : FSt → α → Option (FSt × α)} : ∀ (xs : List α) (r : Nat) (x : α) (st s : FSt) (ys : List α), xs[r]? = some x → runL one st (xs.take r) = some (s, ys) →
    runL one st (xs.take (r + 1)) = ((one s x).map fun q => (q.1, ys ++ [q.2])) := by
  intro xs
  induction xs with
  | nil => intro r x st s ys h; simp at h
  | cons z xs ih =>
    intro r x st s ys h h1
    cases r with
    | zero =>
      simp at h
      subst h
      simp only [List.take_zero, runL] at h1
      cases h1
      simp only [List.take_succ_cons, List.take_zero, runL]
      cases one st z with
      | none => rfl
      | some p => obtain ⟨s2, y⟩ := p; rfl
    | succ r =>
      simp only [List.getElem?_cons_succ] at h
      rw [List.take_succ_cons, runL] at h1
      rw [List.take_succ_cons, runL]
      split at h1
      · cases h1
      · rename_i s1 y1 hs
        split at h1
        · cases h1
        · rename_i s2 zs hz
          cases h1
          rw [ih r x s1 _ zs h hz]
          cases one s x with
          | none => rfl
          | some p => obtain ⟨s3, y⟩ := p; rfl
/-- a list fails where its beginning does -/
theorem run_none {α : Type} {one : FSt → α → Option (FSt × α)} : ∀ (xs : List α) (r : Nat) (st : FSt), runL one st (xs.take r) = none → runL one st xs = none := by
  intro xs
  induction xs with
  | nil => intro r st h; simp [runL] at h
  | cons z xs ih =>
    intro r st h
    cases r with
    | zero => simp [runL] at h
    | succ r =>
      rw [List.take_succ_cons, runL] at h
      rw [runL]
      split at h
      · rfl
      · rename_i s1 y1 hs
        split at h
        · rename_i hz
          rw [ih r s1 hz]
        · cases h
/-- what a part of the flow leaves: the next state and the cells, or the flow's own panic -/
def FlP {α : Type} (B F tb : Nat) (t : TypeId) (L1 L2 : List Value) (Rp : World → List Value → α → Prop) (st : FSt) (o : Option (FSt × α)) (w : World) (e : Ending) (w' : World) : Prop :=
  (∃ st' y vs, o = some (st', y) ∧ e = .returned (.tuple #[]) ∧ FlX B w' F st' ∧ Blk w' tb t (L1 ++ (vs ++ L2)).toArray ∧ Rp w' vs y ∧ Fr B tb w w') ∨
  (o = none ∧ ∃ ec, e = .panicked (stopP ec) ∧ errOk st ec ∧ Fr B tb w w')
theorem list_set {L1 L2 : List Value} {v u : Value} {off : Nat} (h : L1.length = off) : (L1 ++ ([v] ++ L2)).toArray.setIfInBounds off u = (L1 ++ ([u] ++ L2)).toArray := by
  subst h
  simp
theorem list_at {L1 L2 : List Value} {v : Value} {off : Nat} (h : L1.length = off) : (L1 ++ ([v] ++ L2)).toArray[off]? = some v := by
  subst h
  simp
def IntR (_ : World) (vs : List Value) (x : Int) : Prop := vs = [.int .i64 x]
def BitR (_ : World) (vs : List Value) (x : Int) : Prop := vs = [.int .u64 x] ∧ wfu x
end Go.Proofs.Ytabndfkkbmhhjaa

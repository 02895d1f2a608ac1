/- Fst, Fnu, Fin, Ffl: texts merged for a claim by a program of mine. -/
import Derived.Test.YtioocaicmiggoaaA03
import Derived.Test.YtioocaicmiggoaaA04
import Derived.Test.YtioocaicmiggoaaA05
import Derived.Deep.RegionHeld3
namespace Go.Proofs.Ytioocaicmiggoaa
set_option linter.unusedVariables false
set_option linter.unusedSimpArgs false
open Go.RowKit Go.Deep
inductive FSt where
 | rd (R : Nat) (A : Option Addr) (n c : Nat) (l : List UInt8) (p : Nat)
 | wr (bs : List UInt8)
def FSt.room : FSt → Nat
 | .rd .. => 0
 | .wr bs => bs.length
def FlX (B : Nat) (w : World) (F : Nat) : FSt → Prop
 | .rd R A n c l p => B ≤ F ∧ B ≤ R ∧ Blk w F 109 #[.pointer (some ⟨R, 0, none⟩), .slice none 0 0, .bool true] ∧ Rdr w R A n c p ∧ Reads w R 1 A n (bv l) ∧ l.length = n ∧ p ≤ n ∧ n ≤ 65536
 | .wr _ => False
def hot (t : TypeId) : Prop := t = 5 ∨ t = 109 ∨ t = 126
def Fr (B tb : Nat) (w w' : World) : Prop := Below B w w' ∧ ∀ b t cs, b ≠ tb → ¬ hot t → Blk w b t cs → Blk w' b t cs
section
variable {B tb tb2 : Nat} {w w1 w2 : World}
theorem Fr.refl (B tb : Nat) (w : World) : Fr B tb w w := ⟨Below.refl _ _, fun _ _ _ _ _ h => h⟩
theorem Fr.trans (h : Fr B tb w w1) (k : Fr B tb w1 w2) : Fr B tb w w2 := ⟨h.1.trans k.1, fun b t cs h1 h2 h3 => k.2 b t cs h1 h2 (h.2 b t cs h1 h2 h3)⟩
theorem Fr.below (hB : B ≤ w.heap.size) (h : Below w.heap.size w w1) : Fr B tb w w1 := ⟨h.mono hB, fun b t cs _ _ h3 => h3.below h h3.lt⟩
theorem Fr.new (h : Fr B tb w w1) (k : Fr B tb2 w1 w2) (hn : w.heap.size ≤ tb2) : Fr B tb w w2 :=
 ⟨h.1.trans k.1, fun b t cs h1 h2 h3 => k.2 b t cs (fun e => by have := h3.lt; omega) h2 (h.2 b t cs h1 h2 h3)⟩
theorem Fr.set_ (h : Fr B tb w w1) (hB : B ≤ tb) (i : Nat) (u : Value) : Fr B tb w (w1.setCell ⟨tb, i, none⟩ u) :=
 ⟨h.1.setCell hB u, fun b t cs h1 h2 h3 => (h.2 b t cs h1 h2 h3).far (p := ⟨tb, i, none⟩) h1 u⟩
theorem Fr.size (h : Fr B tb w w1) : w.heap.size ≤ w1.heap.size := h.1.size
theorem Fr.alloc (h : Fr B tb w w1) (hB : B ≤ w1.heap.size) (o : Obj) : Fr B tb w (w1.alloc o) := h.trans (Fr.below hB ((Below.refl _ _).alloc (Nat.le_refl _) o))
end
section
variable {B F tb : Nat} {w w' : World} {st : FSt}
theorem FlX.lt (h : FlX B w F st) : B ≤ F ∧ F < w.heap.size := by
 cases st with
 | rd R A n c l p => exact ⟨h.1, h.2.2.1.lt⟩
 | wr bs => exact h.elim
theorem FlX.below (h : FlX B w F st) (hb : Below w.heap.size w w') : FlX B w' F st := by
 cases st with
 | rd R A n c l p =>
  obtain ⟨h1, h2, h3, h4, h5, h6, h7⟩ := h
  exact ⟨h1, h2, h3.below hb h3.lt, Blk.below h4 hb (Blk.lt h4), h5.keep (fun p hp => hb.cell (by have := Blk.lt h4; omega)), h6, h7⟩
 | wr bs => exact h.elim
theorem FlX.set_ (h : FlX B w F st) {t : TypeId} {cs : Array Value} (ht : ¬ hot t) (hb : Blk w tb t cs) (hr : ∀ R A n c l p, st = .rd R A n c l p → R ≤ tb) (i : Nat) (u : Value) : FlX B (w.setCell ⟨tb, i, none⟩ u) F st := by
 have t1 : t ≠ 5 := fun e => ht (.inl e)
 have t2 : t ≠ 109 := fun e => ht (.inr (.inl e))
 have t3 : t ≠ 126 := fun e => ht (.inr (.inr e))
 cases st with
 | rd R A n c l p =>
  obtain ⟨h1, h2, h3, h4, h5, h6, h7⟩ := h
  exact ⟨h1, h2, h3.far (p := ⟨tb, i, none⟩) (Blk.ne_ h3 hb (Ne.symm t2)) u, Blk.far h4 (p := ⟨tb, i, none⟩) (Blk.ne_ h4 hb (Ne.symm t3)) u, h5.setCell (p := ⟨tb, i, none⟩) (hr R A n c l p rfl) u, h6, h7⟩
 | wr bs => exact h.elim
end
def FSt.rdUp (st : FSt) (tb : Nat) : Prop := ∀ R A n c l p, st = .rd R A n c l p → R ≤ tb
theorem FlX.rdUp {B F : Nat} {w : World} {st : FSt} (h : FlX B w F st) {tb : Nat} (ht : w.heap.size ≤ tb) : st.rdUp tb := by
 rintro R A n c l p rfl
 have := Blk.lt h.2.2.2.1
 omega
def stopP (ec : Int) : List PanicEntry := [{ v := .iface 136 (.agg #[.int .i64 ec]), recovered := false }]
def errOk (st : FSt) (ec : Int) : Prop := (ec = 3 ∨ ec = 32) ∧ ∀ bs, st = .wr bs → ec = 3
def num : FSt → Int → Option (FSt × Int)
 | .rd R A n c l p, _ => match dec (l.drop p) with
  | some (v, k) => if numOk (zag v) then some (.rd R A n c l (p + k), zag v) else none
  | none => none
 | .wr bs, a => if numOk a then some (.wr (bs ++ vb (zig a)), a) else none
def bitsF : FSt → Int → Option (FSt × Int)
 | .rd R A n c l p, _ => match dec (l.drop p) with
  | some (v, k) => some (.rd R A n c l (p + k), v)
  | none => none
 | .wr bs, a => some (.wr (bs ++ vb a.toNat), a)
def runL {α : Type} (one : FSt → α → Option (FSt × α)) : FSt → List α → Option (FSt × List α)
 | st, [] => some (st, [])
 | st, x :: xs => match one st x with
  | none => none
  | some (s, y) => match runL one s xs with
   | none => none
   | some (s2, ys) => some (s2, y :: ys)
def FSt.kin : FSt → FSt → Prop
 | .rd R A n c l _, .rd R' A' n' c' l' _ => R = R' ∧ A = A' ∧ n = n' ∧ c = c' ∧ l = l'
 | .wr _, .wr _ => True
 | _, _ => False
def Fine {α : Type} (one : FSt → α → Option (FSt × α)) (C : Nat) : Prop := ∀ st x st' y, one st x = some (st', y) → st'.room ≤ st.room + C ∧ st.kin st'
theorem kin_refl (st : FSt) : st.kin st := by cases st <;> simp [FSt.kin]
theorem kin_trans {a b c : FSt} (h : a.kin b) (k : b.kin c) : a.kin c := by
 cases a <;> cases b <;> cases c <;> simp only [FSt.kin] at h k ⊢
 obtain ⟨rfl, rfl, rfl, rfl, rfl⟩ := h
 exact k
theorem kin_err {a b : FSt} (h : a.kin b) {ec : Int} (he : errOk b ec) : errOk a ec := by
 refine ⟨he.1, ?_⟩
 rintro bs rfl
 cases b with
 | rd => exact absurd h (by simp [FSt.kin])
 | wr b2 => exact he.2 b2 rfl
theorem kin_up {a b : FSt} (h : a.kin b) {tb : Nat} (hu : a.rdUp tb) : b.rdUp tb := by
 rintro R A n c l p rfl
 cases a with
 | wr => exact absurd h (by simp [FSt.kin])
 | rd R2 A2 n2 c2 l2 p2 => obtain ⟨rfl, _⟩ := h; exact hu _ _ _ _ _ _ rfl
theorem fine_num : Fine num 10 := by
 rintro st x st' y h
 cases st with
 | rd R A n c l p =>
  simp only [num] at h
  split at h
  ·split at h
   ·cases h; simp [FSt.room, FSt.kin]
   ·cases h
  ·cases h
 | wr bs =>
  simp only [num] at h
  split at h
  ·cases h
   have := (vb_len (zig x)).2
   simp [FSt.room, FSt.kin]; omega
  ·cases h
theorem fine_bits : Fine bitsF 10 := by
 rintro st x st' y h
 cases st with
 | rd R A n c l p =>
  simp only [bitsF] at h
  split at h
  ·cases h; simp [FSt.room, FSt.kin]
  ·cases h
 | wr bs =>
  simp only [bitsF] at h
  cases h
  have := (vb_len x.toNat).2
  simp [FSt.room, FSt.kin]; omega
theorem fine_run {α : Type} {one : FSt → α → Option (FSt × α)} {C : Nat} (h : Fine one C) : ∀ (xs : List α) (st st' : FSt) (ys : List α), runL one st xs = some (st', ys) → st'.room ≤ st.room + C * xs.length ∧ st.kin st' ∧ ys.length = xs.length := by
 intro xs
 induction xs with
 | nil => intro st st' ys h1; simp only [runL] at h1; cases h1; exact ⟨by simp, kin_refl _, rfl⟩
 | cons x xs ih =>
  intro st st' ys h1
  simp only [runL] at h1
  split at h1
  ·cases h1
  ·rename_i s y hs
   split at h1
   ·cases h1
   ·rename_i s2 zs hz
    cases h1
    obtain ⟨a1, a2⟩ := h _ _ _ _ hs
    obtain ⟨b1, b2, b3⟩ := ih _ _ _ hz
    refine ⟨?_, kin_trans a2 b2, by simp [b3]⟩
    simp only [List.length_cons, Nat.mul_succ]; omega
theorem run_take {α : Type} {one : FSt → α → Option (FSt × α)} : ∀ (xs : List α) (r : Nat) (x : α) (st s : FSt) (ys : List α), xs[r]? = some x → runL one st (xs.take r) = some (s, ys) →
  runL one st (xs.take (r + 1)) = ((one s x).map fun q => (q.1, ys ++ [q.2])) := by
 intro xs
 induction xs with
 | nil => intro r x st s ys h; simp at h
 | cons z xs ih =>
  intro r x st s ys h h1
  cases r with
  | zero =>
   simp at h
   subst h
   simp only [List.take_zero, runL] at h1
   cases h1
   simp only [List.take_succ_cons, List.take_zero, runL]
   cases one st z with
   | none => rfl
   | some p => obtain ⟨s2, y⟩ := p; rfl
  | succ r =>
   simp only [List.getElem?_cons_succ] at h
   rw [List.take_succ_cons, runL] at h1
   rw [List.take_succ_cons, runL]
   split at h1
   ·cases h1
   ·rename_i s1 y1 hs
    split at h1
    ·cases h1
    ·rename_i s2 zs hz
     cases h1
     rw [ih r x s1 _ zs h hz]
     cases one s x with
     | none => rfl
     | some p => obtain ⟨s3, y⟩ := p; rfl
theorem run_none {α : Type} {one : FSt → α → Option (FSt × α)} : ∀ (xs : List α) (r : Nat) (st : FSt), runL one st (xs.take r) = none → runL one st xs = none := by
 intro xs
 induction xs with
 | nil => intro r st h; simp [runL] at h
 | cons z xs ih =>
  intro r st h
  cases r with
  | zero => simp [runL] at h
  | succ r =>
   rw [List.take_succ_cons, runL] at h
   rw [runL]
   split at h
   ·rfl
   ·rename_i s1 y1 hs
    split at h
    ·rename_i hz
     rw [ih r s1 hz]
    ·cases h
def FlP {α : Type} (B F tb : Nat) (t : TypeId) (L1 L2 : List Value) (Rp : World → List Value → α → Prop) (st : FSt) (o : Option (FSt × α)) (w : World) (e : Ending) (w' : World) : Prop :=
 (∃ st' y vs, o = some (st', y) ∧ e = .returned (.tuple #[]) ∧ FlX B w' F st' ∧ Blk w' tb t (L1 ++ (vs ++ L2)).toArray ∧ Rp w' vs y ∧ Fr B tb w w') ∨
 (o = none ∧ ∃ ec, e = .panicked (stopP ec) ∧ errOk st ec ∧ Fr B tb w w')
theorem list_set {L1 L2 : List Value} {v u : Value} {off : Nat} (h : L1.length = off) : (L1 ++ ([v] ++ L2)).toArray.setIfInBounds off u = (L1 ++ ([u] ++ L2)).toArray := by
 subst h
 simp
theorem list_at {L1 L2 : List Value} {v : Value} {off : Nat} (h : L1.length = off) : (L1 ++ ([v] ++ L2)).toArray[off]? = some v := by
 subst h
 simp
def IntR (_ : World) (vs : List Value) (x : Int) : Prop := vs = [.int .i64 x]
def BitR (_ : World) (vs : List Value) (x : Int) : Prop := vs = [.int .u64 x] ∧ wfu x
end Go.Proofs.Ytioocaicmiggoaa
namespace Go.Proofs.Ytioocaicmiggoaa
set_option linter.unusedVariables false
set_option linter.unusedSimpArgs false
open Go.RowKit Go.Deep
theorem rd_out {B F tb : Nat} {t : TypeId} {cs : Array Value} {w w2 : World} {R : Nat} {A : Option Addr} {n c p q : Nat} {l : List UInt8} (h : FlX B w F (.rd R A n c l p)) (hg : w.grownBy w2 (some R)) (hr : Rdr w2 R A n c q) (hq : q ≤ n) (ht : ¬ hot t) (hc : Blk w tb t cs) (hB : B ≤ tb) (hup : R ≤ tb) (i : Nat) (u : Value) :
  FlX B (w2.setCell ⟨tb, i, none⟩ u) F (.rd R A n c l q) ∧ Blk (w2.setCell ⟨tb, i, none⟩ u) tb t (cs.setIfInBounds i u) ∧ Fr B tb w (w2.setCell ⟨tb, i, none⟩ u) := by
 obtain ⟨h1, h2, h3, h4, h5, h6, h7, h8⟩ := h
 have t3 : t ≠ 126 := fun e => ht (.inr (.inr e))
 have hR : R < w.heap.size := Blk.lt h4
 have ne3 : F ≠ R := Blk.ne_ h3 h4 (by decide)
 have ty : ∀ b t cs, ¬ hot t → Blk w b t cs → Blk w2 b t cs := fun b t cs ht hb1 => hb1.grown hg (fun e => by injection e with e; exact Blk.ne_ hb1 h4 (fun e => ht (.inr (.inr e))) e)
 have hc2 := ty tb t cs ht hc
 have hf : FlX B w2 F (.rd R A n c l q) := ⟨h1, h2, h3.grown hg (fun e => by injection e with e; exact ne3 e), hr, h5.grown hg (by omega) (fun g hg => by injection hg with hg; omega), h6, hq, h8⟩
 exact ⟨hf.set_ ht hc2 (fun _ _ _ _ _ _ e => by injection e with e; omega) i u, hc2.set_ i u, ⟨(Below.refl _ _).grown hg (by have := hc.lt; omega) (fun g hg => by injection hg with hg; omega) |>.setCell hB u, fun b t cs hne ht hb1 => (ty b t cs ht hb1).far (p := ⟨tb, i, none⟩) hne u⟩⟩
theorem rd_fail {B F : Nat} {w w2 : World} {R : Nat} {A : Option Addr} {n c p : Nat} {l : List UInt8} (h : FlX B w F (.rd R A n c l p)) (hg : w.grownBy w2 (some R)) (tb : Nat) : Fr B tb w w2 := by
 obtain ⟨h1, h2, h3, h4, _⟩ := h
 exact ⟨(Below.refl _ _).grown hg (by have := Blk.lt h4; omega) (fun g hg => by injection hg with hg; omega), fun b t cs _ ht hb1 => hb1.grown hg (fun e => by injection e with e; exact Blk.ne_ hb1 h4 (fun e => ht (.inr (.inr e))) e)⟩
theorem num_rd {R : Nat} {A : Option Addr} {n c p : Nat} {l : List UInt8} (a : Int) : num (.rd R A n c l p) a = if 0 < fstK (l.drop p) ∧ -1 ≤ zag (fstV (l.drop p)) ∧ zag (fstV (l.drop p)) ≤ 1152921504606846976 then some (.rd R A n c l (p + fstK (l.drop p)), zag (fstV (l.drop p))) else none := by
 unfold num
 rcases hd : dec (l.drop p) with _ | ⟨v, k⟩
 ·obtain ⟨e1, e2⟩ := fst_none hd
  rw [e2]; simp [hd]
 ·obtain ⟨e1, e2⟩ := fst_some hd
  have hk := dec_pos hd
  rw [e1, e2]
  simp only [hd]
  by_cases h : -1 ≤ zag v ∧ zag v ≤ 1152921504606846976
  ·rw [if_pos (by simp [numOk, h.1, h.2]), if_pos ⟨by omega, h⟩]
  ·rw [if_neg (by simpa [numOk] using h), if_neg (fun h2 => h h2.2)]
theorem fst_le (l : List UInt8) (p n : Nat) (hn : l.length = n) (hp : p ≤ n) : p + fstK (l.drop p) ≤ n := by
 rcases hd : dec (l.drop p) with _ | ⟨v, k⟩
 ·rw [(fst_none hd).2]; omega
 ·rw [(fst_some hd).2]
  have := (dec_take hd).1
  rw [List.length_drop] at this
  omega
set_option maxRecDepth 100000 in
set_option maxHeartbeats 4000000 in
theorem number_step (B F tb : Nat) (t : TypeId) (L1 L2 : List Value) (off : Nat) (st : FSt) (a : Int) (w : World) (hf : FlX B w F st) (ht : ¬ hot t) (hw : wfi a) (hc : Blk w tb t (L1 ++ ([Value.int .i64 a] ++ L2)).toArray) (ho : L1.length = off) (hB : B ≤ tb) (hBw : B ≤ w.heap.size) (hup : st.rdUp tb) (hroom : st.room + 10 ≤ 1000000000000) :
  Calls Try.prog 85 #[.pointer (some ⟨F, 0, none⟩), .pointer (some ⟨tb, off, none⟩)] w (FlP B F tb t L1 L2 IntR st (num st a) w) := by
 have c0 : w.cell? ⟨tb, off, none⟩ = some (.int .i64 a) := (hc.cell off).trans (list_at ho)
 have z0 := hc.frozen off
 have HC := Lib.hid hc
 have HFL := Lib.hid hf
 have HT := Lib.hid ht
 have HO := Lib.hid ho
 have HB := Lib.hid hB
 have HUP := Lib.hid hup
 have HRM0 := Lib.hid hroom
 have HBW := Lib.hid hBw
 have HWW := Lib.hid hw
 clear hc hf ht ho hB hup hroom hBw hw
 cases st with
 | rd R A n c l p =>
  obtain ⟨h1, h2, h3, h4, h5, h6, h7, h8⟩ := HFL.out
  have f0 := h3.cell 0
  have f2 := h3.cell 2
  have CY := Lib.hid (upto_yes (-1) 1152921504606846976 A n c p R l w h6 h7 (by omega) h4 h5)
  have CN := Lib.hid (upto_no (-1) 1152921504606846976 A n c p R l w h6 h7 (by omega) h4 h5)
  have HLE := Lib.hid (fst_le l p n h6 h7)
  have hRup : Hid (R ≤ tb) := Lib.hid (HUP.out _ _ _ _ _ _ rfl)
  rw [num_rd]
  clear h1 h2 h3 h4 h5 h6 h7 h8
  by_cases hv : 0 < fstK (l.drop p) ∧ -1 ≤ zag (fstV (l.drop p)) ∧ zag (fstV (l.drop p)) ≤ 1152921504606846976
  ·rw [if_pos hv]
   have C := Lib.hid (CY.out hv)
   obtain ⟨V, hV⟩ : ∃ V, zag (fstV (l.drop p)) = V := ⟨_, rfl⟩
   rw [hV] at C ⊢
   clear CY CN hv hV
   go_enter Try.func85, Try.ntmps85
   go_wp2_with fail
   refine C.out.mono ?_
   rintro e w2 ⟨rfl, hg, hr⟩
   have D := Lib.hid (fun u => rd_out HFL.out hg hr HLE.out HT.out HC.out HB.out hRup.out off u)
   have y0 : w2.cell? ⟨tb, off, none⟩ = some (.int .i64 a) := by
    have hb : Blk w2 tb t _ := HC.out.grown hg (fun e => by injection e with e; exact Blk.ne_ HC.out HFL.out.2.2.2.1 (fun e => HT.out (.inr (.inr e))) e)
    exact (hb.cell off).trans (list_at HO.out)
   have y1 : w2.frozen? ⟨tb, off, none⟩ = false := by
    have hb : Blk w2 tb t _ := HC.out.grown hg (fun e => by injection e with e; exact Blk.ne_ HC.out HFL.out.2.2.2.1 (fun e => HT.out (.inr (.inr e))) e)
    exact hb.frozen off
   clear hg hr c0 z0 f0 f2
   go_wp2_with fail
   go_end0
   refine .inl ⟨_, _, [.int .i64 V], rfl, rfl, (D.out _).1, ?_, rfl, (D.out _).2.2⟩
   have h := (D.out (.int .i64 V)).2.1
   rw [list_set HO.out] at h
   exact h
  ·rw [if_neg hv]
   have C := Lib.hid (CN.out hv)
   clear CY CN hv
   go_enter Try.func85, Try.ntmps85
   go_wp2_with fail
   refine C.out.mono ?_
   rintro e w2 ⟨rfl, hg, hr⟩
   have D := Lib.hid (rd_fail HFL.out hg tb)
   clear hg hr c0 z0 f0 f2
   go_wp2_with fail
   exact ⟨rfl, .inr ⟨rfl, 32, rfl, ⟨.inr rfl, fun _ h => by cases h⟩, D.out⟩⟩
 | wr bs => exact HFL.out.elim
set_option maxRecDepth 100000 in
set_option maxHeartbeats 4000000 in
theorem bits_step (B F tb : Nat) (t : TypeId) (L1 L2 : List Value) (off : Nat) (st : FSt) (a : Int) (w : World) (hf : FlX B w F st) (ht : ¬ hot t) (hw : wfu a) (hc : Blk w tb t (L1 ++ ([Value.int .u64 a] ++ L2)).toArray) (ho : L1.length = off) (hB : B ≤ tb) (hBw : B ≤ w.heap.size) (hup : st.rdUp tb) (hroom : st.room + 10 ≤ 1000000000000) :
  Calls Try.prog 94 #[.pointer (some ⟨F, 0, none⟩), .pointer (some ⟨tb, off, none⟩)] w (FlP B F tb t L1 L2 BitR st (bitsF st a) w) := by
 have c0 : w.cell? ⟨tb, off, none⟩ = some (.int .u64 a) := (hc.cell off).trans (list_at ho)
 have z0 := hc.frozen off
 have HC := Lib.hid hc
 have HFL := Lib.hid hf
 have HT := Lib.hid ht
 have HO := Lib.hid ho
 have HB := Lib.hid hB
 have HUP := Lib.hid hup
 have HRM0 := Lib.hid hroom
 have HBW := Lib.hid hBw
 have HWW := Lib.hid hw
 clear hc hf ht ho hB hup hroom hBw hw
 cases st with
 | rd R A n c l p =>
  obtain ⟨h1, h2, h3, h4, h5, h6, h7, h8⟩ := HFL.out
  have f0 := h3.cell 0
  have f2 := h3.cell 2
  have C0 := Lib.hid (runint_any A n c p R l w h6 h7 (by omega) h4 h5)
  have HLE := Lib.hid (fst_le l p n h6 h7)
  have hRup : Hid (R ≤ tb) := Lib.hid (HUP.out _ _ _ _ _ _ rfl)
  clear h1 h2 h3 h4 h5 h6 h7 h8
  rcases hd : dec (l.drop p) with _ | ⟨V, k⟩
  ·have e : bitsF (.rd R A n c l p) a = none := by simp only [bitsF, hd]
   rw [e]
   obtain ⟨e1, e2⟩ := fst_none hd
   unfold UPost at C0
   rw [e1, e2, decide_eq_false (by omega)] at C0
   clear e e1 e2 hd
   go_enter Try.func94, Try.ntmps94
   go_wp2_with fail
   refine C0.out.mono ?_
   rintro e w2 ⟨rfl, hg, hr⟩
   have D := Lib.hid (rd_fail HFL.out hg tb)
   clear hg hr c0 z0 f0 f2
   go_wp2_with fail
   exact ⟨rfl, .inr ⟨rfl, 32, rfl, ⟨.inr rfl, fun _ h => by cases h⟩, D.out⟩⟩
  ·have e : bitsF (.rd R A n c l p) a = some (FSt.rd R A n c l (p + k), (V : Int)) := by simp only [bitsF, hd]
   rw [e]
   obtain ⟨e1, e2⟩ := fst_some hd
   have hk := dec_pos hd
   have hVl := (dec_take hd).2.2.2
   unfold UPost at C0
   rw [e1, e2, decide_eq_true (by omega)] at C0
   rw [e2] at HLE
   clear e e1 e2 hd
   go_enter Try.func94, Try.ntmps94
   go_wp2_with fail
   refine C0.out.mono ?_
   rintro e w2 ⟨rfl, hg, hr⟩
   have D := Lib.hid (fun u => rd_out HFL.out hg hr HLE.out HT.out HC.out HB.out hRup.out off u)
   have hbt : Blk w2 tb t _ := HC.out.grown hg (fun e => by injection e with e; exact Blk.ne_ HC.out HFL.out.2.2.2.1 (fun e => HT.out (.inr (.inr e))) e)
   have y0 : w2.cell? ⟨tb, off, none⟩ = some (.int .u64 a) := (hbt.cell off).trans (list_at HO.out)
   have y1 : w2.frozen? ⟨tb, off, none⟩ = false := hbt.frozen off
   clear hg hr c0 z0 f0 f2 hbt
   go_wp2_with fail
   go_end0
   refine .inl ⟨_, _, [.int .u64 V], rfl, rfl, (D.out _).1, ?_, ⟨rfl, ?_⟩, (D.out _).2.2⟩
   ·have h := (D.out (.int .u64 V)).2.1
    rw [list_set HO.out] at h
    exact h
   ·unfold wfu; simp only [Lit.wf, Bool.and_eq_true, decide_eq_true_eq]; exact ⟨show (0 : Int) ≤ V by omega, show (V : Int) ≤ 18446744073709551615 by omega⟩
 | wr bs => exact HFL.out.elim
end Go.Proofs.Ytioocaicmiggoaa
namespace Go.Proofs.Ytioocaicmiggoaa
set_option linter.unusedVariables false
set_option linter.unusedSimpArgs false
open Go.RowKit Go.Deep
def I64 (x : Int) : Value := Value.int .i64 x
theorem num_ok {st st' : FSt} {a y : Int} (h : num st a = some (st', y)) : numOk y = true := by
 cases st with
 | rd R A n c l p =>
  simp only [num] at h
  split at h
  ·split at h
   ·cases h; assumption
   ·cases h
  ·cases h
 | wr bs =>
  simp only [num] at h
  split at h
  ·cases h; assumption
  ·cases h
theorem numOk_wf {y : Int} (h : numOk y = true) : wfi y := by
 simp only [numOk, Bool.and_eq_true, decide_eq_true_eq] at h
 unfold wfi; simp only [Lit.wf, Bool.and_eq_true, decide_eq_true_eq]
 exact ⟨show (-9223372036854775808 : Int) ≤ y by omega, show y ≤ (9223372036854775807 : Int) by omega⟩
theorem runs_ok : ∀ {ns : List Int} {st st' : FSt} {ys : List Int}, runL num st ns = some (st', ys) → ∀ y ∈ ys, numOk y = true := by
 intro ns
 induction ns with
 | nil => intro st st' ys h y hy; simp only [runL] at h; cases h; cases hy
 | cons x xs ih =>
  intro st st' ys h y hy
  simp only [runL] at h
  split at h
  ·cases h
  ·rename_i s z hs
   split at h
   ·cases h
   ·rename_i s2 zs hz
    cases h
    rcases List.mem_cons.1 hy with rfl | hy
    ·exact num_ok hs
    ·exact ih hz y hy
def ptrs (tb off n : Nat) : List Value := (List.range n).map fun j => Value.pointer (some ⟨tb, off + j, none⟩)
def IntsR (_ : World) (vs : List Value) (ys : List Int) : Prop := vs = ys.map I64
theorem hot_int : ¬ hot 3 := by unfold hot; decide
theorem hot_i64 : ¬ hot 2 := by unfold hot; decide
theorem hot_pi : ¬ hot 139 := by unfold hot; decide
set_option maxRecDepth 100000 in
set_option maxHeartbeats 4000000 in
theorem ints_step (B F tb : Nat) (t : TypeId) (L1 L2 : List Value) (off : Nat) (st : FSt) (ns : List Int) (w : World) (g c : Nat) (hf : FlX B w F st) (ht : ¬ hot t) (hw : ∀ a ∈ ns, wfi a) (hc : Blk w tb t (L1 ++ (ns.map I64 ++ L2)).toArray) (ho : L1.length = off) (hB : B ≤ tb) (hBw : B ≤ w.heap.size) (hup : st.rdUp tb)
  (hroom : st.room + 10 * ns.length ≤ 1000000000000) (hg : Blk w g 139 (ptrs tb off ns.length).toArray) (hgt : g ≠ tb) (hl : ns.length ≤ 1000) :
  Calls Try.prog 74 #[.pointer (some ⟨F, 0, none⟩), .slice (some ⟨g, 0, none⟩) ns.length c] w (FlP B F tb t L1 L2 IntsR st (runL num st ns) w) := by
 have HF := Lib.hid hf
 have HT := Lib.hid ht
 have HW := Lib.hid hw
 have HC := Lib.hid hc
 have HO := Lib.hid ho
 have HB := Lib.hid hB
 have HBW := Lib.hid hBw
 have HUP := Lib.hid hup
 have HRM := Lib.hid hroom
 have HG := Lib.hid hg
 have HGT := Lib.hid hgt
 have nn : (0 : Int) ≤ (ns.length : Int) := by omega
 clear hf ht hw hc ho hB hBw hup hroom hg hgt
 go_enter Try.func74, Try.ntmps74
 go_wp2_with fail
 go_loopw [9] (fun i wr => ∃ r : Nat, r ≤ ns.length ∧ i = .int .i64 r ∧ Hid (∃ s ys, runL num st (ns.take r) = some (s, ys) ∧ FlX B wr F s ∧ Blk wr tb t (L1 ++ ((ys.map I64 ++ (ns.drop r).map I64) ++ L2)).toArray ∧ Fr B tb w wr)) (fun i _ => ns.length - (intOf i).toNat)
 case atStart => exact ⟨0, Nat.zero_le _, rfl, Lib.hid ⟨st, [], by simp [runL], HF.out, by simpa using HC.out, Fr.refl _ _ _⟩⟩
 case round =>
  obtain ⟨r, hr, rfl, hX⟩ := hrel
  obtain ⟨s, ys, h1, h2, h3, h4⟩ := hX.out
  by_cases hlt : r < ns.length
  ·obtain ⟨a, ha⟩ : ∃ a, ns[r]? = some a := ⟨_, List.getElem?_eq_getElem hlt⟩
   have had : ns.drop r = a :: ns.drop (r + 1) := by
    rw [List.getElem?_eq_some_iff] at ha
    obtain ⟨hx, hy⟩ := ha
    rw [← hy]; exact List.drop_eq_getElem_cons hx
   obtain ⟨fr1, fr2, fr3⟩ := fine_run fine_num _ _ _ _ h1
   have hyl : ys.length = r := by rw [fr3, List.length_take]; omega
   have hsr : s.room + 10 ≤ 1000000000000 := by rw [List.length_take] at fr1; have := HRM.out; omega
   have hgr := h4.2 g _ _ HGT.out hot_pi HG.out
   have p0 : wr.cell? ⟨g, r, none⟩ = some (.pointer (some ⟨tb, off + r, none⟩)) := (hgr.cell r).trans (by unfold ptrs; simp [hlt])
   have hLL : (L1 ++ ys.map I64).length = off + r := by rw [List.length_append, HO.out, List.length_map, hyl]
   rw [had] at h3
   have h3' : Blk wr tb t ((L1 ++ ys.map I64) ++ ([Value.int .i64 a] ++ ((ns.drop (r + 1)).map I64 ++ L2))).toArray := by
    have e : (L1 ++ ys.map I64) ++ ([Value.int .i64 a] ++ ((ns.drop (r + 1)).map I64 ++ L2)) = L1 ++ ((ys.map I64 ++ (a :: ns.drop (r + 1)).map I64) ++ L2) := by simp [I64, List.append_assoc]
    rw [e]; exact h3
   have q0 : wr.cell? ⟨tb, off + r, none⟩ = some (.int .i64 a) := (h3'.cell _).trans (list_at hLL)
   obtain ⟨W, hW⟩ : ∃ W, W = wr.alloc (.cells #[.int .i64 a] 2) := ⟨_, rfl⟩
   have hba : Below wr.heap.size wr W := by rw [hW]; exact (Below.refl _ _).alloc (Nat.le_refl _) _
   have hBr : B ≤ wr.heap.size := Nat.le_trans HBW.out h4.size
   have hbx : Blk W wr.heap.size 2 ([] ++ ([Value.int .i64 a] ++ [])).toArray := by rw [hW]; exact Blk.new _ _ _
   have hfW : FlX B W F s := h2.below hba
   have CN := Lib.hid (number_step B F wr.heap.size 2 [] [] 0 s a W hfW hot_i64 (HW.out a (List.mem_of_getElem? ha)) hbx rfl hBr (Nat.le_trans hBr hba.size) (h2.rdUp (Nat.le_refl _)) hsr)
   have HFW : Hid (Fr B tb w W) := Lib.hid (h4.trans (Fr.below hBr hba))
   have H3W : Hid (Blk W tb t ((L1 ++ ys.map I64) ++ ([Value.int .i64 a] ++ ((ns.drop (r + 1)).map I64 ++ L2))).toArray) := Lib.hid (h3'.below hba h3'.lt)
   have HLL := Lib.hid hLL
   have HNE : Hid (tb ≠ wr.heap.size) := Lib.hid (by have := h3.lt; omega)
   have HRT : Hid (runL num st (ns.take (r + 1)) = ((num s a).map fun q => (q.1, ys ++ [q.2]))) := Lib.hid (run_take _ _ _ _ _ _ ha h1)
   have HK := Lib.hid fr2
   have HSZ : Hid (w.heap.size ≤ wr.heap.size) := Lib.hid h4.size
   clear h1 h2 h3 h4 ha had fr1 fr2 fr3 hsr hgr hLL h3' hba hBr hbx hfW hX hyl
   go_upto_region 4 with fail
   rw [← hW]
   clear hW p0
   go_wp2_with fail
   refine CN.out.mono ?_
   rintro e w2 (⟨s2, y, vs, hn, rfl, hf2, hb2, rfl, hfr⟩ | ⟨hn, ec, rfl, he, hbe⟩)
   ·have H3B := Lib.hid (hfr.2 tb t _ HNE.out HT.out H3W.out)
    have x0 : w2.cell? ⟨wr.heap.size, 0, none⟩ = some (.int .i64 y) := hb2.cell 0
    have q0 : w2.cell? ⟨tb, off + r, none⟩ = some (.int .i64 a) := (H3B.out.cell _).trans (list_at HLL.out)
    have q1 := H3B.out.frozen (off + r)
    have hy := Lib.hid hn
    have HF2 := Lib.hid hf2
    have HFR := Lib.hid hfr
    have HSZW : Hid (wr.heap.size ≤ wr.heap.size) := Lib.hid (Nat.le_refl _)
    clear hn hf2 hb2 hfr
    go_wp2_with fail
    go_roundw
    case rel =>
     have hb4 : Blk (w2.setCell ⟨tb, off + r, none⟩ (.int .i64 y)) tb t (L1 ++ (((ys ++ [y]).map I64 ++ (ns.drop (r + 1)).map I64) ++ L2)).toArray := by
      have h := H3B.out.set_ (off + r) (.int .i64 y)
      rw [list_set HLL.out] at h
      have e : (L1 ++ ys.map I64) ++ ([Value.int .i64 y] ++ ((ns.drop (r + 1)).map I64 ++ L2)) = L1 ++ (((ys ++ [y]).map I64 ++ (ns.drop (r + 1)).map I64) ++ L2) := by simp [I64, List.append_assoc]
      rw [← e]; exact h
     have hf4 : FlX B (w2.setCell ⟨tb, off + r, none⟩ (.int .i64 y)) F s2 := HF2.out.set_ HT.out H3B.out (kin_up (kin_trans HK.out (fine_num _ _ _ _ hy.out).2) HUP.out) _ _
     have hr4 : Fr B tb w (w2.setCell ⟨tb, off + r, none⟩ (.int .i64 y)) := (HFW.out.new HFR.out HSZ.out).set_ HB.out _ _
     have H8 : Hid (∃ s ys, runL num st (ns.take (r + 1)) = some (s, ys) ∧ FlX B (w2.setCell ⟨tb, off + r, none⟩ (.int .i64 y)) F s ∧ Blk (w2.setCell ⟨tb, off + r, none⟩ (.int .i64 y)) tb t (L1 ++ ((ys.map I64 ++ (ns.drop (r + 1)).map I64) ++ L2)).toArray ∧ Fr B tb w (w2.setCell ⟨tb, off + r, none⟩ (.int .i64 y))) :=
      Lib.hid ⟨s2, ys ++ [y], by rw [HRT.out, hy.out]; rfl, hf4, hb4, hr4⟩
     first | exact ⟨r + 1, by omega, by go_num, H8⟩ | ((repeat apply Exists.intro); exact ⟨⟨r + 1, by omega, by go_num, H8⟩, rfl⟩)
    case measure => simp [intOf]; omega
   ·have hno : runL num st ns = none := run_none ns (r + 1) st (by rw [HRT.out, hn]; rfl)
    have hbe2 := HFW.out.new hbe HSZ.out
    have HNO := Lib.hid hno
    have HE := Lib.hid (kin_err HK.out he)
    have HBE := Lib.hid hbe2
    clear hn he hbe hno hbe2
    go_wp2_with fail
    exact ⟨rfl, .inr ⟨HNO.out, ec, rfl, HE.out, HBE.out⟩⟩
  ·obtain rfl : r = ns.length := by omega
   rw [List.take_length] at h1
   rw [List.drop_length] at h3
   have H1 := Lib.hid h1
   have H2 := Lib.hid h2
   have H3 := Lib.hid h3
   have H4 := Lib.hid h4
   clear h1 h2 h3 h4 hX
   go_wp2_with fail
   go_end0
   exact .inl ⟨s, ys, ys.map I64, H1.out, rfl, H2.out, by have h := H3.out; simpa using h, rfl, H4.out⟩
end Go.Proofs.Ytioocaicmiggoaa
namespace Go.Proofs.Ytioocaicmiggoaa
set_option linter.unusedVariables false
set_option linter.unusedSimpArgs false
open Go.RowKit Go.Deep
def bInt (b : Bool) : Int := if b then 1 else 0
def flagF (st : FSt) (b : Bool) : Option (FSt × Bool) := match num st (bInt b) with
 | none => none
 | some (s, n) => if n = 0 then some (s, false) else if n = 1 then some (s, true) else none
def BoolR (_ : World) (vs : List Value) (x : Bool) : Prop := vs = [.bool x]
theorem fine_flag : Fine flagF 10 := by
 rintro st x st' y h
 unfold flagF at h
 split at h
 ·cases h
 ·rename_i s n hs
  have := fine_num _ _ _ _ hs
  split at h
  ·cases h; exact this
  ·split at h
   ·cases h; exact this
   ·cases h
theorem run_one {st : FSt} {a : Int} : runL num st [a] = (num st a).map fun q => (q.1, [q.2]) := by
 simp only [runL]
 cases num st a with
 | none => rfl
 | some q => rfl
theorem num_wr {bs : List UInt8} {a y : Int} {s : FSt} (h : num (.wr bs) a = some (s, y)) : y = a := by
 simp only [num] at h
 split at h
 ·cases h; rfl
 ·cases h
set_option maxRecDepth 100000 in
set_option maxHeartbeats 4000000 in
theorem flag_step (B F tb : Nat) (t : TypeId) (L1 L2 : List Value) (off : Nat) (st : FSt) (b : Bool) (w : World) (hf : FlX B w F st) (ht : ¬ hot t) (hc : Blk w tb t (L1 ++ ([Value.bool b] ++ L2)).toArray) (ho : L1.length = off) (hB : B ≤ tb) (hBw : B ≤ w.heap.size) (hup : st.rdUp tb) (hroom : st.room + 10 ≤ 1000000000000) :
  Calls Try.prog 86 #[.pointer (some ⟨F, 0, none⟩), .pointer (some ⟨tb, off, none⟩)] w (FlP B F tb t L1 L2 BoolR st (flagF st b) w) := by
 have c0 : w.cell? ⟨tb, off, none⟩ = some (.bool b) := (hc.cell off).trans (list_at ho)
 have HF := Lib.hid hf
 have HT := Lib.hid ht
 have HO := Lib.hid ho
 have HB := Lib.hid hB
 have HUP := Lib.hid hup
 have HBW := Lib.hid hBw
 have HC := Lib.hid hc
 have main : ∀ (W : World), Fr B tb w W → W.heap.size = w.heap.size + 1 → Blk W w.heap.size 3 #[.int .i64 (bInt b)] → FlX B W F st → Blk W tb t (L1 ++ ([Value.bool b] ++ L2)).toArray →
   Calls Try.prog 74 #[.pointer (some ⟨F, 0, none⟩), .slice (some ⟨W.heap.size, 0, none⟩) 1 1] (W.alloc (.cells #[.pointer (some ⟨w.heap.size, 0, none⟩)] 139)) (fun e w' => (∃ s y, num st (bInt b) = some (s, y) ∧ e = .returned (.tuple #[]) ∧ FlX B w' F s ∧ Blk w' w.heap.size 3 #[.int .i64 y] ∧ Blk w' tb t (L1 ++ ([Value.bool b] ++ L2)).toArray ∧ Fr B tb w w') ∨ (num st (bInt b) = none ∧ ∃ ec, e = .panicked (stopP ec) ∧ errOk st ec ∧ Fr B tb w w')) := fun W hW hs hb hfW hbt => by
  have ha : Below W.heap.size W (W.alloc (.cells #[.pointer (some ⟨w.heap.size, 0, none⟩)] 139)) := (Below.refl _ _).alloc (Nat.le_refl _) _
  have hlt := hc.lt
  refine (ints_step B F w.heap.size 3 [] [] 0 st [bInt b] _ W.heap.size 1 (hfW.below ha) hot_int (by intro a h; simp at h; subst h; cases b <;> (unfold bInt wfi; decide)) (hb.below ha hb.lt) rfl hBw (by simp; omega) (hf.rdUp (Nat.le_refl _)) (by simpa using hroom) (Blk.new W _ _) (by omega) (by simp)).mono ?_
  rintro e w' (⟨s, ys, vs, h1, rfl, h2, h3, rfl, h4⟩ | ⟨h1, ec, rfl, h2, h3⟩)
  ·rw [run_one] at h1
   rcases hn : num st (bInt b) with _ | ⟨s2, y⟩
   ·rw [hn] at h1; cases h1
   ·rw [hn] at h1
    simp only [Option.map_some] at h1
    cases h1
    have h5 : Fr B tb w w' := (hW.trans (Fr.below (by omega) ha)).new h4 (Nat.le_refl _)
    have h6 : Blk (W.alloc (.cells #[.pointer (some ⟨w.heap.size, 0, none⟩)] 139)) tb t (L1 ++ ([Value.bool b] ++ L2)).toArray := hbt.below ha hbt.lt
    exact .inl ⟨_, y, rfl, rfl, h2, h3, h4.2 tb t _ (by omega) ht h6, h5⟩
  ·rw [run_one] at h1
   rcases hn : num st (bInt b) with _ | ⟨s2, y⟩
   ·exact .inr ⟨rfl, ec, rfl, h2, (hW.trans (Fr.below (by omega) ha)).new h3 (Nat.le_refl _)⟩
   ·rw [hn] at h1; cases h1
 have HM := Lib.hid main
 clear hf ht hc ho hB hup hBw hroom main
 have z0 := HC.out.frozen off
 have ca : ∀ o, (w.alloc o).cell? ⟨tb, off, none⟩ = some (.bool b) := fun o => ((HC.out.alloc o).cell off).trans (list_at HO.out)
 cases b with
 | false =>
  go_enter Try.func86, Try.ntmps86
  go_upto_region 3 with fail
  obtain ⟨W, hW⟩ : ∃ W, W = w.alloc (.cells #[.int .i64 0] 3) := ⟨_, rfl⟩
  rw [← hW]
  have ha : Below w.heap.size w W := by
   rw [hW]
   exact (Below.refl _ _).alloc (Nat.le_refl _) _
  have hsz : W.heap.size = w.heap.size + 1 := by rw [hW]; simp
  have hbn : Blk W w.heap.size 3 #[.int .i64 (bInt false)] := by
   rw [hW]
   exact Blk.new _ _ _
  have CM := Lib.hid (HM.out W (Fr.below HBW.out ha) hsz hbn (HF.out.below ha) (HC.out.below ha HC.out.lt))
  clear hW ha hsz hbn c0 z0 ca
  go_wp2_with fail
  refine CM.out.mono ?_
  rintro e w3 (⟨s, y, hn, rfl, hf3, hb3, hc3, hr3⟩ | ⟨hn, ec, rfl, he, hbe⟩)
  ·have y0 : w3.cell? ⟨w.heap.size, 0, none⟩ = some (.int .i64 y) := hb3.cell 0
   have c0 : w3.cell? ⟨tb, off, none⟩ = some (.bool false) := (hc3.cell off).trans (list_at HO.out)
   have z0 := hc3.frozen off
   have HN := Lib.hid hn
   have H3 := Lib.hid hf3
   have HC3 := Lib.hid hc3
   have HR3 := Lib.hid hr3
   clear hn hf3 hb3 hc3 hr3
   by_cases q0 : y = 0
   ·subst q0
    go_wp2_with fail
    go_end0
    refine .inl ⟨s, false, [.bool false], ?_, rfl, H3.out.set_ HT.out HC3.out (kin_up (fine_num _ _ _ _ HN.out).2 HUP.out) _ _, ?_, rfl, HR3.out.set_ HB.out _ _⟩
    ·unfold flagF; rw [HN.out]; rfl
    ·have h := HC3.out.set_ off (.bool false)
     rw [list_set HO.out] at h
     exact h
   ·by_cases q1 : y = 1
    ·subst q1
     go_wp2_with fail
     go_end0
     refine .inl ⟨s, true, [.bool true], ?_, rfl, H3.out.set_ HT.out HC3.out (kin_up (fine_num _ _ _ _ HN.out).2 HUP.out) _ _, ?_, rfl, HR3.out.set_ HB.out _ _⟩
     ·unfold flagF; rw [HN.out]; rfl
     ·have h := HC3.out.set_ off (.bool true)
      rw [list_set HO.out] at h
      exact h
    ·have hno : flagF st false = none := by
      unfold flagF; rw [HN.out]
      simp only [if_neg q0, if_neg q1]
     have hbd : ∀ bs, st = .wr bs → False := by
      rintro bs rfl
      have := num_wr HN.out
      simp [bInt] at this
      omega
     have HNO := Lib.hid hno
     have HBD := Lib.hid hbd
     clear hno hbd
     by_cases q2 : y < 0
     ·go_wp2_with fail
      exact ⟨rfl, .inr ⟨HNO.out, 32, rfl, ⟨.inr rfl, fun bs h => (HBD.out bs h).elim⟩, HR3.out⟩⟩
     ·have q3 : 1 < y := by omega
      have q4 : 0 ≤ y := by omega
      clear q0 q1 q2
      go_wp2_with fail
      exact ⟨rfl, .inr ⟨HNO.out, 32, rfl, ⟨.inr rfl, fun bs h => (HBD.out bs h).elim⟩, HR3.out⟩⟩
  ·have hno : flagF st false = none := by unfold flagF; rw [hn]
   have HNO := Lib.hid hno
   have HE := Lib.hid he
   have HBE := Lib.hid hbe
   clear hn he hbe hno
   go_wp2_with fail
   exact ⟨rfl, .inr ⟨HNO.out, ec, rfl, HE.out, HBE.out⟩⟩
 | true =>
  go_enter Try.func86, Try.ntmps86
  go_upto_region 3 with fail
  obtain ⟨W, hW⟩ : ∃ W, W = w.alloc (.cells #[.int .i64 1] 3) := ⟨_, rfl⟩
  rw [← hW]
  have ha : Below w.heap.size w W := by
   rw [hW]
   exact (Below.refl _ _).alloc (Nat.le_refl _) _
  have hsz : W.heap.size = w.heap.size + 1 := by rw [hW]; simp
  have hbn : Blk W w.heap.size 3 #[.int .i64 (bInt true)] := by
   rw [hW]
   exact Blk.new _ _ _
  have CM := Lib.hid (HM.out W (Fr.below HBW.out ha) hsz hbn (HF.out.below ha) (HC.out.below ha HC.out.lt))
  clear hW ha hsz hbn c0 z0 ca
  go_wp2_with fail
  refine CM.out.mono ?_
  rintro e w3 (⟨s, y, hn, rfl, hf3, hb3, hc3, hr3⟩ | ⟨hn, ec, rfl, he, hbe⟩)
  ·have y0 : w3.cell? ⟨w.heap.size, 0, none⟩ = some (.int .i64 y) := hb3.cell 0
   have c0 : w3.cell? ⟨tb, off, none⟩ = some (.bool true) := (hc3.cell off).trans (list_at HO.out)
   have z0 := hc3.frozen off
   have HN := Lib.hid hn
   have H3 := Lib.hid hf3
   have HC3 := Lib.hid hc3
   have HR3 := Lib.hid hr3
   clear hn hf3 hb3 hc3 hr3
   by_cases q0 : y = 0
   ·subst q0
    go_wp2_with fail
    go_end0
    refine .inl ⟨s, false, [.bool false], ?_, rfl, H3.out.set_ HT.out HC3.out (kin_up (fine_num _ _ _ _ HN.out).2 HUP.out) _ _, ?_, rfl, HR3.out.set_ HB.out _ _⟩
    ·unfold flagF; rw [HN.out]; rfl
    ·have h := HC3.out.set_ off (.bool false)
     rw [list_set HO.out] at h
     exact h
   ·by_cases q1 : y = 1
    ·subst q1
     go_wp2_with fail
     go_end0
     refine .inl ⟨s, true, [.bool true], ?_, rfl, H3.out.set_ HT.out HC3.out (kin_up (fine_num _ _ _ _ HN.out).2 HUP.out) _ _, ?_, rfl, HR3.out.set_ HB.out _ _⟩
     ·unfold flagF; rw [HN.out]; rfl
     ·have h := HC3.out.set_ off (.bool true)
      rw [list_set HO.out] at h
      exact h
    ·have hno : flagF st true = none := by
      unfold flagF; rw [HN.out]
      simp only [if_neg q0, if_neg q1]
     have hbd : ∀ bs, st = .wr bs → False := by
      rintro bs rfl
      have := num_wr HN.out
      simp [bInt] at this
      omega
     have HNO := Lib.hid hno
     have HBD := Lib.hid hbd
     clear hno hbd
     by_cases q2 : y < 0
     ·go_wp2_with fail
      exact ⟨rfl, .inr ⟨HNO.out, 32, rfl, ⟨.inr rfl, fun bs h => (HBD.out bs h).elim⟩, HR3.out⟩⟩
     ·have q3 : 1 < y := by omega
      have q4 : 0 ≤ y := by omega
      clear q0 q1 q2
      go_wp2_with fail
      exact ⟨rfl, .inr ⟨HNO.out, 32, rfl, ⟨.inr rfl, fun bs h => (HBD.out bs h).elim⟩, HR3.out⟩⟩
  ·have hno : flagF st true = none := by unfold flagF; rw [hn]
   have HNO := Lib.hid hno
   have HE := Lib.hid he
   have HBE := Lib.hid hbe
   clear hn he hbe hno
   go_wp2_with fail
   exact ⟨rfl, .inr ⟨HNO.out, ec, rfl, HE.out, HBE.out⟩⟩
end Go.Proofs.Ytioocaicmiggoaa

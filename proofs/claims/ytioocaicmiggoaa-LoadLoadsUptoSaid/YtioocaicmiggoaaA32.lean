/- Din, Dls, Dst: texts merged for a claim by a program of mine. -/
import Derived.Deep.DeepCutAuto
import Derived.Test.YtioocaicmiggoaaA16
import Derived.Test.YtioocaicmiggoaaA24
namespace Go.Proofs.Ytioocaicmiggoaa
set_option linter.unusedVariables false
set_option linter.unusedSimpArgs false
open Go.RowKit Go.Deep
def InD (w : World) (I : Nat) (l : List UInt8) (s : Option Nat) : Prop :=
 ∃ A c r, Blk w I 114 #[.slice A (List.length r) c, .bool s.isSome] ∧ r.length ≤ c ∧ c ≤ 9223372036854775807 ∧ Reads w I 1 A r.length (bv r) ∧ ∀ p, s = some p → p ≤ l.length ∧ r = l.drop p
def rdS (l : List UInt8) (p : Nat) : FSt := .rd 0 none l.length 0 l p
def StepD {α : Type} (F : FSt → α → Option (FSt × α)) (z : α) (l : List UInt8) (s t : Option Nat) (y : α) : Prop :=
 (s = none → t = none) ∧ ∀ p, s = some p → F (rdS l p) z = t.map fun q => (rdS l q, y)
section
variable {α β : Type} {F : FSt → α → Option (FSt × α)} {G : FSt → β → Option (FSt × β)} {z y a : α} {z' b : β} {l : List UInt8} {s t u : Option Nat}
theorem StepD.pair (h : StepD F z l s t a) (k : StepD G z' l t u b) : StepD (pairF F G) (z, z') l s u (a, b) := by
 refine ⟨fun e => k.1 (h.1 e), fun p e => ?_⟩
 unfold pairF
 simp only [h.2 p e]
 cases t with
 | none => rw [k.1 rfl]; rfl
 | some q =>
  simp only [Option.map_some, Option.bind_some, k.2 q rfl]
  cases u <;> rfl
theorem StepD.map_ (h : StepD F z l s t a) (e : β → α) (d : α → β) (zb : β) (he : e zb = z) : StepD (mapF e d F) zb l s t (d a) := by
 refine ⟨h.1, fun p hp => ?_⟩
 unfold mapF
 rw [he]
 simp only [h.2 p hp]
 cases t <;> rfl
theorem StepD.congr {F' : FSt → α → Option (FSt × α)} (hF : ∀ st x, F' st x = F st x) (h : StepD F z l s t a) : StepD F' z l s t a :=
 ⟨h.1, fun p hp => by rw [hF]; exact h.2 p hp⟩
end
theorem InD.blk {w : World} {I : Nat} {l : List UInt8} {s : Option Nat} (h : InD w I l s) : I < w.heap.size := by
 obtain ⟨A, c, r, hb, _⟩ := h
 exact hb.lt
theorem InD.below {w w' : World} {I : Nat} {l : List UInt8} {s : Option Nat} (h : InD w I l s) (hb : Below w.heap.size w w') : InD w' I l s := by
 obtain ⟨A, c, r, h1, h2, h3, h4, h5⟩ := h
 exact ⟨A, c, r, h1.below hb h1.lt, h2, h3, h4.below (hb.mono (Nat.le_of_lt h1.lt)), h5⟩
theorem InD.grown {w w' : World} {I : Nat} {l : List UInt8} {s : Option Nat} {g : Nat} (h : InD w I l s) (hb : w.grownBy w' (some g)) (hg : I < g) : InD w' I l s := by
 obtain ⟨A, c, r, h1, h2, h3, h4, h5⟩ := h
 have := h1.lt
 exact ⟨A, c, r, h1.grown hb (by simp; omega), h2, h3, h4.grown hb (by omega) (fun q hq => by cases hq; omega), h5⟩
theorem only_tr {a b c : World} {g : Nat} (h : a.grownBy b (some g)) (k : b.grownBy c (some g)) : a.grownBy c (some g) :=
 ⟨k.os.trans h.os, k.tape.trans h.tape, k.output.trans h.output, Nat.le_trans h.size k.size, fun i hi hr => (k.block i (Nat.lt_of_lt_of_le hi h.size) hr).trans (h.block i hi hr)⟩
theorem in_bad {w : World} {I : Nat} {l : List UInt8} {A : Value} {b : Bool} (h : Blk w I 114 #[A, .bool b]) : InD ((w.setCell ⟨I, 1, none⟩ (.bool false)).setCell ⟨I, 0, none⟩ (.slice none 0 0)) I l none ∧ w.grownBy ((w.setCell ⟨I, 1, none⟩ (.bool false)).setCell ⟨I, 0, none⟩ (.slice none 0 0)) (some I) := by
 refine ⟨⟨none, 0, [], ?_, Nat.le_refl _, by decide, Reads.none_, fun p hp => by cases hp⟩, ?_⟩
 ·simpa using (h.set_ 1 (.bool false)).set_ 0 (.slice none 0 0)
 ·exact only_setCell (only_setCell (World.grownBy.refl w (some I)) (.inl rfl) _) (.inl rfl) _
theorem in_adv {w : World} {I : Nat} {l r : List UInt8} {A A' : Option Addr} {c k : Nat} {s : Option Nat} (hb : Blk w I 114 #[.slice A r.length c, .bool s.isSome]) (hs : ∀ p, s = some p → p ≤ l.length ∧ r = l.drop p) (hk : k ≤ r.length)
  (hA : Reads w I 1 A' (r.length - k) (bv (r.drop k)) ∧ r.length ≤ c ∧ c ≤ 9223372036854775807) : InD (w.setCell ⟨I, 0, none⟩ (.slice A' (r.length - k) (c - k))) I l (s.map (· + k)) := by
 have hl : (r.drop k).length = r.length - k := List.length_drop
 refine ⟨A', c - k, r.drop k, ?_, by rw [hl]; omega, by omega, by rw [hl]; exact hA.1.setCell (Nat.le_refl _) _, ?_⟩
 ·rw [hl, Option.isSome_map]
  simpa using hb.set_ 0 (.slice A' (r.length - k) (c - k))
 ·intro q hq
  rcases s with _ | p
  ·cases hq
  ·obtain ⟨h1, h2⟩ := hs p rfl
   simp only [Option.map_some, Option.some.injEq] at hq
   subst hq
   have : r.length = l.length - p := by rw [h2, List.length_drop]
   exact ⟨by omega, by rw [h2, List.drop_drop]⟩
set_option maxRecDepth 100000 in
set_option maxHeartbeats 4000000 in
theorem in_uint (I : Nat) (l : List UInt8) (s : Option Nat) (w : World) (h : InD w I l s) :
  Calls Try.prog 70 #[.pointer (some ⟨I, 0, none⟩)] w fun e w' => ∃ (t : Option Nat) (v : Nat), e = .returned (.int .u64 v) ∧ InD w' I l t ∧ w.grownBy w' (some I) ∧ v < 18446744073709551616 ∧
   (s = none → t = none) ∧ ∀ p, s = some p → dec (l.drop p) = (t.map fun q => (v, q - p)) ∧ ∀ q, t = some q → p ≤ q := by
 obtain ⟨A, c, r, hb, hrc, hc, hr, hs⟩ := h
 have CF := Lib.hid (first_any A r.length c I r w rfl hrc hc hr)
 have k0 := hb.cell 0
 have k1 := hb.cell 1
 have f0 := hb.frozen 0
 have f1 := hb.frozen 1
 have hrl : (0 : Int) ≤ (r.length : Int) := by omega
 have HB := Lib.hid hb
 have HR := Lib.hid hr
 have HS := Lib.hid hs
 clear hb hr hs
 go_enter Try.func70, Try.ntmps70
 go_wp2_with fail
 refine CF.out.mono ?_
 rintro e w' ⟨rfl, rfl⟩
 clear CF
 rcases hd : dec r with _ | ⟨v, k⟩
 ·obtain ⟨e1, e2⟩ := fst_none hd
  rw [e1, e2]
  have HD := Lib.hid hd
  clear hd e1 e2
  go_wp2_with fail
  go_ret
  have hq := in_bad (l := l) HB.out
  refine ⟨none, 0, rfl, hq.1, hq.2, by decide, fun _ => rfl, fun p hp => ⟨?_, fun q hq => by cases hq⟩⟩
  rw [← (HS.out p hp).2]
  exact HD.out
 ·obtain ⟨e1, e2⟩ := fst_some hd
  rw [e1, e2]
  obtain ⟨hk, _, hkv, hv⟩ := dec_take hd
  have hk1 : 1 ≤ k := by rw [hkv]; exact (vb_len v).1
  have hkz : ((k : Int) == 0) = false := by rw [beq_eq_false_iff_ne]; omega
  have hkz2 : ((k : Int) = 0) = False := eq_false (by omega)
  have hk0 : (0 : Int) ≤ (k : Int) := by omega
  have hkr : (k : Int) ≤ (r.length : Int) := by omega
  have HD := Lib.hid hd
  have HV := Lib.hid hv
  clear hd e1 e2 hkv hv
  have hcut := HR.out.cut hk hrc
  rw [Nat.mul_one, bv_drop] at hcut
  have HIN := Lib.hid (fun A' hA => in_adv (A' := A') HB.out HS.out hk hA)
  have HEND : Hid (∀ p, s = some p → dec (l.drop p) = ((s.map (· + k)).map fun q => (v, q - p)) ∧ ∀ q, s.map (· + k) = some q → p ≤ q) := Lib.hid (fun p hp => by
   refine ⟨?_, fun q hq => ?_⟩
   ·rw [← (HS.out p hp).2, HD.out, hp]
    simp
   ·rw [hp] at hq
    simp only [Option.map_some, Option.some.injEq] at hq
    omega)
  by_cases hck : c = k
  ·have HCK := Lib.hid hck
   rw [if_pos hck] at hcut
   have HC := Lib.hid (HIN.out _ ⟨hcut, hrc, hc⟩)
   subst hck
   rw [show r.length - c = 0 by omega, show c - c = 0 by omega] at HC
   clear hcut
   go_wp2_with fail
   go_ret
   exact ⟨s.map (· + c), v, rfl, HC.out, only_setCell (World.grownBy.refl w (some I)) (.inl rfl) _, HV.out, fun e => by rw [e]; rfl, HEND.out⟩
  ·rw [if_neg hck] at hcut
   have HC := Lib.hid (HIN.out _ ⟨hcut, hrc, hc⟩)
   clear hcut
   go_wp2_with fail
   go_ret
   exact ⟨s.map (· + k), v, rfl, HC.out, only_setCell (World.grownBy.refl w (some I)) (.inl rfl) _, HV.out, fun e => by rw [e]; rfl, HEND.out⟩
theorem in_num_step {l : List UInt8} {s t : Option Nat} {v : Nat} (h1 : s = none → t = none) (h2 : ∀ p, s = some p → dec (l.drop p) = (t.map fun q => (v, q - p)) ∧ ∀ q, t = some q → p ≤ q) : StepD num 0 l s (if numOk (zag v) then t else none) (zag v) := by
 refine ⟨fun e => by rw [h1 e]; split <;> rfl, fun p hp => ?_⟩
 obtain ⟨h3, h4⟩ := h2 p hp
 unfold rdS num
 simp only [h3]
 rcases t with _ | q
 ·simp
 ·have := h4 q rfl
  simp only [Option.map_some]
  rw [show p + (q - p) = q by omega]
  cases numOk (zag v) <;> rfl
theorem step_none {α : Type} {F : FSt → α → Option (FSt × α)} {z a b : α} {l : List UInt8} {s : Option Nat} (h : StepD F z l s none a) : StepD F z l s none b := ⟨h.1, h.2⟩
set_option maxRecDepth 100000 in
set_option maxHeartbeats 4000000 in
theorem in_num (I : Nat) (l : List UInt8) (s : Option Nat) (w : World) (h : InD w I l s) :
  Calls Try.prog 53 #[.pointer (some ⟨I, 0, none⟩)] w fun e w' => ∃ (t : Option Nat) (y : Int), e = .returned (.int .i64 y) ∧ InD w' I l t ∧ w.grownBy w' (some I) ∧ StepD num 0 l s t y ∧ -1 ≤ y ∧ y ≤ 1152921504606846976 := by
 have CU := Lib.hid (in_uint I l s w h)
 clear h
 go_enter Try.func53, Try.ntmps53
 go_wp2_with fail
 refine CU.out.mono ?_
 rintro e w1 ⟨t, v, rfl, hi, hg, hv, h1, h2⟩
 have HST := Lib.hid (in_num_step h1 h2)
 have HI := Lib.hid hi
 have HG := Lib.hid hg
 clear CU h1 h2 hg hi
 go_wp2_with fail
 refine (signed_any v w1 hv).mono ?_
 rintro e w2 ⟨rfl, rfl⟩
 obtain ⟨Z, hZ⟩ : ∃ Z, zag v = Z := ⟨_, rfl⟩
 rw [hZ] at HST ⊢
 clear hZ
 by_cases hz : -1 ≤ Z ∧ Z ≤ 1152921504606846976
 ·obtain ⟨hz1, hz2⟩ := hz
  have hok : numOk Z = true := by unfold numOk; simp [hz1, hz2]
  rw [hok, if_pos rfl] at HST
  clear hok
  go_wp2_with fail
  go_ret
  exact ⟨t, Z, rfl, HI.out, HG.out, HST.out, hz1, hz2⟩
 ·have hok : numOk Z = false := by
   unfold numOk
   rw [Bool.and_eq_false_iff, decide_eq_false_iff_not, decide_eq_false_iff_not]
   omega
  rw [hok, if_neg (by decide)] at HST
  have hk : Hid (∀ (W : World), W = w1 → ∃ A b, Blk W I 114 #[A, .bool b]) := Lib.hid (fun W e => by
   obtain ⟨A, c, r, hb, _⟩ := HI.out
   rw [e]
   exact ⟨_, _, hb⟩)
  obtain ⟨A, b, hb⟩ := hk.out w1 rfl
  have k0 := hb.cell 0
  have k1 := hb.cell 1
  have f0 := hb.frozen 0
  have f1 := hb.frozen 1
  have hq := in_bad (l := l) hb
  have HB := Lib.hid hq.1
  have HQ := Lib.hid (only_tr HG.out hq.2)
  have HE : Hid (StepD num 0 l s none 0) := Lib.hid (step_none HST.out)
  clear hb hq hk hok
  rcases Int.lt_or_le Z (-1) with hlt | hge
  ·go_wp2_with fail
   go_ret
   exact ⟨none, 0, rfl, HB.out, HQ.out, HE.out, by decide, by decide⟩
  ·have hgt : 1152921504606846976 < Z := by omega
   go_wp2_with fail
   go_ret
   exact ⟨none, 0, rfl, HB.out, HQ.out, HE.out, by decide, by decide⟩
def CountR (l : List UInt8) (s t : Option Nat) (n : Nat) : Prop :=
 n ≤ 1024 ∧ (s = none → t = none) ∧ ∀ p, s = some p → (∃ q, t = some q ∧ num (rdS l p) 0 = some (rdS l q, (n : Int))) ∨ (t = none ∧ (num (rdS l p) 0 = none ∨ ∃ q k, num (rdS l p) 0 = some (rdS l q, k) ∧ ¬ (0 ≤ k ∧ k ≤ 1024)))
theorem count_yes {l : List UInt8} {s t : Option Nat} {n : Nat} (h : StepD num 0 l s t (n : Int)) (hn : n ≤ 1024) : CountR l s t n := by
 refine ⟨hn, h.1, fun p hp => ?_⟩
 have h2 := h.2 p hp
 rcases t with _ | q
 ·exact .inr ⟨rfl, .inl h2⟩
 ·exact .inl ⟨q, rfl, h2⟩
theorem count_no {l : List UInt8} {s t : Option Nat} {y : Int} (h : StepD num 0 l s t y) (hn : ¬ (0 ≤ y ∧ y ≤ 1024)) : CountR l s none 0 := by
 refine ⟨by decide, fun _ => rfl, fun p hp => .inr ⟨rfl, ?_⟩⟩
 have h2 := h.2 p hp
 rcases t with _ | q
 ·exact .inl h2
 ·exact .inr ⟨q, y, h2, hn⟩
theorem in_off {w : World} {I : Nat} {l : List UInt8} {s : Option Nat} (h : InD w I l s) : InD (w.setCell ⟨I, 1, none⟩ (.bool false)) I l none := by
 obtain ⟨A, c, r, h1, h2, h3, h4, h5⟩ := h
 exact ⟨A, c, r, by simpa using h1.set_ 1 (.bool false), h2, h3, h4.setCell (Nat.le_refl _) _, fun p hp => by cases hp⟩
set_option maxRecDepth 100000 in
set_option maxHeartbeats 4000000 in
theorem in_count (I : Nat) (l : List UInt8) (s : Option Nat) (w : World) (h : InD w I l s) :
  Calls Try.prog 55 #[.pointer (some ⟨I, 0, none⟩)] w fun e w' => ∃ (t : Option Nat) (n : Nat), e = .returned (.int .i64 n) ∧ InD w' I l t ∧ w.grownBy w' (some I) ∧ CountR l s t n := by
 have CU := Lib.hid (in_num I l s w h)
 clear h
 go_enter Try.func55, Try.ntmps55
 go_wp2_with fail
 refine CU.out.mono ?_
 rintro e w1 ⟨t, y, rfl, hi, hg, hst, hy1, hy2⟩
 have HST := Lib.hid hst
 have HI := Lib.hid hi
 have HG := Lib.hid hg
 clear CU hg hi hst
 by_cases hz : 0 ≤ y ∧ y ≤ 1024
 ·obtain ⟨n, rfl⟩ : ∃ n : Nat, y = n := ⟨y.toNat, by omega⟩
  obtain ⟨hz1, hz2⟩ := hz
  have hn : n ≤ 1024 := by omega
  go_wp2_with fail
  go_ret
  exact ⟨t, n, rfl, HI.out, HG.out, count_yes HST.out hn⟩
 ·have HC := Lib.hid (count_no HST.out hz)
  have HOF := Lib.hid (in_off HI.out)
  have HQ := Lib.hid (only_tr HG.out (only_setCell (World.grownBy.refl w1 (some I)) (p := ⟨I, 1, none⟩) (.inl rfl) (.bool false)))
  obtain ⟨A, c, r, hb, _⟩ := HI.out
  have k0 := hb.cell 0
  have k1 := hb.cell 1
  have f0 := hb.frozen 0
  have f1 := hb.frozen 1
  clear hb
  rcases Int.lt_or_le y 0 with hlt | hge
  ·go_wp2_with fail
   go_ret
   exact ⟨none, 0, rfl, HOF.out, HQ.out, HC.out⟩
  ·have hgt : 1024 < y := by omega
   go_wp2_with fail
   go_ret
   exact ⟨none, 0, rfl, HOF.out, HQ.out, HC.out⟩
def RunD {α : Type} (one : FSt → α → Option (FSt × α)) (z : α) (l : List UInt8) (s : Option Nat) (k : Nat) (t : Option Nat) (ys : List α) : Prop := StepD (runL one) (List.replicate k z) l s t ys
section
variable {α : Type} {one : FSt → α → Option (FSt × α)} {z : α} {l : List UInt8} {s t u : Option Nat} {k n : Nat} {ys : List α} {y : α}
theorem RunD.zero : RunD one z l s 0 s [] := by
 refine ⟨fun e => e, fun p hp => ?_⟩
 rw [hp]
 rfl
theorem runL_snoc (st : FSt) (xs : List α) (x : α) : runL one st (xs ++ [x]) = (runL one st xs).bind fun p => (one p.1 x).bind fun q => some (q.1, p.2 ++ [q.2]) := by
 induction xs generalizing st with
 | nil =>
  simp only [List.nil_append, runL, Option.bind_some]
  rcases one st x with _ | ⟨s, y⟩ <;> rfl
 | cons a xs ih =>
  simp only [List.cons_append, runL]
  rcases one st a with _ | ⟨s, y⟩
  ·rfl
  ·simp only [ih]
   rcases runL one s xs with _ | ⟨s2, ys⟩
   ·rfl
   ·simp only [Option.bind_some]
    rcases one s2 x with _ | ⟨s3, y3⟩ <;> rfl
theorem RunD.step (h : RunD one z l s k t ys) (h1 : StepD one z l t u y) : RunD one z l s (k + 1) u (ys ++ [y]) := by
 refine ⟨fun e => h1.1 (h.1 e), fun p hp => ?_⟩
 rw [List.replicate_succ', runL_snoc, h.2 p hp]
 rcases t with _ | q
 ·rw [h1.1 rfl]; rfl
 ·simp only [Option.map_some, Option.bind_some, h1.2 q rfl]
  rcases u with _ | q2 <;> rfl
theorem runL_stop (st : FSt) (xs ws : List α) (h : runL one st xs = none) : runL one st (xs ++ ws) = none := by
 induction xs generalizing st with
 | nil => cases h
 | cons a xs ih =>
  revert h
  simp only [List.cons_append, runL]
  rcases one st a with _ | ⟨s, y⟩
  ·exact fun _ => rfl
  ·simp only
   intro h
   rcases hr : runL one s xs with _ | ⟨s2, ys⟩
   ·rw [ih s hr]
   ·rw [hr] at h; cases h
theorem RunD.done {D : α → Prop} (hC : Codec D one z) (hs : ∀ p, s = some p → p ≤ l.length) {m : Option Nat} (hc : CountR l s m n) (hm : ∀ p, m = some p → p ≤ l.length) (h : RunD one z l m k t ys) (hk : k ≤ n) (he : k = n ∨ t = none) : StepD (listF one z) [] l s t ys := by
 refine ⟨fun e => h.1 (hc.2.1 e), fun p hp => ?_⟩
 have hn := hc.1
 unfold listF
 rw [if_neg (by simp)]
 show (match num (rdS l p) 0 with | none => none | some (.rd R A n c l p, k) => if 0 ≤ k ∧ k ≤ 1024 ∧ k ≤ ((n - p : Nat) : Int) then runL one (.rd R A n c l p) (List.replicate k.toNat z) else none | some (.wr bs, _) => runL one (.wr bs) []) = _
 rcases hc.2.2 p hp with ⟨q, rfl, h1⟩ | ⟨rfl, h1 | ⟨q, j, h1, h2⟩⟩
 ·rw [h1]
  show (if 0 ≤ (n : Int) ∧ (n : Int) ≤ 1024 ∧ (n : Int) ≤ ((l.length - q : Nat) : Int) then runL one (rdS l q) (List.replicate n z) else none) = _
  have h3 := h.2 q rfl
  rcases t with _ | q2
  ·have h4 : runL one (rdS l q) (List.replicate n z) = none := by
    have h5 := runL_stop _ _ (List.replicate (n - k) z) h3
    rw [List.replicate_append_replicate, show k + (n - k) = n by omega] at h5
    exact h5
   rw [h4]
   simp
  ·have hkn : k = n := by
    rcases he with he | he
    ·exact he
    ·cases he
   subst hkn
   simp only [Option.map_some] at h3
   obtain ⟨h4, h5, m', rest, h6, h7, h8⟩ := run_got hC k 0 none l.length 0 l q _ _ rfl (hm q rfl) h3
   obtain ⟨_, m2, h9, h10, _⟩ := run_enc hC ys [] _ _ h5 (h8 [])
   simp only [List.nil_append, FSt.wr.injEq] at h10
   subst h10
   have h11 := drop_le rfl (hm q rfl) h6
   rw [if_pos ⟨by omega, by omega, by omega⟩, h3]
   rfl
 ·rw [h1, h.1 rfl]
  rfl
 ·rw [h1, h.1 rfl]
  show (if 0 ≤ j ∧ j ≤ 1024 ∧ j ≤ ((l.length - q : Nat) : Int) then _ else none) = _
  rw [if_neg (fun e => h2 ⟨e.1, e.2.1⟩)]
  rfl
end
theorem InD.at_ {w : World} {I : Nat} {l : List UInt8} {s : Option Nat} (h : InD w I l s) : ∀ p, s = some p → p ≤ l.length := by
 obtain ⟨A, c, r, _, _, _, _, h5⟩ := h
 exact fun p hp => (h5 p hp).1
end Go.Proofs.Ytioocaicmiggoaa
namespace Go.Proofs.Ytioocaicmiggoaa
set_option linter.unusedVariables false
set_option linter.unusedSimpArgs false
open Go.RowKit Go.Deep
def GrD (B I g : Nat) (w w' : World) : Prop := w'.os = w.os ∧ w'.tape = w.tape ∧ w'.output = w.output ∧ w.heap.size ≤ w'.heap.size ∧ ∀ i, i < B → i ≠ I → i ≠ g → w'.heap[i]? = w.heap[i]?
section
variable {B I g : Nat} {w w' w2 w3 : World}
theorem GrD.refl (B I g : Nat) (w : World) : GrD B I g w w := ⟨rfl, rfl, rfl, Nat.le_refl _, fun _ _ _ _ => rfl⟩
theorem GrD.trans (h : GrD B I g w w2) (k : GrD B I g w2 w3) : GrD B I g w w3 :=
 ⟨k.1.trans h.1, k.2.1.trans h.2.1, k.2.2.1.trans h.2.2.1, Nat.le_trans h.2.2.2.1 k.2.2.2.1, fun i h1 h2 h3 => (k.2.2.2.2 i h1 h2 h3).trans (h.2.2.2.2 i h1 h2 h3)⟩
theorem GrD.size (h : GrD B I g w w2) : w.heap.size ≤ w2.heap.size := h.2.2.2.1
theorem GrD.of_grown {row : Option Nat} (h : w.grownBy w2 row) (hB : B ≤ w.heap.size) (hr : ∀ x, row = some x → x = I ∨ x = g ∨ B ≤ x) : GrD B I g w w2 :=
 ⟨h.os, h.tape, h.output, h.size, fun i h1 h2 h3 => h.block i (by omega) (fun e => by rcases hr i e.symm with h4 | h4 | h4 <;> omega)⟩
theorem GrD.grown (h : GrD B I g w w2) {row : Option Nat} (k : w2.grownBy w3 row) (hB : B ≤ w2.heap.size) (hr : ∀ x, row = some x → x = I ∨ x = g ∨ B ≤ x) : GrD B I g w w3 := h.trans (GrD.of_grown k hB hr)
theorem GrD.call (h : GrD B I g w w2) (k : w2.grownBy w3 (some I)) (hB : B ≤ w2.heap.size) : GrD B I g w w3 := h.grown k hB (fun x e => by cases e; exact .inl rfl)
theorem GrD.alloc (h : GrD B I g w w2) (hB : B ≤ w2.heap.size) (o : Obj) : GrD B I g w (w2.alloc o) := h.grown (only_alloc (World.grownBy.refl w2 none) o) hB (fun x e => by cases e)
theorem GrD.set_ (h : GrD B I g w w2) {a : Addr} (ha : a.block = I ∨ a.block = g ∨ B ≤ a.block) (u : Value) : GrD B I g w (w2.setCell a u) :=
 ⟨h.1, h.2.1, h.2.2.1, by simpa using h.2.2.2.1, fun i h1 h2 h3 => (Below.heap_setCell w2 a u i (by omega)).trans (h.2.2.2.2 i h1 h2 h3)⟩
theorem GrD.mono {B' : Nat} (h : GrD B I g w w2) (hB : B' ≤ B) : GrD B' I g w w2 := ⟨h.1, h.2.1, h.2.2.1, h.2.2.2.1, fun i h1 => h.2.2.2.2 i (by omega)⟩
theorem GrD.out (h : GrD w.heap.size I I w w2) : w.grownBy w2 (some I) := ⟨h.1, h.2.1, h.2.2.1, h.2.2.2.1, fun i h1 h2 => h.2.2.2.2 i h1 (fun e => h2 (by rw [e])) (fun e => h2 (by rw [e]))⟩
end
section
variable {α : Type} {B : Nat} {e : TypeId} {F : Nat} {R : (Nat → Prop) → World → List Value → α → Prop} {w w' w2 w3 : World} {v v' : Value} {xs : List α} {css : List (List Value)}
theorem Acc.keepB (hR : KeepsQ R) (h : Acc B e F R w v xs css) (hs : w.heap.size ≤ w'.heap.size) (hb : ∀ i, B ≤ i → i < w.heap.size → w'.heap[i]? = w.heap[i]?) : Acc B e F R w' v xs css := by
 refine ⟨?_, h.2.keep fun cs x hx => hR _ _ _ _ _ _ hx (fun p u hq hp => (World.cell?_of_block (hb p.block hq.1 hq.2.1)).trans hp) fun b hq => ⟨hq.1, Nat.lt_of_lt_of_le hq.2.1 hs, hq.2.2⟩⟩
 refine ⟨h.1.1, ?_⟩
 rcases h.1.2 with h1 | ⟨g, cap, cur, hv, hB, hh, hr⟩
 ·exact .inl h1
 ·have hlt : g < w.heap.size := (Array.getElem?_eq_some_iff.1 hh).1
  exact .inr ⟨g, cap, cur, hv, hB, (hb g hB hlt).trans hh, hr⟩
theorem Acc.stepB (hR : KeepsQ R) (h : Acc B e F R w v xs css) (hBw : B ≤ w.heap.size) (hs : w.heap.size ≤ w2.heap.size) (hb : ∀ i, B ≤ i → i < w.heap.size → w2.heap[i]? = w.heap[i]?) {cs : List Value} {x : α} (hl : cs.length = F) (hx : R (fun b => w.heap.size ≤ b ∧ b < w2.heap.size) w2 cs x)
  (ho : w3.ownsRow B e F v' (xs.length + 1) (css.flatten ++ cs)) (hg : w2.grownBy w3 v.ownBlock) (hat : v'.ownBlock = v.ownBlock ∨ v'.ownBlock = some w2.heap.size) : Acc B e F R w3 v' (xs ++ [x]) (css ++ [cs]) := by
 have hvlt : ∀ g, v.ownBlock = some g → g < w.heap.size := fun g hg => (own_lt h.1 hg).1
 have hne : ∀ b, some b ≠ v.ownBlock → b < w2.heap.size → some b ≠ v'.ownBlock := fun b h1 h2 => by
  rcases hat with h3 | h3
  ·rw [h3]; exact h1
  ·rw [h3]; intro e; injection e with e; omega
 refine ⟨?_, FlatR.snoc ?_ hl ?_⟩
 ·rw [List.length_append, List.flatten_append]
  simpa using ho
 ·refine h.2.keep fun cs x hx => hR _ _ _ _ _ _ hx ?_ fun b hq => ⟨hq.1, Nat.lt_of_lt_of_le hq.2.1 (Nat.le_trans hs hg.size), hne b hq.2.2 (Nat.lt_of_lt_of_le hq.2.1 hs)⟩
  refine KeepQ.trans (w' := w2) (fun p u hq hp => (World.cell?_of_block (hb p.block hq.1 hq.2.1)).trans hp) (KeepQ.of_grown hg fun b hq => hq.2.2)
 ·have hself : ∀ b, w.heap.size ≤ b → some b ≠ v.ownBlock := fun b hb2 e => by have := hvlt b e.symm; omega
  exact hR _ _ _ _ _ _ hx (KeepQ.of_grown hg fun b hq => hself b hq.1) fun b hq => ⟨Nat.le_trans hBw hq.1, Nat.lt_of_lt_of_le hq.2 hg.size, hne b (hself b hq.1) hq.2⟩
end
theorem InD.far {w : World} {I : Nat} {l : List UInt8} {s : Option Nat} (h : InD w I l s) {a : Addr} (ha : I < a.block) (u : Value) : InD (w.setCell a u) I l s := by
 obtain ⟨A, c, r, h1, h2, h3, h4, h5⟩ := h
 exact ⟨A, c, r, h1.far (by omega) u, h2, h3, h4.setCell (by omega) u, h5⟩
theorem InD.grownV {w w' : World} {I : Nat} {l : List UInt8} {s : Option Nat} {row : Option Nat} (h : InD w I l s) (hb : w.grownBy w' row) (hg : ∀ g, row = some g → I < g) : InD w' I l s := by
 rcases row with _ | g
 ·exact h.below (below_of_grown hb)
 ·exact h.grown hb (hg g rfl)
theorem InD.cells {w : World} {I : Nat} {l : List UInt8} {s : Option Nat} (h : InD w I l s) : ∃ A m c, w.cell? ⟨I, 0, none⟩ = some (.slice A m c) ∧ w.cell? ⟨I, 1, none⟩ = some (.bool s.isSome) ∧ w.frozen? ⟨I, 0, none⟩ = false ∧ w.frozen? ⟨I, 1, none⟩ = false := by
 obtain ⟨A, c, r, h1, h2, h3, h4, h5⟩ := h
 exact ⟨A, r.length, c, h1.cell 0, h1.cell 1, h1.frozen 0, h1.frozen 1⟩
theorem reads_lit (w : World) (cs : Array Value) (F : Nat) (hF : cs.size = F) (e : TypeId) (m : Nat × Nat) : Reads (w.alloc (.cells cs e m)) (w.heap.size + 1) F (some ⟨w.heap.size, 0, none⟩) 1 cs.toList := by
 refine ⟨by simp [hF], fun _ => ⟨_, rfl, by simp, fun j u hu => ?_⟩⟩
 rw [Go.WideShapes.add_plain, Nat.zero_add, cell_of_row _ _ j _ _ _ (heap_alloc_new w _)]
 simpa using hu
def LpD {α : Type} (B : Nat) (e : TypeId) (F : Nat) (R : (Nat → Prop) → World → List Value → α → Prop) (one : FSt → α → Option (FSt × α)) (z : α) (l : List UInt8) (I g n : Nat) (m : Option Nat) (w wr : World) (v j : Value) : Prop :=
 ∃ (k : Nat) (t : Option Nat) (ys : List α) (css : List (List Value)), j = .int .i64 ((n : Int) - (k : Int)) ∧ k ≤ n ∧ ys.length = k ∧ Acc B e F R wr v ys css ∧ InD wr I l t ∧ GrD B I g w wr ∧ RunD one z l m k t ys
section
variable {α : Type} {B : Nat} {e : TypeId} {F : Nat} {R : (Nat → Prop) → World → List Value → α → Prop} {one : FSt → α → Option (FSt × α)} {z : α} {l : List UInt8} {I g n : Nat} {m : Option Nat} {w wr : World} {v v' j : Value}
theorem LpD.start (w : World) (h : InD w I l m) : LpD B e F R one z l I g n m w w (.slice none 0 0) (.int .i64 (n : Int)) :=
 ⟨0, m, [], [], by simp, Nat.zero_le _, rfl, Acc.nil _, h, GrD.refl _ _ _ _, RunD.zero⟩
theorem LpD.next {k : Nat} {t u : Option Nat} {ys : List α} {css : List (List Value)} {x : α} {cs : List Value} {w2 w3 : World} (hR : KeepsQ R) (hk : k < n) (hyl : ys.length = k) (hacc : Acc B e F R wr v ys css) (hgr : GrD B I g w wr) (hrun : RunD one z l m k t ys)
  (hIB : I < B) (hB : B ≤ wr.heap.size) (h2 : wr.grownBy w2 (some I)) (hi : InD w2 I l u) (hst : StepD one z l t u x) (hl : cs.length = F) (hx : R (fun b => wr.heap.size ≤ b ∧ b < w2.heap.size) w2 cs x)
  (ho : w3.ownsRow B e F v' (k + 1) (css.flatten ++ cs)) (hg : w2.grownBy w3 v.ownBlock) (hat : v'.ownBlock = v.ownBlock ∨ v'.ownBlock = some w2.heap.size) :
  LpD B e F R one z l I g n m w w3 v' (.int .i64 ((n : Int) - (k : Int) - 1)) := by
 have hvB : ∀ q, v.ownBlock = some q → B ≤ q := fun q hq => (own_lt hacc.1 hq).2
 refine ⟨k + 1, u, ys ++ [x], css ++ [cs], by congr 1; omega, hk, by simp [hyl], ?_, ?_, ?_, hrun.step hst⟩
 ·exact hacc.stepB hR hB h2.size (fun i h3 h4 => h2.block i h4 (fun e => by injection e with e; omega)) hl hx (by rw [hyl]; exact ho) hg hat
 ·exact hi.grownV hg (fun q hq => by have := hvB q hq; omega)
 ·exact (hgr.call h2 hB).grown hg (Nat.le_trans hB h2.size) (fun q hq => .inr (.inr (hvB q hq)))
theorem LpD.set_ (hR : KeepsQ R) (h : LpD B e F R one z l I g n m w wr v j) (hg : g < B) (hI : I < g) (i : Nat) (u : Value) : LpD B e F R one z l I g n m w (wr.setCell ⟨g, i, none⟩ u) v j := by
 obtain ⟨k, t, ys, css, h1, h2, h3, h4, h5, h6, h7⟩ := h
 exact ⟨k, t, ys, css, h1, h2, h3, h4.keepB hR (by simp) (fun q h8 h9 => Below.heap_setCell wr _ u q (by simp only; omega)), h5.far hI u, h6.set_ (.inr (.inl rfl)) u, h7⟩
theorem LpD.own {k : Nat} {ys : List α} {css : List (List Value)} (hyl : ys.length = k) (hacc : Acc B e F R wr v ys css) (hIB : I < B) {w2 : World} (h2 : wr.grownBy w2 (some I)) : w2.ownsRow B e F v k css.flatten := by
 rw [← hyl]
 exact hacc.1.kept h2 (.inr (fun e => by have := (own_lt hacc.1 e).2; omega))
end
theorem step_int {l : List UInt8} {s t : Option Nat} {y : Int} (h : StepD num 0 l s t y) : StepD intF 0 l s t y :=
 h.congr fun st x => by
  unfold intF
  rw [run1_bind]
  rcases num st x with _ | ⟨s, y⟩ <;> rfl
theorem wfi_num {y : Int} (h1 : -1 ≤ y) (h2 : y ≤ 1152921504606846976) : wfi y := by
 unfold wfi
 simp [Lit.wf, IntKind.min, IntKind.max, IntKind.bits, IntKind.signed]
 omega
set_option maxRecDepth 100000 in
set_option maxHeartbeats 4000000 in
theorem in_ints (I : Nat) (l : List UInt8) (s : Option Nat) (w : World) (h : InD w I l s) :
  Calls Try.prog 54 #[.pointer (some ⟨I, 0, none⟩)] w fun e w' => ∃ (t : Option Nat) (ys : List Int) (v : Value), e = .returned v ∧ InD w' I l t ∧ w.grownBy w' (some I) ∧ StepD (listF intF 0) [] l s t ys ∧ SlQ (fun b => w.heap.size ≤ b ∧ b < w'.heap.size) 1 IntC w' v ys := by
 have CU := Lib.hid (in_count I l s w h)
 have HAT := Lib.hid h.at_
 have HIW := Lib.hid h.blk
 obtain ⟨i0, hi0, hz0, hsz0, hb0⟩ := info_parts info_int
 clear h
 go_enter Try.func54, Try.ntmps54
 go_wp2_with fail
 refine CU.out.mono ?_
 rintro e w1 ⟨m, n, rfl, hi, hg, hc⟩
 have HC := Lib.hid hc
 have HG := Lib.hid hg
 have HMT := Lib.hid hi.at_
 have HS := Lib.hid hg.size
 have hn := hc.1
 have HI := Lib.hid hi
 have HEND : Hid (∀ t ys css v W, InD W I l t → GrD w1.heap.size I I w1 W → ∀ {k : Nat}, RunD intF 0 l m k t ys → k ≤ n → (k = n ∨ t = none) → Acc w1.heap.size 3 1 (fun _ => IntC) W v ys css →
   ∃ (t : Option Nat) (ys : List Int) (v' : Value), Ending.returned v = .returned v' ∧ InD W I l t ∧ w.grownBy W (some I) ∧ StepD (listF intF 0) [] l s t ys ∧ SlQ (fun b => w.heap.size ≤ b ∧ b < W.heap.size) 1 IntC W v' ys) := Lib.hid (fun t ys css v W h1 h2 k h3 h4 h5 h6 =>
  ⟨t, ys, v, rfl, h1, only_tr HG.out h2.out, h3.done codec_int HAT.out HC.out HMT.out h4 h5, (h6.done keeps_int).keep (fun p u _ h => h) (fun b h => ⟨Nat.le_trans HS.out h.1, h.2⟩) (fun _ _ h => h)⟩)
 clear CU hg hc hi
 go_wp2_with fail
 go_loopw [3, 4] (fun v j wr => LpD w1.heap.size 3 1 (fun _ => IntC) intF 0 l I I n m w1 wr v j) (fun _ j _ => (intOf j).toNat)
 case atStart => exact LpD.start w1 HI.out
 case round =>
  obtain ⟨k, t, ys, css, rfl, hk, hyl, hacc, hi, hgr, hrun⟩ := hrel
  obtain ⟨Av, cv, rfl⟩ := own_slice hacc.1
  have HACC := Lib.hid hacc
  have HGR := Lib.hid hgr
  have HRUN := Lib.hid hrun
  have HI2 := Lib.hid hi
  have HYL := Lib.hid hyl
  obtain ⟨A0, m0, c0, k0, k1, f0, f1⟩ := hi.cells
  clear hacc hgr hrun hi
  rw [hyl]
  by_cases hlt : k < n
  ·have hpos : (0 : Int) < (n : Int) - (k : Int) := by omega
   rcases t with _ | p
   ·have kk : wr.cell? ⟨I, 1, none⟩ = some (.bool false) := k1
    clear k1
    have HE := Lib.hid (HEND.out none ys css (.slice Av k cv) wr HI2.out HGR.out HRUN.out (by omega) (.inr rfl) (by have h := HACC.out; rw [HYL.out] at h; exact h))
    go_wp2_with fail
    go_ret
    exact HE.out
   ·have kk : wr.cell? ⟨I, 1, none⟩ = some (.bool true) := k1
    have CN := Lib.hid (in_num I l (some p) wr HI2.out)
    clear k1
    go_wp2_with fail
    refine CN.out.mono ?_
    rintro e w2 ⟨u, y, rfl, hi3, hg3, hst3, hy1, hy2⟩
    have HI3 := Lib.hid hi3
    have HG3 := Lib.hid hg3
    have HST3 := Lib.hid hst3
    have HWY := Lib.hid (wfi_num hy1 hy2)
    have HSW := Lib.hid HGR.out.size
    have HO2 : Hid ((w2.alloc (.cells #[.int .i64 y] 3)).ownsRow w1.heap.size 3 1 (.slice Av k cv) k css.flatten) := Lib.hid (by have h := LpD.own HYL.out HACC.out (Nat.lt_of_lt_of_le HIW.out HS.out) (only_alloc HG3.out (.cells #[.int .i64 y] 3)); rw [HYL.out] at h; exact h)
    clear CN hi3 hg3 hst3 kk k0
    have hk9 : k + 1 ≤ 1024 := by omega
    go_wp2_with (at_builtin; refine wpList_append_any _ rfl (.tmp 17) (.tmp 20) 22 rfl w1.heap.size 3 i0 _ 1 8 Try.underlying22 hi0 hz0 hsz0 hb0 rfl (by omega) (.slice Av k cv) k css.flatten rfl HO2.out (w2.heap.size + 1) (some ⟨w2.heap.size, 0, none⟩) 1 1 [.int .i64 y] rfl (reads_one _ _ _ _) (by intro u hu; simp at hu; subst hu; rfl) (by unfold maxLen; omega) (by omega) (by simp; exact Nat.le_trans HSW.out (Nat.le_succ_of_le HG3.out.size)) ?_; intro v9 w3 ho hg hat; have HO3 := Lib.hid ho; have HG4 := Lib.hid hg; have HAT4 := Lib.hid hat; clear ho hg hat)
    have HL : Hid (LpD w1.heap.size 3 1 (fun _ => IntC) intF 0 l I I n m w1 w3 v9 (.int .i64 ((n : Int) - (k : Int) - 1))) := Lib.hid (LpD.next keeps_int hlt HYL.out HACC.out HGR.out HRUN.out (Nat.lt_of_lt_of_le HIW.out HS.out) HSW.out (only_alloc HG3.out _) (HI3.out.below ((Below.refl _ _).alloc (Nat.le_refl _) _)) (step_int HST3.out) rfl ⟨rfl, HWY.out⟩ HO3.out (by rw [HYL.out]; exact HG4.out) (by rw [HYL.out]; exact HAT4.out))
    clear HO3 HG4 HAT4 HO2 HI3 HG3 HST3
    go_wp2_with fail
    go_roundw
    case rel => first | exact HL.out | ((repeat apply Exists.intro); exact ⟨HL.out, rfl⟩)
    case measure => simp [intOf]; omega
  ·have hpos : (n : Int) - (k : Int) ≤ 0 := by omega
   have HE := Lib.hid (HEND.out t ys css (.slice Av k cv) wr HI2.out HGR.out HRUN.out hk (.inl (by omega)) (by have h := HACC.out; rw [HYL.out] at h; exact h))
   go_wp2_with fail
   go_ret
   exact HE.out
end Go.Proofs.Ytioocaicmiggoaa
namespace Go.Proofs.Ytioocaicmiggoaa
set_option linter.unusedVariables false
set_option linter.unusedSimpArgs false
open Go.RowKit Go.Deep
theorem step_stop {l : List UInt8} {s t u : Option Nat} {a b : Int} (h : StepD num 0 l s t a) (k : StepD num 0 l t u b) : StepD stopF zStop l s u ⟨a, b⟩ :=
 ((h.pair k).map_ (fun x : TStop => (x.ty, x.gd)) (fun p => ⟨p.1, p.2⟩) zStop rfl).congr fun st x => by
  simp only [stopF, run2_bind, mapF, pairF, Option.bind_assoc, Option.bind_some, List.getD_cons_zero, List.getD_cons_succ]
theorem blk2f {w : World} {g : Nat} {t : TypeId} {a b : Value} (h : Blk w g t #[a, b]) : w.cell? ⟨g, 0, none⟩ = some a ∧ w.cell? ⟨g, 1, none⟩ = some b ∧ w.frozen? ⟨g, 0, none⟩ = false ∧ w.frozen? ⟨g, 1, none⟩ = false := ⟨h.cell 0, h.cell 1, h.frozen 0, h.frozen 1⟩
set_option maxRecDepth 100000 in
set_option maxHeartbeats 4000000 in
theorem in_stops (I : Nat) (l : List UInt8) (s : Option Nat) (w : World) (h : InD w I l s) :
  Calls Try.prog 71 #[.pointer (some ⟨I, 0, none⟩)] w fun e w' => ∃ (t : Option Nat) (ys : List TStop) (v : Value), e = .returned v ∧ InD w' I l t ∧ w.grownBy w' (some I) ∧ StepD (listF stopF zStop) [] l s t ys ∧ SlQ (fun b => w.heap.size ≤ b ∧ b < w'.heap.size) 2 StopC w' v ys := by
 have CU := Lib.hid (in_count I l s w h)
 have HAT := Lib.hid h.at_
 have HIW := Lib.hid h.blk
 obtain ⟨i0, hi0, hz0, hsz0, hb0⟩ := info_parts info_stop
 clear h
 go_enter Try.func71, Try.ntmps71
 go_wp2_with fail
 refine CU.out.mono ?_
 rintro e w1 ⟨m, n, rfl, hi, hg, hc⟩
 have HC := Lib.hid hc
 have HG := Lib.hid hg
 have HMT := Lib.hid hi.at_
 have HS := Lib.hid hg.size
 have HIB : Hid (I < w1.heap.size) := Lib.hid hi.blk
 have hn := hc.1
 have HI := Lib.hid hi
 have HEND : Hid (∀ t ys css v W, InD W I l t → GrD w1.heap.size I I w1 W → ∀ {k : Nat}, RunD stopF zStop l m k t ys → k ≤ n → (k = n ∨ t = none) → Acc w1.heap.size 98 2 (fun _ => StopC) W v ys css →
   ∃ (t : Option Nat) (ys : List TStop) (v' : Value), Ending.returned v = .returned v' ∧ InD W I l t ∧ w.grownBy W (some I) ∧ StepD (listF stopF zStop) [] l s t ys ∧ SlQ (fun b => w.heap.size ≤ b ∧ b < W.heap.size) 2 StopC W v' ys) := Lib.hid (fun t ys css v W h1 h2 k h3 h4 h5 h6 =>
  ⟨t, ys, v, rfl, h1, only_tr HG.out h2.out, h3.done codec_stop HAT.out HC.out HMT.out h4 h5, (h6.done keeps_stop).keep (fun p u _ h => h) (fun b h => ⟨Nat.le_trans HS.out h.1, h.2⟩) (fun _ _ h => h)⟩)
 clear CU hg hc hi
 go_wp2_with fail
 go_loopw [3, 4] (fun v j wr => LpD w1.heap.size 98 2 (fun _ => StopC) stopF zStop l I I n m w1 wr v j) (fun _ j _ => (intOf j).toNat)
 case atStart => exact LpD.start w1 HI.out
 case round =>
  obtain ⟨k, t, ys, css, rfl, hk, hyl, hacc, hi, hgr, hrun⟩ := hrel
  obtain ⟨Av, cv, rfl⟩ := own_slice hacc.1
  have HACC := Lib.hid hacc
  have HGR := Lib.hid hgr
  have HRUN := Lib.hid hrun
  have HI2 := Lib.hid hi
  have HYL := Lib.hid hyl
  obtain ⟨A0, m0, c0, k0, k1, f0, f1⟩ := hi.cells
  clear hacc hgr hrun hi
  rw [hyl]
  by_cases hlt : k < n
  ·have hpos : (0 : Int) < (n : Int) - (k : Int) := by omega
   rcases t with _ | p
   ·have kk : wr.cell? ⟨I, 1, none⟩ = some (.bool false) := k1
    clear k1
    have HE := Lib.hid (HEND.out none ys css (.slice Av k cv) wr HI2.out HGR.out HRUN.out (by omega) (.inr rfl) (by have h := HACC.out; rw [HYL.out] at h; exact h))
    go_wp2_with fail
    go_ret
    exact HE.out
   ·have kk : wr.cell? ⟨I, 1, none⟩ = some (.bool true) := k1
    have CN := Lib.hid (in_num I l (some p) wr HI2.out)
    clear k1
    go_wp2_with fail
    refine CN.out.mono ?_
    rintro e w2 ⟨u, a, rfl, hi3, hg3, hst3, hy1, hy2⟩
    have HST3 := Lib.hid hst3
    have HWA := Lib.hid (wfi_num hy1 hy2)
    have HSW := Lib.hid HGR.out.size
    have HSX := Lib.hid hg3.size
    obtain ⟨W3, hW3⟩ : ∃ W, W = w2.alloc (.cells #[.int .i64 a, .int .i64 0] 98) := ⟨_, rfl⟩
    have HI4 : Hid (InD W3 I l u) := Lib.hid (by rw [hW3]; exact hi3.below ((Below.refl _ _).alloc (Nat.le_refl _) _))
    have HG4 : Hid (wr.grownBy W3 (some I)) := Lib.hid (by rw [hW3]; exact only_alloc hg3 _)
    have HBX : Hid (Blk W3 w2.heap.size 98 #[.int .i64 a, .int .i64 0]) := Lib.hid (by rw [hW3]; exact Blk.new _ _ _)
    have CN2 := Lib.hid (in_num I l u W3 HI4.out)
    have HNE : Hid (some w2.heap.size ≠ some I) := Lib.hid (by have := hi3.blk; intro e; injection e with e; omega)
    clear CN hi3 hg3 hst3 kk k0 hy1 hy2
    go_upto_region 6 with fail
    rw [← hW3]
    clear hW3
    go_wp2_with fail
    refine CN2.out.mono ?_
    rintro e w4 ⟨u2, b, rfl, hi5, hg5, hst5, hy1, hy2⟩
    have HST5 := Lib.hid (step_stop HST3.out hst5)
    have HWB := Lib.hid (wfi_num hy1 hy2)
    have hbx := HBX.out.grown hg5 HNE.out
    obtain ⟨W5, hW5⟩ : ∃ W, W = w4.setCell ⟨w2.heap.size, 1, none⟩ (.int .i64 b) := ⟨_, rfl⟩
    have HBX5 : Hid (Blk W5 w2.heap.size 98 #[.int .i64 a, .int .i64 b]) := Lib.hid (by rw [hW5]; simpa using hbx.set_ 1 (.int .i64 b))
    have HIx : I < w2.heap.size := by have := HIB.out; have := HSW.out; have := HSX.out; omega
    have HI5 : Hid (InD W5 I l u2) := Lib.hid (by rw [hW5]; exact hi5.far HIx _)
    have HG5 : Hid (wr.grownBy W5 (some I)) := Lib.hid (by rw [hW5]; exact only_setCell (only_tr HG4.out hg5) (.inr HSX.out) _)
    obtain ⟨x0, x1, z0, z1⟩ := blk2f hbx
    clear CN2 hi5 hg5 hst5 hy1 hy2 hbx HST3 HIx
    go_upto_region 7 with fail
    rw [← hW5]
    clear hW5 x0 x1 z0 z1
    obtain ⟨x0, x1, z0, z1⟩ := blk2f HBX5.out
    have HO2 : Hid ((W5.alloc (.cells #[.int .i64 a, .int .i64 b] 98)).ownsRow w1.heap.size 98 2 (.slice Av k cv) k css.flatten) := Lib.hid (by have h := LpD.own HYL.out HACC.out HIB.out (only_alloc HG5.out (.cells #[.int .i64 a, .int .i64 b] 98)); rw [HYL.out] at h; exact h)
    go_wp2_with (at_builtin; refine wpList_append_any _ rfl (.tmp 24) (.tmp 26) 43 rfl w1.heap.size 98 i0 _ 2 16 Try.underlying43 hi0 hz0 hsz0 hb0 rfl (by omega) (.slice Av k cv) k css.flatten rfl HO2.out (W5.heap.size + 1) (some ⟨W5.heap.size, 0, none⟩) 1 1 [.int .i64 a, .int .i64 b] rfl (reads_lit _ _ 2 rfl _ _) (by intro u hu; simp at hu; rcases hu with rfl | rfl <;> rfl) (by unfold maxLen; omega) (by omega) (by simp; exact Nat.le_trans HSW.out (Nat.le_succ_of_le HG5.out.size)) ?_; intro v9 w3 ho hg hat; have HO3 := Lib.hid ho; have HG6 := Lib.hid hg; have HAT4 := Lib.hid hat; clear ho hg hat)
    have HL : Hid (LpD w1.heap.size 98 2 (fun _ => StopC) stopF zStop l I I n m w1 w3 v9 (.int .i64 ((n : Int) - (k : Int) - 1))) := Lib.hid (LpD.next keeps_stop hlt HYL.out HACC.out HGR.out HRUN.out HIB.out HSW.out (only_alloc HG5.out _) (HI5.out.below ((Below.refl _ _).alloc (Nat.le_refl _) _)) HST5.out rfl ⟨rfl, HWA.out, HWB.out⟩ HO3.out (by rw [HYL.out]; exact HG6.out) (by rw [HYL.out]; exact HAT4.out))
    clear HO3 HG6 HAT4 HO2 HI5 HG5 HST5 x0 x1 z0 z1
    go_wp2_with fail
    go_roundw
    case rel => first | exact HL.out | ((repeat apply Exists.intro); exact ⟨HL.out, rfl⟩)
    case measure => simp [intOf]; omega
  ·have hpos : (n : Int) - (k : Int) ≤ 0 := by omega
   have HE := Lib.hid (HEND.out t ys css (.slice Av k cv) wr HI2.out HGR.out HRUN.out hk (.inl (by omega)) (by have h := HACC.out; rw [HYL.out] at h; exact h))
   go_wp2_with fail
   go_ret
   exact HE.out
end Go.Proofs.Ytioocaicmiggoaa

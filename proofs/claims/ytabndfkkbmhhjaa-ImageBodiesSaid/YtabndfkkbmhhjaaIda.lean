/-
  The document's reader of images: how it lies in memory, what a read leaves, and the walks of uint, num, count. Lists that the document's reader of images collects: what a loop keeps, round by round; and the walk of ints. The walk of the document's stops: a list of stops, read. A struct that is filled field by field while the document reads: what stays, call by call. No walk. The walk of the document's row: a state of a table, read. The walk of the document's code: a code, read. The walk of the document's Decode: bytes as the table whose image they are, or why they are none's. What a table is written as: the bytes by the document's words are those that the program's flow writes, and both may or may not. No walk. The walk of the law ImageDecodes, as a contract: it answers true, whatever the bytes are.
-/
import Derived.Deep.DeepCutAuto
import Derived.Test.YtabndfkkbmhhjaaIma
import Derived.Test.YtabndfkkbmhhjaaTwt
import Derived.Test.YtabndfkkbmhhjaaImb
import Derived.Test.YtabndfkkbmhhjaaTill
import Derived.Test.YtabndfkkbmhhjaaCnv
import Derived.Test.YtabndfkkbmhhjaaSpl
import Derived.Test.YtabndfkkbmhhjaaSsn
namespace Go.Proofs.Ytabndfkkbmhhjaa
set_option linter.unusedVariables false
set_option linter.unusedSimpArgs false
open Go.RowKit Go.Deep

/-- the reader at block I, over the bytes l: at a place, or gone wrong -/
def InD (w : World) (I : Nat) (l : List UInt8) (s : Option Nat) : Prop :=
  ∃ A c r, Blk w I 79 #[.slice A (List.length r) c, .bool s.isSome] ∧ r.length ≤ c ∧ c ≤ 9223372036854775807 ∧ Reads w I 1 A r.length (bv r) ∧ ∀ p, s = some p → p ≤ l.length ∧ r = l.drop p
def rdS (l : List UInt8) (p : Nat) : FSt := .rd 0 none l.length 0 l p
/-- what a part reads, from s to t -/
def StepD {α : Type} (F : FSt → α → Option (FSt × α)) (z : α) (l : List UInt8) (s t : Option Nat) (y : α) : Prop :=
  (s = none → t = none) ∧ ∀ p, s = some p → F (rdS l p) z = t.map fun q => (rdS l q, y)
section
variable {α β : Type} {F : FSt → α → Option (FSt × α)} {G : FSt → β → Option (FSt × β)} {z y a : α} {z' b : β} {l : List UInt8} {s t u : Option Nat}
theorem StepD.pair (h : StepD F z l s t a) (k : StepD G z' l t u b) : StepD (pairF F G) (z, z') l s u (a, b) := by
  refine ⟨fun e => k.1 (h.1 e), fun p e => ?_⟩
  unfold pairF
  simp only [h.2 p e]
  cases t with
  | none => rw [k.1 rfl]; rfl
  | some q =>
    simp only [Option.map_some, Option.bind_some, k.2 q rfl]
    cases u <;> rfl
theorem StepD.map_ (h : StepD F z l s t a) (e : β → α) (d : α → β) (zb : β) (he : e zb = z) : StepD (mapF e d F) zb l s t (d a) := by
  refine ⟨h.1, fun p hp => ?_⟩
  unfold mapF
  rw [he]
  simp only [h.2 p hp]
  cases t <;> rfl
theorem StepD.congr {F' : FSt → α → Option (FSt × α)} (hF : ∀ st x, F' st x = F st x) (h : StepD F z l s t a) : StepD F' z l s t a :=
  ⟨h.1, fun p hp => by rw [hF]; exact h.2 p hp⟩
theorem StepD.val (h : StepD F z l s t a) (e : a = y) : StepD F z l s t y := e ▸ h
end
theorem InD.blk {w : World} {I : Nat} {l : List UInt8} {s : Option Nat} (h : InD w I l s) : I < w.heap.size := by
  obtain ⟨A, c, r, hb, _⟩ := h
  exact hb.lt
theorem InD.below {w w' : World} {I : Nat} {l : List UInt8} {s : Option Nat} (h : InD w I l s) (hb : Below w.heap.size w w') : InD w' I l s := by
  obtain ⟨A, c, r, h1, h2, h3, h4, h5⟩ := h
  exact ⟨A, c, r, h1.below hb h1.lt, h2, h3, h4.below (hb.mono (Nat.le_of_lt h1.lt)), h5⟩
theorem InD.grown {w w' : World} {I : Nat} {l : List UInt8} {s : Option Nat} {g : Nat} (h : InD w I l s) (hb : w.grownBy w' (some g)) (hg : I < g) : InD w' I l s := by
  obtain ⟨A, c, r, h1, h2, h3, h4, h5⟩ := h
  have := h1.lt
  exact ⟨A, c, r, h1.grown hb (by simp; omega), h2, h3, h4.grown hb (by omega) (fun q hq => by cases hq; omega), h5⟩
theorem only_tr {a b c : World} {g : Nat} (h : a.grownBy b (some g)) (k : b.grownBy c (some g)) : a.grownBy c (some g) :=
  ⟨k.os.trans h.os, k.tape.trans h.tape, k.output.trans h.output, Nat.le_trans h.size k.size, fun i hi hr => (k.block i (Nat.lt_of_lt_of_le hi h.size) hr).trans (h.block i hi hr)⟩
/-- what is left behind a read that fails -/
theorem in_bad {w : World} {I : Nat} {l : List UInt8} {A : Value} {b : Bool} (h : Blk w I 79 #[A, .bool b]) : InD ((w.setCell ⟨I, 1, none⟩ (.bool false)).setCell ⟨I, 0, none⟩ (.slice none 0 0)) I l none ∧ w.grownBy ((w.setCell ⟨I, 1, none⟩ (.bool false)).setCell ⟨I, 0, none⟩ (.slice none 0 0)) (some I) := by
  refine ⟨⟨none, 0, [], ?_, Nat.le_refl _, by decide, Reads.none_, fun p hp => by cases hp⟩, ?_⟩
  · simpa using (h.set_ 1 (.bool false)).set_ 0 (.slice none 0 0)
  · exact only_setCell (only_setCell (World.grownBy.refl w (some I)) (.inl rfl) _) (.inl rfl) _
theorem in_adv {w : World} {I : Nat} {l r : List UInt8} {A A' : Option Addr} {c k : Nat} {s : Option Nat} (hb : Blk w I 79 #[.slice A r.length c, .bool s.isSome]) (hs : ∀ p, s = some p → p ≤ l.length ∧ r = l.drop p) (hk : k ≤ r.length)
    (hA : Reads w I 1 A' (r.length - k) (bv (r.drop k)) ∧ r.length ≤ c ∧ c ≤ 9223372036854775807) : InD (w.setCell ⟨I, 0, none⟩ (.slice A' (r.length - k) (c - k))) I l (s.map (· + k)) := by
  have hl : (r.drop k).length = r.length - k := List.length_drop
  refine ⟨A', c - k, r.drop k, ?_, by rw [hl]; omega, by omega, by rw [hl]; exact hA.1.setCell (Nat.le_refl _) _, ?_⟩
  · rw [hl, Option.isSome_map]
    simpa using hb.set_ 0 (.slice A' (r.length - k) (c - k))
  · intro q hq
    rcases s with _ | p
    · cases hq
    · obtain ⟨h1, h2⟩ := hs p rfl
      simp only [Option.map_some, Option.some.injEq] at hq
      subst hq
      have : r.length = l.length - p := by rw [h2, List.length_drop]
      exact ⟨by omega, by rw [h2, List.drop_drop]⟩
set_option maxRecDepth 100000 in
set_option maxHeartbeats 4000000 in
theorem in_uint (I : Nat) (l : List UInt8) (s : Option Nat) (w : World) (h : InD w I l s) :
    Calls Try.prog 41 #[.pointer (some ⟨I, 0, none⟩)] w fun e w' => ∃ (t : Option Nat) (v : Nat), e = .returned (.int .u64 v) ∧ InD w' I l t ∧ w.grownBy w' (some I) ∧ v < 18446744073709551616 ∧
      (s = none → t = none) ∧ ∀ p, s = some p → dec (l.drop p) = (t.map fun q => (v, q - p)) ∧ ∀ q, t = some q → p ≤ q := by
  obtain ⟨A, c, r, hb, hrc, hc, hr, hs⟩ := h
  have CF := Lib.hid (first_any A r.length c I r w rfl hrc hc hr)
  have k0 := hb.cell 0
  have k1 := hb.cell 1
  have f0 := hb.frozen 0
  have f1 := hb.frozen 1
  have hrl : (0 : Int) ≤ (r.length : Int) := by omega
  have HB := Lib.hid hb
  have HR := Lib.hid hr
  have HS := Lib.hid hs
  clear hb hr hs
  go_enter Try.func41, Try.ntmps41
  go_wp2_with fail
  refine CF.out.mono ?_
  rintro e w' ⟨rfl, rfl⟩
  clear CF
  rcases hd : dec r with _ | ⟨v, k⟩
  · obtain ⟨e1, e2⟩ := fst_none hd
    rw [e1, e2]
    have HD := Lib.hid hd
    clear hd e1 e2
    go_wp2_with fail
    go_ret
    have hq := in_bad (l := l) HB.out
    refine ⟨none, 0, rfl, hq.1, hq.2, by decide, fun _ => rfl, fun p hp => ⟨?_, fun q hq => by cases hq⟩⟩
    rw [← (HS.out p hp).2]
    exact HD.out
  · obtain ⟨e1, e2⟩ := fst_some hd
    rw [e1, e2]
    obtain ⟨hk, _, hkv, hv⟩ := dec_take hd
    have hk1 : 1 ≤ k := by rw [hkv]; exact (vb_len v).1
    have hkz : ((k : Int) == 0) = false := by rw [beq_eq_false_iff_ne]; omega
    have hkz2 : ((k : Int) = 0) = False := eq_false (by omega)
    have hk0 : (0 : Int) ≤ (k : Int) := by omega
    have hkr : (k : Int) ≤ (r.length : Int) := by omega
    have HD := Lib.hid hd
    have HV := Lib.hid hv
    clear hd e1 e2 hkv hv
    have hcut := HR.out.cut hk hrc
    rw [Nat.mul_one, bv_drop] at hcut
    have HIN := Lib.hid (fun A' hA => in_adv (A' := A') HB.out HS.out hk hA)
    have HEND : Hid (∀ p, s = some p → dec (l.drop p) = ((s.map (· + k)).map fun q => (v, q - p)) ∧ ∀ q, s.map (· + k) = some q → p ≤ q) := Lib.hid (fun p hp => by
      refine ⟨?_, fun q hq => ?_⟩
      · rw [← (HS.out p hp).2, HD.out, hp]
        simp
      · rw [hp] at hq
        simp only [Option.map_some, Option.some.injEq] at hq
        omega)
    by_cases hck : c = k
    · have HCK := Lib.hid hck
      rw [if_pos hck] at hcut
      have HC := Lib.hid (HIN.out _ ⟨hcut, hrc, hc⟩)
      subst hck
      rw [show r.length - c = 0 by omega, show c - c = 0 by omega] at HC
      clear hcut
      go_wp2_with fail
      go_ret
      exact ⟨s.map (· + c), v, rfl, HC.out, only_setCell (World.grownBy.refl w (some I)) (.inl rfl) _, HV.out, fun e => by rw [e]; rfl, HEND.out⟩
    · rw [if_neg hck] at hcut
      have HC := Lib.hid (HIN.out _ ⟨hcut, hrc, hc⟩)
      clear hcut
      go_wp2_with fail
      go_ret
      exact ⟨s.map (· + k), v, rfl, HC.out, only_setCell (World.grownBy.refl w (some I)) (.inl rfl) _, HV.out, fun e => by rw [e]; rfl, HEND.out⟩
theorem in_num_step {l : List UInt8} {s t : Option Nat} {v : Nat} (h1 : s = none → t = none) (h2 : ∀ p, s = some p → dec (l.drop p) = (t.map fun q => (v, q - p)) ∧ ∀ q, t = some q → p ≤ q) : StepD num 0 l s (if numOk (zag v) then t else none) (zag v) := by
  refine ⟨fun e => by rw [h1 e]; split <;> rfl, fun p hp => ?_⟩
  obtain ⟨h3, h4⟩ := h2 p hp
  unfold rdS num
  simp only [h3]
  rcases t with _ | q
  · simp
  · have := h4 q rfl
    simp only [Option.map_some]
    rw [show p + (q - p) = q by omega]
    cases numOk (zag v) <;> rfl
theorem step_none {α : Type} {F : FSt → α → Option (FSt × α)} {z a b : α} {l : List UInt8} {s : Option Nat} (h : StepD F z l s none a) : StepD F z l s none b := ⟨h.1, h.2⟩
set_option maxRecDepth 100000 in
set_option maxHeartbeats 4000000 in
theorem in_num (I : Nat) (l : List UInt8) (s : Option Nat) (w : World) (h : InD w I l s) :
    Calls Try.prog 28 #[.pointer (some ⟨I, 0, none⟩)] w fun e w' => ∃ (t : Option Nat) (y : Int), e = .returned (.int .i64 y) ∧ InD w' I l t ∧ w.grownBy w' (some I) ∧ StepD num 0 l s t y ∧ -1 ≤ y ∧ y ≤ 1152921504606846976 := by
  have CU := Lib.hid (in_uint I l s w h)
  clear h
  go_enter Try.func28, Try.ntmps28
  go_wp2_with fail
  refine CU.out.mono ?_
  rintro e w1 ⟨t, v, rfl, hi, hg, hv, h1, h2⟩
  have HST := Lib.hid (in_num_step h1 h2)
  have HI := Lib.hid hi
  have HG := Lib.hid hg
  clear CU h1 h2 hg hi
  go_wp2_with fail
  refine (signed_any v w1 hv).mono ?_
  rintro e w2 ⟨rfl, rfl⟩
  obtain ⟨Z, hZ⟩ : ∃ Z, zag v = Z := ⟨_, rfl⟩
  rw [hZ] at HST ⊢
  clear hZ
  by_cases hz : -1 ≤ Z ∧ Z ≤ 1152921504606846976
  · obtain ⟨hz1, hz2⟩ := hz
    have hok : numOk Z = true := by unfold numOk; simp [hz1, hz2]
    rw [hok, if_pos rfl] at HST
    clear hok
    go_wp2_with fail
    go_ret
    exact ⟨t, Z, rfl, HI.out, HG.out, HST.out, hz1, hz2⟩
  · have hok : numOk Z = false := by
      unfold numOk
      rw [Bool.and_eq_false_iff, decide_eq_false_iff_not, decide_eq_false_iff_not]
      omega
    rw [hok, if_neg (by decide)] at HST
    have hk : Hid (∀ (W : World), W = w1 → ∃ A b, Blk W I 79 #[A, .bool b]) := Lib.hid (fun W e => by
      obtain ⟨A, c, r, hb, _⟩ := HI.out
      rw [e]
      exact ⟨_, _, hb⟩)
    obtain ⟨A, b, hb⟩ := hk.out w1 rfl
    have k0 := hb.cell 0
    have k1 := hb.cell 1
    have f0 := hb.frozen 0
    have f1 := hb.frozen 1
    have hq := in_bad (l := l) hb
    have HB := Lib.hid hq.1
    have HQ := Lib.hid (only_tr HG.out hq.2)
    have HE : Hid (StepD num 0 l s none 0) := Lib.hid (step_none HST.out)
    clear hb hq hk hok
    rcases Int.lt_or_le Z (-1) with hlt | hge
    · go_wp2_with fail
      go_ret
      exact ⟨none, 0, rfl, HB.out, HQ.out, HE.out, by decide, by decide⟩
    · have hgt : 1152921504606846976 < Z := by omega
      go_wp2_with fail
      go_ret
      exact ⟨none, 0, rfl, HB.out, HQ.out, HE.out, by decide, by decide⟩
/-- a list's count was read -/
def CountR (l : List UInt8) (s t : Option Nat) (n : Nat) : Prop :=
  n ≤ 1024 ∧ (s = none → t = none) ∧ ∀ p, s = some p → (∃ q, t = some q ∧ num (rdS l p) 0 = some (rdS l q, (n : Int))) ∨ (t = none ∧ (num (rdS l p) 0 = none ∨ ∃ q k, num (rdS l p) 0 = some (rdS l q, k) ∧ ¬ (0 ≤ k ∧ k ≤ 1024)))
theorem count_yes {l : List UInt8} {s t : Option Nat} {n : Nat} (h : StepD num 0 l s t (n : Int)) (hn : n ≤ 1024) : CountR l s t n := by
  refine ⟨hn, h.1, fun p hp => ?_⟩
  have h2 := h.2 p hp
  rcases t with _ | q
  · exact .inr ⟨rfl, .inl h2⟩
  · exact .inl ⟨q, rfl, h2⟩
theorem count_no {l : List UInt8} {s t : Option Nat} {y : Int} (h : StepD num 0 l s t y) (hn : ¬ (0 ≤ y ∧ y ≤ 1024)) : CountR l s none 0 := by
  refine ⟨by decide, fun _ => rfl, fun p hp => .inr ⟨rfl, ?_⟩⟩
  have h2 := h.2 p hp
  rcases t with _ | q
  · exact .inl h2
  · exact .inr ⟨q, y, h2, hn⟩
theorem in_off {w : World} {I : Nat} {l : List UInt8} {s : Option Nat} (h : InD w I l s) : InD (w.setCell ⟨I, 1, none⟩ (.bool false)) I l none := by
  obtain ⟨A, c, r, h1, h2, h3, h4, h5⟩ := h
  exact ⟨A, c, r, by simpa using h1.set_ 1 (.bool false), h2, h3, h4.setCell (Nat.le_refl _) _, fun p hp => by cases hp⟩
set_option maxRecDepth 100000 in
set_option maxHeartbeats 4000000 in
theorem in_count (I : Nat) (l : List UInt8) (s : Option Nat) (w : World) (h : InD w I l s) :
    Calls Try.prog 30 #[.pointer (some ⟨I, 0, none⟩)] w fun e w' => ∃ (t : Option Nat) (n : Nat), e = .returned (.int .i64 n) ∧ InD w' I l t ∧ w.grownBy w' (some I) ∧ CountR l s t n := by
  have CU := Lib.hid (in_num I l s w h)
  clear h
  go_enter Try.func30, Try.ntmps30
  go_wp2_with fail
  refine CU.out.mono ?_
  rintro e w1 ⟨t, y, rfl, hi, hg, hst, hy1, hy2⟩
  have HST := Lib.hid hst
  have HI := Lib.hid hi
  have HG := Lib.hid hg
  clear CU hg hi hst
  by_cases hz : 0 ≤ y ∧ y ≤ 1024
  · obtain ⟨n, rfl⟩ : ∃ n : Nat, y = n := ⟨y.toNat, by omega⟩
    obtain ⟨hz1, hz2⟩ := hz
    have hn : n ≤ 1024 := by omega
    go_wp2_with fail
    go_ret
    exact ⟨t, n, rfl, HI.out, HG.out, count_yes HST.out hn⟩
  · have HC := Lib.hid (count_no HST.out hz)
    have HOF := Lib.hid (in_off HI.out)
    have HQ := Lib.hid (only_tr HG.out (only_setCell (World.grownBy.refl w1 (some I)) (p := ⟨I, 1, none⟩) (.inl rfl) (.bool false)))
    obtain ⟨A, c, r, hb, _⟩ := HI.out
    have k0 := hb.cell 0
    have k1 := hb.cell 1
    have f0 := hb.frozen 0
    have f1 := hb.frozen 1
    clear hb
    rcases Int.lt_or_le y 0 with hlt | hge
    · go_wp2_with fail
      go_ret
      exact ⟨none, 0, rfl, HOF.out, HQ.out, HC.out⟩
    · have hgt : 1024 < y := by omega
      go_wp2_with fail
      go_ret
      exact ⟨none, 0, rfl, HOF.out, HQ.out, HC.out⟩
/-- the first k elements of a list were read -/
def RunD {α : Type} (one : FSt → α → Option (FSt × α)) (z : α) (l : List UInt8) (s : Option Nat) (k : Nat) (t : Option Nat) (ys : List α) : Prop := StepD (runL one) (List.replicate k z) l s t ys
section
variable {α : Type} {one : FSt → α → Option (FSt × α)} {z : α} {l : List UInt8} {s t u : Option Nat} {k n : Nat} {ys : List α} {y : α}
theorem RunD.zero : RunD one z l s 0 s [] := by
  refine ⟨fun e => e, fun p hp => ?_⟩
  rw [hp]
  rfl
theorem runL_snoc (st : FSt) (xs : List α) (x : α) : runL one st (xs ++ [x]) = (runL one st xs).bind fun p => (one p.1 x).bind fun q => some (q.1, p.2 ++ [q.2]) := by
  induction xs generalizing st with
  | nil =>
    simp only [List.nil_append, runL, Option.bind_some]
    rcases one st x with _ | ⟨s, y⟩ <;> rfl
  | cons a xs ih =>
    simp only [List.cons_append, runL]
    rcases one st a with _ | ⟨s, y⟩
    · rfl
    · simp only [ih]
      rcases runL one s xs with _ | ⟨s2, ys⟩
      · rfl
      · simp only [Option.bind_some]
        rcases one s2 x with _ | ⟨s3, y3⟩ <;> rfl
theorem RunD.step (h : RunD one z l s k t ys) (h1 : StepD one z l t u y) : RunD one z l s (k + 1) u (ys ++ [y]) := by
  refine ⟨fun e => h1.1 (h.1 e), fun p hp => ?_⟩
  rw [List.replicate_succ', runL_snoc, h.2 p hp]
  rcases t with _ | q
  · rw [h1.1 rfl]; rfl
  · simp only [Option.map_some, Option.bind_some, h1.2 q rfl]
    rcases u with _ | q2 <;> rfl
theorem runL_stop (st : FSt) (xs ws : List α) (h : runL one st xs = none) : runL one st (xs ++ ws) = none := by
  induction xs generalizing st with
  | nil => cases h
  | cons a xs ih =>
    revert h
    simp only [List.cons_append, runL]
    rcases one st a with _ | ⟨s, y⟩
    · exact fun _ => rfl
    · simp only
      intro h
      rcases hr : runL one s xs with _ | ⟨s2, ys⟩
      · rw [ih s hr]
      · rw [hr] at h; cases h
/-- a list was read: its count, and its elements -/
theorem RunD.done {D : α → Prop} (hC : Codec D one z) (hs : ∀ p, s = some p → p ≤ l.length) {m : Option Nat} (hc : CountR l s m n) (hm : ∀ p, m = some p → p ≤ l.length) (h : RunD one z l m k t ys) (hk : k ≤ n) (he : k = n ∨ t = none) : StepD (listF one z) [] l s t ys := by
  refine ⟨fun e => h.1 (hc.2.1 e), fun p hp => ?_⟩
  have hn := hc.1
  unfold listF
  rw [if_neg (by simp)]
  show (match num (rdS l p) 0 with | none => none | some (.rd R A n c l p, k) => if 0 ≤ k ∧ k ≤ 1024 ∧ k ≤ ((n - p : Nat) : Int) then runL one (.rd R A n c l p) (List.replicate k.toNat z) else none | some (.wr bs, _) => runL one (.wr bs) []) = _
  rcases hc.2.2 p hp with ⟨q, rfl, h1⟩ | ⟨rfl, h1 | ⟨q, j, h1, h2⟩⟩
  · rw [h1]
    show (if 0 ≤ (n : Int) ∧ (n : Int) ≤ 1024 ∧ (n : Int) ≤ ((l.length - q : Nat) : Int) then runL one (rdS l q) (List.replicate n z) else none) = _
    have h3 := h.2 q rfl
    rcases t with _ | q2
    · have h4 : runL one (rdS l q) (List.replicate n z) = none := by
        have h5 := runL_stop _ _ (List.replicate (n - k) z) h3
        rw [List.replicate_append_replicate, show k + (n - k) = n by omega] at h5
        exact h5
      rw [h4]
      simp
    · have hkn : k = n := by
        rcases he with he | he
        · exact he
        · cases he
      subst hkn
      simp only [Option.map_some] at h3
      obtain ⟨h4, h5, m', rest, h6, h7, h8⟩ := run_got hC k 0 none l.length 0 l q _ _ rfl (hm q rfl) h3
      obtain ⟨_, m2, h9, h10, _⟩ := run_enc hC ys [] _ _ h5 (h8 [])
      simp only [List.nil_append, FSt.wr.injEq] at h10
      subst h10
      have h11 := drop_le rfl (hm q rfl) h6
      rw [if_pos ⟨by omega, by omega, by omega⟩, h3]
      rfl
  · rw [h1, h.1 rfl]
    rfl
  · rw [h1, h.1 rfl]
    show (if 0 ≤ j ∧ j ≤ 1024 ∧ j ≤ ((l.length - q : Nat) : Int) then _ else none) = _
    rw [if_neg (fun e => h2 ⟨e.1, e.2.1⟩)]
    rfl
end
theorem InD.at_ {w : World} {I : Nat} {l : List UInt8} {s : Option Nat} (h : InD w I l s) : ∀ p, s = some p → p ≤ l.length := by
  obtain ⟨A, c, r, _, _, _, _, h5⟩ := h
  exact fun p hp => (h5 p hp).1
end Go.Proofs.Ytabndfkkbmhhjaa
namespace Go.Proofs.Ytabndfkkbmhhjaa
set_option linter.unusedVariables false
set_option linter.unusedSimpArgs false
open Go.RowKit Go.Deep

/-- of the blocks below B, all but I and g stay -/
def GrD (B I g : Nat) (w w' : World) : Prop := w'.os = w.os ∧ w'.tape = w.tape ∧ w'.output = w.output ∧ w.heap.size ≤ w'.heap.size ∧ ∀ i, i < B → i ≠ I → i ≠ g → w'.heap[i]? = w.heap[i]?
section
variable {B I g : Nat} {w w' w2 w3 : World}
theorem GrD.refl (B I g : Nat) (w : World) : GrD B I g w w := ⟨rfl, rfl, rfl, Nat.le_refl _, fun _ _ _ _ => rfl⟩
theorem GrD.trans (h : GrD B I g w w2) (k : GrD B I g w2 w3) : GrD B I g w w3 :=
  ⟨k.1.trans h.1, k.2.1.trans h.2.1, k.2.2.1.trans h.2.2.1, Nat.le_trans h.2.2.2.1 k.2.2.2.1, fun i h1 h2 h3 => (k.2.2.2.2 i h1 h2 h3).trans (h.2.2.2.2 i h1 h2 h3)⟩
theorem GrD.size (h : GrD B I g w w2) : w.heap.size ≤ w2.heap.size := h.2.2.2.1
theorem GrD.of_grown {row : Option Nat} (h : w.grownBy w2 row) (hB : B ≤ w.heap.size) (hr : ∀ x, row = some x → x = I ∨ x = g ∨ B ≤ x) : GrD B I g w w2 :=
  ⟨h.os, h.tape, h.output, h.size, fun i h1 h2 h3 => h.block i (by omega) (fun e => by rcases hr i e.symm with h4 | h4 | h4 <;> omega)⟩
theorem GrD.grown (h : GrD B I g w w2) {row : Option Nat} (k : w2.grownBy w3 row) (hB : B ≤ w2.heap.size) (hr : ∀ x, row = some x → x = I ∨ x = g ∨ B ≤ x) : GrD B I g w w3 := h.trans (GrD.of_grown k hB hr)
theorem GrD.call (h : GrD B I g w w2) (k : w2.grownBy w3 (some I)) (hB : B ≤ w2.heap.size) : GrD B I g w w3 := h.grown k hB (fun x e => by cases e; exact .inl rfl)
theorem GrD.alloc (h : GrD B I g w w2) (hB : B ≤ w2.heap.size) (o : Obj) : GrD B I g w (w2.alloc o) := h.grown (only_alloc (World.grownBy.refl w2 none) o) hB (fun x e => by cases e)
theorem GrD.set_ (h : GrD B I g w w2) {a : Addr} (ha : a.block = I ∨ a.block = g ∨ B ≤ a.block) (u : Value) : GrD B I g w (w2.setCell a u) :=
  ⟨h.1, h.2.1, h.2.2.1, by simpa using h.2.2.2.1, fun i h1 h2 h3 => (Below.heap_setCell w2 a u i (by omega)).trans (h.2.2.2.2 i h1 h2 h3)⟩
theorem GrD.mono {B' : Nat} (h : GrD B I g w w2) (hB : B' ≤ B) : GrD B' I g w w2 := ⟨h.1, h.2.1, h.2.2.1, h.2.2.2.1, fun i h1 => h.2.2.2.2 i (by omega)⟩
theorem GrD.turn {g' : Nat} (h : GrD B I g w w2) (hg : g = g' ∨ B ≤ g ∨ g = I) : GrD B I g' w w2 := ⟨h.1, h.2.1, h.2.2.1, h.2.2.2.1, fun i h1 h2 h3 => h.2.2.2.2 i h1 h2 (by omega)⟩
theorem GrD.out (h : GrD w.heap.size I I w w2) : w.grownBy w2 (some I) := ⟨h.1, h.2.1, h.2.2.1, h.2.2.2.1, fun i h1 h2 => h.2.2.2.2 i h1 (fun e => h2 (by rw [e])) (fun e => h2 (by rw [e]))⟩
end
section
variable {α : Type} {B : Nat} {e : TypeId} {F : Nat} {R : (Nat → Prop) → World → List Value → α → Prop} {w w' w2 w3 : World} {v v' : Value} {xs : List α} {css : List (List Value)}
theorem Acc.keepB (hR : KeepsQ R) (h : Acc B e F R w v xs css) (hs : w.heap.size ≤ w'.heap.size) (hb : ∀ i, B ≤ i → i < w.heap.size → w'.heap[i]? = w.heap[i]?) : Acc B e F R w' v xs css := by
  refine ⟨?_, h.2.keep fun cs x hx => hR _ _ _ _ _ _ hx (fun p u hq hp => (World.cell?_of_block (hb p.block hq.1 hq.2.1)).trans hp) fun b hq => ⟨hq.1, Nat.lt_of_lt_of_le hq.2.1 hs, hq.2.2⟩⟩
  refine ⟨h.1.1, ?_⟩
  rcases h.1.2 with h1 | ⟨g, cap, cur, hv, hB, hh, hr⟩
  · exact .inl h1
  · have hlt : g < w.heap.size := (Array.getElem?_eq_some_iff.1 hh).1
    exact .inr ⟨g, cap, cur, hv, hB, (hb g hB hlt).trans hh, hr⟩
theorem Acc.stepB (hR : KeepsQ R) (h : Acc B e F R w v xs css) (hBw : B ≤ w.heap.size) (hs : w.heap.size ≤ w2.heap.size) (hb : ∀ i, B ≤ i → i < w.heap.size → w2.heap[i]? = w.heap[i]?) {cs : List Value} {x : α} (hl : cs.length = F) (hx : R (fun b => w.heap.size ≤ b ∧ b < w2.heap.size) w2 cs x)
    (ho : w3.ownsRow B e F v' (xs.length + 1) (css.flatten ++ cs)) (hg : w2.grownBy w3 v.ownBlock) (hat : v'.ownBlock = v.ownBlock ∨ v'.ownBlock = some w2.heap.size) : Acc B e F R w3 v' (xs ++ [x]) (css ++ [cs]) := by
  have hvlt : ∀ g, v.ownBlock = some g → g < w.heap.size := fun g hg => (own_lt h.1 hg).1
  have hne : ∀ b, some b ≠ v.ownBlock → b < w2.heap.size → some b ≠ v'.ownBlock := fun b h1 h2 => by
    rcases hat with h3 | h3
    · rw [h3]; exact h1
    · rw [h3]; intro e; injection e with e; omega
  refine ⟨?_, FlatR.snoc ?_ hl ?_⟩
  · rw [List.length_append, List.flatten_append]
    simpa using ho
  · refine h.2.keep fun cs x hx => hR _ _ _ _ _ _ hx ?_ fun b hq => ⟨hq.1, Nat.lt_of_lt_of_le hq.2.1 (Nat.le_trans hs hg.size), hne b hq.2.2 (Nat.lt_of_lt_of_le hq.2.1 hs)⟩
    refine KeepQ.trans (w' := w2) (fun p u hq hp => (World.cell?_of_block (hb p.block hq.1 hq.2.1)).trans hp) (KeepQ.of_grown hg fun b hq => hq.2.2)
  · have hself : ∀ b, w.heap.size ≤ b → some b ≠ v.ownBlock := fun b hb2 e => by have := hvlt b e.symm; omega
    exact hR _ _ _ _ _ _ hx (KeepQ.of_grown hg fun b hq => hself b hq.1) fun b hq => ⟨Nat.le_trans hBw hq.1, Nat.lt_of_lt_of_le hq.2 hg.size, hne b (hself b hq.1) hq.2⟩
end
theorem InD.far {w : World} {I : Nat} {l : List UInt8} {s : Option Nat} (h : InD w I l s) {a : Addr} (ha : I < a.block) (u : Value) : InD (w.setCell a u) I l s := by
  obtain ⟨A, c, r, h1, h2, h3, h4, h5⟩ := h
  exact ⟨A, c, r, h1.far (by omega) u, h2, h3, h4.setCell (by omega) u, h5⟩
theorem InD.grownV {w w' : World} {I : Nat} {l : List UInt8} {s : Option Nat} {row : Option Nat} (h : InD w I l s) (hb : w.grownBy w' row) (hg : ∀ g, row = some g → I < g) : InD w' I l s := by
  rcases row with _ | g
  · exact h.below (below_of_grown hb)
  · exact h.grown hb (hg g rfl)
theorem InD.cells {w : World} {I : Nat} {l : List UInt8} {s : Option Nat} (h : InD w I l s) : ∃ A m c, w.cell? ⟨I, 0, none⟩ = some (.slice A m c) ∧ w.cell? ⟨I, 1, none⟩ = some (.bool s.isSome) ∧ w.frozen? ⟨I, 0, none⟩ = false ∧ w.frozen? ⟨I, 1, none⟩ = false := by
  obtain ⟨A, c, r, h1, h2, h3, h4, h5⟩ := h
  exact ⟨A, r.length, c, h1.cell 0, h1.cell 1, h1.frozen 0, h1.frozen 1⟩
theorem reads_lit (w : World) (cs : Array Value) (F : Nat) (hF : cs.size = F) (e : TypeId) (m : Nat × Nat) : Reads (w.alloc (.cells cs e m)) (w.heap.size + 1) F (some ⟨w.heap.size, 0, none⟩) 1 cs.toList := by
  refine ⟨by simp [hF], fun _ => ⟨_, rfl, by simp, fun j u hu => ?_⟩⟩
  rw [Go.WideShapes.add_plain, Nat.zero_add, cell_of_row _ _ j _ _ _ (heap_alloc_new w _)]
  simpa using hu
/-- what a loop that reads a list keeps: the list v, what is left to read j -/
def LpD {α : Type} (B : Nat) (e : TypeId) (F : Nat) (R : (Nat → Prop) → World → List Value → α → Prop) (one : FSt → α → Option (FSt × α)) (z : α) (l : List UInt8) (I g n : Nat) (m : Option Nat) (w wr : World) (v j : Value) : Prop :=
  ∃ (k : Nat) (t : Option Nat) (ys : List α) (css : List (List Value)), j = .int .i64 ((n : Int) - (k : Int)) ∧ k ≤ n ∧ ys.length = k ∧ Acc B e F R wr v ys css ∧ InD wr I l t ∧ GrD B I g w wr ∧ RunD one z l m k t ys
section
variable {α : Type} {B : Nat} {e : TypeId} {F : Nat} {R : (Nat → Prop) → World → List Value → α → Prop} {one : FSt → α → Option (FSt × α)} {z : α} {l : List UInt8} {I g n : Nat} {m : Option Nat} {w wr : World} {v v' j : Value}
theorem LpD.start (w : World) (h : InD w I l m) : LpD B e F R one z l I g n m w w (.slice none 0 0) (.int .i64 (n : Int)) :=
  ⟨0, m, [], [], by simp, Nat.zero_le _, rfl, Acc.nil _, h, GrD.refl _ _ _ _, RunD.zero⟩
/-- one element more -/
theorem LpD.next {k : Nat} {t u : Option Nat} {ys : List α} {css : List (List Value)} {x : α} {cs : List Value} {w2 w3 : World} (hR : KeepsQ R) (hk : k < n) (hyl : ys.length = k) (hacc : Acc B e F R wr v ys css) (hgr : GrD B I g w wr) (hrun : RunD one z l m k t ys)
    (hIB : I < B) (hB : B ≤ wr.heap.size) (h2 : wr.grownBy w2 (some I)) (hi : InD w2 I l u) (hst : StepD one z l t u x) (hl : cs.length = F) (hx : R (fun b => wr.heap.size ≤ b ∧ b < w2.heap.size) w2 cs x)
    (ho : w3.ownsRow B e F v' (k + 1) (css.flatten ++ cs)) (hg : w2.grownBy w3 v.ownBlock) (hat : v'.ownBlock = v.ownBlock ∨ v'.ownBlock = some w2.heap.size) :
    LpD B e F R one z l I g n m w w3 v' (.int .i64 ((n : Int) - (k : Int) - 1)) := by
  have hvB : ∀ q, v.ownBlock = some q → B ≤ q := fun q hq => (own_lt hacc.1 hq).2
  refine ⟨k + 1, u, ys ++ [x], css ++ [cs], by congr 1; omega, hk, by simp [hyl], ?_, ?_, ?_, hrun.step hst⟩
  · exact hacc.stepB hR hB h2.size (fun i h3 h4 => h2.block i h4 (fun e => by injection e with e; omega)) hl hx (by rw [hyl]; exact ho) hg hat
  · exact hi.grownV hg (fun q hq => by have := hvB q hq; omega)
  · exact (hgr.call h2 hB).grown hg (Nat.le_trans hB h2.size) (fun q hq => .inr (.inr (hvB q hq)))
theorem LpD.set_ (hR : KeepsQ R) (h : LpD B e F R one z l I g n m w wr v j) (hg : g < B) (hI : I < g) (i : Nat) (u : Value) : LpD B e F R one z l I g n m w (wr.setCell ⟨g, i, none⟩ u) v j := by
  obtain ⟨k, t, ys, css, h1, h2, h3, h4, h5, h6, h7⟩ := h
  exact ⟨k, t, ys, css, h1, h2, h3, h4.keepB hR (by simp) (fun q h8 h9 => Below.heap_setCell wr _ u q (by simp only; omega)), h5.far hI u, h6.set_ (.inr (.inl rfl)) u, h7⟩
theorem LpD.own {k : Nat} {ys : List α} {css : List (List Value)} (hyl : ys.length = k) (hacc : Acc B e F R wr v ys css) (hIB : I < B) {w2 : World} (h2 : wr.grownBy w2 (some I)) : w2.ownsRow B e F v k css.flatten := by
  rw [← hyl]
  exact hacc.1.kept h2 (.inr (fun e => by have := (own_lt hacc.1 e).2; omega))
end
theorem step_int {l : List UInt8} {s t : Option Nat} {y : Int} (h : StepD num 0 l s t y) : StepD intF 0 l s t y :=
  h.congr fun st x => by
    unfold intF
    rw [run1_bind]
    rcases num st x with _ | ⟨s, y⟩ <;> rfl
theorem wfi_num {y : Int} (h1 : -1 ≤ y) (h2 : y ≤ 1152921504606846976) : wfi y := by
  unfold wfi
  simp [Lit.wf, IntKind.min, IntKind.max, IntKind.bits, IntKind.signed]
  omega
set_option maxRecDepth 100000 in
set_option maxHeartbeats 4000000 in
theorem in_ints (I : Nat) (l : List UInt8) (s : Option Nat) (w : World) (h : InD w I l s) :
    Calls Try.prog 29 #[.pointer (some ⟨I, 0, none⟩)] w fun e w' => ∃ (t : Option Nat) (ys : List Int) (v : Value), e = .returned v ∧ InD w' I l t ∧ w.grownBy w' (some I) ∧ StepD (listF intF 0) [] l s t ys ∧ SlQ (fun b => w.heap.size ≤ b ∧ b < w'.heap.size) 1 IntC w' v ys := by
  have CU := Lib.hid (in_count I l s w h)
  have HAT := Lib.hid h.at_
  have HIW := Lib.hid h.blk
  obtain ⟨i0, hi0, hz0, hsz0, hb0⟩ := info_parts info_int
  clear h
  go_enter Try.func29, Try.ntmps29
  go_wp2_with fail
  refine CU.out.mono ?_
  rintro e w1 ⟨m, n, rfl, hi, hg, hc⟩
  have HC := Lib.hid hc
  have HG := Lib.hid hg
  have HMT := Lib.hid hi.at_
  have HS := Lib.hid hg.size
  have hn := hc.1
  have HI := Lib.hid hi
  have HEND : Hid (∀ t ys css v W, InD W I l t → GrD w1.heap.size I I w1 W → ∀ {k : Nat}, RunD intF 0 l m k t ys → k ≤ n → (k = n ∨ t = none) → Acc w1.heap.size 3 1 (fun _ => IntC) W v ys css →
      ∃ (t : Option Nat) (ys : List Int) (v' : Value), Ending.returned v = .returned v' ∧ InD W I l t ∧ w.grownBy W (some I) ∧ StepD (listF intF 0) [] l s t ys ∧ SlQ (fun b => w.heap.size ≤ b ∧ b < W.heap.size) 1 IntC W v' ys) := Lib.hid (fun t ys css v W h1 h2 k h3 h4 h5 h6 =>
    ⟨t, ys, v, rfl, h1, only_tr HG.out h2.out, h3.done codec_int HAT.out HC.out HMT.out h4 h5, (h6.done keeps_int).keep (fun p u _ h => h) (fun b h => ⟨Nat.le_trans HS.out h.1, h.2⟩) (fun _ _ h => h)⟩)
  clear CU hg hc hi
  go_wp2_with fail
  go_loopw [3, 4] (fun v j wr => LpD w1.heap.size 3 1 (fun _ => IntC) intF 0 l I I n m w1 wr v j) (fun _ j _ => (intOf j).toNat)
  case atStart => exact LpD.start w1 HI.out
  case round =>
    obtain ⟨k, t, ys, css, rfl, hk, hyl, hacc, hi, hgr, hrun⟩ := hrel
    obtain ⟨Av, cv, rfl⟩ := own_slice hacc.1
    have HACC := Lib.hid hacc
    have HGR := Lib.hid hgr
    have HRUN := Lib.hid hrun
    have HI2 := Lib.hid hi
    have HYL := Lib.hid hyl
    obtain ⟨A0, m0, c0, k0, k1, f0, f1⟩ := hi.cells
    clear hacc hgr hrun hi
    rw [hyl]
    by_cases hlt : k < n
    · have hpos : (0 : Int) < (n : Int) - (k : Int) := by omega
      rcases t with _ | p
      · have kk : wr.cell? ⟨I, 1, none⟩ = some (.bool false) := k1
        clear k1
        have HE := Lib.hid (HEND.out none ys css (.slice Av k cv) wr HI2.out HGR.out HRUN.out (by omega) (.inr rfl) (by have h := HACC.out; rw [HYL.out] at h; exact h))
        go_wp2_with fail
        go_ret
        exact HE.out
      · have kk : wr.cell? ⟨I, 1, none⟩ = some (.bool true) := k1
        have CN := Lib.hid (in_num I l (some p) wr HI2.out)
        clear k1
        go_wp2_with fail
        refine CN.out.mono ?_
        rintro e w2 ⟨u, y, rfl, hi3, hg3, hst3, hy1, hy2⟩
        have HI3 := Lib.hid hi3
        have HG3 := Lib.hid hg3
        have HST3 := Lib.hid hst3
        have HWY := Lib.hid (wfi_num hy1 hy2)
        have HSW := Lib.hid HGR.out.size
        have HO2 : Hid ((w2.alloc (.cells #[.int .i64 y] 3)).ownsRow w1.heap.size 3 1 (.slice Av k cv) k css.flatten) := Lib.hid (by have h := LpD.own HYL.out HACC.out (Nat.lt_of_lt_of_le HIW.out HS.out) (only_alloc HG3.out (.cells #[.int .i64 y] 3)); rw [HYL.out] at h; exact h)
        clear CN hi3 hg3 hst3 kk k0
        have hk9 : k + 1 ≤ 1024 := by omega
        go_wp2_with (at_builtin; refine wpList_append_any _ rfl (.tmp 17) (.tmp 20) 22 rfl w1.heap.size 3 i0 _ 1 8 Try.underlying22 hi0 hz0 hsz0 hb0 rfl (by omega) (.slice Av k cv) k css.flatten rfl HO2.out (w2.heap.size + 1) (some ⟨w2.heap.size, 0, none⟩) 1 1 [.int .i64 y] rfl (reads_one _ _ _ _) (by intro u hu; simp at hu; subst hu; rfl) (by unfold maxLen; omega) (by omega) (by simp; exact Nat.le_trans HSW.out (Nat.le_succ_of_le HG3.out.size)) ?_; intro v9 w3 ho hg hat; have HO3 := Lib.hid ho; have HG4 := Lib.hid hg; have HAT4 := Lib.hid hat; clear ho hg hat)
        have HL : Hid (LpD w1.heap.size 3 1 (fun _ => IntC) intF 0 l I I n m w1 w3 v9 (.int .i64 ((n : Int) - (k : Int) - 1))) := Lib.hid (LpD.next keeps_int hlt HYL.out HACC.out HGR.out HRUN.out (Nat.lt_of_lt_of_le HIW.out HS.out) HSW.out (only_alloc HG3.out _) (HI3.out.below ((Below.refl _ _).alloc (Nat.le_refl _) _)) (step_int HST3.out) rfl ⟨rfl, HWY.out⟩ HO3.out (by rw [HYL.out]; exact HG4.out) (by rw [HYL.out]; exact HAT4.out))
        clear HO3 HG4 HAT4 HO2 HI3 HG3 HST3
        go_wp2_with fail
        go_roundw
        case rel => first | exact HL.out | ((repeat apply Exists.intro); exact ⟨HL.out, rfl⟩)
        case measure => simp [intOf]; omega
    · have hpos : (n : Int) - (k : Int) ≤ 0 := by omega
      have HE := Lib.hid (HEND.out t ys css (.slice Av k cv) wr HI2.out HGR.out HRUN.out hk (.inl (by omega)) (by have h := HACC.out; rw [HYL.out] at h; exact h))
      go_wp2_with fail
      go_ret
      exact HE.out
end Go.Proofs.Ytabndfkkbmhhjaa
namespace Go.Proofs.Ytabndfkkbmhhjaa
set_option linter.unusedVariables false
set_option linter.unusedSimpArgs false
open Go.RowKit Go.Deep

theorem step_stop {l : List UInt8} {s t u : Option Nat} {a b : Int} (h : StepD num 0 l s t a) (k : StepD num 0 l t u b) : StepD stopF zStop l s u ⟨a, b⟩ :=
  ((h.pair k).map_ (fun x : TStop => (x.ty, x.gd)) (fun p => ⟨p.1, p.2⟩) zStop rfl).congr fun st x => by
    simp only [stopF, run2_bind, mapF, pairF, Option.bind_assoc, Option.bind_some, List.getD_cons_zero, List.getD_cons_succ]
theorem blk2f {w : World} {g : Nat} {t : TypeId} {a b : Value} (h : Blk w g t #[a, b]) : w.cell? ⟨g, 0, none⟩ = some a ∧ w.cell? ⟨g, 1, none⟩ = some b ∧ w.frozen? ⟨g, 0, none⟩ = false ∧ w.frozen? ⟨g, 1, none⟩ = false := ⟨h.cell 0, h.cell 1, h.frozen 0, h.frozen 1⟩
set_option maxRecDepth 100000 in
set_option maxHeartbeats 4000000 in
theorem in_stops (I : Nat) (l : List UInt8) (s : Option Nat) (w : World) (h : InD w I l s) :
    Calls Try.prog 42 #[.pointer (some ⟨I, 0, none⟩)] w fun e w' => ∃ (t : Option Nat) (ys : List TStop) (v : Value), e = .returned v ∧ InD w' I l t ∧ w.grownBy w' (some I) ∧ StepD (listF stopF zStop) [] l s t ys ∧ SlQ (fun b => w.heap.size ≤ b ∧ b < w'.heap.size) 2 StopC w' v ys := by
  have CU := Lib.hid (in_count I l s w h)
  have HAT := Lib.hid h.at_
  have HIW := Lib.hid h.blk
  obtain ⟨i0, hi0, hz0, hsz0, hb0⟩ := info_parts info_stop
  clear h
  go_enter Try.func42, Try.ntmps42
  go_wp2_with fail
  refine CU.out.mono ?_
  rintro e w1 ⟨m, n, rfl, hi, hg, hc⟩
  have HC := Lib.hid hc
  have HG := Lib.hid hg
  have HMT := Lib.hid hi.at_
  have HS := Lib.hid hg.size
  have HIB : Hid (I < w1.heap.size) := Lib.hid hi.blk
  have hn := hc.1
  have HI := Lib.hid hi
  have HEND : Hid (∀ t ys css v W, InD W I l t → GrD w1.heap.size I I w1 W → ∀ {k : Nat}, RunD stopF zStop l m k t ys → k ≤ n → (k = n ∨ t = none) → Acc w1.heap.size 121 2 (fun _ => StopC) W v ys css →
      ∃ (t : Option Nat) (ys : List TStop) (v' : Value), Ending.returned v = .returned v' ∧ InD W I l t ∧ w.grownBy W (some I) ∧ StepD (listF stopF zStop) [] l s t ys ∧ SlQ (fun b => w.heap.size ≤ b ∧ b < W.heap.size) 2 StopC W v' ys) := Lib.hid (fun t ys css v W h1 h2 k h3 h4 h5 h6 =>
    ⟨t, ys, v, rfl, h1, only_tr HG.out h2.out, h3.done codec_stop HAT.out HC.out HMT.out h4 h5, (h6.done keeps_stop).keep (fun p u _ h => h) (fun b h => ⟨Nat.le_trans HS.out h.1, h.2⟩) (fun _ _ h => h)⟩)
  clear CU hg hc hi
  go_wp2_with fail
  go_loopw [3, 4] (fun v j wr => LpD w1.heap.size 121 2 (fun _ => StopC) stopF zStop l I I n m w1 wr v j) (fun _ j _ => (intOf j).toNat)
  case atStart => exact LpD.start w1 HI.out
  case round =>
    obtain ⟨k, t, ys, css, rfl, hk, hyl, hacc, hi, hgr, hrun⟩ := hrel
    obtain ⟨Av, cv, rfl⟩ := own_slice hacc.1
    have HACC := Lib.hid hacc
    have HGR := Lib.hid hgr
    have HRUN := Lib.hid hrun
    have HI2 := Lib.hid hi
    have HYL := Lib.hid hyl
    obtain ⟨A0, m0, c0, k0, k1, f0, f1⟩ := hi.cells
    clear hacc hgr hrun hi
    rw [hyl]
    by_cases hlt : k < n
    · have hpos : (0 : Int) < (n : Int) - (k : Int) := by omega
      rcases t with _ | p
      · have kk : wr.cell? ⟨I, 1, none⟩ = some (.bool false) := k1
        clear k1
        have HE := Lib.hid (HEND.out none ys css (.slice Av k cv) wr HI2.out HGR.out HRUN.out (by omega) (.inr rfl) (by have h := HACC.out; rw [HYL.out] at h; exact h))
        go_wp2_with fail
        go_ret
        exact HE.out
      · have kk : wr.cell? ⟨I, 1, none⟩ = some (.bool true) := k1
        have CN := Lib.hid (in_num I l (some p) wr HI2.out)
        clear k1
        go_wp2_with fail
        refine CN.out.mono ?_
        rintro e w2 ⟨u, a, rfl, hi3, hg3, hst3, hy1, hy2⟩
        have HST3 := Lib.hid hst3
        have HWA := Lib.hid (wfi_num hy1 hy2)
        have HSW := Lib.hid HGR.out.size
        have HSX := Lib.hid hg3.size
        obtain ⟨W3, hW3⟩ : ∃ W, W = w2.alloc (.cells #[.int .i64 a, .int .i64 0] 121) := ⟨_, rfl⟩
        have HI4 : Hid (InD W3 I l u) := Lib.hid (by rw [hW3]; exact hi3.below ((Below.refl _ _).alloc (Nat.le_refl _) _))
        have HG4 : Hid (wr.grownBy W3 (some I)) := Lib.hid (by rw [hW3]; exact only_alloc hg3 _)
        have HBX : Hid (Blk W3 w2.heap.size 121 #[.int .i64 a, .int .i64 0]) := Lib.hid (by rw [hW3]; exact Blk.new _ _ _)
        have CN2 := Lib.hid (in_num I l u W3 HI4.out)
        have HNE : Hid (some w2.heap.size ≠ some I) := Lib.hid (by have := hi3.blk; intro e; injection e with e; omega)
        clear CN hi3 hg3 hst3 kk k0 hy1 hy2
        go_upto_region 6 with fail
        rw [← hW3]
        clear hW3
        go_wp2_with fail
        refine CN2.out.mono ?_
        rintro e w4 ⟨u2, b, rfl, hi5, hg5, hst5, hy1, hy2⟩
        have HST5 := Lib.hid (step_stop HST3.out hst5)
        have HWB := Lib.hid (wfi_num hy1 hy2)
        have hbx := HBX.out.grown hg5 HNE.out
        obtain ⟨W5, hW5⟩ : ∃ W, W = w4.setCell ⟨w2.heap.size, 1, none⟩ (.int .i64 b) := ⟨_, rfl⟩
        have HBX5 : Hid (Blk W5 w2.heap.size 121 #[.int .i64 a, .int .i64 b]) := Lib.hid (by rw [hW5]; simpa using hbx.set_ 1 (.int .i64 b))
        have HIx : I < w2.heap.size := by have := HIB.out; have := HSW.out; have := HSX.out; omega
        have HI5 : Hid (InD W5 I l u2) := Lib.hid (by rw [hW5]; exact hi5.far HIx _)
        have HG5 : Hid (wr.grownBy W5 (some I)) := Lib.hid (by rw [hW5]; exact only_setCell (only_tr HG4.out hg5) (.inr HSX.out) _)
        obtain ⟨x0, x1, z0, z1⟩ := blk2f hbx
        clear CN2 hi5 hg5 hst5 hy1 hy2 hbx HST3 HIx
        go_upto_region 7 with fail
        rw [← hW5]
        clear hW5 x0 x1 z0 z1
        obtain ⟨x0, x1, z0, z1⟩ := blk2f HBX5.out
        have HO2 : Hid ((W5.alloc (.cells #[.int .i64 a, .int .i64 b] 121)).ownsRow w1.heap.size 121 2 (.slice Av k cv) k css.flatten) := Lib.hid (by have h := LpD.own HYL.out HACC.out HIB.out (only_alloc HG5.out (.cells #[.int .i64 a, .int .i64 b] 121)); rw [HYL.out] at h; exact h)
        go_wp2_with (at_builtin; refine wpList_append_any _ rfl (.tmp 24) (.tmp 26) 47 rfl w1.heap.size 121 i0 _ 2 16 Try.underlying47 hi0 hz0 hsz0 hb0 rfl (by omega) (.slice Av k cv) k css.flatten rfl HO2.out (W5.heap.size + 1) (some ⟨W5.heap.size, 0, none⟩) 1 1 [.int .i64 a, .int .i64 b] rfl (reads_lit _ _ 2 rfl _ _) (by intro u hu; simp at hu; rcases hu with rfl | rfl <;> rfl) (by unfold maxLen; omega) (by omega) (by simp; exact Nat.le_trans HSW.out (Nat.le_succ_of_le HG5.out.size)) ?_; intro v9 w3 ho hg hat; have HO3 := Lib.hid ho; have HG6 := Lib.hid hg; have HAT4 := Lib.hid hat; clear ho hg hat)
        have HL : Hid (LpD w1.heap.size 121 2 (fun _ => StopC) stopF zStop l I I n m w1 w3 v9 (.int .i64 ((n : Int) - (k : Int) - 1))) := Lib.hid (LpD.next keeps_stop hlt HYL.out HACC.out HGR.out HRUN.out HIB.out HSW.out (only_alloc HG5.out _) (HI5.out.below ((Below.refl _ _).alloc (Nat.le_refl _) _)) HST5.out rfl ⟨rfl, HWA.out, HWB.out⟩ HO3.out (by rw [HYL.out]; exact HG6.out) (by rw [HYL.out]; exact HAT4.out))
        clear HO3 HG6 HAT4 HO2 HI5 HG5 HST5 x0 x1 z0 z1
        go_wp2_with fail
        go_roundw
        case rel => first | exact HL.out | ((repeat apply Exists.intro); exact ⟨HL.out, rfl⟩)
        case measure => simp [intOf]; omega
    · have hpos : (n : Int) - (k : Int) ≤ 0 := by omega
      have HE := Lib.hid (HEND.out t ys css (.slice Av k cv) wr HI2.out HGR.out HRUN.out hk (.inl (by omega)) (by have h := HACC.out; rw [HYL.out] at h; exact h))
      go_wp2_with fail
      go_ret
      exact HE.out
end Go.Proofs.Ytabndfkkbmhhjaa
namespace Go.Proofs.Ytabndfkkbmhhjaa
set_option linter.unusedVariables false
set_option linter.unusedSimpArgs false
open Go.RowKit Go.Deep

/-- kept by whatever leaves all blocks but I and G -/
def KeepsP (I G : Nat) (P : World → Prop) : Prop := ∀ W W', GrD W.heap.size I G W W' → P W → P W'
theorem KeepsP.true_ {I G : Nat} : KeepsP I G (fun _ => True) := fun _ _ _ _ => trivial
theorem KeepsP.and_ {I G : Nat} {P Q : World → Prop} (h : KeepsP I G P) (k : KeepsP I G Q) : KeepsP I G (fun W => P W ∧ Q W) := fun W W' g p => ⟨h W W' g p.1, k W W' g p.2⟩
theorem KeepsP.blk {I G g : Nat} {t : TypeId} {cs : Array Value} (h1 : g ≠ I) (h2 : g ≠ G) : KeepsP I G (fun W => Blk W g t cs) := fun W W' k h => (k.2.2.2.2 g h.lt h1 h2).trans h
def SlP {α : Type} (G F : Nat) (R : (Nat → Prop) → World → List Value → α → Prop) (v : Value) (xs : List α) (W : World) : Prop := SlQ (fun b => G < b ∧ b < W.heap.size) F (R (fun b => G < b ∧ b < W.heap.size)) W v xs
theorem KeepsP.sl {α : Type} {I G F : Nat} {R : (Nat → Prop) → World → List Value → α → Prop} {v : Value} {xs : List α} (hI : I < G) (hR : KeepsQ R) : KeepsP I G (SlP G F R v xs) := fun W W' k h => by
  have hk : KeepQ (fun b => G < b ∧ b < W.heap.size) W W' := fun p u hq hp => (World.cell?_of_block (k.2.2.2.2 p.block hq.2 (by omega) (by omega))).trans hp
  have hm : ∀ b, (G < b ∧ b < W.heap.size) → (G < b ∧ b < W'.heap.size) := fun b hb => ⟨hb.1, Nat.lt_of_lt_of_le hb.2 k.size⟩
  exact h.keep hk hm fun cs x hx => hR _ _ _ _ _ _ hx hk hm
theorem SlP.low {α : Type} {G G' F : Nat} {R : (Nat → Prop) → World → List Value → α → Prop} {v : Value} {xs : List α} {W : World} (h : SlP G F R v xs W) (hR : KeepsQ R) (hG : G' ≤ G) : SlP G' F R v xs W :=
  SlQ.keep h (fun p u _ h => h) (fun b h => ⟨by omega, h.2⟩) (fun cs x hx => hR _ _ _ _ _ _ hx (fun p u _ h => h) (fun b h => ⟨by omega, h.2⟩))
theorem SlP.le {α : Type} {G F : Nat} {R : (Nat → Prop) → World → List Value → α → Prop} {v : Value} {xs : List α} {W : World} (h : SlP G F R v xs W) (hR : KeepsQ R) : SlQ (fun b => G ≤ b ∧ b < W.heap.size) F (R (fun b => G ≤ b ∧ b < W.heap.size)) W v xs :=
  SlQ.keep h (fun p u _ h => h) (fun b h => ⟨by omega, h.2⟩) (fun cs x hx => hR _ _ _ _ _ _ hx (fun p u _ h => h) (fun b h => ⟨by omega, h.2⟩))
theorem SlP.up {α : Type} {G B F : Nat} {R : (Nat → Prop) → World → List Value → α → Prop} {v : Value} {xs : List α} {W : World} (h : SlP G F R v xs W) (hR : KeepsQ R) (hB : B ≤ G) : SlQ (fun b => B ≤ b ∧ b < W.heap.size) F (R (fun b => B ≤ b ∧ b < W.heap.size)) W v xs :=
  SlQ.keep h (fun p u _ h => h) (fun b h => ⟨by omega, h.2⟩) (fun cs x hx => hR _ _ _ _ _ _ hx (fun p u _ h => h) (fun b h => ⟨by omega, h.2⟩))
theorem SlP.of_acc {α : Type} {G B F : Nat} {e : TypeId} {R : (Nat → Prop) → World → List Value → α → Prop} {v : Value} {xs : List α} {css : List (List Value)} {W : World} (h : Acc B e F R W v xs css) (hR : KeepsQ R) (hB : G < B) : SlP G F R v xs W :=
  SlQ.keep (h.done hR) (fun p u _ h => h) (fun b h => ⟨by omega, h.2⟩) (fun cs x hx => hR _ _ _ _ _ _ hx (fun p u _ h => h) (fun b h => ⟨by omega, h.2⟩))
/-- the struct at block G, filled in since w0 -/
def BoxX (w0 : World) (I : Nat) (l : List UInt8) (G : Nat) (T : TypeId) (W : World) (t : Option Nat) (cs : Array Value) (P : World → Prop) : Prop :=
  I < w0.heap.size ∧ w0.heap.size ≤ G ∧ Blk W G T cs ∧ InD W I l t ∧ w0.grownBy W (some I) ∧ P W ∧ KeepsP I G P
section
variable {w0 W W2 : World} {I G : Nat} {l : List UInt8} {T : TypeId} {t t2 : Option Nat} {cs cs2 : Array Value} {P P' : World → Prop}
theorem BoxX.lt (h : BoxX w0 I l G T W t cs P) : I < G := Nat.lt_of_lt_of_le h.1 h.2.1
theorem BoxX.in_ (h : BoxX w0 I l G T W t cs P) : InD W I l t := h.2.2.2.1
theorem BoxX.blk (h : BoxX w0 I l G T W t cs P) : Blk W G T cs := h.2.2.1
theorem BoxX.gr (h : BoxX w0 I l G T W t cs P) : w0.grownBy W (some I) := h.2.2.2.2.1
theorem BoxX.rest (h : BoxX w0 I l G T W t cs P) : P W := h.2.2.2.2.2.1
theorem BoxX.start (hi : InD W I l t) (hw : w0.grownBy W (some I)) (hI : I < w0.heap.size) (hP : P (W.alloc (.cells cs T))) (hK : KeepsP I W.heap.size P) : BoxX w0 I l W.heap.size T (W.alloc (.cells cs T)) t cs P :=
  ⟨hI, hw.size, Blk.new _ _ _, hi.below ((Below.refl _ _).alloc (Nat.le_refl _) _), only_alloc hw _, hP, hK⟩
theorem BoxX.call (h : BoxX w0 I l G T W t cs P) (hg : W.grownBy W2 (some I)) (hi : InD W2 I l t2) : BoxX w0 I l G T W2 t2 cs P :=
  ⟨h.1, h.2.1, h.2.2.1.grown hg (by have := h.lt; intro e; injection e with e; omega), hi, only_tr h.gr hg, h.2.2.2.2.2.2 W W2 (GrD.of_grown hg (Nat.le_refl _) (fun x e => by cases e; exact .inl rfl)) h.rest, h.2.2.2.2.2.2⟩
theorem BoxX.set_ (h : BoxX w0 I l G T W t cs P) (i : Nat) (u : Value) : BoxX w0 I l G T (W.setCell ⟨G, i, none⟩ u) t (cs.setIfInBounds i u) P :=
  ⟨h.1, h.2.1, h.blk.set_ i u, h.in_.far h.lt u, only_setCell h.gr (.inr h.2.1) u, h.2.2.2.2.2.2 _ _ ((GrD.refl _ _ _ _).set_ (.inr (.inl rfl)) u) h.rest, h.2.2.2.2.2.2⟩
theorem BoxX.alloc (h : BoxX w0 I l G T W t cs P) (o : Obj) : BoxX w0 I l G T (W.alloc o) t cs P :=
  h.call (only_alloc (World.grownBy.refl _ _) o) (h.in_.below ((Below.refl _ _).alloc (Nat.le_refl _) _))
theorem BoxX.loop (h : BoxX w0 I l G T W t cs P) (hg : GrD W.heap.size I G W W2) (hb : Blk W2 G T cs2) (hi : InD W2 I l t2) : BoxX w0 I l G T W2 t2 cs2 P :=
  ⟨h.1, h.2.1, hb, hi, ⟨hg.1.trans h.gr.os, hg.2.1.trans h.gr.tape, hg.2.2.1.trans h.gr.output, Nat.le_trans h.gr.size hg.size, fun i h1 h2 => (hg.2.2.2.2 i (Nat.lt_of_lt_of_le h1 h.gr.size) (fun e => h2 (by rw [e])) (by have := h.2.1; omega)).trans (h.gr.block i h1 h2)⟩, h.2.2.2.2.2.2 _ _ hg h.rest, h.2.2.2.2.2.2⟩
theorem BoxX.add (h : BoxX w0 I l G T W t cs P) (hP : P' W) (hK : KeepsP I G P') : BoxX w0 I l G T W t cs (fun W => P W ∧ P' W) :=
  ⟨h.1, h.2.1, h.2.2.1, h.2.2.2.1, h.gr, ⟨h.rest, hP⟩, h.2.2.2.2.2.2.and_ hK⟩
end
section
variable {α : Type} {B : Nat} {e : TypeId} {F : Nat} {R : (Nat → Prop) → World → List Value → α → Prop} {one : FSt → α → Option (FSt × α)} {z : α} {l : List UInt8} {I g n : Nat} {m : Option Nat} {w wr : World} {v v' j : Value}
theorem LpD.gr (h : LpD B e F R one z l I g n m w wr v j) : GrD B I g w wr := by
  obtain ⟨_, _, _, _, _, _, _, _, _, h, _⟩ := h
  exact h
end
theorem blk3f {w : World} {g : Nat} {t : TypeId} {a b c : Value} (h : Blk w g t #[a, b, c]) : w.cell? ⟨g, 0, none⟩ = some a ∧ w.cell? ⟨g, 1, none⟩ = some b ∧ w.cell? ⟨g, 2, none⟩ = some c ∧ w.frozen? ⟨g, 0, none⟩ = false ∧ w.frozen? ⟨g, 1, none⟩ = false ∧ w.frozen? ⟨g, 2, none⟩ = false := ⟨h.cell 0, h.cell 1, h.cell 2, h.frozen 0, h.frozen 1, h.frozen 2⟩
theorem blk4f {w : World} {g : Nat} {t : TypeId} {a b c d : Value} (h : Blk w g t #[a, b, c, d]) : w.cell? ⟨g, 0, none⟩ = some a ∧ w.cell? ⟨g, 1, none⟩ = some b ∧ w.cell? ⟨g, 2, none⟩ = some c ∧ w.cell? ⟨g, 3, none⟩ = some d ∧ w.frozen? ⟨g, 0, none⟩ = false ∧ w.frozen? ⟨g, 1, none⟩ = false ∧ w.frozen? ⟨g, 2, none⟩ = false ∧ w.frozen? ⟨g, 3, none⟩ = false := ⟨h.cell 0, h.cell 1, h.cell 2, h.cell 3, h.frozen 0, h.frozen 1, h.frozen 2, h.frozen 3⟩
theorem step_inp {l : List UInt8} {s t u x y : Option Nat} {a b c d : Int} (h1 : StepD num 0 l s t a) (h2 : StepD num 0 l t u b) (h3 : StepD num 0 l u x c) (h4 : StepD num 0 l x y d) : StepD inpF zInp l s y ⟨a, b, c, d⟩ :=
  ((h1.pair (h2.pair (h3.pair h4))).map_ (fun x : TInp => (x.op, x.kind, x.pos, x.attr)) (fun p => ⟨p.1, p.2.1, p.2.2.1, p.2.2.2⟩) zInp rfl).congr fun st x => by
    simp only [inpF, run4_bind, mapF, pairF, Option.bind_assoc, Option.bind_some, List.getD_cons_zero, List.getD_cons_succ]
theorem step_ins {l : List UInt8} {s t u x y : Option Nat} {a b c d : Int} (h1 : StepD num 0 l s t a) (h2 : StepD num 0 l t u b) (h3 : StepD num 0 l u x c) (h4 : StepD num 0 l x y d) : StepD insF zIns l s y ⟨a, b, c, d⟩ :=
  ((h1.pair (h2.pair (h3.pair h4))).map_ (fun x : TIns => (x.op, x.dst, x.a, x.b)) (fun p => ⟨p.1, p.2.1, p.2.2.1, p.2.2.2⟩) zIns rfl).congr fun st x => by
    simp only [insF, run4_bind, mapF, pairF, Option.bind_assoc, Option.bind_some, List.getD_cons_zero, List.getD_cons_succ]
theorem step_val {l : List UInt8} {s t u : Option Nat} {a b : Int} (h1 : StepD num 0 l s t a) (h2 : StepD bitsF 0 l t u b) : StepD valF zVal l s u ⟨a, b⟩ :=
  ((h1.pair h2).map_ (fun x : TVal => (x.kind, x.bits)) (fun p => ⟨p.1, p.2⟩) zVal rfl).congr fun st x => by
    simp only [valF, run1_bind, mapF, pairF, Option.bind_assoc, Option.bind_some, List.getD_cons_zero, List.getD_cons_succ]
theorem step_bits {l : List UInt8} {s t : Option Nat} {v : Nat} (h1 : s = none → t = none) (h2 : ∀ p, s = some p → dec (l.drop p) = (t.map fun q => (v, q - p)) ∧ ∀ q, t = some q → p ≤ q) : StepD bitsF 0 l s t (v : Int) := by
  refine ⟨h1, fun p hp => ?_⟩
  obtain ⟨h3, h4⟩ := h2 p hp
  unfold rdS bitsF
  simp only [h3]
  rcases t with _ | q
  · rfl
  · have := h4 q rfl
    simp only [Option.map_some]
    rw [show p + (q - p) = q by omega]
theorem step_tail {l : List UInt8} {s t u x : Option Nat} {a b : Int} {c : List TStop} (h1 : StepD num 0 l s t a) (h2 : StepD num 0 l t u b) (h3 : StepD (listF stopF zStop) [] l u x c) : StepD tailF zTail l s x ⟨a, b, c⟩ :=
  ((h1.pair (h2.pair h3)).map_ (fun x : TTail => (x.br, x.cl, x.bars)) (fun p => ⟨p.1, p.2.1, p.2.2⟩) zTail rfl).congr fun st x => by
    simp only [tailF, run2_bind, mapF, pairF, Option.bind_assoc, Option.bind_some, List.getD_cons_zero, List.getD_cons_succ]
theorem step_code {l : List UInt8} {s t u x y z : Option Nat} {a b : Int} {c : List TInp} {d : List TVal} {f : List TIns} (h1 : StepD num 0 l s t a) (h2 : StepD num 0 l t u b) (h3 : StepD (listF inpF zInp) [] l u x c) (h4 : StepD (listF valF zVal) [] l x y d) (h5 : StepD (listF insF zIns) [] l y z f) : StepD codeF zCode l s z ⟨a, b, c, d, f⟩ :=
  ((h1.pair (h2.pair (h3.pair (h4.pair h5)))).map_ (fun x : TCode => (x.regs, x.slots, x.inputs, x.consts, x.list)) (fun p => ⟨p.1, p.2.1, p.2.2.1, p.2.2.2.1, p.2.2.2.2⟩) zCode rfl).congr fun st x => by
    simp only [codeF, run2_bind, mapF, pairF, Option.bind_assoc, Option.bind_some, List.getD_cons_zero, List.getD_cons_succ]
theorem wfu_nat {v : Nat} (h : v < 18446744073709551616) : wfu (v : Int) := by
  unfold wfu
  simp [Lit.wf, IntKind.min, IntKind.max, IntKind.bits, IntKind.signed]
  omega
end Go.Proofs.Ytabndfkkbmhhjaa
namespace Go.Proofs.Ytabndfkkbmhhjaa
set_option linter.unusedVariables false
set_option linter.unusedSimpArgs false
open Go.RowKit Go.Deep

theorem step_flag {l : List UInt8} {s t : Option Nat} {y : Int} (h : StepD num 0 l s t y) : StepD flagF false l s (if 0 ≤ y ∧ y ≤ 1 then t else none) (decide (y = 1)) := by
  refine ⟨fun e => by rw [h.1 e]; split <;> rfl, fun p hp => ?_⟩
  unfold flagF
  rw [show bInt false = 0 from rfl, h.2 p hp]
  rcases t with _ | q
  · simp
  · simp only [Option.map_some]
    by_cases h0 : y = 0
    · subst h0; rfl
    · by_cases h1 : y = 1
      · subst h1; rfl
      · rw [if_neg h0, if_neg h1, if_neg (by omega)]; rfl
theorem step_row {l : List UInt8} {s0 s1 s2 s3 s4 s5 s6 s7 s8 : Option Nat} {a b : Int} {c : Bool} {d : Int} {f : List TStop} {g h : Int} {k : List TTail} (h1 : StepD num 0 l s0 s1 a) (h2 : StepD num 0 l s1 s2 b) (h3 : StepD flagF false l s2 s3 c) (h4 : StepD num 0 l s3 s4 d) (h5 : StepD (listF stopF zStop) [] l s4 s5 f) (h6 : StepD num 0 l s5 s6 g) (h7 : StepD num 0 l s6 s7 h) (h8 : StepD (listF tailF zTail) [] l s7 s8 k) : StepD rowF zRow l s0 s8 ⟨a, b, c, d, f, g, h, k⟩ :=
  ((h1.pair (h2.pair (h3.pair (h4.pair (h5.pair (h6.pair (h7.pair h8))))))).map_ (fun x : TRow => (x.par, x.ty, x.many, x.win, x.bars, x.leave, x.guard, x.ends)) (fun p => ⟨p.1, p.2.1, p.2.2.1, p.2.2.2.1, p.2.2.2.2.1, p.2.2.2.2.2.1, p.2.2.2.2.2.2.1, p.2.2.2.2.2.2.2⟩) zRow rfl).congr fun st x => by
    simp only [rowF, run2_bind, mapF, pairF, Option.bind_assoc, Option.bind_some, List.getD_cons_zero, List.getD_cons_succ]
theorem in_set {w : World} {I : Nat} {l : List UInt8} {s : Option Nat} (h : InD w I l s) (t : Option Nat) (ht : t = s ∨ t = none) : InD (w.setCell ⟨I, 1, none⟩ (.bool t.isSome)) I l t := by
  obtain ⟨A, c, r, h1, h2, h3, h4, h5⟩ := h
  exact ⟨A, c, r, by simpa using h1.set_ 1 (.bool t.isSome), h2, h3, h4.setCell (Nat.le_refl _) _, fun p hp => by rcases ht with rfl | rfl; exact h5 p hp; cases hp⟩
set_option maxRecDepth 100000 in
set_option maxHeartbeats 16000000 in
theorem in_row (I : Nat) (l : List UInt8) (s : Option Nat) (w : World) (h : InD w I l s) :
    Calls Try.prog 31 #[.pointer (some ⟨I, 0, none⟩)] w fun e w' => ∃ (t : Option Nat) (y : TRow) (cs : List Value), e = .returned (.agg cs.toArray) ∧ InD w' I l t ∧ w.grownBy w' (some I) ∧ StepD rowF zRow l s t y ∧ cs.length = 8 ∧ RowQ (fun b => w.heap.size ≤ b ∧ b < w'.heap.size) w' cs y := by
  obtain ⟨i1, hi1, hz1, hsz1, hb1⟩ := info_parts info_tail
  obtain ⟨W1, hW1⟩ : ∃ W, W = w.alloc (.cells #[.int .i64 0, .int .i64 0, .bool false, .int .i64 0, .slice none 0 0, .int .i64 0, .int .i64 0, .slice none 0 0] 50) := ⟨_, rfl⟩
  have hI1 : InD W1 I l s := by rw [hW1]; exact h.below ((Below.refl _ _).alloc (Nat.le_refl _) _)
  have HIW := Lib.hid h.blk
  have HZ1 : Hid (Blk W1 w.heap.size 50 #[.int .i64 0, .int .i64 0, .bool false, .int .i64 0, .slice none 0 0, .int .i64 0, .int .i64 0, .slice none 0 0]) := Lib.hid (by rw [hW1]; exact Blk.new _ _ _)
  have HG1 : Hid (w.grownBy W1 (some I)) := Lib.hid (by rw [hW1]; exact only_alloc (World.grownBy.refl _ _) _)
  have C1 := Lib.hid (in_num I l s W1 hI1)
  have HW1 := Lib.hid hW1
  clear h hI1 hW1
  go_enter Try.func31, Try.ntmps31
  go_upto_region 1 with fail
  rw [← HW1.out]
  clear HW1
  go_wp2_with fail
  refine C1.out.mono ?_
  rintro e w2 ⟨s1, a, rfl, hi, hg, hst, hy1, hy2⟩
  have HS1 := Lib.hid hst
  have HW1 := Lib.hid (wfi_num hy1 hy2)
  have HZ2 := Lib.hid (HZ1.out.grown hg (by have := HIW.out; intro e; injection e with e; omega))
  obtain ⟨G, hG⟩ : ∃ G, G = w2.heap.size := ⟨_, rfl⟩
  obtain ⟨y1, hy⟩ : ∃ W, W = w2.alloc (.cells #[.int .i64 a, .int .i64 0, .bool false, .int .i64 0, .slice none 0 0, .int .i64 0, .int .i64 0, .slice none 0 0] 50) := ⟨_, rfl⟩
  have HB1 : Hid (BoxX w I l G 50 y1 s1 #[.int .i64 a, .int .i64 0, .bool false, .int .i64 0, .slice none 0 0, .int .i64 0, .int .i64 0, .slice none 0 0] (fun W => Blk W w.heap.size 50 #[.int .i64 0, .int .i64 0, .bool false, .int .i64 0, .slice none 0 0, .int .i64 0, .int .i64 0, .slice none 0 0])) := Lib.hid (by
    rw [hy, hG]
    exact BoxX.start hi (only_tr HG1.out hg) HIW.out (HZ2.out.alloc _) (KeepsP.blk (by have := HIW.out; omega) (by have := HZ2.out.lt; omega)))
  have HGW : Hid (w.heap.size < G) := Lib.hid (by rw [hG]; exact HZ2.out.lt)
  have C2 := Lib.hid (in_num I l s1 y1 HB1.out.in_)
  clear C1 hi hg hst hy1 hy2 HZ2 HZ1 HG1
  go_upto_region 2 with fail
  rw [← hy, ← hG]
  clear hy hG
  go_wp2_with fail
  refine C2.out.mono ?_
  rintro e w3 ⟨s2, b, rfl, hi, hg, hst, hy1, hy2⟩
  have HS2 := Lib.hid hst
  have HW2 := Lib.hid (wfi_num hy1 hy2)
  clear hst hy1 hy2 C2
  have HF2 := Lib.hid (HB1.out.call hg hi)
  obtain ⟨p0, p1, p2, p3, p4, p5, p6, p7⟩ := blk8s HF2.out.blk
  have z := HF2.out.blk.frozen 1
  obtain ⟨y2, hy⟩ : ∃ W, W = w3.setCell ⟨G, 1, none⟩ (.int .i64 b) := ⟨_, rfl⟩
  have HB2 : Hid (BoxX w I l G 50 y2 s2 #[.int .i64 a, .int .i64 b, .bool false, .int .i64 0, .slice none 0 0, .int .i64 0, .int .i64 0, .slice none 0 0] (fun W => Blk W w.heap.size 50 #[.int .i64 0, .int .i64 0, .bool false, .int .i64 0, .slice none 0 0, .int .i64 0, .int .i64 0, .slice none 0 0])) := Lib.hid (by rw [hy]; simpa using HF2.out.set_ 1 (.int .i64 b))
  clear hi hg HF2 HB1
  have C3 := Lib.hid (in_num I l s2 y2 HB2.out.in_)
  go_upto_region 3 with fail
  rw [← hy]
  clear hy p0 p1 p2 p3 p4 p5 p6 p7 z
  go_wp2_with fail
  refine C3.out.mono ?_
  rintro e w4 ⟨s3, y, rfl, hi, hg, hst, hy1, hy2⟩
  have HFL := Lib.hid (step_flag hst)
  have HF3 := Lib.hid (HB2.out.call hg hi)
  obtain ⟨A0, m0, c0, k0, k1, f0, f1⟩ := hi.cells
  obtain ⟨b3, hb3⟩ : ∃ b, s3.isSome = b := ⟨_, rfl⟩
  rw [hb3] at k1
  have HB3 := Lib.hid hb3
  clear C3 hi hg hst hy1 hy2 HB2 hb3
  go_upto_region 4 with fail
  go_cut [4] (fun q wx => q = .int .i64 y ∧ ∃ t4, BoxX w I l G 50 wx t4 #[.int .i64 a, .int .i64 b, .bool false, .int .i64 0, .slice none 0 0, .int .i64 0, .int .i64 0, .slice none 0 0] (fun W => Blk W w.heap.size 50 #[.int .i64 0, .int .i64 0, .bool false, .int .i64 0, .slice none 0 0, .int .i64 0, .int .i64 0, .slice none 0 0]) ∧ StepD flagF false l s2 t4 (decide (y = 1)))
  case first =>
    have HT : Hid (∀ t : Option Nat, t = s3 ∨ t = none → BoxX w I l G 50 (w4.setCell ⟨I, 1, none⟩ (.bool t.isSome)) t #[.int .i64 a, .int .i64 b, .bool false, .int .i64 0, .slice none 0 0, .int .i64 0, .int .i64 0, .slice none 0 0] (fun W => Blk W w.heap.size 50 #[.int .i64 0, .int .i64 0, .bool false, .int .i64 0, .slice none 0 0, .int .i64 0, .int .i64 0, .slice none 0 0])) := Lib.hid (fun t ht => HF3.out.call (only_setCell (World.grownBy.refl w4 (some I)) (.inl rfl) _) (in_set HF3.out.in_ t ht))
    cases b3 with
    | false =>
      have hs3 : s3 = none := by have := HB3.out; revert this; cases s3 <;> simp
      have H9 := Lib.hid (HT.out none (.inr rfl))
      have H8 : Hid (StepD flagF false l s2 none (decide (y = 1))) := Lib.hid (by have h := HFL.out; rw [hs3] at h; simpa using h)
      clear hs3
      go_wp2_with fail
      go_meet
      exact ⟨rfl, none, H9.out, H8.out⟩
    | true =>
      have dd : ∀ k : Int, (y ≤ k → decide (y ≤ k) = true) ∧ (k < y → decide (y ≤ k) = false) := fun k => ⟨fun h => decide_eq_true h, fun h => decide_eq_false (by omega)⟩
      have d0 : decide (0 ≤ y) = !decide (y ≤ -1) := by rw [Bool.eq_iff_iff]; simp; omega
      have dm := dd (-1)
      have d1 := dd 1
      clear dd
      rcases Int.lt_or_le y 0 with hlt | hge
      · have H9 := Lib.hid (HT.out none (.inr rfl))
        have H8 : Hid (StepD flagF false l s2 none (decide (y = 1))) := Lib.hid (by have h := HFL.out; rw [if_neg (by omega)] at h; exact h)
        have dz : decide (0 ≤ y) = false := decide_eq_false (by omega)
        clear dm d1 d0
        go_wp2_with fail
        go_meet
        exact ⟨rfl, none, H9.out, H8.out⟩
      · rcases Int.lt_or_le 1 y with hgt | hle
        · have H9 := Lib.hid (HT.out none (.inr rfl))
          have H8 : Hid (StepD flagF false l s2 none (decide (y = 1))) := Lib.hid (by have h := HFL.out; rw [if_neg (by omega)] at h; exact h)
          have dz : decide (y ≤ 1) = false := decide_eq_false (by omega)
          clear dm d1 d0
          go_wp2_with fail
          go_meet
          exact ⟨rfl, none, H9.out, H8.out⟩
        · have H9 := Lib.hid (HT.out s3 (.inl rfl))
          rw [HB3.out] at H9
          have H8 : Hid (StepD flagF false l s2 s3 (decide (y = 1))) := Lib.hid (by have h := HFL.out; rw [if_pos ⟨hge, hle⟩] at h; exact h)
          have dz : decide (y ≤ 1) = true := decide_eq_true (by omega)
          clear dm d1 d0
          go_wp2_with fail
          go_meet
          exact ⟨rfl, s3, H9.out, H8.out⟩
  case rest =>
    obtain ⟨rfl, t4, hbx, hfl⟩ := hcut
    have HF4 := Lib.hid hbx
    have HS3 := Lib.hid hfl
    clear hbx hfl k0 k1 f0 f1 HFL HF3 HB3
    obtain ⟨c, hc⟩ : ∃ c : Bool, decide (y = 1) = c := ⟨_, rfl⟩
    rw [hc] at HS3
    obtain ⟨p0, p1, p2, p3, p4, p5, p6, p7⟩ := blk8s HF4.out.blk
    have z := HF4.out.blk.frozen 2
    go_upto_region 5 with fail
    have HDY : (y == 1) = c := by rw [← hc, Bool.eq_iff_iff]; simp
    obtain ⟨y3, hy⟩ : ∃ W, W = wc.setCell ⟨G, 2, none⟩ (.bool c) := ⟨_, rfl⟩
    have HB3 : Hid (BoxX w I l G 50 y3 t4 #[.int .i64 a, .int .i64 b, .bool c, .int .i64 0, .slice none 0 0, .int .i64 0, .int .i64 0, .slice none 0 0] (fun W => Blk W w.heap.size 50 #[.int .i64 0, .int .i64 0, .bool false, .int .i64 0, .slice none 0 0, .int .i64 0, .int .i64 0, .slice none 0 0])) := Lib.hid (by rw [hy]; simpa using HF4.out.set_ 2 (.bool c))
    have C4 := Lib.hid (in_num I l t4 y3 HB3.out.in_)
    clear HF4
    go_upto_region 6 with fail
    rw [← hy]
    clear hy p0 p1 p2 p3 p4 p5 p6 p7 z hc HDY
    go_wp2_with fail
    refine C4.out.mono ?_
    rintro e w5 ⟨s4, d, rfl, hi, hg, hst, hy1, hy2⟩
    have HS4 := Lib.hid hst
    have HW4 := Lib.hid (wfi_num hy1 hy2)
    clear hst hy1 hy2 C4
    have HF4 := Lib.hid (HB3.out.call hg hi)
    obtain ⟨p0, p1, p2, p3, p4, p5, p6, p7⟩ := blk8s HF4.out.blk
    have z := HF4.out.blk.frozen 3
    obtain ⟨y4, hy⟩ : ∃ W, W = w5.setCell ⟨G, 3, none⟩ (.int .i64 d) := ⟨_, rfl⟩
    have HB4 : Hid (BoxX w I l G 50 y4 s4 #[.int .i64 a, .int .i64 b, .bool c, .int .i64 d, .slice none 0 0, .int .i64 0, .int .i64 0, .slice none 0 0] (fun W => Blk W w.heap.size 50 #[.int .i64 0, .int .i64 0, .bool false, .int .i64 0, .slice none 0 0, .int .i64 0, .int .i64 0, .slice none 0 0])) := Lib.hid (by rw [hy]; simpa using HF4.out.set_ 3 (.int .i64 d))
    clear hi hg HF4 HB3
    have C5 := Lib.hid (in_stops I l s4 y4 HB4.out.in_)
    go_upto_region 7 with fail
    rw [← hy]
    clear hy p0 p1 p2 p3 p4 p5 p6 p7 z
    go_wp2_with fail
    refine C5.out.mono ?_
    rintro e w6 ⟨s5, f, v5, rfl, hi, hg, hst, hsl⟩
    obtain ⟨Av5, cv5, rfl, _⟩ := id hsl
    have HS5 := Lib.hid hst
    have HGB := Lib.hid HB4.out.blk.lt
    have HSL : Hid (SlP G 2 (fun _ => StopC) (.slice Av5 f.length cv5) f w6) := Lib.hid (hsl.keep (fun p u _ h => h) (fun b h => ⟨by have := HGB.out; omega, h.2⟩) (fun _ _ h => h))
    clear hst hsl C5
    have HF5 := Lib.hid (HB4.out.call hg hi)
    have HF5 := Lib.hid (HF5.out.add HSL.out (KeepsP.sl HB4.out.lt keeps_stop))
    obtain ⟨p0, p1, p2, p3, p4, p5, p6, p7⟩ := blk8s HF5.out.blk
    have z := HF5.out.blk.frozen 4
    obtain ⟨y5, hy⟩ : ∃ W, W = w6.setCell ⟨G, 4, none⟩ (.slice Av5 f.length cv5) := ⟨_, rfl⟩
    have HB5 : Hid (BoxX w I l G 50 y5 s5 #[.int .i64 a, .int .i64 b, .bool c, .int .i64 d, .slice Av5 f.length cv5, .int .i64 0, .int .i64 0, .slice none 0 0] (fun W => Blk W w.heap.size 50 #[.int .i64 0, .int .i64 0, .bool false, .int .i64 0, .slice none 0 0, .int .i64 0, .int .i64 0, .slice none 0 0] ∧ SlP G 2 (fun _ => StopC) (.slice Av5 f.length cv5) f W)) := Lib.hid (by rw [hy]; simpa using HF5.out.set_ 4 (.slice Av5 f.length cv5))
    clear hi hg HF5 HB4
    have C6 := Lib.hid (in_num I l s5 y5 HB5.out.in_)
    go_upto_region 8 with fail
    rw [← hy]
    clear hy p0 p1 p2 p3 p4 p5 p6 p7 z
    go_wp2_with fail
    refine C6.out.mono ?_
    rintro e w7 ⟨s6, g, rfl, hi, hg, hst, hy1, hy2⟩
    have HS6 := Lib.hid hst
    have HW6 := Lib.hid (wfi_num hy1 hy2)
    clear hst hy1 hy2 C6
    have HF6 := Lib.hid (HB5.out.call hg hi)
    obtain ⟨p0, p1, p2, p3, p4, p5, p6, p7⟩ := blk8s HF6.out.blk
    have z := HF6.out.blk.frozen 5
    obtain ⟨y6, hy⟩ : ∃ W, W = w7.setCell ⟨G, 5, none⟩ (.int .i64 g) := ⟨_, rfl⟩
    have HB6 : Hid (BoxX w I l G 50 y6 s6 #[.int .i64 a, .int .i64 b, .bool c, .int .i64 d, .slice Av5 f.length cv5, .int .i64 g, .int .i64 0, .slice none 0 0] (fun W => Blk W w.heap.size 50 #[.int .i64 0, .int .i64 0, .bool false, .int .i64 0, .slice none 0 0, .int .i64 0, .int .i64 0, .slice none 0 0] ∧ SlP G 2 (fun _ => StopC) (.slice Av5 f.length cv5) f W)) := Lib.hid (by rw [hy]; simpa using HF6.out.set_ 5 (.int .i64 g))
    clear hi hg HF6 HB5
    have C7 := Lib.hid (in_num I l s6 y6 HB6.out.in_)
    go_upto_region 9 with fail
    rw [← hy]
    clear hy p0 p1 p2 p3 p4 p5 p6 p7 z
    go_wp2_with fail
    refine C7.out.mono ?_
    rintro e w8 ⟨s7, h, rfl, hi, hg, hst, hy1, hy2⟩
    have HS7 := Lib.hid hst
    have HW7 := Lib.hid (wfi_num hy1 hy2)
    clear hst hy1 hy2 C7
    have HF7 := Lib.hid (HB6.out.call hg hi)
    obtain ⟨p0, p1, p2, p3, p4, p5, p6, p7⟩ := blk8s HF7.out.blk
    have z := HF7.out.blk.frozen 6
    obtain ⟨y7, hy⟩ : ∃ W, W = w8.setCell ⟨G, 6, none⟩ (.int .i64 h) := ⟨_, rfl⟩
    have HB7 : Hid (BoxX w I l G 50 y7 s7 #[.int .i64 a, .int .i64 b, .bool c, .int .i64 d, .slice Av5 f.length cv5, .int .i64 g, .int .i64 h, .slice none 0 0] (fun W => Blk W w.heap.size 50 #[.int .i64 0, .int .i64 0, .bool false, .int .i64 0, .slice none 0 0, .int .i64 0, .int .i64 0, .slice none 0 0] ∧ SlP G 2 (fun _ => StopC) (.slice Av5 f.length cv5) f W)) := Lib.hid (by rw [hy]; simpa using HF7.out.set_ 6 (.int .i64 h))
    clear hi hg HF7 HB6
    go_upto_region 10 with fail
    rw [← hy]
    clear hy p0 p1 p2 p3 p4 p5 p6 p7 z
    have C8 := Lib.hid (in_count I l s7 y7 HB7.out.in_)
    have HAT7 := Lib.hid HB7.out.in_.at_
    go_wp2_with fail
    refine C8.out.mono ?_
    rintro e w9 ⟨m1, n1, rfl, hi, hg, hc⟩
    have HC1 := Lib.hid hc
    have HB9 := Lib.hid (HB7.out.call hg hi)
    clear C8 hi hg hc HB7
    go_wp2_with fail
    have HKP1 := Lib.hid HB9.out.lt
    have HBG1 : Hid (G < w9.heap.size) := Lib.hid HB9.out.blk.lt
    go_loopw [5] (fun j wr => ∃ v, LpD w9.heap.size 52 3 TailQ tailF zTail l I G n1 m1 w9 wr v j ∧ Blk wr G 50 #[.int .i64 a, .int .i64 b, .bool c, .int .i64 d, .slice Av5 f.length cv5, .int .i64 g, .int .i64 h, v]) (fun j _ => (intOf j).toNat)
    case atStart => exact ⟨_, LpD.start w9 HB9.out.in_, HB9.out.blk⟩
    case round =>
      obtain ⟨v, ⟨K1, t1, ys1, css1, rfl, hk, hyl, hacc, hi, hgr, hrun⟩, hbg⟩ := hrel
      obtain ⟨Av1, cv1, hv⟩ := own_slice hacc.1
      rw [hyl] at hv
      subst hv
      have HACC := Lib.hid hacc
      have HGR := Lib.hid hgr
      have HRUN := Lib.hid hrun
      have HI2 := Lib.hid hi
      have HYL := Lib.hid hyl
      have HBG := Lib.hid hbg
      obtain ⟨A0, m0, c0, k0, k1, f0, f1⟩ := hi.cells
      have hn := HC1.out.1
      clear hacc hgr hrun hi hbg
      by_cases hgo : K1 < n1 ∧ t1.isSome = true
      · obtain ⟨hlt, hts⟩ := hgo
        have hpos : (0 : Int) < (n1 : Int) - (K1 : Int) := by omega
        rw [hts] at k1
        have CN0 := Lib.hid (in_num I l t1 wr HI2.out)
        go_wp2_with fail
        refine CN0.out.mono ?_
        rintro e x0 ⟨u0, a0, rfl, hi, hg, hst, hy1, hy2⟩
        have HST0 := Lib.hid hst
        have HWF0 := Lib.hid (wfi_num hy1 hy2)
        clear hst hy1 hy2 CN0
        obtain ⟨X, hX⟩ : ∃ X, X = x0.heap.size := ⟨_, rfl⟩
        obtain ⟨y0, hy⟩ : ∃ W, W = x0.alloc (.cells #[.int .i64 a0, .int .i64 0, .slice none 0 0] 52) := ⟨_, rfl⟩
        have HE0 : Hid (BoxX wr I l X 52 y0 u0 #[.int .i64 a0, .int .i64 0, .slice none 0 0] (fun _ => True)) := Lib.hid (by rw [hy, hX]; exact BoxX.start hi hg (Nat.lt_of_lt_of_le HI2.out.blk (Nat.le_refl _)) trivial KeepsP.true_)
        clear hi hg k0 k1 f0 f1
        have CN1 := Lib.hid (in_num I l u0 y0 HE0.out.in_)
        go_upto_region 14 with fail
        rw [← hy, ← hX]
        clear hy hX
        go_wp2_with fail
        refine CN1.out.mono ?_
        rintro e x1 ⟨u1, a1, rfl, hi, hg, hst, hy1, hy2⟩
        have HST1 := Lib.hid hst
        have HWF1 := Lib.hid (wfi_num hy1 hy2)
        clear hst hy1 hy2 CN1
        have HF1 := Lib.hid (HE0.out.call hg hi)
        obtain ⟨p0, p1, p2, z0, z1, z2⟩ := blk3f HF1.out.blk
        obtain ⟨y1, hy⟩ : ∃ W, W = x1.setCell ⟨X, 1, none⟩ (.int .i64 a1) := ⟨_, rfl⟩
        have HE1 : Hid (BoxX wr I l X 52 y1 u1 #[.int .i64 a0, .int .i64 a1, .slice none 0 0] (fun _ => True)) := Lib.hid (by rw [hy]; simpa using HF1.out.set_ 1 (.int .i64 a1))
        clear hi hg HF1 HE0
        have CN2 := Lib.hid (in_stops I l u1 y1 HE1.out.in_)
        go_upto_region 15 with fail
        rw [← hy]
        clear hy p0 z0 p1 z1 p2 z2
        go_wp2_with fail
        refine CN2.out.mono ?_
        rintro e x2 ⟨u2, a2, v2, rfl, hi, hg, hst, hsl⟩
        obtain ⟨Ae, ce, rfl, _⟩ := id hsl
        have HST2 := Lib.hid hst
        have HGX := Lib.hid HE1.out.blk.lt
        have HSE : Hid (SlP X 2 (fun _ => StopC) (.slice Ae a2.length ce) a2 x2) := Lib.hid (hsl.keep (fun p u _ h => h) (fun b h => ⟨by have := HGX.out; omega, h.2⟩) (fun _ _ h => h))
        clear hst hsl CN2
        have HF2 := Lib.hid ((HE1.out.call hg hi).add HSE.out (KeepsP.sl HE1.out.lt keeps_stop))
        obtain ⟨p0, p1, p2, z0, z1, z2⟩ := blk3f HF2.out.blk
        obtain ⟨y2, hy⟩ : ∃ W, W = x2.setCell ⟨X, 2, none⟩ (.slice Ae a2.length ce) := ⟨_, rfl⟩
        have HE2 : Hid (BoxX wr I l X 52 y2 u2 #[.int .i64 a0, .int .i64 a1, .slice Ae a2.length ce] (fun W => True ∧ SlP X 2 (fun _ => StopC) (.slice Ae a2.length ce) a2 W)) := Lib.hid (by rw [hy]; simpa using HF2.out.set_ 2 (.slice Ae a2.length ce))
        clear hi hg HF2 HE1
        go_upto_region 16 with fail
        rw [← hy]
        clear hy p0 z0 p1 z1 p2 z2
        obtain ⟨p0, p1, p2, z0, z1, z2⟩ := blk3f HE2.out.blk
        have HBR2 := Lib.hid (HBG.out.grown HE2.out.gr (by have := HKP1.out; intro e; injection e with e; omega))
        obtain ⟨g0, g1, g2, g3, g4, g5, g6, g7⟩ := blk8s HBR2.out
        have gz := HBR2.out.frozen 7
        have HSW := Lib.hid HGR.out.size
        have HO2 : Hid ((y2.alloc (.cells #[.int .i64 a0, .int .i64 a1, .slice Ae a2.length ce] 52)).ownsRow w9.heap.size 52 3 (.slice Av1 K1 cv1) K1 css1.flatten) := Lib.hid (LpD.own HYL.out HACC.out (Nat.lt_of_lt_of_le HKP1.out (Nat.le_of_lt HBG1.out)) (only_alloc HE2.out.gr (.cells #[.int .i64 a0, .int .i64 a1, .slice Ae a2.length ce] 52)))
        have HSY : Hid (w9.heap.size ≤ (y2.alloc (.cells #[.int .i64 a0, .int .i64 a1, .slice Ae a2.length ce] 52)).heap.size) := Lib.hid (by rw [World.size_alloc]; have := HSW.out; have := HE2.out.gr.size; omega)
        go_wp2_with (at_builtin; refine wpList_append_any _ rfl (.tmp 67) (.tmp 69) 48 rfl w9.heap.size 52 i1 _ 3 40 Try.underlying48 hi1 hz1 hsz1 hb1 rfl (by omega) (.slice Av1 K1 cv1) K1 css1.flatten rfl HO2.out (y2.heap.size + 1) (some ⟨y2.heap.size, 0, none⟩) 1 1 [.int .i64 a0, .int .i64 a1, .slice Ae a2.length ce] rfl (reads_lit _ _ 3 rfl _ _) (by intro u hu; simp at hu; rcases hu with rfl | rfl | rfl <;> rfl) (by unfold maxLen; omega) (by omega) HSY.out ?_; intro v9 w3 ho hg hat; obtain ⟨A9, c9, rfl⟩ := own_slice ho; have HO3 := Lib.hid ho; have HG6 := Lib.hid hg; have HAT4 := Lib.hid hat; have HBR3 := Lib.hid ((HBR2.out.alloc (.cells #[.int .i64 a0, .int .i64 a1, .slice Ae a2.length ce] 52)).grown hg (fun e => by have h1 := (own_lt2 HO2.out e.symm).2; have := HBG1.out; omega)); have gz := HBR3.out.frozen 7; obtain ⟨g0, g1, g2, g3, g4, g5, g6, g7⟩ := blk8s HBR3.out; clear ho hg hat)
        have HL : Hid (LpD w9.heap.size 52 3 TailQ tailF zTail l I G n1 m1 w9 w3 (.slice A9 (K1 + 1) c9) (.int .i64 ((n1 : Int) - (K1 : Int) - 1))) := Lib.hid (LpD.next keeps_tail hlt HYL.out HACC.out HGR.out HRUN.out (Nat.lt_of_lt_of_le HKP1.out (Nat.le_of_lt HBG1.out)) HSW.out (only_alloc HE2.out.gr _) (HE2.out.alloc _).in_ (step_tail HST0.out HST1.out HST2.out) rfl ⟨_, rfl, (HE2.out.alloc _).rest.2.up keeps_stop HE2.out.2.1, HWF0.out, HWF1.out⟩ HO3.out HG6.out HAT4.out)
        have HL2 := Lib.hid (HL.out.set_ keeps_tail HBG1.out HKP1.out 7 (.slice A9 (K1 + 1) c9))
        have HBR4 : Hid (Blk (w3.setCell ⟨G, 7, none⟩ (.slice A9 (K1 + 1) c9)) G 50 #[.int .i64 a, .int .i64 b, .bool c, .int .i64 d, .slice Av5 f.length cv5, .int .i64 g, .int .i64 h, .slice A9 (K1 + 1) c9]) := Lib.hid (by simpa using HBR3.out.set_ 7 (.slice A9 (K1 + 1) c9))
        go_wp2_with fail
        clear g0 g1 g2 g3 g4 g5 g6 g7 gz p0 z0 p1 z1 p2 z2
        go_roundw
        case rel => first | exact ⟨_, HL2.out, HBR4.out⟩ | ((repeat apply Exists.intro); exact ⟨⟨_, HL2.out, HBR4.out⟩, rfl⟩)
        case measure => simp [intOf]; omega
      · have HBK := Lib.hid (HB9.out.loop HGR.out HBG.out HI2.out)
        have HSL : Hid (SlP G 3 TailQ (.slice Av1 K1 cv1) ys1 wr) := Lib.hid (SlP.of_acc HACC.out keeps_tail HBG1.out)
        have HBY1 := Lib.hid (HBK.out.add HSL.out (KeepsP.sl HKP1.out keeps_tail))
        have HQ1 : Hid (StepD (listF tailF zTail) [] l s7 t1 ys1) := Lib.hid (HRUN.out.done codec_tail HAT7.out HC1.out HB9.out.in_.at_ hk (by rcases t1 with _ | p; exact .inr rfl; exact .inl (by simp at hgo; omega)))
        clear HACC HGR HRUN HI2 HBG HBK HSL
        have HEX0 : True := trivial
        have HEX : ((0 : Int) < (n1 : Int) - (K1 : Int) → t1.isSome = false) := fun h => by rcases t1 with _ | p; rfl; simp at hgo; omega
        obtain ⟨bb1, hb⟩ : ∃ bb, t1.isSome = bb := ⟨_, rfl⟩
        rw [hb] at k1 HEX
        clear hgo
        clear HEX0
        go_upto_region 11 with fail
        go_cut [54] (fun x wx => x = .bool false ∧ wx = wr)
        case first =>
          by_cases hp : (0 : Int) < (n1 : Int) - (K1 : Int)
          · have hbf := HEX hp
            subst hbf
            go_wp2_with fail
            go_meet
            exact ⟨rfl, rfl⟩
          · have hp2 : (n1 : Int) - (K1 : Int) ≤ 0 := by omega
            go_wp2_with fail
            go_meet
            exact ⟨rfl, rfl⟩
        case rest =>
          obtain ⟨rfl, hcw⟩ := hcut
          subst hcw
          obtain ⟨V1, hV⟩ : ∃ V, V = wc := ⟨wc, rfl⟩
          subst hV
          clear k0 k1 f0 f1 HEX hb
          have HAB := Lib.hid HBY1.out.rest
          have HZ : Hid (Blk V1 w.heap.size 50 #[.int .i64 0, .int .i64 0, .bool false, .int .i64 0, .slice none 0 0, .int .i64 0, .int .i64 0, .slice none 0 0]) := Lib.hid HAB.out.1.1
          obtain ⟨g0, g1, g2, g3, g4, g5, g6, g7⟩ := blk8s HBY1.out.blk
          obtain ⟨h0, h1, h2, h3, h4, h5, h6, h7⟩ := blk8s HZ.out
          have z0 := HZ.out.frozen 0
          have z1 := HZ.out.frozen 1
          have z2 := HZ.out.frozen 2
          have z3 := HZ.out.frozen 3
          have z4 := HZ.out.frozen 4
          have z5 := HZ.out.frozen 5
          have z6 := HZ.out.frozen 6
          have z7 := HZ.out.frozen 7
          have HBX : Hid (BoxX w I l w.heap.size 50 V1 t1 #[.int .i64 0, .int .i64 0, .bool false, .int .i64 0, .slice none 0 0, .int .i64 0, .int .i64 0, .slice none 0 0] (fun W => SlP w.heap.size 2 (fun _ => StopC) (.slice Av5 f.length cv5) f W ∧ SlP w.heap.size 3 TailQ (.slice Av1 K1 cv1) ys1 W)) := Lib.hid
            ⟨HIW.out, Nat.le_refl _, HZ.out, HBY1.out.in_, HBY1.out.gr, ⟨HAB.out.1.2.low keeps_stop (Nat.le_of_lt HGW.out), HAB.out.2.low keeps_tail (Nat.le_of_lt HGW.out)⟩, (KeepsP.sl HIW.out keeps_stop).and_ (KeepsP.sl HIW.out keeps_tail)⟩
          go_wp2_with fail
          have hbx := ((((((((HBX.out.set_ 0 (.int .i64 a)).set_ 1 (.int .i64 b)).set_ 2 (.bool c)).set_ 3 (.int .i64 d)).set_ 4 (.slice Av5 f.length cv5)).set_ 5 (.int .i64 g)).set_ 6 (.int .i64 h)).set_ 7 (.slice Av1 K1 cv1))
          generalize ((((((((V1.setCell ⟨w.heap.size, 0, none⟩ (.int .i64 a)).setCell ⟨w.heap.size, 1, none⟩ (.int .i64 b)).setCell ⟨w.heap.size, 2, none⟩ (.bool c)).setCell ⟨w.heap.size, 3, none⟩ (.int .i64 d)).setCell ⟨w.heap.size, 4, none⟩ (.slice Av5 f.length cv5)).setCell ⟨w.heap.size, 5, none⟩ (.int .i64 g)).setCell ⟨w.heap.size, 6, none⟩ (.int .i64 h)).setCell ⟨w.heap.size, 7, none⟩ (.slice Av1 K1 cv1)) = X at hbx ⊢
          have hbk : Blk X w.heap.size 50 #[.int .i64 a, .int .i64 b, .bool c, .int .i64 d, .slice Av5 f.length cv5, .int .i64 g, .int .i64 h, .slice Av1 K1 cv1] := by simpa using hbx.blk
          obtain ⟨q0, q1, q2, q3, q4, q5, q6, q7⟩ := blk8s hbk
          refine bodyPost_ret (v := .agg #[.int .i64 a, .int .i64 b, .bool c, .int .i64 d, .slice Av5 f.length cv5, .int .i64 g, .int .i64 h, .slice Av1 K1 cv1]) (by simp [results, Try.results31, go_sem, q0, q1, q2, q3, q4, q5, q6, q7]) rfl ?_
          refine ⟨t1, ⟨a, b, c, d, f, g, h, ys1⟩, [.int .i64 a, .int .i64 b, .bool c, .int .i64 d, .slice Av5 f.length cv5, .int .i64 g, .int .i64 h, .slice Av1 K1 cv1], rfl, hbx.in_, hbx.gr, step_row HS1.out HS2.out HS3.out HS4.out HS5.out HS6.out HS7.out HQ1.out, rfl, ⟨_, _, rfl, hbx.rest.1.le keeps_stop, hbx.rest.2.le keeps_tail, HW1.out, HW2.out, HW4.out, HW6.out, HW7.out⟩⟩
end Go.Proofs.Ytabndfkkbmhhjaa
namespace Go.Proofs.Ytabndfkkbmhhjaa
set_option linter.unusedVariables false
set_option linter.unusedSimpArgs false
open Go.RowKit Go.Deep

set_option maxRecDepth 100000 in
set_option maxHeartbeats 16000000 in
theorem in_code (I : Nat) (l : List UInt8) (s : Option Nat) (w : World) (h : InD w I l s) :
    Calls Try.prog 32 #[.pointer (some ⟨I, 0, none⟩)] w fun e w' => ∃ (t : Option Nat) (y : TCode) (cs : List Value), e = .returned (.agg cs.toArray) ∧ InD w' I l t ∧ w.grownBy w' (some I) ∧ StepD codeF zCode l s t y ∧ cs.length = 5 ∧ CodeQ (fun b => w.heap.size ≤ b ∧ b < w'.heap.size) w' cs y := by
  obtain ⟨i1, hi1, hz1, hsz1, hb1⟩ := info_parts info_inp
  obtain ⟨i2, hi2, hz2, hsz2, hb2⟩ := info_parts info_val
  obtain ⟨i3, hi3, hz3, hsz3, hb3⟩ := info_parts info_ins
  obtain ⟨W1, hW1⟩ : ∃ W, W = w.alloc (.cells #[.int .i64 0, .int .i64 0, .slice none 0 0, .slice none 0 0, .slice none 0 0] 57) := ⟨_, rfl⟩
  have hI1 : InD W1 I l s := by rw [hW1]; exact h.below ((Below.refl _ _).alloc (Nat.le_refl _) _)
  have HIW := Lib.hid h.blk
  have HZ1 : Hid (Blk W1 w.heap.size 57 #[.int .i64 0, .int .i64 0, .slice none 0 0, .slice none 0 0, .slice none 0 0]) := Lib.hid (by rw [hW1]; exact Blk.new _ _ _)
  have HG1 : Hid (w.grownBy W1 (some I)) := Lib.hid (by rw [hW1]; exact only_alloc (World.grownBy.refl _ _) _)
  have C1 := Lib.hid (in_num I l s W1 hI1)
  have HW1 := Lib.hid hW1
  clear h hI1 hW1
  go_enter Try.func32, Try.ntmps32
  go_upto_region 1 with fail
  rw [← HW1.out]
  clear HW1
  go_wp2_with fail
  refine C1.out.mono ?_
  rintro e w2 ⟨s1, a, rfl, hi, hg, hst, hy1, hy2⟩
  have HSA := Lib.hid hst
  have HWA := Lib.hid (wfi_num hy1 hy2)
  have HZ2 := Lib.hid (HZ1.out.grown hg (by have := HIW.out; intro e; injection e with e; omega))
  obtain ⟨G, hG⟩ : ∃ G, G = w2.heap.size := ⟨_, rfl⟩
  obtain ⟨W3, hW3⟩ : ∃ W, W = w2.alloc (.cells #[.int .i64 a, .int .i64 0, .slice none 0 0, .slice none 0 0, .slice none 0 0] 57) := ⟨_, rfl⟩
  have HB3 : Hid (BoxX w I l G 57 W3 s1 #[.int .i64 a, .int .i64 0, .slice none 0 0, .slice none 0 0, .slice none 0 0] (fun W => Blk W w.heap.size 57 #[.int .i64 0, .int .i64 0, .slice none 0 0, .slice none 0 0, .slice none 0 0])) := Lib.hid (by
    rw [hW3, hG]
    exact BoxX.start hi (only_tr HG1.out hg) HIW.out (HZ2.out.alloc _) (KeepsP.blk (by have := HIW.out; omega) (by have := HZ2.out.lt; omega)))
  have HGW : Hid (w.heap.size < G) := Lib.hid (by rw [hG]; exact HZ2.out.lt)
  have C2 := Lib.hid (in_num I l s1 W3 HB3.out.in_)
  clear C1 hi hg hst hy1 hy2 HZ2 HZ1 HG1
  go_upto_region 2 with fail
  rw [← hW3, ← hG]
  clear hW3 hG
  go_wp2_with fail
  refine C2.out.mono ?_
  rintro e w4 ⟨s2, b, rfl, hi, hg, hst, hy1, hy2⟩
  have HSB := Lib.hid hst
  have HWB := Lib.hid (wfi_num hy1 hy2)
  have HB4 := Lib.hid (HB3.out.call hg hi)
  obtain ⟨g0, g1, g2, g3, g4⟩ := blk5 HB4.out.blk
  have gz := HB4.out.blk.frozen 1
  obtain ⟨W5, hW5⟩ : ∃ W, W = w4.setCell ⟨G, 1, none⟩ (.int .i64 b) := ⟨_, rfl⟩
  have HB5 : Hid (BoxX w I l G 57 W5 s2 #[.int .i64 a, .int .i64 b, .slice none 0 0, .slice none 0 0, .slice none 0 0] (fun W => Blk W w.heap.size 57 #[.int .i64 0, .int .i64 0, .slice none 0 0, .slice none 0 0, .slice none 0 0])) := Lib.hid (by rw [hW5]; simpa using HB4.out.set_ 1 (.int .i64 b))
  have C3 := Lib.hid (in_count I l s2 W5 HB5.out.in_)
  have HAT2 := Lib.hid HB5.out.in_.at_
  clear C2 hi hg hst hy1 hy2 HB4 HB3
  go_upto_region 3 with fail
  rw [← hW5]
  clear hW5 g0 g1 g2 g3 g4 gz
  go_wp2_with fail
  refine C3.out.mono ?_
  rintro e w6 ⟨m1, n1, rfl, hi, hg, hc⟩
  have HC1 := Lib.hid hc
  have HB6 := Lib.hid (HB5.out.call hg hi)
  clear C3 hi hg hc HB5
  go_wp2_with fail
  have HKP1 := Lib.hid HB6.out.lt
  have HBG1 : Hid (G < w6.heap.size) := Lib.hid HB6.out.blk.lt
  go_loopw [4] (fun j wr => ∃ v, LpD w6.heap.size 91 4 (fun _ => InpC) inpF zInp l I G n1 m1 w6 wr v j ∧ Blk wr G 57 #[.int .i64 a, .int .i64 b, v, .slice none 0 0, .slice none 0 0]) (fun j _ => (intOf j).toNat)
  case atStart => exact ⟨_, LpD.start w6 HB6.out.in_, HB6.out.blk⟩
  case round =>
    obtain ⟨v, ⟨K1, t1, ys1, css1, rfl, hk, hyl, hacc, hi, hgr, hrun⟩, hbg⟩ := hrel
    obtain ⟨Av1, cv1, hv⟩ := own_slice hacc.1
    rw [hyl] at hv
    subst hv
    have HACC := Lib.hid hacc
    have HGR := Lib.hid hgr
    have HRUN := Lib.hid hrun
    have HI2 := Lib.hid hi
    have HYL := Lib.hid hyl
    have HBG := Lib.hid hbg
    obtain ⟨A0, m0, c0, k0, k1, f0, f1⟩ := hi.cells
    have hn := HC1.out.1
    clear hacc hgr hrun hi hbg
    by_cases hgo : K1 < n1 ∧ t1.isSome = true
    · obtain ⟨hlt, hts⟩ := hgo
      have hpos : (0 : Int) < (n1 : Int) - (K1 : Int) := by omega
      rw [hts] at k1
      have CN0 := Lib.hid (in_num I l t1 wr HI2.out)
      go_wp2_with fail
      refine CN0.out.mono ?_
      rintro e x0 ⟨u0, a0, rfl, hi, hg, hst, hy1, hy2⟩
      have HST0 := Lib.hid hst
      have HWF0 := Lib.hid (wfi_num hy1 hy2)
      clear hst hy1 hy2 CN0
      obtain ⟨X, hX⟩ : ∃ X, X = x0.heap.size := ⟨_, rfl⟩
      obtain ⟨y0, hy⟩ : ∃ W, W = x0.alloc (.cells #[.int .i64 a0, .int .i64 0, .int .i64 0, .int .i64 0] 91) := ⟨_, rfl⟩
      have HE0 : Hid (BoxX wr I l X 91 y0 u0 #[.int .i64 a0, .int .i64 0, .int .i64 0, .int .i64 0] (fun _ => True)) := Lib.hid (by rw [hy, hX]; exact BoxX.start hi hg (Nat.lt_of_lt_of_le HI2.out.blk (Nat.le_refl _)) trivial KeepsP.true_)
      clear hi hg k0 k1 f0 f1
      have CN1 := Lib.hid (in_num I l u0 y0 HE0.out.in_)
      go_upto_region 7 with fail
      rw [← hy, ← hX]
      clear hy hX
      go_wp2_with fail
      refine CN1.out.mono ?_
      rintro e x1 ⟨u1, a1, rfl, hi, hg, hst, hy1, hy2⟩
      have HST1 := Lib.hid hst
      have HWF1 := Lib.hid (wfi_num hy1 hy2)
      clear hst hy1 hy2 CN1
      have HF1 := Lib.hid (HE0.out.call hg hi)
      obtain ⟨p0, p1, p2, p3, z0, z1, z2, z3⟩ := blk4f HF1.out.blk
      obtain ⟨y1, hy⟩ : ∃ W, W = x1.setCell ⟨X, 1, none⟩ (.int .i64 a1) := ⟨_, rfl⟩
      have HE1 : Hid (BoxX wr I l X 91 y1 u1 #[.int .i64 a0, .int .i64 a1, .int .i64 0, .int .i64 0] (fun _ => True)) := Lib.hid (by rw [hy]; simpa using HF1.out.set_ 1 (.int .i64 a1))
      clear hi hg HF1 HE0
      have CN2 := Lib.hid (in_num I l u1 y1 HE1.out.in_)
      go_upto_region 8 with fail
      rw [← hy]
      clear hy p0 z0 p1 z1 p2 z2 p3 z3
      go_wp2_with fail
      refine CN2.out.mono ?_
      rintro e x2 ⟨u2, a2, rfl, hi, hg, hst, hy1, hy2⟩
      have HST2 := Lib.hid hst
      have HWF2 := Lib.hid (wfi_num hy1 hy2)
      clear hst hy1 hy2 CN2
      have HF2 := Lib.hid (HE1.out.call hg hi)
      obtain ⟨p0, p1, p2, p3, z0, z1, z2, z3⟩ := blk4f HF2.out.blk
      obtain ⟨y2, hy⟩ : ∃ W, W = x2.setCell ⟨X, 2, none⟩ (.int .i64 a2) := ⟨_, rfl⟩
      have HE2 : Hid (BoxX wr I l X 91 y2 u2 #[.int .i64 a0, .int .i64 a1, .int .i64 a2, .int .i64 0] (fun _ => True)) := Lib.hid (by rw [hy]; simpa using HF2.out.set_ 2 (.int .i64 a2))
      clear hi hg HF2 HE1
      have CN3 := Lib.hid (in_num I l u2 y2 HE2.out.in_)
      go_upto_region 9 with fail
      rw [← hy]
      clear hy p0 z0 p1 z1 p2 z2 p3 z3
      go_wp2_with fail
      refine CN3.out.mono ?_
      rintro e x3 ⟨u3, a3, rfl, hi, hg, hst, hy1, hy2⟩
      have HST3 := Lib.hid hst
      have HWF3 := Lib.hid (wfi_num hy1 hy2)
      clear hst hy1 hy2 CN3
      have HF3 := Lib.hid (HE2.out.call hg hi)
      obtain ⟨p0, p1, p2, p3, z0, z1, z2, z3⟩ := blk4f HF3.out.blk
      obtain ⟨y3, hy⟩ : ∃ W, W = x3.setCell ⟨X, 3, none⟩ (.int .i64 a3) := ⟨_, rfl⟩
      have HE3 : Hid (BoxX wr I l X 91 y3 u3 #[.int .i64 a0, .int .i64 a1, .int .i64 a2, .int .i64 a3] (fun _ => True)) := Lib.hid (by rw [hy]; simpa using HF3.out.set_ 3 (.int .i64 a3))
      clear hi hg HF3 HE2
      go_upto_region 10 with fail
      rw [← hy]
      clear hy p0 z0 p1 z1 p2 z2 p3 z3
      obtain ⟨p0, p1, p2, p3, z0, z1, z2, z3⟩ := blk4f HE3.out.blk
      have HBR2 := Lib.hid (HBG.out.grown HE3.out.gr (by have := HKP1.out; intro e; injection e with e; omega))
      obtain ⟨g0, g1, g2, g3, g4⟩ := blk5 HBR2.out
      have gz := HBR2.out.frozen 2
      have HSW := Lib.hid HGR.out.size
      have HO2 : Hid ((y3.alloc (.cells #[.int .i64 a0, .int .i64 a1, .int .i64 a2, .int .i64 a3] 91)).ownsRow w6.heap.size 91 4 (.slice Av1 K1 cv1) K1 css1.flatten) := Lib.hid (LpD.own HYL.out HACC.out (Nat.lt_of_lt_of_le HKP1.out (Nat.le_of_lt HBG1.out)) (only_alloc HE3.out.gr (.cells #[.int .i64 a0, .int .i64 a1, .int .i64 a2, .int .i64 a3] 91)))
      have HSY : Hid (w6.heap.size ≤ (y3.alloc (.cells #[.int .i64 a0, .int .i64 a1, .int .i64 a2, .int .i64 a3] 91)).heap.size) := Lib.hid (by rw [World.size_alloc]; have := HSW.out; have := HE3.out.gr.size; omega)
      go_wp2_with (at_builtin; refine wpList_append_any _ rfl (.tmp 41) (.tmp 43) 53 rfl w6.heap.size 91 i1 _ 4 32 Try.underlying53 hi1 hz1 hsz1 hb1 rfl (by omega) (.slice Av1 K1 cv1) K1 css1.flatten rfl HO2.out (y3.heap.size + 1) (some ⟨y3.heap.size, 0, none⟩) 1 1 [.int .i64 a0, .int .i64 a1, .int .i64 a2, .int .i64 a3] rfl (reads_lit _ _ 4 rfl _ _) (by intro u hu; simp at hu; rcases hu with rfl | rfl | rfl | rfl <;> rfl) (by unfold maxLen; omega) (by omega) HSY.out ?_; intro v9 w3 ho hg hat; obtain ⟨A9, c9, rfl⟩ := own_slice ho; have HO3 := Lib.hid ho; have HG6 := Lib.hid hg; have HAT4 := Lib.hid hat; have HBR3 := Lib.hid ((HBR2.out.alloc (.cells #[.int .i64 a0, .int .i64 a1, .int .i64 a2, .int .i64 a3] 91)).grown hg (fun e => by have h1 := (own_lt2 HO2.out e.symm).2; have := HBG1.out; omega)); have gz := HBR3.out.frozen 2; obtain ⟨g0, g1, g2, g3, g4⟩ := blk5 HBR3.out; clear ho hg hat)
      have HL : Hid (LpD w6.heap.size 91 4 (fun _ => InpC) inpF zInp l I G n1 m1 w6 w3 (.slice A9 (K1 + 1) c9) (.int .i64 ((n1 : Int) - (K1 : Int) - 1))) := Lib.hid (LpD.next keeps_inp hlt HYL.out HACC.out HGR.out HRUN.out (Nat.lt_of_lt_of_le HKP1.out (Nat.le_of_lt HBG1.out)) HSW.out (only_alloc HE3.out.gr _) (HE3.out.alloc _).in_ (step_inp HST0.out HST1.out HST2.out HST3.out) rfl ⟨rfl, HWF0.out, HWF1.out, HWF2.out, HWF3.out⟩ HO3.out HG6.out HAT4.out)
      have HL2 := Lib.hid (HL.out.set_ keeps_inp HBG1.out HKP1.out 2 (.slice A9 (K1 + 1) c9))
      have HBR4 : Hid (Blk (w3.setCell ⟨G, 2, none⟩ (.slice A9 (K1 + 1) c9)) G 57 #[.int .i64 a, .int .i64 b, .slice A9 (K1 + 1) c9, .slice none 0 0, .slice none 0 0]) := Lib.hid (by simpa using HBR3.out.set_ 2 (.slice A9 (K1 + 1) c9))
      go_wp2_with fail
      clear g0 g1 g2 g3 g4 gz p0 z0 p1 z1 p2 z2 p3 z3
      go_roundw
      case rel => first | exact ⟨_, HL2.out, HBR4.out⟩ | ((repeat apply Exists.intro); exact ⟨⟨_, HL2.out, HBR4.out⟩, rfl⟩)
      case measure => simp [intOf]; omega
    · have HBK := Lib.hid (HB6.out.loop HGR.out HBG.out HI2.out)
      have HSL : Hid (SlP G 4 (fun _ => InpC) (.slice Av1 K1 cv1) ys1 wr) := Lib.hid (SlP.of_acc HACC.out keeps_inp HBG1.out)
      have HBY1 := Lib.hid (HBK.out.add HSL.out (KeepsP.sl HKP1.out keeps_inp))
      have HQ1 : Hid (StepD (listF inpF zInp) [] l s2 t1 ys1) := Lib.hid (HRUN.out.done codec_inp HAT2.out HC1.out HB6.out.in_.at_ hk (by rcases t1 with _ | p; exact .inr rfl; exact .inl (by simp at hgo; omega)))
      clear HACC HGR HRUN HI2 HBG HBK HSL
      have HEX0 : True := trivial
      have HEX : ((0 : Int) < (n1 : Int) - (K1 : Int) → t1.isSome = false) := fun h => by rcases t1 with _ | p; rfl; simp at hgo; omega
      obtain ⟨bb1, hb⟩ : ∃ bb, t1.isSome = bb := ⟨_, rfl⟩
      rw [hb] at k1 HEX
      clear hgo
      clear HEX0
      go_upto_region 4 with fail
      go_cut [25] (fun x wx => x = .bool false ∧ wx = wr)
      case first =>
        by_cases hp : (0 : Int) < (n1 : Int) - (K1 : Int)
        · have hbf := HEX hp
          subst hbf
          go_wp2_with fail
          go_meet
          exact ⟨rfl, rfl⟩
        · have hp2 : (n1 : Int) - (K1 : Int) ≤ 0 := by omega
          go_wp2_with fail
          go_meet
          exact ⟨rfl, rfl⟩
      case rest =>
        obtain ⟨rfl, hcw⟩ := hcut
        subst hcw
        obtain ⟨V1, hV⟩ : ∃ V, V = wc := ⟨wc, rfl⟩
        subst hV
        clear k0 k1 f0 f1 HEX hb
        have C1 := Lib.hid (in_count I l t1 V1 HBY1.out.in_)
        have HAT3 := Lib.hid HBY1.out.in_.at_
        go_wp2_with fail
        refine C1.out.mono ?_
        rintro e w7 ⟨m2, n2, rfl, hi, hg, hc⟩
        have HC2 := Lib.hid hc
        have HB7 := Lib.hid (HBY1.out.call hg hi)
        clear C1 hi hg hc HBY1
        go_wp2_with fail
        have HKP2 := Lib.hid HB7.out.lt
        have HBG2 : Hid (G < w7.heap.size) := Lib.hid HB7.out.blk.lt
        go_loopw [6] (fun j wr => ∃ v, LpD w7.heap.size 94 2 (fun _ => ValC) valF zVal l I G n2 m2 w7 wr v j ∧ Blk wr G 57 #[.int .i64 a, .int .i64 b, .slice Av1 K1 cv1, v, .slice none 0 0]) (fun j _ => (intOf j).toNat)
        case atStart => exact ⟨_, LpD.start w7 HB7.out.in_, HB7.out.blk⟩
        case round =>
          obtain ⟨v, ⟨K2, t2, ys2, css2, rfl, hk, hyl, hacc, hi, hgr, hrun⟩, hbg⟩ := hrel
          obtain ⟨Av2, cv2, hv⟩ := own_slice hacc.1
          rw [hyl] at hv
          subst hv
          have HACC := Lib.hid hacc
          have HGR := Lib.hid hgr
          have HRUN := Lib.hid hrun
          have HI2 := Lib.hid hi
          have HYL := Lib.hid hyl
          have HBG := Lib.hid hbg
          obtain ⟨A0, m0, c0, k0, k1, f0, f1⟩ := hi.cells
          have hn := HC2.out.1
          clear hacc hgr hrun hi hbg
          by_cases hgo : K2 < n2 ∧ t2.isSome = true
          · obtain ⟨hlt, hts⟩ := hgo
            have hpos : (0 : Int) < (n2 : Int) - (K2 : Int) := by omega
            rw [hts] at k1
            have CN0 := Lib.hid (in_num I l t2 wr HI2.out)
            go_wp2_with fail
            refine CN0.out.mono ?_
            rintro e x0 ⟨u0, a0, rfl, hi, hg, hst, hy1, hy2⟩
            have HST0 := Lib.hid hst
            have HWF0 := Lib.hid (wfi_num hy1 hy2)
            clear hst hy1 hy2 CN0
            obtain ⟨X, hX⟩ : ∃ X, X = x0.heap.size := ⟨_, rfl⟩
            obtain ⟨y0, hy⟩ : ∃ W, W = x0.alloc (.cells #[.int .i64 a0, .int .u64 0] 94) := ⟨_, rfl⟩
            have HE0 : Hid (BoxX wr I l X 94 y0 u0 #[.int .i64 a0, .int .u64 0] (fun _ => True)) := Lib.hid (by rw [hy, hX]; exact BoxX.start hi hg (Nat.lt_of_lt_of_le HI2.out.blk (Nat.le_refl _)) trivial KeepsP.true_)
            clear hi hg k0 k1 f0 f1
            have CN1 := Lib.hid (in_uint I l u0 y0 HE0.out.in_)
            go_upto_region 15 with fail
            rw [← hy, ← hX]
            clear hy hX
            go_wp2_with fail
            refine CN1.out.mono ?_
            rintro e x1 ⟨u1, a1, rfl, hi, hg, hv, hs1, hs2⟩
            have HST1 := Lib.hid (step_bits hs1 hs2)
            have HWF1 := Lib.hid (wfu_nat hv)
            clear hs1 hs2 hv CN1
            have HF1 := Lib.hid (HE0.out.call hg hi)
            obtain ⟨p0, p1, z0, z1⟩ := blk2f HF1.out.blk
            obtain ⟨y1, hy⟩ : ∃ W, W = x1.setCell ⟨X, 1, none⟩ (.int .u64 (a1 : Int)) := ⟨_, rfl⟩
            have HE1 : Hid (BoxX wr I l X 94 y1 u1 #[.int .i64 a0, .int .u64 (a1 : Int)] (fun _ => True)) := Lib.hid (by rw [hy]; simpa using HF1.out.set_ 1 (.int .u64 (a1 : Int)))
            clear hi hg HF1 HE0
            go_upto_region 16 with fail
            rw [← hy]
            clear hy p0 z0 p1 z1
            obtain ⟨p0, p1, z0, z1⟩ := blk2f HE1.out.blk
            have HBR2 := Lib.hid (HBG.out.grown HE1.out.gr (by have := HKP2.out; intro e; injection e with e; omega))
            obtain ⟨g0, g1, g2, g3, g4⟩ := blk5 HBR2.out
            have gz := HBR2.out.frozen 3
            have HSW := Lib.hid HGR.out.size
            have HO2 : Hid ((y1.alloc (.cells #[.int .i64 a0, .int .u64 (a1 : Int)] 94)).ownsRow w7.heap.size 94 2 (.slice Av2 K2 cv2) K2 css2.flatten) := Lib.hid (LpD.own HYL.out HACC.out (Nat.lt_of_lt_of_le HKP2.out (Nat.le_of_lt HBG2.out)) (only_alloc HE1.out.gr (.cells #[.int .i64 a0, .int .u64 (a1 : Int)] 94)))
            have HSY : Hid (w7.heap.size ≤ (y1.alloc (.cells #[.int .i64 a0, .int .u64 (a1 : Int)] 94)).heap.size) := Lib.hid (by rw [World.size_alloc]; have := HSW.out; have := HE1.out.gr.size; omega)
            go_wp2_with (at_builtin; refine wpList_append_any _ rfl (.tmp 65) (.tmp 67) 54 rfl w7.heap.size 94 i2 _ 2 16 Try.underlying54 hi2 hz2 hsz2 hb2 rfl (by omega) (.slice Av2 K2 cv2) K2 css2.flatten rfl HO2.out (y1.heap.size + 1) (some ⟨y1.heap.size, 0, none⟩) 1 1 [.int .i64 a0, .int .u64 (a1 : Int)] rfl (reads_lit _ _ 2 rfl _ _) (by intro u hu; simp at hu; rcases hu with rfl | rfl <;> rfl) (by unfold maxLen; omega) (by omega) HSY.out ?_; intro v9 w3 ho hg hat; obtain ⟨A9, c9, rfl⟩ := own_slice ho; have HO3 := Lib.hid ho; have HG6 := Lib.hid hg; have HAT4 := Lib.hid hat; have HBR3 := Lib.hid ((HBR2.out.alloc (.cells #[.int .i64 a0, .int .u64 (a1 : Int)] 94)).grown hg (fun e => by have h1 := (own_lt2 HO2.out e.symm).2; have := HBG2.out; omega)); have gz := HBR3.out.frozen 3; obtain ⟨g0, g1, g2, g3, g4⟩ := blk5 HBR3.out; clear ho hg hat)
            have HL : Hid (LpD w7.heap.size 94 2 (fun _ => ValC) valF zVal l I G n2 m2 w7 w3 (.slice A9 (K2 + 1) c9) (.int .i64 ((n2 : Int) - (K2 : Int) - 1))) := Lib.hid (LpD.next keeps_val hlt HYL.out HACC.out HGR.out HRUN.out (Nat.lt_of_lt_of_le HKP2.out (Nat.le_of_lt HBG2.out)) HSW.out (only_alloc HE1.out.gr _) (HE1.out.alloc _).in_ (step_val HST0.out HST1.out) rfl ⟨rfl, HWF0.out, HWF1.out⟩ HO3.out HG6.out HAT4.out)
            have HL2 := Lib.hid (HL.out.set_ keeps_val HBG2.out HKP2.out 3 (.slice A9 (K2 + 1) c9))
            have HBR4 : Hid (Blk (w3.setCell ⟨G, 3, none⟩ (.slice A9 (K2 + 1) c9)) G 57 #[.int .i64 a, .int .i64 b, .slice Av1 K1 cv1, .slice A9 (K2 + 1) c9, .slice none 0 0]) := Lib.hid (by simpa using HBR3.out.set_ 3 (.slice A9 (K2 + 1) c9))
            go_wp2_with fail
            clear g0 g1 g2 g3 g4 gz p0 z0 p1 z1
            go_roundw
            case rel => first | exact ⟨_, HL2.out, HBR4.out⟩ | ((repeat apply Exists.intro); exact ⟨⟨_, HL2.out, HBR4.out⟩, rfl⟩)
            case measure => simp [intOf]; omega
          · have HBK := Lib.hid (HB7.out.loop HGR.out HBG.out HI2.out)
            have HSL : Hid (SlP G 2 (fun _ => ValC) (.slice Av2 K2 cv2) ys2 wr) := Lib.hid (SlP.of_acc HACC.out keeps_val HBG2.out)
            have HBY2 := Lib.hid (HBK.out.add HSL.out (KeepsP.sl HKP2.out keeps_val))
            have HQ2 : Hid (StepD (listF valF zVal) [] l t1 t2 ys2) := Lib.hid (HRUN.out.done codec_val HAT3.out HC2.out HB7.out.in_.at_ hk (by rcases t2 with _ | p; exact .inr rfl; exact .inl (by simp at hgo; omega)))
            clear HACC HGR HRUN HI2 HBG HBK HSL
            have HEX0 : True := trivial
            have HEX : ((0 : Int) < (n2 : Int) - (K2 : Int) → t2.isSome = false) := fun h => by rcases t2 with _ | p; rfl; simp at hgo; omega
            obtain ⟨bb2, hb⟩ : ∃ bb, t2.isSome = bb := ⟨_, rfl⟩
            rw [hb] at k1 HEX
            clear hgo
            clear HEX0
            go_upto_region 12 with fail
            go_cut [55] (fun x wx => x = .bool false ∧ wx = wr)
            case first =>
              by_cases hp : (0 : Int) < (n2 : Int) - (K2 : Int)
              · have hbf := HEX hp
                subst hbf
                go_wp2_with fail
                go_meet
                exact ⟨rfl, rfl⟩
              · have hp2 : (n2 : Int) - (K2 : Int) ≤ 0 := by omega
                go_wp2_with fail
                go_meet
                exact ⟨rfl, rfl⟩
            case rest =>
              obtain ⟨rfl, hcw⟩ := hcut
              subst hcw
              obtain ⟨V2, hV⟩ : ∃ V, V = wc := ⟨wc, rfl⟩
              subst hV
              clear k0 k1 f0 f1 HEX hb
              have C2 := Lib.hid (in_count I l t2 V2 HBY2.out.in_)
              have HAT4 := Lib.hid HBY2.out.in_.at_
              go_wp2_with fail
              refine C2.out.mono ?_
              rintro e w8 ⟨m3, n3, rfl, hi, hg, hc⟩
              have HC3 := Lib.hid hc
              have HB8 := Lib.hid (HBY2.out.call hg hi)
              clear C2 hi hg hc HBY2
              go_wp2_with fail
              have HKP3 := Lib.hid HB8.out.lt
              have HBG3 : Hid (G < w8.heap.size) := Lib.hid HB8.out.blk.lt
              go_loopw [8] (fun j wr => ∃ v, LpD w8.heap.size 97 4 (fun _ => InsC) insF zIns l I G n3 m3 w8 wr v j ∧ Blk wr G 57 #[.int .i64 a, .int .i64 b, .slice Av1 K1 cv1, .slice Av2 K2 cv2, v]) (fun j _ => (intOf j).toNat)
              case atStart => exact ⟨_, LpD.start w8 HB8.out.in_, HB8.out.blk⟩
              case round =>
                obtain ⟨v, ⟨K3, t3, ys3, css3, rfl, hk, hyl, hacc, hi, hgr, hrun⟩, hbg⟩ := hrel
                obtain ⟨Av3, cv3, hv⟩ := own_slice hacc.1
                rw [hyl] at hv
                subst hv
                have HACC := Lib.hid hacc
                have HGR := Lib.hid hgr
                have HRUN := Lib.hid hrun
                have HI2 := Lib.hid hi
                have HYL := Lib.hid hyl
                have HBG := Lib.hid hbg
                obtain ⟨A0, m0, c0, k0, k1, f0, f1⟩ := hi.cells
                have hn := HC3.out.1
                clear hacc hgr hrun hi hbg
                by_cases hgo : K3 < n3 ∧ t3.isSome = true
                · obtain ⟨hlt, hts⟩ := hgo
                  have hpos : (0 : Int) < (n3 : Int) - (K3 : Int) := by omega
                  rw [hts] at k1
                  have CN0 := Lib.hid (in_num I l t3 wr HI2.out)
                  go_wp2_with fail
                  refine CN0.out.mono ?_
                  rintro e x0 ⟨u0, a0, rfl, hi, hg, hst, hy1, hy2⟩
                  have HST0 := Lib.hid hst
                  have HWF0 := Lib.hid (wfi_num hy1 hy2)
                  clear hst hy1 hy2 CN0
                  obtain ⟨X, hX⟩ : ∃ X, X = x0.heap.size := ⟨_, rfl⟩
                  obtain ⟨y0, hy⟩ : ∃ W, W = x0.alloc (.cells #[.int .i64 a0, .int .i64 0, .int .i64 0, .int .i64 0] 97) := ⟨_, rfl⟩
                  have HE0 : Hid (BoxX wr I l X 97 y0 u0 #[.int .i64 a0, .int .i64 0, .int .i64 0, .int .i64 0] (fun _ => True)) := Lib.hid (by rw [hy, hX]; exact BoxX.start hi hg (Nat.lt_of_lt_of_le HI2.out.blk (Nat.le_refl _)) trivial KeepsP.true_)
                  clear hi hg k0 k1 f0 f1
                  have CN1 := Lib.hid (in_num I l u0 y0 HE0.out.in_)
                  go_upto_region 21 with fail
                  rw [← hy, ← hX]
                  clear hy hX
                  go_wp2_with fail
                  refine CN1.out.mono ?_
                  rintro e x1 ⟨u1, a1, rfl, hi, hg, hst, hy1, hy2⟩
                  have HST1 := Lib.hid hst
                  have HWF1 := Lib.hid (wfi_num hy1 hy2)
                  clear hst hy1 hy2 CN1
                  have HF1 := Lib.hid (HE0.out.call hg hi)
                  obtain ⟨p0, p1, p2, p3, z0, z1, z2, z3⟩ := blk4f HF1.out.blk
                  obtain ⟨y1, hy⟩ : ∃ W, W = x1.setCell ⟨X, 1, none⟩ (.int .i64 a1) := ⟨_, rfl⟩
                  have HE1 : Hid (BoxX wr I l X 97 y1 u1 #[.int .i64 a0, .int .i64 a1, .int .i64 0, .int .i64 0] (fun _ => True)) := Lib.hid (by rw [hy]; simpa using HF1.out.set_ 1 (.int .i64 a1))
                  clear hi hg HF1 HE0
                  have CN2 := Lib.hid (in_num I l u1 y1 HE1.out.in_)
                  go_upto_region 22 with fail
                  rw [← hy]
                  clear hy p0 z0 p1 z1 p2 z2 p3 z3
                  go_wp2_with fail
                  refine CN2.out.mono ?_
                  rintro e x2 ⟨u2, a2, rfl, hi, hg, hst, hy1, hy2⟩
                  have HST2 := Lib.hid hst
                  have HWF2 := Lib.hid (wfi_num hy1 hy2)
                  clear hst hy1 hy2 CN2
                  have HF2 := Lib.hid (HE1.out.call hg hi)
                  obtain ⟨p0, p1, p2, p3, z0, z1, z2, z3⟩ := blk4f HF2.out.blk
                  obtain ⟨y2, hy⟩ : ∃ W, W = x2.setCell ⟨X, 2, none⟩ (.int .i64 a2) := ⟨_, rfl⟩
                  have HE2 : Hid (BoxX wr I l X 97 y2 u2 #[.int .i64 a0, .int .i64 a1, .int .i64 a2, .int .i64 0] (fun _ => True)) := Lib.hid (by rw [hy]; simpa using HF2.out.set_ 2 (.int .i64 a2))
                  clear hi hg HF2 HE1
                  have CN3 := Lib.hid (in_num I l u2 y2 HE2.out.in_)
                  go_upto_region 23 with fail
                  rw [← hy]
                  clear hy p0 z0 p1 z1 p2 z2 p3 z3
                  go_wp2_with fail
                  refine CN3.out.mono ?_
                  rintro e x3 ⟨u3, a3, rfl, hi, hg, hst, hy1, hy2⟩
                  have HST3 := Lib.hid hst
                  have HWF3 := Lib.hid (wfi_num hy1 hy2)
                  clear hst hy1 hy2 CN3
                  have HF3 := Lib.hid (HE2.out.call hg hi)
                  obtain ⟨p0, p1, p2, p3, z0, z1, z2, z3⟩ := blk4f HF3.out.blk
                  obtain ⟨y3, hy⟩ : ∃ W, W = x3.setCell ⟨X, 3, none⟩ (.int .i64 a3) := ⟨_, rfl⟩
                  have HE3 : Hid (BoxX wr I l X 97 y3 u3 #[.int .i64 a0, .int .i64 a1, .int .i64 a2, .int .i64 a3] (fun _ => True)) := Lib.hid (by rw [hy]; simpa using HF3.out.set_ 3 (.int .i64 a3))
                  clear hi hg HF3 HE2
                  go_upto_region 24 with fail
                  rw [← hy]
                  clear hy p0 z0 p1 z1 p2 z2 p3 z3
                  obtain ⟨p0, p1, p2, p3, z0, z1, z2, z3⟩ := blk4f HE3.out.blk
                  have HBR2 := Lib.hid (HBG.out.grown HE3.out.gr (by have := HKP3.out; intro e; injection e with e; omega))
                  obtain ⟨g0, g1, g2, g3, g4⟩ := blk5 HBR2.out
                  have gz := HBR2.out.frozen 4
                  have HSW := Lib.hid HGR.out.size
                  have HO2 : Hid ((y3.alloc (.cells #[.int .i64 a0, .int .i64 a1, .int .i64 a2, .int .i64 a3] 97)).ownsRow w8.heap.size 97 4 (.slice Av3 K3 cv3) K3 css3.flatten) := Lib.hid (LpD.own HYL.out HACC.out (Nat.lt_of_lt_of_le HKP3.out (Nat.le_of_lt HBG3.out)) (only_alloc HE3.out.gr (.cells #[.int .i64 a0, .int .i64 a1, .int .i64 a2, .int .i64 a3] 97)))
                  have HSY : Hid (w8.heap.size ≤ (y3.alloc (.cells #[.int .i64 a0, .int .i64 a1, .int .i64 a2, .int .i64 a3] 97)).heap.size) := Lib.hid (by rw [World.size_alloc]; have := HSW.out; have := HE3.out.gr.size; omega)
                  go_wp2_with (at_builtin; refine wpList_append_any _ rfl (.tmp 95) (.tmp 97) 55 rfl w8.heap.size 97 i3 _ 4 32 Try.underlying55 hi3 hz3 hsz3 hb3 rfl (by omega) (.slice Av3 K3 cv3) K3 css3.flatten rfl HO2.out (y3.heap.size + 1) (some ⟨y3.heap.size, 0, none⟩) 1 1 [.int .i64 a0, .int .i64 a1, .int .i64 a2, .int .i64 a3] rfl (reads_lit _ _ 4 rfl _ _) (by intro u hu; simp at hu; rcases hu with rfl | rfl | rfl | rfl <;> rfl) (by unfold maxLen; omega) (by omega) HSY.out ?_; intro v9 w3 ho hg hat; obtain ⟨A9, c9, rfl⟩ := own_slice ho; have HO3 := Lib.hid ho; have HG6 := Lib.hid hg; have HAT4 := Lib.hid hat; have HBR3 := Lib.hid ((HBR2.out.alloc (.cells #[.int .i64 a0, .int .i64 a1, .int .i64 a2, .int .i64 a3] 97)).grown hg (fun e => by have h1 := (own_lt2 HO2.out e.symm).2; have := HBG3.out; omega)); have gz := HBR3.out.frozen 4; obtain ⟨g0, g1, g2, g3, g4⟩ := blk5 HBR3.out; clear ho hg hat)
                  have HL : Hid (LpD w8.heap.size 97 4 (fun _ => InsC) insF zIns l I G n3 m3 w8 w3 (.slice A9 (K3 + 1) c9) (.int .i64 ((n3 : Int) - (K3 : Int) - 1))) := Lib.hid (LpD.next keeps_ins hlt HYL.out HACC.out HGR.out HRUN.out (Nat.lt_of_lt_of_le HKP3.out (Nat.le_of_lt HBG3.out)) HSW.out (only_alloc HE3.out.gr _) (HE3.out.alloc _).in_ (step_ins HST0.out HST1.out HST2.out HST3.out) rfl ⟨rfl, HWF0.out, HWF1.out, HWF2.out, HWF3.out⟩ HO3.out HG6.out HAT4.out)
                  have HL2 := Lib.hid (HL.out.set_ keeps_ins HBG3.out HKP3.out 4 (.slice A9 (K3 + 1) c9))
                  have HBR4 : Hid (Blk (w3.setCell ⟨G, 4, none⟩ (.slice A9 (K3 + 1) c9)) G 57 #[.int .i64 a, .int .i64 b, .slice Av1 K1 cv1, .slice Av2 K2 cv2, .slice A9 (K3 + 1) c9]) := Lib.hid (by simpa using HBR3.out.set_ 4 (.slice A9 (K3 + 1) c9))
                  go_wp2_with fail
                  clear g0 g1 g2 g3 g4 gz p0 z0 p1 z1 p2 z2 p3 z3
                  go_roundw
                  case rel => first | exact ⟨_, HL2.out, HBR4.out⟩ | ((repeat apply Exists.intro); exact ⟨⟨_, HL2.out, HBR4.out⟩, rfl⟩)
                  case measure => simp [intOf]; omega
                · have HBK := Lib.hid (HB8.out.loop HGR.out HBG.out HI2.out)
                  have HSL : Hid (SlP G 4 (fun _ => InsC) (.slice Av3 K3 cv3) ys3 wr) := Lib.hid (SlP.of_acc HACC.out keeps_ins HBG3.out)
                  have HBY3 := Lib.hid (HBK.out.add HSL.out (KeepsP.sl HKP3.out keeps_ins))
                  have HQ3 : Hid (StepD (listF insF zIns) [] l t2 t3 ys3) := Lib.hid (HRUN.out.done codec_ins HAT4.out HC3.out HB8.out.in_.at_ hk (by rcases t3 with _ | p; exact .inr rfl; exact .inl (by simp at hgo; omega)))
                  clear HACC HGR HRUN HI2 HBG HBK HSL
                  have HEX0 : True := trivial
                  have HEX : ((0 : Int) < (n3 : Int) - (K3 : Int) → t3.isSome = false) := fun h => by rcases t3 with _ | p; rfl; simp at hgo; omega
                  obtain ⟨bb3, hb⟩ : ∃ bb, t3.isSome = bb := ⟨_, rfl⟩
                  rw [hb] at k1 HEX
                  clear hgo
                  clear HEX0
                  go_upto_region 18 with fail
                  go_cut [79] (fun x wx => x = .bool false ∧ wx = wr)
                  case first =>
                    by_cases hp : (0 : Int) < (n3 : Int) - (K3 : Int)
                    · have hbf := HEX hp
                      subst hbf
                      go_wp2_with fail
                      go_meet
                      exact ⟨rfl, rfl⟩
                    · have hp2 : (n3 : Int) - (K3 : Int) ≤ 0 := by omega
                      go_wp2_with fail
                      go_meet
                      exact ⟨rfl, rfl⟩
                  case rest =>
                    obtain ⟨rfl, hcw⟩ := hcut
                    subst hcw
                    obtain ⟨V3, hV⟩ : ∃ V, V = wc := ⟨wc, rfl⟩
                    subst hV
                    clear k0 k1 f0 f1 HEX hb
                    have HAB := Lib.hid HBY3.out.rest
                    have HZ : Hid (Blk V3 w.heap.size 57 #[.int .i64 0, .int .i64 0, .slice none 0 0, .slice none 0 0, .slice none 0 0]) := Lib.hid HAB.out.1.1.1
                    obtain ⟨g0, g1, g2, g3, g4⟩ := blk5 HBY3.out.blk
                    obtain ⟨h0, h1, h2, h3, h4⟩ := blk5 HZ.out
                    have y0 := HZ.out.frozen 0
                    have y1 := HZ.out.frozen 1
                    have y2 := HZ.out.frozen 2
                    have y3 := HZ.out.frozen 3
                    have y4 := HZ.out.frozen 4
                    have HBX : Hid (BoxX w I l w.heap.size 57 V3 t3 #[.int .i64 0, .int .i64 0, .slice none 0 0, .slice none 0 0, .slice none 0 0] (fun W => (SlP w.heap.size 4 (fun _ => InpC) (.slice Av1 K1 cv1) ys1 W ∧ SlP w.heap.size 2 (fun _ => ValC) (.slice Av2 K2 cv2) ys2 W) ∧ SlP w.heap.size 4 (fun _ => InsC) (.slice Av3 K3 cv3) ys3 W)) := Lib.hid
                      ⟨HIW.out, Nat.le_refl _, HZ.out, HBY3.out.in_, HBY3.out.gr, ⟨⟨HAB.out.1.1.2.low keeps_inp (Nat.le_of_lt HGW.out), HAB.out.1.2.low keeps_val (Nat.le_of_lt HGW.out)⟩, HAB.out.2.low keeps_ins (Nat.le_of_lt HGW.out)⟩, ((KeepsP.sl HIW.out keeps_inp).and_ (KeepsP.sl HIW.out keeps_val)).and_ (KeepsP.sl HIW.out keeps_ins)⟩
                    go_wp2_with fail
                    have hbx := ((((HBX.out.set_ 0 (.int .i64 a)).set_ 1 (.int .i64 b)).set_ 2 (.slice Av1 K1 cv1)).set_ 3 (.slice Av2 K2 cv2)).set_ 4 (.slice Av3 K3 cv3)
                    generalize ((((V3.setCell ⟨w.heap.size, 0, none⟩ (.int .i64 a)).setCell ⟨w.heap.size, 1, none⟩ (.int .i64 b)).setCell ⟨w.heap.size, 2, none⟩ (.slice Av1 K1 cv1)).setCell ⟨w.heap.size, 3, none⟩ (.slice Av2 K2 cv2)).setCell ⟨w.heap.size, 4, none⟩ (.slice Av3 K3 cv3) = X at hbx ⊢
                    have hbk : Blk X w.heap.size 57 #[.int .i64 a, .int .i64 b, .slice Av1 K1 cv1, .slice Av2 K2 cv2, .slice Av3 K3 cv3] := by simpa using hbx.blk
                    obtain ⟨q0, q1, q2, q3, q4⟩ := blk5 hbk
                    refine bodyPost_ret (v := .agg #[.int .i64 a, .int .i64 b, .slice Av1 K1 cv1, .slice Av2 K2 cv2, .slice Av3 K3 cv3]) (by simp [results, Try.results32, go_sem, q0, q1, q2, q3, q4]) rfl ?_
                    refine ⟨t3, ⟨a, b, ys1, ys2, ys3⟩, [.int .i64 a, .int .i64 b, .slice Av1 K1 cv1, .slice Av2 K2 cv2, .slice Av3 K3 cv3], rfl, hbx.in_, hbx.gr, step_code HSA.out HSB.out HQ1.out HQ2.out HQ3.out, rfl, ⟨_, _, _, rfl, hbx.rest.1.1.le keeps_inp, hbx.rest.1.2.le keeps_val, hbx.rest.2.le keeps_ins, HWA.out, HWB.out⟩⟩
end Go.Proofs.Ytabndfkkbmhhjaa
namespace Go.Proofs.Ytabndfkkbmhhjaa
set_option linter.unusedVariables false
set_option linter.unusedSimpArgs false
open Go.RowKit Go.Deep

attribute [local go_sem ↓] Go.wp_at_zero Go.wp_at_succ
theorem step_tab {l : List UInt8} {s0 s1 s2 s3 s4 s5 s6 s7 s8 : Option Nat} {a c d f : Int} {b : List Int} {k : List (List Int)} {g : List TRow} {h : List TCode} (h1 : StepD num 0 l s0 s1 a) (h2 : StepD (listF intF 0) [] l s1 s2 b) (h3 : StepD (listF (listF intF 0) []) [] l s2 s3 k) (h4 : StepD num 0 l s3 s4 c) (h5 : StepD num 0 l s4 s5 d) (h6 : StepD num 0 l s5 s6 f) (h7 : StepD (listF rowF zRow) [] l s6 s7 g) (h8 : StepD (listF codeF zCode) [] l s7 s8 h) : StepD tabF zTab l s0 s8 ⟨a, b, k, c, d, f, g, h⟩ :=
  ((h1.pair (h2.pair (h3.pair (h4.pair (h5.pair (h6.pair (h7.pair h8))))))).map_ (fun x : TTab => (x.strategy, x.keys, x.kinds, x.syms, x.runs, x.cells, x.states, x.codes)) (fun p => ⟨p.1, p.2.1, p.2.2.1, p.2.2.2.1, p.2.2.2.2.1, p.2.2.2.2.2.1, p.2.2.2.2.2.2.1, p.2.2.2.2.2.2.2⟩) zTab rfl).congr fun st x => by
    simp only [tabF, run1_bind, run3_bind, mapF, pairF, Option.bind_assoc, Option.bind_some, List.getD_cons_zero, List.getD_cons_succ]
theorem itab_end {lb : List UInt8} {t : Option Nat} {y z : TTab} (h : StepD tabF zTab lb (some 0) t y) (hz : Img z lb) : t = some lb.length := by
  have h1 := hz.par 0 none lb.length 0 lb 0 [] rfl (Nat.zero_le _) (by simp)
  have h2 := h.2 0 rfl
  unfold rdS at h2
  rw [h1] at h2
  rcases t with _ | q
  · cases h2
  · simp only [Option.map_some, Option.some.injEq, Prod.mk.injEq, FSt.rd.injEq, true_and, Nat.zero_add] at h2
    rw [h2.1]
theorem itab_img {lb : List UInt8} {y : TTab} (h : StepD tabF zTab lb (some 0) (some lb.length) y) : Img y lb := by
  have h2 := h.2 0 rfl
  unfold rdS at h2
  obtain ⟨m, rest, h3, h4, h5⟩ := img_got rfl (Nat.zero_le _) h2
  simp only [FSt.rd.injEq, true_and, Nat.zero_add, List.drop_zero] at h5 h3
  have h6 := congrArg List.length h3
  rw [List.length_append] at h6
  have h7 : rest = [] := List.eq_nil_of_length_eq_zero (by omega)
  rw [h7, List.append_nil] at h3
  rw [h3]
  exact h4
theorem keepQ_dSet8 {Q : Nat → Prop} {w : World} {g : Nat} (hQ : ∀ b, Q b → b ≠ g) (v0 v1 v2 v3 v4 v5 v6 v7 : Value) : KeepQ Q w (dSet8 w g v0 v1 v2 v3 v4 v5 v6 v7) := by
  unfold dSet8
  exact (((((((KeepQ.of_set hQ).trans (KeepQ.of_set hQ)).trans (KeepQ.of_set hQ)).trans (KeepQ.of_set hQ)).trans (KeepQ.of_set hQ)).trans (KeepQ.of_set hQ)).trans (KeepQ.of_set hQ)).trans (KeepQ.of_set hQ)
theorem sum_same (l s : List UInt8) (k : Nat) : ((⟨(l.take k ++ s).toArray⟩ : ByteArray).toList == (⟨l.toArray⟩ : ByteArray).toList) = decide (l.drop k = s) := by
  rw [ByteArray.toList_eq, ByteArray.toList_eq, Bool.eq_iff_iff, beq_iff_eq, decide_eq_true_iff]
  show l.take k ++ s = l ↔ l.drop k = s
  constructor
  · intro h
    have h2 : l.take k ++ s = l.take k ++ l.drop k := h.trans (List.take_append_drop k l).symm
    exact (List.append_cancel_left h2).symm
  · intro h
    rw [← h, List.take_append_drop]
set_option maxRecDepth 100000 in
set_option maxHeartbeats 16000000 in
theorem rdecode_any (A : Option Addr) (n c : Nat) (l : List UInt8) (w : World) (hn : l.length = n) (hc : n ≤ c) (hm : c ≤ 9223372036854775807) (hR : Reads w w.heap.size 1 A n (bv l)) :
    Calls Try.prog 15 #[.slice A n c] w (DecP l w) := by
  obtain ⟨W1, hW1⟩ : ∃ W, W = w.alloc (.cells #[.int .i64 0, .slice none 0 0, .slice none 0 0, .int .i64 0, .int .i64 0, .int .i64 0, .slice none 0 0, .slice none 0 0] 27) := ⟨_, rfl⟩
  have ha1 : Below w.heap.size w W1 := by rw [hW1]; exact (Below.refl _ _).alloc (Nat.le_refl _) _
  have hbz : Blk W1 w.heap.size 27 #[.int .i64 0, .slice none 0 0, .slice none 0 0, .int .i64 0, .int .i64 0, .int .i64 0, .slice none 0 0, .slice none 0 0] := by rw [hW1]; exact Blk.new _ _ _
  have HA1 := Lib.hid ha1
  have HBZ := Lib.hid hbz
  have HNL := Lib.hid hn
  have hR1 : Reads W1 w.heap.size 1 A n (bv l) := hR.below ha1
  have HR1 := Lib.hid hR1
  have z0 := hbz.frozen 0
  have z1 := hbz.frozen 1
  have z2 := hbz.frozen 2
  have z3 := hbz.frozen 3
  have z4 := hbz.frozen 4
  have z5 := hbz.frozen 5
  have z6 := hbz.frozen 6
  have z7 := hbz.frozen 7
  obtain ⟨x0, x1, x2, x3, x4, x5, x6, x7⟩ := blk8s hbz
  have RET : ∀ (W : World) (ec : Int), Below w.heap.size w W → Blk W w.heap.size 27 #[.int .i64 0, .slice none 0 0, .slice none 0 0, .int .i64 0, .int .i64 0, .int .i64 0, .slice none 0 0, .slice none 0 0] → (∀ y, ¬ IsImg y l) → ec = decErr l → DecP l w (.returned (.tuple #[.agg #[.int .i64 0, .slice none 0 0, .slice none 0 0, .int .i64 0, .int .i64 0, .int .i64 0, .slice none 0 0, .slice none 0 0], .int .i64 ec])) W := fun W ec h1 h2 h3 h4 => ⟨h1, .inr ⟨h3, by rw [h4]⟩⟩
  have HRET := Lib.hid RET
  have nn : (0 : Int) ≤ (n : Int) := by omega
  have HW1 := Lib.hid hW1
  clear ha1 hbz hR hR1 RET hn hW1
  go_enter Try.func15, Try.ntmps15
  go_upto_region 1 with fail
  rw [← HW1.out]
  clear HW1
  by_cases c1 : 65536 < n
  · have HNO : Hid (∀ y, ¬ IsImg y l) := Lib.hid (fun y h => by have := (img_parts h).1; have := HNL.out; omega)
    have HEC : Hid ((2 : Int) = decErr l) := Lib.hid (by unfold decErr; rw [if_pos (by rw [HNL.out]; exact c1)])
    have d1 : (65536 : Int) < (n : Int) := by omega
    clear c1
    go_wp2_with fail
    obtain ⟨X, hX⟩ : ∃ X, X = dSet8 W1 w.heap.size (.int .i64 0) (.slice none 0 0) (.slice none 0 0) (.int .i64 0) (.int .i64 0) (.int .i64 0) (.slice none 0 0) (.slice none 0 0) := ⟨_, rfl⟩
    have HBX := Lib.hid (dSet8_blk HBZ.out (.int .i64 0) (.slice none 0 0) (.slice none 0 0) (.int .i64 0) (.int .i64 0) (.int .i64 0) (.slice none 0 0) (.slice none 0 0))
    have HAX := Lib.hid (dSet8_below HA1.out (Nat.le_refl _) (.int .i64 0) (.slice none 0 0) (.slice none 0 0) (.int .i64 0) (.int .i64 0) (.int .i64 0) (.slice none 0 0) (.slice none 0 0))
    rw [← hX] at HBX HAX
    unfold dSet8 at hX
    rw [← hX]
    clear hX
    obtain ⟨q0, q1, q2, q3, q4, q5, q6, q7⟩ := blk8s HBX.out
    exact bodyPost_ret (v := .tuple #[.agg #[.int .i64 0, .slice none 0 0, .slice none 0 0, .int .i64 0, .int .i64 0, .int .i64 0, .slice none 0 0, .slice none 0 0], .int .i64 2]) (by simp [results, Try.results15, go_sem, q0, q1, q2, q3, q4, q5, q6, q7]) rfl (HRET.out X 2 HAX.out HBX.out HNO.out HEC.out)
  · have HC1 := Lib.hid c1
    have d1 : (n : Int) ≤ 65536 := by omega
    clear c1
    by_cases c2 : n < 8
    · have HNO : Hid (∀ y, ¬ IsImg y l) := Lib.hid (fun y h => by have := (img_parts h).2.1; have := HNL.out; omega)
      have HEC : Hid ((30 : Int) = decErr l) := Lib.hid (by unfold decErr; rw [if_neg (by rw [HNL.out]; exact HC1.out), if_pos (by rw [HNL.out]; exact c2)])
      have d2 : (n : Int) < 8 := by omega
      clear c2
      go_wp2_with fail
      obtain ⟨X, hX⟩ : ∃ X, X = dSet8 W1 w.heap.size (.int .i64 0) (.slice none 0 0) (.slice none 0 0) (.int .i64 0) (.int .i64 0) (.int .i64 0) (.slice none 0 0) (.slice none 0 0) := ⟨_, rfl⟩
      have HBX := Lib.hid (dSet8_blk HBZ.out (.int .i64 0) (.slice none 0 0) (.slice none 0 0) (.int .i64 0) (.int .i64 0) (.int .i64 0) (.slice none 0 0) (.slice none 0 0))
      have HAX := Lib.hid (dSet8_below HA1.out (Nat.le_refl _) (.int .i64 0) (.slice none 0 0) (.slice none 0 0) (.int .i64 0) (.int .i64 0) (.int .i64 0) (.slice none 0 0) (.slice none 0 0))
      rw [← hX] at HBX HAX
      unfold dSet8 at hX
      rw [← hX]
      clear hX
      obtain ⟨q0, q1, q2, q3, q4, q5, q6, q7⟩ := blk8s HBX.out
      exact bodyPost_ret (v := .tuple #[.agg #[.int .i64 0, .slice none 0 0, .slice none 0 0, .int .i64 0, .int .i64 0, .int .i64 0, .slice none 0 0, .slice none 0 0], .int .i64 30]) (by simp [results, Try.results15, go_sem, q0, q1, q2, q3, q4, q5, q6, q7]) rfl (HRET.out X 30 HAX.out HBX.out HNO.out HEC.out)
    · have HC2 := Lib.hid c2
      have d2 : (8 : Int) ≤ (n : Int) := by omega
      have d4 : (4 : Int) ≤ (c : Int) := by omega
      clear c2
      have hcv := reads_text (cap := c) (HR1.out.take HNL.out 4 (by omega)) (by rw [List.length_take]; have := HNL.out; omega)
      by_cases c3 : l.take 4 = magicB
      · rw [c3] at hcv
        have HC3 := Lib.hid c3
        clear c3
        have hne : ((⟨magicB.toArray⟩ : ByteArray).toList == [65, 85, 83, 80]) = true := by rw [ByteArray.toList_eq]; rfl
        obtain ⟨BS, hBS⟩ : ∃ BS : ByteArray, BS = ⟨magicB.toArray⟩ := ⟨_, rfl⟩
        rw [← hBS] at hcv hne
        clear hBS
        obtain ⟨k, hk⟩ : ∃ k, n = k + 4 := ⟨n - 4, by omega⟩
        have e4 : (n : Int) - 4 = (k : Int) := by omega
        have k1 : (k : Int) ≤ (c : Int) := by omega
        have k2 : (4 : Int) ≤ (k : Int) := by omega
        have HK := Lib.hid hk
        have kw : IntKind.i64.wrap (k : Int) = (k : Int) := by rw [IntKind.wrap_i64]; omega
        have k0 : (0 : Int) ≤ (k : Int) := by omega
        have CS := Lib.hid (fun W (hb : Below W1.heap.size W1 W) => summed_any A k c (l.take k) W (by rw [List.length_take]; have := HNL.out; omega) (by omega) hm (by omega) (((HR1.out.take HNL.out k (by omega)).more HA1.out.size).below hb |>.more hb.size))
        have HCB : Hid (∀ W, Below W1.heap.size W1 W → (convert 31 9 (.slice A n c)).run Try.prog W = .ok (.string ⟨l.toArray⟩) W) := Lib.hid (fun W hb => reads_text (HR1.out.below (hb.mono HA1.out.size)) HNL.out)
        have HKL : Hid (l.length - 4 = k) := Lib.hid (by have := HNL.out; omega)
        obtain ⟨BL, hBL⟩ : ∃ BL : ByteArray, BL = ⟨l.toArray⟩ := ⟨_, rfl⟩
        rw [← hBL] at HCB
        have HBL := Lib.hid hBL
        have HCC := Lib.hid hc
        have HM := Lib.hid hm
        clear hk hBL hc hm
        go_upto_region 7 with fail
        clear hcv hne x0 x1 x2 x3 x4 x5 x6 x7 z0 z1 z2 z3 z4 z5 z6 z7
        go_cut [31] (fun q wx => q = .bool (!decide (l.drop k = sumBy (l.take k))) ∧ Below W1.heap.size W1 wx)
        case first =>
          obtain ⟨yo, hyo⟩ : ∃ yo, yo = World.drew W1 := ⟨_, rfl⟩
          have HBO : Hid (Below W1.heap.size W1 yo) := Lib.hid (by rw [hyo]; exact ⟨rfl, rfl, rfl, Nat.le_refl _, fun _ _ => rfl⟩)
          have HS := Lib.hid (HCB.out yo HBO.out)
          refine region_till (fun W => (convert 31 9 (.slice A n c)).run Try.prog W = .ok (.string BL) W) (fun j => !([0, 1, 2, 3, 4, 5, 6, 7, 8, 9] : List Nat).contains j) (by kernel_rfl) ?_
          rw [← hyo]
          clear hyo
          refine till_take (i := 0) (v := ?_) rfl (by kernel_rfl) (by kernel_rfl) (by kernel_rfl) (by kernel_rfl) (fun _ _ _ h => h) (Or.inl ⟨by kernel_rfl, ?_⟩) HS.out ?_
          rotate_left
          · (intro w' hSw; obtain hc0 := hSw; go_simp; try with_reducible rfl)
          refine till_take (i := 1) (v := ?_) rfl (by kernel_rfl) (by kernel_rfl) (by kernel_rfl) (by kernel_rfl) (fun _ _ _ h => h) (Or.inl ⟨by kernel_rfl, ?_⟩) HS.out ?_
          rotate_left
          · (intro w' hSw; obtain hc0 := hSw; go_simp; try with_reducible rfl)
          refine till_take (i := 2) (v := ?_) rfl (by kernel_rfl) (by kernel_rfl) (by kernel_rfl) (by kernel_rfl) (fun _ _ _ h => h) (Or.inl ⟨by kernel_rfl, ?_⟩) HS.out ?_
          rotate_left
          · (intro w' hSw; obtain hc0 := hSw; go_simp; try with_reducible rfl)
          refine till_take (i := 3) (v := ?_) rfl (by kernel_rfl) (by kernel_rfl) (by kernel_rfl) (by kernel_rfl) (fun _ _ _ h => h) (Or.inl ⟨by kernel_rfl, ?_⟩) HS.out ?_
          rotate_left
          · (intro w' hSw; obtain hc0 := hSw; go_simp; try with_reducible rfl)
          refine till_take (i := 4) (v := ?_) rfl (by kernel_rfl) (by kernel_rfl) (by kernel_rfl) (by kernel_rfl) (fun _ _ _ h => h) (Or.inl ⟨by kernel_rfl, ?_⟩) HS.out ?_
          rotate_left
          · (intro w' hSw; obtain hc0 := hSw; go_simp; try with_reducible rfl)
          refine till_take (i := 7) (v := ?_) rfl (by kernel_rfl) (by kernel_rfl) (by kernel_rfl) (by kernel_rfl) (fun _ _ _ h => h) (Or.inl ⟨by kernel_rfl, ?_⟩) HS.out ?_
          rotate_left
          · (intro w' hSw; obtain hc0 := hSw; go_simp; try with_reducible rfl)
          refine till_take (i := 8) (v := ?_) rfl (by kernel_rfl) (by kernel_rfl) (by kernel_rfl) (by kernel_rfl) (fun _ _ _ h => h) (Or.inl ⟨by kernel_rfl, ?_⟩) HS.out ?_
          rotate_left
          · (intro w' hSw; obtain hc0 := hSw; go_simp; try with_reducible rfl)
          refine till_ready (rs := [5]) (by kernel_rfl) (by simp) ?_
          refine TillAll.cons rfl (fun K hK => ?_) TillAll.nil
          go_simp
          go_wp2_with (go_at_call 16; refine (CS.out yo HBO.out).mono ?_; rintro e w2 ⟨v2, rfl, ho2, hb2⟩)
          obtain ⟨L2, hL2⟩ : ∃ L, l.take k ++ sumBy (l.take k) = L := ⟨_, rfl⟩
          rw [hL2] at ho2
          obtain ⟨N2, hN2⟩ : ∃ N, L2.length = N := ⟨_, rfl⟩
          rw [hN2] at ho2
          obtain ⟨A2, c2, rfl⟩ := own_slice ho2
          have HL2 := Lib.hid hL2
          have HB2 := Lib.hid (HBO.out.trans (hb2.mono HBO.out.size))
          have hcv2 := reads_text (cap := c2) (Reads.of_own ho2) hN2
          obtain ⟨B2, hB2⟩ : ∃ B2 : ByteArray, B2 = ⟨L2.toArray⟩ := ⟨_, rfl⟩
          rw [← hB2] at hcv2
          have HBB := Lib.hid hB2
          clear ho2 hb2 hB2 hL2 hN2
          have HS := Lib.hid (HCB.out w2 HB2.out)
          (refine hK.out _ _ (fun _ => HS.out) ?_; clear hK K)
          refine till_ready (rs := [6]) (by kernel_rfl) (by simp) ?_
          refine TillAll.cons rfl (fun K hK => ?_) TillAll.nil
          go_simp
          (refine hK.out _ _ (fun _ => HS.out) ?_; clear hK K)
          clear hcv2
          refine till_take (i := 9) (v := ?_) rfl (by kernel_rfl) (by kernel_rfl) (by kernel_rfl) (by kernel_rfl) (fun _ _ _ h => h) (Or.inl ⟨by kernel_rfl, ?_⟩) HS.out ?_
          rotate_left
          · (intro w' hSw; obtain hc0 := hSw; go_simp; try with_reducible rfl)
          refine till_done (by kernel_rfl) ?_ _
          go_wp2_with fail
          go_meet
          refine ⟨?_, HB2.out⟩
          rw [HBB.out, HBL.out, ← HL2.out]
          exact congrArg (fun b => Value.bool !b) (sum_same l (sumBy (l.take k)) k)
        case rest =>
          obtain ⟨rfl, hbc⟩ := hcut
          have HBC := Lib.hid (HA1.out.trans (hbc.mono HA1.out.size))
          have HZC := Lib.hid (HBZ.out.below hbc HBZ.out.lt)
          have HRC := Lib.hid (HR1.out.below (hbc.mono HA1.out.size))
          clear hbc CS HCB
          by_cases c4 : l.drop k = sumBy (l.take k)
          · rw [decide_eq_true c4]
            have HC4 := Lib.hid c4
            clear c4
            obtain ⟨lb, hlb⟩ : ∃ lb, (l.take k).drop 4 = lb := ⟨_, rfl⟩
            have HLB := Lib.hid hlb
            have hlen : lb.length = k - 4 := by rw [← hlb, List.length_drop, List.length_take]; have := HNL.out; have := HK.out; omega
            have HLL := Lib.hid hlen
            have hc4 : ¬ c = 4 := by have := HCC.out; omega
            have hAA : A.map (·.add 4) = A.map (fun x => ({ block := x.block, off := x.off + 4 } : Addr)) := by cases A <;> rfl
            have hc5 : (c = 4) = False := eq_false hc4
            obtain ⟨I, hI⟩ : ∃ I, I = wc.heap.size := ⟨_, rfl⟩
            obtain ⟨W9, hW9⟩ : ∃ W, W = wc.alloc (.cells #[.slice (A.map (fun x => ({ block := x.block, off := x.off + 4 } : Addr))) (k - 4) (c - 4), .bool true] 79) := ⟨_, rfl⟩
            have HA9 : Hid (Below w.heap.size w W9) := Lib.hid (by rw [hW9]; exact HBC.out.alloc HBC.out.size _)
            have HZ9 := Lib.hid (show Blk W9 w.heap.size 27 #[.int .i64 0, .slice none 0 0, .slice none 0 0, .int .i64 0, .int .i64 0, .int .i64 0, .slice none 0 0, .slice none 0 0] by rw [hW9]; exact HZC.out.alloc _)
            have HIZ : Hid (w.heap.size < I) := Lib.hid (by rw [hI]; exact HZC.out.lt)
            have HI9 : Hid (InD W9 I lb (some 0)) := Lib.hid (by
              rw [hW9, hI, ← hAA]
              have h1 : Reads wc wc.heap.size 1 (A.map (·.add 4)) (k - 4) (bv lb) := by
                have h2 := ((HRC.out.take HNL.out k (by omega)).cut (k := 4) (cap := c) (by omega) (by have := HCC.out; omega))
                rw [if_neg hc4, Nat.mul_one, bv_drop, hlb] at h2
                exact h2.more HBC.out.size
              refine ⟨A.map (·.add 4), c - 4, lb, ?_, by rw [hlen]; have := HCC.out; omega, by have := HM.out; omega, by rw [hlen]; exact h1.alloc (Nat.le_refl _) _, fun p hp => by cases hp; exact ⟨Nat.zero_le _, rfl⟩⟩
              rw [hlen]
              exact Blk.new _ _ _)
            have CX := Lib.hid (in_num I lb (some 0) W9 HI9.out)
            have HIW : Hid (I < W9.heap.size) := Lib.hid HI9.out.blk
            clear hlb hlen hAA
            go_upto_region 10 with fail
            rw [← hI, ← hW9]
            clear hW9 hI
            go_wp2_with fail
            refine CX.out.mono ?_
            rintro e w10 ⟨s1, a, rfl, hi, hg, hst, hy1, hy2⟩
            have HS1 := Lib.hid hst
            have HWA := Lib.hid (wfi_num hy1 hy2)
            have HZ2 := Lib.hid (HZ9.out.grown hg (by have := HIZ.out; intro e; injection e with e; omega))
            obtain ⟨G, hG⟩ : ∃ G, G = w10.heap.size := ⟨_, rfl⟩
            obtain ⟨y1, hy⟩ : ∃ W, W = w10.alloc (.cells #[.int .i64 a, .slice none 0 0, .slice none 0 0, .int .i64 0, .int .i64 0, .int .i64 0, .slice none 0 0, .slice none 0 0] 27) := ⟨_, rfl⟩
            have HB1 : Hid (BoxX W9 I lb G 27 y1 s1 #[.int .i64 a, .slice none 0 0, .slice none 0 0, .int .i64 0, .int .i64 0, .int .i64 0, .slice none 0 0, .slice none 0 0] (fun W => Blk W w.heap.size 27 #[.int .i64 0, .slice none 0 0, .slice none 0 0, .int .i64 0, .int .i64 0, .int .i64 0, .slice none 0 0, .slice none 0 0])) := Lib.hid (by
              rw [hy, hG]
              exact BoxX.start hi hg HIW.out (HZ2.out.alloc _) (KeepsP.blk (by have := HIZ.out; omega) (by have := HZ2.out.lt; omega)))
            have HGW : Hid (w.heap.size < G) := Lib.hid (by rw [hG]; exact HZ2.out.lt)
            clear CX hi hg hst hy1 hy2 HZ2 HZ9 HI9
            have CX := Lib.hid (in_ints I lb s1 y1 HB1.out.in_)
            go_upto_region 11 with fail
            rw [← hy, ← hG]
            clear hy hG
            go_wp2_with fail
            refine CX.out.mono ?_
            rintro e w11 ⟨s2, b, v2, rfl, hi, hg, hst, hsl⟩
            obtain ⟨Ab, cb, rfl, _⟩ := id hsl
            have HS2 := Lib.hid hst
            have HGB := Lib.hid HB1.out.blk.lt
            have HSL : Hid (SlP G 1 (fun _ => IntC) (.slice Ab b.length cb) b w11) := Lib.hid (hsl.keep (fun p u _ h => h) (fun b h => ⟨by have := HGB.out; omega, h.2⟩) (fun _ _ h => h))
            clear hst hsl CX
            have HF := Lib.hid ((HB1.out.call hg hi).add HSL.out (KeepsP.sl HB1.out.lt keeps_int))
            obtain ⟨p0, p1, p2, p3, p4, p5, p6, p7⟩ := blk8s HF.out.blk
            have z := HF.out.blk.frozen 1
            obtain ⟨y2, hy⟩ : ∃ W, W = w11.setCell ⟨G, 1, none⟩ (.slice Ab b.length cb) := ⟨_, rfl⟩
            have HB2 : Hid (BoxX W9 I lb G 27 y2 s2 #[.int .i64 a, .slice Ab b.length cb, .slice none 0 0, .int .i64 0, .int .i64 0, .int .i64 0, .slice none 0 0, .slice none 0 0] (fun W => Blk W w.heap.size 27 #[.int .i64 0, .slice none 0 0, .slice none 0 0, .int .i64 0, .int .i64 0, .int .i64 0, .slice none 0 0, .slice none 0 0] ∧ SlP G 1 (fun _ => IntC) (.slice Ab b.length cb) b W)) := Lib.hid (by rw [hy]; simpa using HF.out.set_ 1 (.slice Ab b.length cb))
            clear hi hg HF HB1
            have CX := Lib.hid (in_count I lb s2 y2 HB2.out.in_)
            go_upto_region 12 with fail
            rw [← hy]
            clear hy p0 p1 p2 p3 p4 p5 p6 p7 z
            go_wp2_with fail
            refine CX.out.mono ?_
            rintro e w12 ⟨m1, n1, rfl, hi, hg, hc⟩
            have HC1k := Lib.hid hc
            have HAT1 := Lib.hid HB2.out.in_.at_
            have HB3 := Lib.hid (HB2.out.call hg hi)
            clear CX hi hg hc HB2
            obtain ⟨i1, hi1, hz1, hsz1, hb1⟩ := info_parts info_ints
            obtain ⟨i2, hi2, hz2, hsz2, hb2⟩ := info_parts info_row
            obtain ⟨i3, hi3, hz3, hsz3, hb3⟩ := info_parts info_code
            go_wp2_with fail
            have HKP1 := Lib.hid HB3.out.lt
            have HBG1 : Hid (G < w12.heap.size) := Lib.hid HB3.out.blk.lt
            go_loopw [6] (fun j wr => ∃ v, LpD w12.heap.size 22 1 IntsQ (listF intF 0) [] lb I G n1 m1 w12 wr v j ∧ Blk wr G 27 #[.int .i64 a, .slice Ab b.length cb, v, .int .i64 0, .int .i64 0, .int .i64 0, .slice none 0 0, .slice none 0 0]) (fun j _ => (intOf j).toNat)
            case atStart => exact ⟨_, LpD.start w12 HB3.out.in_, HB3.out.blk⟩
            case round =>
              obtain ⟨v, ⟨K1, t1, ys1, css1, rfl, hk, hyl, hacc, hi, hgr, hrun⟩, hbg⟩ := hrel
              obtain ⟨Av1, cv1, hv⟩ := own_slice hacc.1
              rw [hyl] at hv
              subst hv
              have HACC := Lib.hid hacc
              have HGR := Lib.hid hgr
              have HRUN := Lib.hid hrun
              have HI2 := Lib.hid hi
              have HYL := Lib.hid hyl
              have HBG := Lib.hid hbg
              obtain ⟨A0, m0, c0, k0, k1, f0, f1⟩ := hi.cells
              have hn := HC1k.out.1
              clear hacc hgr hrun hi hbg
              by_cases hgo : K1 < n1 ∧ t1.isSome = true
              · obtain ⟨hlt, hts⟩ := hgo
                have hpos : (0 : Int) < (n1 : Int) - (K1 : Int) := by omega
                rw [hts] at k1
                have HSW := Lib.hid HGR.out.size
                go_upto_region 15 with fail
                obtain ⟨yo, hyo⟩ : ∃ yo, yo = World.drew wr := ⟨_, rfl⟩
                have HBO : Hid (Below wr.heap.size wr yo) := Lib.hid (by rw [hyo]; exact ⟨rfl, rfl, rfl, Nat.le_refl _, fun _ _ => rfl⟩)
                have HBY := Lib.hid (HBG.out.below HBO.out HBG.out.lt)
                have HS : Hid (yo.cell? ⟨G, 2, none⟩ = some (.slice Av1 K1 cv1)) := Lib.hid (HBY.out.cell 2)
                have CN := Lib.hid (in_ints I lb t1 yo (HI2.out.below HBO.out))
                clear k0 k1 f0 f1
                refine region_till (fun W => W.cell? ⟨G, 2, none⟩ = some (.slice Av1 K1 cv1)) (fun j => !([0, 1, 2, 3, 4, 5, 6] : List Nat).contains j) (by kernel_rfl) ?_
                rw [← hyo]
                clear hyo
                refine till_take (i := 0) (v := ?_) rfl (by kernel_rfl) (by kernel_rfl) (by kernel_rfl) (by kernel_rfl) (fun _ _ _ h => h) (Or.inl ⟨by kernel_rfl, ?_⟩) HS.out ?_
                rotate_left
                · (intro w' hSw; obtain hc0 := hSw; go_simp; try with_reducible rfl)
                refine till_take (i := 1) (v := ?_) rfl (by kernel_rfl) (by kernel_rfl) (by kernel_rfl) (by kernel_rfl) (fun _ _ _ h => h) (Or.inl ⟨by kernel_rfl, ?_⟩) HS.out ?_
                rotate_left
                · (intro w' hSw; obtain hc0 := hSw; go_simp; try with_reducible rfl)
                refine till_take (i := 2) (v := ?_) rfl (by kernel_rfl) (by kernel_rfl) (by kernel_rfl) (by kernel_rfl) (fun _ _ _ h => h) (Or.inl ⟨by kernel_rfl, ?_⟩) HS.out ?_
                rotate_left
                · (intro w' hSw; obtain hc0 := hSw; go_simp; try with_reducible rfl)
                refine till_ready (rs := [3]) (by kernel_rfl) (by simp) ?_
                refine TillAll.cons rfl (fun K hK => ?_) TillAll.nil
                go_simp
                go_wp2_with (go_at_call 29; refine CN.out.mono ?_; rintro e x0 ⟨u0, a0, v0, rfl, hi, hg, hst, hsl⟩)
                obtain ⟨Ae, ce, rfl, _⟩ := id hsl
                have HST := Lib.hid hst
                have HI3 := Lib.hid hi
                have HG3 := Lib.hid (only_tr (only_of_below HBO.out (some I)) hg)
                have HQ := Lib.hid (show IntsQ (fun b => yo.heap.size ≤ b ∧ b < x0.heap.size) x0 [.slice Ae a0.length ce] a0 from ⟨_, rfl, hsl⟩)
                have HBR2 := Lib.hid (HBY.out.grown hg (by have := HKP1.out; intro e; injection e with e; omega))
                clear hst hi hg hsl CN
                have HS : Hid (x0.cell? ⟨G, 2, none⟩ = some (.slice Av1 K1 cv1)) := Lib.hid (HBR2.out.cell 2)
                (refine hK.out _ _ (fun _ => HS.out) ?_; clear hK K)
                refine till_ready (rs := [4]) (by kernel_rfl) (by simp) ?_
                refine TillAll.cons rfl (fun K hK => ?_) TillAll.nil
                go_simp
                have HS : Hid ((x0.alloc (.cells #[.slice Ae a0.length ce] 22)).cell? ⟨G, 2, none⟩ = some (.slice Av1 K1 cv1)) := Lib.hid ((HBR2.out.alloc _).cell 2)
                (refine hK.out _ _ (fun _ => HS.out) ?_; clear hK K)
                refine till_ready (rs := [5]) (by kernel_rfl) (by simp) ?_
                refine TillAll.cons rfl (fun K hK => ?_) TillAll.nil
                have HO2 : Hid ((x0.alloc (.cells #[.slice Ae a0.length ce] 22)).ownsRow w12.heap.size 22 1 (.slice Av1 K1 cv1) K1 css1.flatten) := Lib.hid (LpD.own HYL.out HACC.out (Nat.lt_of_lt_of_le HKP1.out (Nat.le_of_lt HBG1.out)) (only_alloc HG3.out (.cells #[.slice Ae a0.length ce] 22)))
                have HSY : Hid (w12.heap.size ≤ (x0.alloc (.cells #[.slice Ae a0.length ce] 22)).heap.size) := Lib.hid (by rw [World.size_alloc]; have := HSW.out; have := HG3.out.size; omega)
                refine step_append_any _ (by rfl) (.tmp 59) (.tmp 62) 23 (by rfl) w12.heap.size 22 i1 _ 1 24 Try.underlying23 hi1 hz1 hsz1 hb1 rfl (by omega) _ _ _ (by rfl) HO2.out (x0.heap.size + 1) (some ⟨x0.heap.size, 0, none⟩) 1 1 [.slice Ae a0.length ce] (by rfl) (reads_lit _ _ 1 rfl _ _) (by intro u hu; simp at hu; subst hu; rfl) (by unfold maxLen; omega) (by omega) HSY.out ?_
                intro v9 w3 ho hg hat
                obtain ⟨A9, c9, rfl⟩ := own_slice ho
                have HO3 := Lib.hid ho
                have HG6 := Lib.hid hg
                have HAT4 := Lib.hid hat
                have HBR3 := Lib.hid ((HBR2.out.alloc (.cells #[.slice Ae a0.length ce] 22)).grown hg (fun e => by have h1 := (own_lt2 HO2.out e.symm).2; have := HBG1.out; omega))
                clear ho hg hat
                have HS : Hid (w3.cell? ⟨G, 2, none⟩ = some (.slice Av1 K1 cv1)) := Lib.hid (HBR3.out.cell 2)
                (refine hK.out _ _ (fun _ => HS.out) ?_; clear hK K)
                refine till_take (i := 6) (v := ?_) rfl (by kernel_rfl) (by kernel_rfl) (by kernel_rfl) (by kernel_rfl) (fun _ _ _ h => h) (Or.inl ⟨by kernel_rfl, ?_⟩) HS.out ?_
                rotate_left
                · (intro w' hSw; obtain hc0 := hSw; go_simp; try with_reducible rfl)
                refine till_ready (rs := [7]) (by kernel_rfl) (by simp) ?_
                refine TillAll.cons rfl (fun K hK => ?_) TillAll.nil
                have p0 := HBR3.out.cell 2
                have q0 := HBR3.out.frozen 2
                go_simp
                (refine hK.out _ _ (fun h => absurd h (by decide)) ?_; clear hK K)
                clear p0 q0
                refine till_done (by kernel_rfl) ?_ _
                have HL : Hid (LpD w12.heap.size 22 1 IntsQ (listF intF 0) [] lb I G n1 m1 w12 w3 (.slice A9 (K1 + 1) c9) (.int .i64 ((n1 : Int) - (K1 : Int) - 1))) := Lib.hid (LpD.next keeps_ints hlt HYL.out HACC.out HGR.out HRUN.out (Nat.lt_of_lt_of_le HKP1.out (Nat.le_of_lt HBG1.out)) HSW.out (only_alloc HG3.out (.cells #[.slice Ae a0.length ce] 22)) (HI3.out.below ((Below.refl _ _).alloc (Nat.le_refl _) _)) HST.out rfl (keeps_ints _ _ _ _ _ _ HQ.out (KeepQ.of_below ((Below.refl x0.heap.size x0).alloc (Nat.le_refl _) (.cells #[.slice Ae a0.length ce] 22)) (fun b hb => hb.2)) (fun b hb => ⟨Nat.le_trans HBO.out.size hb.1, by rw [World.size_alloc]; exact Nat.lt_succ_of_lt hb.2⟩)) HO3.out HG6.out HAT4.out)
                have HL2 := Lib.hid (HL.out.set_ keeps_ints HBG1.out HKP1.out 2 (.slice A9 (K1 + 1) c9))
                have HBR4 : Hid (Blk (w3.setCell ⟨G, 2, none⟩ (.slice A9 (K1 + 1) c9)) G 27 #[.int .i64 a, .slice Ab b.length cb, .slice A9 (K1 + 1) c9, .int .i64 0, .int .i64 0, .int .i64 0, .slice none 0 0, .slice none 0 0]) := Lib.hid (by simpa using HBR3.out.set_ 2 (.slice A9 (K1 + 1) c9))
                clear HS HO2 HSY HBR2 HBR3 HO3 HG6 HAT4 HQ HI3 HG3 HST
                try simp only [Exit.then]
                go_wp2_with fail
                go_roundw
                case rel => first | exact ⟨_, HL2.out, HBR4.out⟩ | ((repeat apply Exists.intro); exact ⟨⟨_, HL2.out, HBR4.out⟩, rfl⟩)
                case measure => simp [intOf]; omega
              · have HBK := Lib.hid (HB3.out.loop HGR.out HBG.out HI2.out)
                have HSL : Hid (SlP G 1 IntsQ (.slice Av1 K1 cv1) ys1 wr) := Lib.hid (SlP.of_acc HACC.out keeps_ints HBG1.out)
                have HBY1 := Lib.hid (HBK.out.add HSL.out (KeepsP.sl HKP1.out keeps_ints))
                have HYL1 := Lib.hid HYL.out
                have HQ1 : Hid (StepD (listF (listF intF 0) []) [] lb s2 t1 ys1) := Lib.hid (HRUN.out.done (codec_list codec_int) HAT1.out HC1k.out HB3.out.in_.at_ hk (by rcases t1 with _ | p; exact .inr rfl; exact .inl (by simp at hgo; omega)))
                clear HACC HGR HRUN HI2 HBG HBK HSL HYL
                have HEX : ((0 : Int) < (n1 : Int) - (K1 : Int) → t1.isSome = false) := fun h => by rcases t1 with _ | p; rfl; simp at hgo; omega
                obtain ⟨bb1, hb⟩ : ∃ bb, t1.isSome = bb := ⟨_, rfl⟩
                rw [hb] at k1 HEX
                clear hgo
                go_upto_region 13 with fail
                go_cut [55] (fun x wx => x = .bool false ∧ wx = wr)
                case first =>
                  by_cases hp : (0 : Int) < (n1 : Int) - (K1 : Int)
                  · have hbf := HEX hp
                    subst hbf
                    go_wp2_with fail
                    go_meet
                    exact ⟨rfl, rfl⟩
                  · have hp2 : (n1 : Int) - (K1 : Int) ≤ 0 := by omega
                    go_wp2_with fail
                    go_meet
                    exact ⟨rfl, rfl⟩
                case rest =>
                  obtain ⟨rfl, hcw⟩ := hcut
                  subst hcw
                  obtain ⟨V1, hV⟩ : ∃ V, V = wc := ⟨wc, rfl⟩
                  subst hV
                  clear k0 k1 f0 f1 HEX hb
                  have HB16 := Lib.hid HBY1.out
                  clear HBY1
                  have CX := Lib.hid (in_num I lb t1 V1 HB16.out.in_)
                  go_wp2_with fail
                  refine CX.out.mono ?_
                  rintro e w16 ⟨s4, c4, rfl, hi, hg, hst, hy1, hy2⟩
                  have HS4 := Lib.hid hst
                  have HW4 := Lib.hid (wfi_num hy1 hy2)
                  clear CX hst hy1 hy2
                  have HF := Lib.hid ((HB16.out.call hg hi))
                  obtain ⟨p0, p1, p2, p3, p4, p5, p6, p7⟩ := blk8s HF.out.blk
                  have z := HF.out.blk.frozen 3
                  obtain ⟨y17, hy⟩ : ∃ W, W = w16.setCell ⟨G, 3, none⟩ (.int .i64 c4) := ⟨_, rfl⟩
                  have HB17 : Hid (BoxX W9 I lb G 27 y17 s4 #[.int .i64 a, .slice Ab b.length cb, .slice Av1 K1 cv1, .int .i64 c4, .int .i64 0, .int .i64 0, .slice none 0 0, .slice none 0 0] (fun W => (Blk W w.heap.size 27 #[.int .i64 0, .slice none 0 0, .slice none 0 0, .int .i64 0, .int .i64 0, .int .i64 0, .slice none 0 0, .slice none 0 0] ∧ SlP G 1 (fun _ => IntC) (.slice Ab b.length cb) b W) ∧ SlP G 1 IntsQ (.slice Av1 K1 cv1) ys1 W)) := Lib.hid (by rw [hy]; simpa using HF.out.set_ 3 (.int .i64 c4))
                  clear hi hg HF HB16
                  have CX := Lib.hid (in_num I lb s4 y17 HB17.out.in_)
                  go_upto_region 17 with fail
                  rw [← hy]
                  clear hy p0 p1 p2 p3 p4 p5 p6 p7 z
                  go_wp2_with fail
                  refine CX.out.mono ?_
                  rintro e w17 ⟨s5, c5, rfl, hi, hg, hst, hy1, hy2⟩
                  have HS5 := Lib.hid hst
                  have HW5 := Lib.hid (wfi_num hy1 hy2)
                  clear CX hst hy1 hy2
                  have HF := Lib.hid ((HB17.out.call hg hi))
                  obtain ⟨p0, p1, p2, p3, p4, p5, p6, p7⟩ := blk8s HF.out.blk
                  have z := HF.out.blk.frozen 4
                  obtain ⟨y18, hy⟩ : ∃ W, W = w17.setCell ⟨G, 4, none⟩ (.int .i64 c5) := ⟨_, rfl⟩
                  have HB18 : Hid (BoxX W9 I lb G 27 y18 s5 #[.int .i64 a, .slice Ab b.length cb, .slice Av1 K1 cv1, .int .i64 c4, .int .i64 c5, .int .i64 0, .slice none 0 0, .slice none 0 0] (fun W => (Blk W w.heap.size 27 #[.int .i64 0, .slice none 0 0, .slice none 0 0, .int .i64 0, .int .i64 0, .int .i64 0, .slice none 0 0, .slice none 0 0] ∧ SlP G 1 (fun _ => IntC) (.slice Ab b.length cb) b W) ∧ SlP G 1 IntsQ (.slice Av1 K1 cv1) ys1 W)) := Lib.hid (by rw [hy]; simpa using HF.out.set_ 4 (.int .i64 c5))
                  clear hi hg HF HB17
                  have CX := Lib.hid (in_num I lb s5 y18 HB18.out.in_)
                  go_upto_region 18 with fail
                  rw [← hy]
                  clear hy p0 p1 p2 p3 p4 p5 p6 p7 z
                  go_wp2_with fail
                  refine CX.out.mono ?_
                  rintro e w18 ⟨s6, c6, rfl, hi, hg, hst, hy1, hy2⟩
                  have HS6 := Lib.hid hst
                  have HW6 := Lib.hid (wfi_num hy1 hy2)
                  clear CX hst hy1 hy2
                  have HF := Lib.hid ((HB18.out.call hg hi))
                  obtain ⟨p0, p1, p2, p3, p4, p5, p6, p7⟩ := blk8s HF.out.blk
                  have z := HF.out.blk.frozen 5
                  obtain ⟨y19, hy⟩ : ∃ W, W = w18.setCell ⟨G, 5, none⟩ (.int .i64 c6) := ⟨_, rfl⟩
                  have HB19 : Hid (BoxX W9 I lb G 27 y19 s6 #[.int .i64 a, .slice Ab b.length cb, .slice Av1 K1 cv1, .int .i64 c4, .int .i64 c5, .int .i64 c6, .slice none 0 0, .slice none 0 0] (fun W => (Blk W w.heap.size 27 #[.int .i64 0, .slice none 0 0, .slice none 0 0, .int .i64 0, .int .i64 0, .int .i64 0, .slice none 0 0, .slice none 0 0] ∧ SlP G 1 (fun _ => IntC) (.slice Ab b.length cb) b W) ∧ SlP G 1 IntsQ (.slice Av1 K1 cv1) ys1 W)) := Lib.hid (by rw [hy]; simpa using HF.out.set_ 5 (.int .i64 c6))
                  clear hi hg HF HB18
                  have CX := Lib.hid (in_count I lb s6 y19 HB19.out.in_)
                  go_upto_region 19 with fail
                  rw [← hy]
                  clear hy p0 p1 p2 p3 p4 p5 p6 p7 z
                  go_wp2_with fail
                  refine CX.out.mono ?_
                  rintro e w19 ⟨m2, n2, rfl, hi, hg, hc⟩
                  have HC2k := Lib.hid hc
                  have HAT2 := Lib.hid HB19.out.in_.at_
                  have HB20 := Lib.hid (HB19.out.call hg hi)
                  clear CX hi hg hc HB19
                  go_wp2_with fail
                  have HKP2 := Lib.hid HB20.out.lt
                  have HBG2 : Hid (G < w19.heap.size) := Lib.hid HB20.out.blk.lt
                  go_loopw [7] (fun j wr => ∃ v, LpD w19.heap.size 50 8 RowQ rowF zRow lb I G n2 m2 w19 wr v j ∧ Blk wr G 27 #[.int .i64 a, .slice Ab b.length cb, .slice Av1 K1 cv1, .int .i64 c4, .int .i64 c5, .int .i64 c6, v, .slice none 0 0]) (fun j _ => (intOf j).toNat)
                  case atStart => exact ⟨_, LpD.start w19 HB20.out.in_, HB20.out.blk⟩
                  case round =>
                    obtain ⟨v, ⟨K2, t2, ys2, css2, rfl, hk, hyl, hacc, hi, hgr, hrun⟩, hbg⟩ := hrel
                    obtain ⟨Av2, cv2, hv⟩ := own_slice hacc.1
                    rw [hyl] at hv
                    subst hv
                    have HACC := Lib.hid hacc
                    have HGR := Lib.hid hgr
                    have HRUN := Lib.hid hrun
                    have HI2 := Lib.hid hi
                    have HYL := Lib.hid hyl
                    have HBG := Lib.hid hbg
                    obtain ⟨A0, m0, c0, k0, k1, f0, f1⟩ := hi.cells
                    have hn := HC2k.out.1
                    clear hacc hgr hrun hi hbg
                    by_cases hgo : K2 < n2 ∧ t2.isSome = true
                    · obtain ⟨hlt, hts⟩ := hgo
                      have hpos : (0 : Int) < (n2 : Int) - (K2 : Int) := by omega
                      rw [hts] at k1
                      have HSW := Lib.hid HGR.out.size
                      go_upto_region 22 with fail
                      obtain ⟨yo, hyo⟩ : ∃ yo, yo = World.drew wr := ⟨_, rfl⟩
                      have HBO : Hid (Below wr.heap.size wr yo) := Lib.hid (by rw [hyo]; exact ⟨rfl, rfl, rfl, Nat.le_refl _, fun _ _ => rfl⟩)
                      have HBY := Lib.hid (HBG.out.below HBO.out HBG.out.lt)
                      have HS : Hid (yo.cell? ⟨G, 6, none⟩ = some (.slice Av2 K2 cv2)) := Lib.hid (HBY.out.cell 6)
                      have CN := Lib.hid (in_row I lb t2 yo (HI2.out.below HBO.out))
                      clear k0 k1 f0 f1
                      refine region_till (fun W => W.cell? ⟨G, 6, none⟩ = some (.slice Av2 K2 cv2)) (fun j => !([0, 1, 2, 3, 4, 5, 6] : List Nat).contains j) (by kernel_rfl) ?_
                      rw [← hyo]
                      clear hyo
                      refine till_take (i := 0) (v := ?_) rfl (by kernel_rfl) (by kernel_rfl) (by kernel_rfl) (by kernel_rfl) (fun _ _ _ h => h) (Or.inl ⟨by kernel_rfl, ?_⟩) HS.out ?_
                      rotate_left
                      · (intro w' hSw; obtain hc0 := hSw; go_simp; try with_reducible rfl)
                      refine till_take (i := 1) (v := ?_) rfl (by kernel_rfl) (by kernel_rfl) (by kernel_rfl) (by kernel_rfl) (fun _ _ _ h => h) (Or.inl ⟨by kernel_rfl, ?_⟩) HS.out ?_
                      rotate_left
                      · (intro w' hSw; obtain hc0 := hSw; go_simp; try with_reducible rfl)
                      refine till_take (i := 2) (v := ?_) rfl (by kernel_rfl) (by kernel_rfl) (by kernel_rfl) (by kernel_rfl) (fun _ _ _ h => h) (Or.inl ⟨by kernel_rfl, ?_⟩) HS.out ?_
                      rotate_left
                      · (intro w' hSw; obtain hc0 := hSw; go_simp; try with_reducible rfl)
                      refine till_ready (rs := [3]) (by kernel_rfl) (by simp) ?_
                      refine TillAll.cons rfl (fun K hK => ?_) TillAll.nil
                      go_simp
                      go_wp2_with (go_at_call 31; refine CN.out.mono ?_; rintro e x0 ⟨u0, a0, cs0, rfl, hi, hg, hst, hcl, hq⟩)
                      obtain ⟨vb, ve, rfl, hsb, hse, hwf⟩ := id hq
                      obtain ⟨Ae, ce, rfl, _⟩ := id hsb
                      obtain ⟨Af, cf, rfl, _⟩ := id hse
                      have HST := Lib.hid hst
                      have HI3 := Lib.hid hi
                      have HG3 := Lib.hid (only_tr (only_of_below HBO.out (some I)) hg)
                      have HQ := Lib.hid hq
                      have HBR2 := Lib.hid (HBY.out.grown hg (by have := HKP2.out; intro e; injection e with e; omega))
                      clear hst hi hg hsb hse hwf hcl hq CN
                      have HS : Hid (x0.cell? ⟨G, 6, none⟩ = some (.slice Av2 K2 cv2)) := Lib.hid (HBR2.out.cell 6)
                      (refine hK.out _ _ (fun _ => HS.out) ?_; clear hK K)
                      refine till_ready (rs := [4]) (by kernel_rfl) (by simp) ?_
                      refine TillAll.cons rfl (fun K hK => ?_) TillAll.nil
                      go_simp
                      have HS : Hid ((x0.alloc (.cells #[.int .i64 a0.par, .int .i64 a0.ty, .bool a0.many, .int .i64 a0.win, .slice Ae a0.bars.length ce, .int .i64 a0.leave, .int .i64 a0.guard, .slice Af a0.ends.length cf] 50)).cell? ⟨G, 6, none⟩ = some (.slice Av2 K2 cv2)) := Lib.hid ((HBR2.out.alloc _).cell 6)
                      (refine hK.out _ _ (fun _ => HS.out) ?_; clear hK K)
                      refine till_ready (rs := [5]) (by kernel_rfl) (by simp) ?_
                      refine TillAll.cons rfl (fun K hK => ?_) TillAll.nil
                      have HO2 : Hid ((x0.alloc (.cells #[.int .i64 a0.par, .int .i64 a0.ty, .bool a0.many, .int .i64 a0.win, .slice Ae a0.bars.length ce, .int .i64 a0.leave, .int .i64 a0.guard, .slice Af a0.ends.length cf] 50)).ownsRow w19.heap.size 50 8 (.slice Av2 K2 cv2) K2 css2.flatten) := Lib.hid (LpD.own HYL.out HACC.out (Nat.lt_of_lt_of_le HKP2.out (Nat.le_of_lt HBG2.out)) (only_alloc HG3.out (.cells #[.int .i64 a0.par, .int .i64 a0.ty, .bool a0.many, .int .i64 a0.win, .slice Ae a0.bars.length ce, .int .i64 a0.leave, .int .i64 a0.guard, .slice Af a0.ends.length cf] 50)))
                      have HSY : Hid (w19.heap.size ≤ (x0.alloc (.cells #[.int .i64 a0.par, .int .i64 a0.ty, .bool a0.many, .int .i64 a0.win, .slice Ae a0.bars.length ce, .int .i64 a0.leave, .int .i64 a0.guard, .slice Af a0.ends.length cf] 50)).heap.size) := Lib.hid (by rw [World.size_alloc]; have := HSW.out; have := HG3.out.size; omega)
                      refine step_append_any _ (by rfl) (.tmp 87) (.tmp 90) 24 (by rfl) w19.heap.size 50 i2 _ 8 96 Try.underlying24 hi2 hz2 hsz2 hb2 rfl (by omega) _ _ _ (by rfl) HO2.out (x0.heap.size + 1) (some ⟨x0.heap.size, 0, none⟩) 1 1 [.int .i64 a0.par, .int .i64 a0.ty, .bool a0.many, .int .i64 a0.win, .slice Ae a0.bars.length ce, .int .i64 a0.leave, .int .i64 a0.guard, .slice Af a0.ends.length cf] (by rfl) (reads_lit _ _ 8 rfl _ _) (by intro u hu; simp at hu; rcases hu with rfl | rfl | rfl | rfl | rfl | rfl | rfl | rfl <;> rfl) (by unfold maxLen; omega) (by omega) HSY.out ?_
                      intro v9 w3 ho hg hat
                      obtain ⟨A9, c9, rfl⟩ := own_slice ho
                      have HO3 := Lib.hid ho
                      have HG6 := Lib.hid hg
                      have HAT4 := Lib.hid hat
                      have HBR3 := Lib.hid ((HBR2.out.alloc (.cells #[.int .i64 a0.par, .int .i64 a0.ty, .bool a0.many, .int .i64 a0.win, .slice Ae a0.bars.length ce, .int .i64 a0.leave, .int .i64 a0.guard, .slice Af a0.ends.length cf] 50)).grown hg (fun e => by have h1 := (own_lt2 HO2.out e.symm).2; have := HBG2.out; omega))
                      clear ho hg hat
                      have HS : Hid (w3.cell? ⟨G, 6, none⟩ = some (.slice Av2 K2 cv2)) := Lib.hid (HBR3.out.cell 6)
                      (refine hK.out _ _ (fun _ => HS.out) ?_; clear hK K)
                      refine till_take (i := 6) (v := ?_) rfl (by kernel_rfl) (by kernel_rfl) (by kernel_rfl) (by kernel_rfl) (fun _ _ _ h => h) (Or.inl ⟨by kernel_rfl, ?_⟩) HS.out ?_
                      rotate_left
                      · (intro w' hSw; obtain hc0 := hSw; go_simp; try with_reducible rfl)
                      refine till_ready (rs := [7]) (by kernel_rfl) (by simp) ?_
                      refine TillAll.cons rfl (fun K hK => ?_) TillAll.nil
                      have p0 := HBR3.out.cell 6
                      have q0 := HBR3.out.frozen 6
                      go_simp
                      (refine hK.out _ _ (fun h => absurd h (by decide)) ?_; clear hK K)
                      clear p0 q0
                      refine till_done (by kernel_rfl) ?_ _
                      have HL : Hid (LpD w19.heap.size 50 8 RowQ rowF zRow lb I G n2 m2 w19 w3 (.slice A9 (K2 + 1) c9) (.int .i64 ((n2 : Int) - (K2 : Int) - 1))) := Lib.hid (LpD.next keeps_row hlt HYL.out HACC.out HGR.out HRUN.out (Nat.lt_of_lt_of_le HKP2.out (Nat.le_of_lt HBG2.out)) HSW.out (only_alloc HG3.out (.cells #[.int .i64 a0.par, .int .i64 a0.ty, .bool a0.many, .int .i64 a0.win, .slice Ae a0.bars.length ce, .int .i64 a0.leave, .int .i64 a0.guard, .slice Af a0.ends.length cf] 50)) (HI3.out.below ((Below.refl _ _).alloc (Nat.le_refl _) _)) HST.out rfl (keeps_row _ _ _ _ _ _ HQ.out (KeepQ.of_below ((Below.refl x0.heap.size x0).alloc (Nat.le_refl _) (.cells #[.int .i64 a0.par, .int .i64 a0.ty, .bool a0.many, .int .i64 a0.win, .slice Ae a0.bars.length ce, .int .i64 a0.leave, .int .i64 a0.guard, .slice Af a0.ends.length cf] 50)) (fun b hb => hb.2)) (fun b hb => ⟨Nat.le_trans HBO.out.size hb.1, by rw [World.size_alloc]; exact Nat.lt_succ_of_lt hb.2⟩)) HO3.out HG6.out HAT4.out)
                      have HL2 := Lib.hid (HL.out.set_ keeps_row HBG2.out HKP2.out 6 (.slice A9 (K2 + 1) c9))
                      have HBR4 : Hid (Blk (w3.setCell ⟨G, 6, none⟩ (.slice A9 (K2 + 1) c9)) G 27 #[.int .i64 a, .slice Ab b.length cb, .slice Av1 K1 cv1, .int .i64 c4, .int .i64 c5, .int .i64 c6, .slice A9 (K2 + 1) c9, .slice none 0 0]) := Lib.hid (by simpa using HBR3.out.set_ 6 (.slice A9 (K2 + 1) c9))
                      clear HS HO2 HSY HBR2 HBR3 HO3 HG6 HAT4 HQ HI3 HG3 HST
                      try simp only [Exit.then]
                      go_wp2_with fail
                      go_roundw
                      case rel => first | exact ⟨_, HL2.out, HBR4.out⟩ | ((repeat apply Exists.intro); exact ⟨⟨_, HL2.out, HBR4.out⟩, rfl⟩)
                      case measure => simp [intOf]; omega
                    · have HBK := Lib.hid (HB20.out.loop HGR.out HBG.out HI2.out)
                      have HSL : Hid (SlP G 8 RowQ (.slice Av2 K2 cv2) ys2 wr) := Lib.hid (SlP.of_acc HACC.out keeps_row HBG2.out)
                      have HBY2 := Lib.hid (HBK.out.add HSL.out (KeepsP.sl HKP2.out keeps_row))
                      have HYL2 := Lib.hid HYL.out
                      have HQ2 : Hid (StepD (listF rowF zRow) [] lb s6 t2 ys2) := Lib.hid (HRUN.out.done codec_row HAT2.out HC2k.out HB20.out.in_.at_ hk (by rcases t2 with _ | p; exact .inr rfl; exact .inl (by simp at hgo; omega)))
                      clear HACC HGR HRUN HI2 HBG HBK HSL HYL
                      have HEX : ((0 : Int) < (n2 : Int) - (K2 : Int) → t2.isSome = false) := fun h => by rcases t2 with _ | p; rfl; simp at hgo; omega
                      obtain ⟨bb2, hb⟩ : ∃ bb, t2.isSome = bb := ⟨_, rfl⟩
                      rw [hb] at k1 HEX
                      clear hgo
                      go_upto_region 20 with fail
                      go_cut [83] (fun x wx => x = .bool false ∧ wx = wr)
                      case first =>
                        by_cases hp : (0 : Int) < (n2 : Int) - (K2 : Int)
                        · have hbf := HEX hp
                          subst hbf
                          go_wp2_with fail
                          go_meet
                          exact ⟨rfl, rfl⟩
                        · have hp2 : (n2 : Int) - (K2 : Int) ≤ 0 := by omega
                          go_wp2_with fail
                          go_meet
                          exact ⟨rfl, rfl⟩
                      case rest =>
                        obtain ⟨rfl, hcw⟩ := hcut
                        subst hcw
                        obtain ⟨V2, hV⟩ : ∃ V, V = wc := ⟨wc, rfl⟩
                        subst hV
                        clear k0 k1 f0 f1 HEX hb
                        have CX := Lib.hid (in_count I lb t2 V2 HBY2.out.in_)
                        go_wp2_with fail
                        refine CX.out.mono ?_
                        rintro e w23 ⟨m3, n3, rfl, hi, hg, hc⟩
                        have HC3k := Lib.hid hc
                        have HAT3 := Lib.hid HBY2.out.in_.at_
                        have HB24 := Lib.hid (HBY2.out.call hg hi)
                        clear CX hi hg hc HBY2
                        go_wp2_with fail
                        have HKP3 := Lib.hid HB24.out.lt
                        have HBG3 : Hid (G < w23.heap.size) := Lib.hid HB24.out.blk.lt
                        go_loopw [8] (fun j wr => ∃ v, LpD w23.heap.size 57 5 CodeQ codeF zCode lb I G n3 m3 w23 wr v j ∧ Blk wr G 27 #[.int .i64 a, .slice Ab b.length cb, .slice Av1 K1 cv1, .int .i64 c4, .int .i64 c5, .int .i64 c6, .slice Av2 K2 cv2, v]) (fun j _ => (intOf j).toNat)
                        case atStart => exact ⟨_, LpD.start w23 HB24.out.in_, HB24.out.blk⟩
                        case round =>
                          obtain ⟨v, ⟨K3, t3, ys3, css3, rfl, hk, hyl, hacc, hi, hgr, hrun⟩, hbg⟩ := hrel
                          obtain ⟨Av3, cv3, hv⟩ := own_slice hacc.1
                          rw [hyl] at hv
                          subst hv
                          have HACC := Lib.hid hacc
                          have HGR := Lib.hid hgr
                          have HRUN := Lib.hid hrun
                          have HI2 := Lib.hid hi
                          have HYL := Lib.hid hyl
                          have HBG := Lib.hid hbg
                          obtain ⟨A0, m0, c0, k0, k1, f0, f1⟩ := hi.cells
                          have hn := HC3k.out.1
                          clear hacc hgr hrun hi hbg
                          by_cases hgo : K3 < n3 ∧ t3.isSome = true
                          · obtain ⟨hlt, hts⟩ := hgo
                            have hpos : (0 : Int) < (n3 : Int) - (K3 : Int) := by omega
                            rw [hts] at k1
                            have HSW := Lib.hid HGR.out.size
                            go_upto_region 26 with fail
                            obtain ⟨yo, hyo⟩ : ∃ yo, yo = World.drew wr := ⟨_, rfl⟩
                            have HBO : Hid (Below wr.heap.size wr yo) := Lib.hid (by rw [hyo]; exact ⟨rfl, rfl, rfl, Nat.le_refl _, fun _ _ => rfl⟩)
                            have HBY := Lib.hid (HBG.out.below HBO.out HBG.out.lt)
                            have HS : Hid (yo.cell? ⟨G, 7, none⟩ = some (.slice Av3 K3 cv3)) := Lib.hid (HBY.out.cell 7)
                            have CN := Lib.hid (in_code I lb t3 yo (HI2.out.below HBO.out))
                            clear k0 k1 f0 f1
                            refine region_till (fun W => W.cell? ⟨G, 7, none⟩ = some (.slice Av3 K3 cv3)) (fun j => !([0, 1, 2, 3, 4, 5, 6] : List Nat).contains j) (by kernel_rfl) ?_
                            rw [← hyo]
                            clear hyo
                            refine till_take (i := 0) (v := ?_) rfl (by kernel_rfl) (by kernel_rfl) (by kernel_rfl) (by kernel_rfl) (fun _ _ _ h => h) (Or.inl ⟨by kernel_rfl, ?_⟩) HS.out ?_
                            rotate_left
                            · (intro w' hSw; obtain hc0 := hSw; go_simp; try with_reducible rfl)
                            refine till_take (i := 1) (v := ?_) rfl (by kernel_rfl) (by kernel_rfl) (by kernel_rfl) (by kernel_rfl) (fun _ _ _ h => h) (Or.inl ⟨by kernel_rfl, ?_⟩) HS.out ?_
                            rotate_left
                            · (intro w' hSw; obtain hc0 := hSw; go_simp; try with_reducible rfl)
                            refine till_take (i := 2) (v := ?_) rfl (by kernel_rfl) (by kernel_rfl) (by kernel_rfl) (by kernel_rfl) (fun _ _ _ h => h) (Or.inl ⟨by kernel_rfl, ?_⟩) HS.out ?_
                            rotate_left
                            · (intro w' hSw; obtain hc0 := hSw; go_simp; try with_reducible rfl)
                            refine till_ready (rs := [3]) (by kernel_rfl) (by simp) ?_
                            refine TillAll.cons rfl (fun K hK => ?_) TillAll.nil
                            go_simp
                            go_wp2_with (go_at_call 32; refine CN.out.mono ?_; rintro e x0 ⟨u0, a0, cs0, rfl, hi, hg, hst, hcl, hq⟩)
                            obtain ⟨vi, vq, vl, rfl, hsb, hse, hsf, hwf⟩ := id hq
                            obtain ⟨Ae, ce, rfl, _⟩ := id hsb
                            obtain ⟨Af, cf, rfl, _⟩ := id hse
                            obtain ⟨Ag, cg, rfl, _⟩ := id hsf
                            have HST := Lib.hid hst
                            have HI3 := Lib.hid hi
                            have HG3 := Lib.hid (only_tr (only_of_below HBO.out (some I)) hg)
                            have HQ := Lib.hid hq
                            have HBR2 := Lib.hid (HBY.out.grown hg (by have := HKP3.out; intro e; injection e with e; omega))
                            clear hst hi hg hsb hse hsf hwf hcl hq CN
                            have HS : Hid (x0.cell? ⟨G, 7, none⟩ = some (.slice Av3 K3 cv3)) := Lib.hid (HBR2.out.cell 7)
                            (refine hK.out _ _ (fun _ => HS.out) ?_; clear hK K)
                            refine till_ready (rs := [4]) (by kernel_rfl) (by simp) ?_
                            refine TillAll.cons rfl (fun K hK => ?_) TillAll.nil
                            go_simp
                            have HS : Hid ((x0.alloc (.cells #[.int .i64 a0.regs, .int .i64 a0.slots, .slice Ae a0.inputs.length ce, .slice Af a0.consts.length cf, .slice Ag a0.list.length cg] 57)).cell? ⟨G, 7, none⟩ = some (.slice Av3 K3 cv3)) := Lib.hid ((HBR2.out.alloc _).cell 7)
                            (refine hK.out _ _ (fun _ => HS.out) ?_; clear hK K)
                            refine till_ready (rs := [5]) (by kernel_rfl) (by simp) ?_
                            refine TillAll.cons rfl (fun K hK => ?_) TillAll.nil
                            have HO2 : Hid ((x0.alloc (.cells #[.int .i64 a0.regs, .int .i64 a0.slots, .slice Ae a0.inputs.length ce, .slice Af a0.consts.length cf, .slice Ag a0.list.length cg] 57)).ownsRow w23.heap.size 57 5 (.slice Av3 K3 cv3) K3 css3.flatten) := Lib.hid (LpD.own HYL.out HACC.out (Nat.lt_of_lt_of_le HKP3.out (Nat.le_of_lt HBG3.out)) (only_alloc HG3.out (.cells #[.int .i64 a0.regs, .int .i64 a0.slots, .slice Ae a0.inputs.length ce, .slice Af a0.consts.length cf, .slice Ag a0.list.length cg] 57)))
                            have HSY : Hid (w23.heap.size ≤ (x0.alloc (.cells #[.int .i64 a0.regs, .int .i64 a0.slots, .slice Ae a0.inputs.length ce, .slice Af a0.consts.length cf, .slice Ag a0.list.length cg] 57)).heap.size) := Lib.hid (by rw [World.size_alloc]; have := HSW.out; have := HG3.out.size; omega)
                            refine step_append_any _ (by rfl) (.tmp 106) (.tmp 109) 25 (by rfl) w23.heap.size 57 i3 _ 5 88 Try.underlying25 hi3 hz3 hsz3 hb3 rfl (by omega) _ _ _ (by rfl) HO2.out (x0.heap.size + 1) (some ⟨x0.heap.size, 0, none⟩) 1 1 [.int .i64 a0.regs, .int .i64 a0.slots, .slice Ae a0.inputs.length ce, .slice Af a0.consts.length cf, .slice Ag a0.list.length cg] (by rfl) (reads_lit _ _ 5 rfl _ _) (by intro u hu; simp at hu; rcases hu with rfl | rfl | rfl | rfl | rfl <;> rfl) (by unfold maxLen; omega) (by omega) HSY.out ?_
                            intro v9 w3 ho hg hat
                            obtain ⟨A9, c9, rfl⟩ := own_slice ho
                            have HO3 := Lib.hid ho
                            have HG6 := Lib.hid hg
                            have HAT4 := Lib.hid hat
                            have HBR3 := Lib.hid ((HBR2.out.alloc (.cells #[.int .i64 a0.regs, .int .i64 a0.slots, .slice Ae a0.inputs.length ce, .slice Af a0.consts.length cf, .slice Ag a0.list.length cg] 57)).grown hg (fun e => by have h1 := (own_lt2 HO2.out e.symm).2; have := HBG3.out; omega))
                            clear ho hg hat
                            have HS : Hid (w3.cell? ⟨G, 7, none⟩ = some (.slice Av3 K3 cv3)) := Lib.hid (HBR3.out.cell 7)
                            (refine hK.out _ _ (fun _ => HS.out) ?_; clear hK K)
                            refine till_take (i := 6) (v := ?_) rfl (by kernel_rfl) (by kernel_rfl) (by kernel_rfl) (by kernel_rfl) (fun _ _ _ h => h) (Or.inl ⟨by kernel_rfl, ?_⟩) HS.out ?_
                            rotate_left
                            · (intro w' hSw; obtain hc0 := hSw; go_simp; try with_reducible rfl)
                            refine till_ready (rs := [7]) (by kernel_rfl) (by simp) ?_
                            refine TillAll.cons rfl (fun K hK => ?_) TillAll.nil
                            have p0 := HBR3.out.cell 7
                            have q0 := HBR3.out.frozen 7
                            go_simp
                            (refine hK.out _ _ (fun h => absurd h (by decide)) ?_; clear hK K)
                            clear p0 q0
                            refine till_done (by kernel_rfl) ?_ _
                            have HL : Hid (LpD w23.heap.size 57 5 CodeQ codeF zCode lb I G n3 m3 w23 w3 (.slice A9 (K3 + 1) c9) (.int .i64 ((n3 : Int) - (K3 : Int) - 1))) := Lib.hid (LpD.next keeps_code hlt HYL.out HACC.out HGR.out HRUN.out (Nat.lt_of_lt_of_le HKP3.out (Nat.le_of_lt HBG3.out)) HSW.out (only_alloc HG3.out (.cells #[.int .i64 a0.regs, .int .i64 a0.slots, .slice Ae a0.inputs.length ce, .slice Af a0.consts.length cf, .slice Ag a0.list.length cg] 57)) (HI3.out.below ((Below.refl _ _).alloc (Nat.le_refl _) _)) HST.out rfl (keeps_code _ _ _ _ _ _ HQ.out (KeepQ.of_below ((Below.refl x0.heap.size x0).alloc (Nat.le_refl _) (.cells #[.int .i64 a0.regs, .int .i64 a0.slots, .slice Ae a0.inputs.length ce, .slice Af a0.consts.length cf, .slice Ag a0.list.length cg] 57)) (fun b hb => hb.2)) (fun b hb => ⟨Nat.le_trans HBO.out.size hb.1, by rw [World.size_alloc]; exact Nat.lt_succ_of_lt hb.2⟩)) HO3.out HG6.out HAT4.out)
                            have HL2 := Lib.hid (HL.out.set_ keeps_code HBG3.out HKP3.out 7 (.slice A9 (K3 + 1) c9))
                            have HBR4 : Hid (Blk (w3.setCell ⟨G, 7, none⟩ (.slice A9 (K3 + 1) c9)) G 27 #[.int .i64 a, .slice Ab b.length cb, .slice Av1 K1 cv1, .int .i64 c4, .int .i64 c5, .int .i64 c6, .slice Av2 K2 cv2, .slice A9 (K3 + 1) c9]) := Lib.hid (by simpa using HBR3.out.set_ 7 (.slice A9 (K3 + 1) c9))
                            clear HS HO2 HSY HBR2 HBR3 HO3 HG6 HAT4 HQ HI3 HG3 HST
                            try simp only [Exit.then]
                            go_wp2_with fail
                            go_roundw
                            case rel => first | exact ⟨_, HL2.out, HBR4.out⟩ | ((repeat apply Exists.intro); exact ⟨⟨_, HL2.out, HBR4.out⟩, rfl⟩)
                            case measure => simp [intOf]; omega
                          · have HBK := Lib.hid (HB24.out.loop HGR.out HBG.out HI2.out)
                            have HSL : Hid (SlP G 5 CodeQ (.slice Av3 K3 cv3) ys3 wr) := Lib.hid (SlP.of_acc HACC.out keeps_code HBG3.out)
                            have HBY3 := Lib.hid (HBK.out.add HSL.out (KeepsP.sl HKP3.out keeps_code))
                            have HYL3 := Lib.hid HYL.out
                            have HQ3 : Hid (StepD (listF codeF zCode) [] lb t2 t3 ys3) := Lib.hid (HRUN.out.done codec_code HAT3.out HC3k.out HB24.out.in_.at_ hk (by rcases t3 with _ | p; exact .inr rfl; exact .inl (by simp at hgo; omega)))
                            clear HACC HGR HRUN HI2 HBG HBK HSL HYL
                            have HEX : ((0 : Int) < (n3 : Int) - (K3 : Int) → t3.isSome = false) := fun h => by rcases t3 with _ | p; rfl; simp at hgo; omega
                            obtain ⟨bb3, hb⟩ : ∃ bb, t3.isSome = bb := ⟨_, rfl⟩
                            rw [hb] at k1 HEX
                            clear hgo
                            go_upto_region 24 with fail
                            go_cut [102] (fun x wx => x = .bool false ∧ wx = wr)
                            case first =>
                              by_cases hp : (0 : Int) < (n3 : Int) - (K3 : Int)
                              · have hbf := HEX hp
                                subst hbf
                                go_wp2_with fail
                                go_meet
                                exact ⟨rfl, rfl⟩
                              · have hp2 : (n3 : Int) - (K3 : Int) ≤ 0 := by omega
                                go_wp2_with fail
                                go_meet
                                exact ⟨rfl, rfl⟩
                            case rest =>
                              obtain ⟨rfl, hcw⟩ := hcut
                              subst hcw
                              obtain ⟨V3, hV⟩ : ∃ V, V = wc := ⟨wc, rfl⟩
                              subst hV
                              clear k0 k1 f0 f1 HEX hb
                              have HAB := Lib.hid HBY3.out.rest
                              have HZV : Hid (Blk V3 w.heap.size 27 #[.int .i64 0, .slice none 0 0, .slice none 0 0, .int .i64 0, .int .i64 0, .int .i64 0, .slice none 0 0, .slice none 0 0]) := Lib.hid HAB.out.1.1.1.1
                              have HAV : Hid (Below w.heap.size w V3) := Lib.hid (HA9.out.grown HBY3.out.gr HA9.out.size (fun q hq => by injection hq with hq; have := HIZ.out; omega))
                              have HSTEP : Hid (StepD tabF zTab lb (some 0) t3 ⟨a, b, ys1, c4, c5, c6, ys2, ys3⟩) := Lib.hid (step_tab HS1.out HS2.out HQ1.out HS4.out HS5.out HS6.out HQ2.out HQ3.out)
                              have HIMG : Hid (∀ z, IsImg z l → t3 = some lb.length) := Lib.hid (fun z h => itab_end HSTEP.out (by
                                have h1 := (img_parts h).2.2.2.2
                                rw [HKL.out, HLB.out] at h1
                                exact h1))
                              have HEC : Hid ((32 : Int) = decErr l) := Lib.hid (by unfold decErr; rw [if_neg (by rw [HNL.out]; exact HC1.out), if_neg (by rw [HNL.out]; exact HC2.out), if_neg (by rw [HC3.out]; exact fun h => h rfl), if_neg (by rw [HKL.out]; exact fun h => h HC4.out)])
                              obtain ⟨AI, cI, rI, hbI, _, _, _, hpI⟩ := HBY3.out.in_
                              obtain ⟨g0, g1, g2, g3, g4, g5, g6, g7⟩ := blk8s HBY3.out.blk
                              obtain ⟨x0, x1, x2, x3, x4, x5, x6, x7⟩ := blk8s HZV.out
                              have z0 := HZV.out.frozen 0
                              have z1 := HZV.out.frozen 1
                              have z2 := HZV.out.frozen 2
                              have z3 := HZV.out.frozen 3
                              have z4 := HZV.out.frozen 4
                              have z5 := HZV.out.frozen 5
                              have z6 := HZV.out.frozen 6
                              have z7 := HZV.out.frozen 7
                              have i0 := hbI.cell 0
                              have i1 := hbI.cell 1
                              have HPI := Lib.hid hpI
                              clear hbI hpI
                              rcases t3 with _ | q
                              · have HNO : Hid (∀ y, ¬ IsImg y l) := Lib.hid (fun y h => by cases HIMG.out y h)
                                have ii : V3.cell? ⟨I, 1, none⟩ = some (.bool false) := i1
                                clear i1
                                go_wp2_with fail
                                obtain ⟨X, hX⟩ : ∃ X, X = dSet8 V3 w.heap.size (.int .i64 0) (.slice none 0 0) (.slice none 0 0) (.int .i64 0) (.int .i64 0) (.int .i64 0) (.slice none 0 0) (.slice none 0 0) := ⟨_, rfl⟩
                                have HBX := Lib.hid (dSet8_blk HZV.out (.int .i64 0) (.slice none 0 0) (.slice none 0 0) (.int .i64 0) (.int .i64 0) (.int .i64 0) (.slice none 0 0) (.slice none 0 0))
                                have HAX := Lib.hid (dSet8_below HAV.out (Nat.le_refl _) (.int .i64 0) (.slice none 0 0) (.slice none 0 0) (.int .i64 0) (.int .i64 0) (.int .i64 0) (.slice none 0 0) (.slice none 0 0))
                                rw [← hX] at HBX HAX
                                unfold dSet8 at hX
                                rw [← hX]
                                clear hX
                                obtain ⟨q0, q1, q2, q3, q4, q5, q6, q7⟩ := blk8s HBX.out
                                exact bodyPost_ret (v := .tuple #[.agg #[.int .i64 0, .slice none 0 0, .slice none 0 0, .int .i64 0, .int .i64 0, .int .i64 0, .slice none 0 0, .slice none 0 0], .int .i64 32]) (by simp [results, Try.results15, go_sem, q0, q1, q2, q3, q4, q5, q6, q7]) rfl (HRET.out X 32 HAX.out HBX.out HNO.out HEC.out)
                              · have ii : V3.cell? ⟨I, 1, none⟩ = some (.bool true) := i1
                                have hq := HPI.out q rfl
                                have hrl : rI.length = lb.length - q := by rw [hq.2, List.length_drop]
                                have HQL := Lib.hid hq.1
                                have hr0 : (0 : Int) ≤ (rI.length : Int) := by omega
                                clear i1 hq
                                by_cases hlast : q = lb.length
                                · have hr1 : rI.length = 0 := by omega
                                  have IMG : Hid (IsImg ⟨a, b, ys1, c4, c5, c6, ys2, ys3⟩ l) := Lib.hid (by
                                    have h1 := HSTEP.out
                                    rw [hlast] at h1
                                    refine img_whole (by have := HNL.out; omega) (by have := HNL.out; omega) HC3.out (by rw [HKL.out]; exact HC4.out) ?_
                                    rw [HKL.out, HLB.out]
                                    exact itab_img h1)
                                  rw [hr1] at i0
                                  clear hrl hr0 hr1 hlast
                                  go_wp2_with fail
                                  obtain ⟨X, hX⟩ : ∃ X, X = dSet8 V3 w.heap.size (.int .i64 a) (.slice Ab b.length cb) (.slice Av1 K1 cv1) (.int .i64 c4) (.int .i64 c5) (.int .i64 c6) (.slice Av2 K2 cv2) (.slice Av3 K3 cv3) := ⟨_, rfl⟩
                                  have HBX := Lib.hid (dSet8_blk HZV.out (.int .i64 a) (.slice Ab b.length cb) (.slice Av1 K1 cv1) (.int .i64 c4) (.int .i64 c5) (.int .i64 c6) (.slice Av2 K2 cv2) (.slice Av3 K3 cv3))
                                  have HAX := Lib.hid (dSet8_below HAV.out (Nat.le_refl _) (.int .i64 a) (.slice Ab b.length cb) (.slice Av1 K1 cv1) (.int .i64 c4) (.int .i64 c5) (.int .i64 c6) (.slice Av2 K2 cv2) (.slice Av3 K3 cv3))
                                  have HKX : Hid (KeepQ (fun b => G < b ∧ b < V3.heap.size) V3 X) := Lib.hid (by rw [hX]; exact keepQ_dSet8 (fun b hb => by have := HGW.out; omega) _ _ _ _ _ _ _ _)
                                  rw [← hX] at HBX HAX
                                  unfold dSet8 at hX
                                  rw [← hX]
                                  clear hX
                                  obtain ⟨q0, q1, q2, q3, q4, q5, q6, q7⟩ := blk8s HBX.out
                                  have e1 := HYL1.out
                                  have e2 := HYL2.out
                                  have e3 := HYL3.out
                                  refine bodyPost_ret (v := .tuple #[.agg #[.int .i64 a, .slice Ab b.length cb, .slice Av1 K1 cv1, .int .i64 c4, .int .i64 c5, .int .i64 c6, .slice Av2 K2 cv2, .slice Av3 K3 cv3], .int .i64 0]) (by simp [results, Try.results15, go_sem, q0, q1, q2, q3, q4, q5, q6, q7]) rfl ⟨HAX.out, .inl ⟨⟨a, b, ys1, c4, c5, c6, ys2, ys3⟩, _, _, _, _, IMG.out, rfl, ?_⟩⟩
                                  have hk : ∀ b, (G < b ∧ b < V3.heap.size) → (G < b ∧ b < V3.heap.size) := fun b h => h
                                  exact ⟨(SlQ.keep HAB.out.1.1.1.2 HKX.out hk (fun _ _ h => h)).out (fun _ _ h => h), (SlQ.keep HAB.out.1.1.2 HKX.out hk (fun cs x h => keeps_ints _ _ _ _ _ _ h HKX.out hk)).out (fun _ _ h => h.out), (SlQ.keep HAB.out.1.2 HKX.out hk (fun cs x h => keeps_row _ _ _ _ _ _ h HKX.out hk)).out (fun _ _ h => h.out), (SlQ.keep HAB.out.2 HKX.out hk (fun cs x h => keeps_code _ _ _ _ _ _ h HKX.out hk)).out (fun _ _ h => h.out), HWA.out, HW4.out, HW5.out, HW6.out⟩
                                · have HNO : Hid (∀ y, ¬ IsImg y l) := Lib.hid (fun y h => hlast (by have h1 := HIMG.out y h; injection h1))
                                  have hr1 : (0 : Int) < (rI.length : Int) := by have := HQL.out; omega
                                  clear hrl hr0 hlast
                                  go_wp2_with fail
                                  obtain ⟨X, hX⟩ : ∃ X, X = dSet8 V3 w.heap.size (.int .i64 0) (.slice none 0 0) (.slice none 0 0) (.int .i64 0) (.int .i64 0) (.int .i64 0) (.slice none 0 0) (.slice none 0 0) := ⟨_, rfl⟩
                                  have HBX := Lib.hid (dSet8_blk HZV.out (.int .i64 0) (.slice none 0 0) (.slice none 0 0) (.int .i64 0) (.int .i64 0) (.int .i64 0) (.slice none 0 0) (.slice none 0 0))
                                  have HAX := Lib.hid (dSet8_below HAV.out (Nat.le_refl _) (.int .i64 0) (.slice none 0 0) (.slice none 0 0) (.int .i64 0) (.int .i64 0) (.int .i64 0) (.slice none 0 0) (.slice none 0 0))
                                  rw [← hX] at HBX HAX
                                  unfold dSet8 at hX
                                  rw [← hX]
                                  clear hX
                                  obtain ⟨q0, q1, q2, q3, q4, q5, q6, q7⟩ := blk8s HBX.out
                                  exact bodyPost_ret (v := .tuple #[.agg #[.int .i64 0, .slice none 0 0, .slice none 0 0, .int .i64 0, .int .i64 0, .int .i64 0, .slice none 0 0, .slice none 0 0], .int .i64 32]) (by simp [results, Try.results15, go_sem, q0, q1, q2, q3, q4, q5, q6, q7]) rfl (HRET.out X 32 HAX.out HBX.out HNO.out HEC.out)
          · rw [decide_eq_false c4]
            have HNO : Hid (∀ y, ¬ IsImg y l) := Lib.hid (fun y h => c4 (by have h1 := (img_parts h).2.2.2.1; rw [HKL.out] at h1; exact h1))
            have HEC : Hid ((31 : Int) = decErr l) := Lib.hid (by unfold decErr; rw [if_neg (by rw [HNL.out]; exact HC1.out), if_neg (by rw [HNL.out]; exact HC2.out), if_neg (by rw [HC3.out]; exact fun h => h rfl), if_pos (by rw [HKL.out]; exact c4)])
            clear c4
            obtain ⟨x0, x1, x2, x3, x4, x5, x6, x7⟩ := blk8s HZC.out
            have z0 := HZC.out.frozen 0
            have z1 := HZC.out.frozen 1
            have z2 := HZC.out.frozen 2
            have z3 := HZC.out.frozen 3
            have z4 := HZC.out.frozen 4
            have z5 := HZC.out.frozen 5
            have z6 := HZC.out.frozen 6
            have z7 := HZC.out.frozen 7
            go_wp2_with fail
            obtain ⟨X, hX⟩ : ∃ X, X = dSet8 wc w.heap.size (.int .i64 0) (.slice none 0 0) (.slice none 0 0) (.int .i64 0) (.int .i64 0) (.int .i64 0) (.slice none 0 0) (.slice none 0 0) := ⟨_, rfl⟩
            have HBX := Lib.hid (dSet8_blk HZC.out (.int .i64 0) (.slice none 0 0) (.slice none 0 0) (.int .i64 0) (.int .i64 0) (.int .i64 0) (.slice none 0 0) (.slice none 0 0))
            have HAX := Lib.hid (dSet8_below HBC.out (Nat.le_refl _) (.int .i64 0) (.slice none 0 0) (.slice none 0 0) (.int .i64 0) (.int .i64 0) (.int .i64 0) (.slice none 0 0) (.slice none 0 0))
            rw [← hX] at HBX HAX
            unfold dSet8 at hX
            rw [← hX]
            clear hX
            obtain ⟨q0, q1, q2, q3, q4, q5, q6, q7⟩ := blk8s HBX.out
            exact bodyPost_ret (v := .tuple #[.agg #[.int .i64 0, .slice none 0 0, .slice none 0 0, .int .i64 0, .int .i64 0, .int .i64 0, .slice none 0 0, .slice none 0 0], .int .i64 31]) (by simp [results, Try.results15, go_sem, q0, q1, q2, q3, q4, q5, q6, q7]) rfl (HRET.out X 31 HAX.out HBX.out HNO.out HEC.out)
      · have HNO : Hid (∀ y, ¬ IsImg y l) := Lib.hid (fun y h => c3 (img_parts h).2.2.1)
        have HEC : Hid ((32 : Int) = decErr l) := Lib.hid (by unfold decErr; rw [if_neg (by rw [HNL.out]; exact HC1.out), if_neg (by rw [HNL.out]; exact HC2.out), if_pos c3])
        have hne : ((⟨(l.take 4).toArray⟩ : ByteArray).toList == [65, 85, 83, 80]) = false := by
          rw [beq_eq_false_iff_ne, ByteArray.toList_eq]; exact c3
        obtain ⟨BS, hBS⟩ : ∃ BS : ByteArray, BS = ⟨(l.take 4).toArray⟩ := ⟨_, rfl⟩
        rw [← hBS] at hcv hne
        clear c3 hBS
        go_wp2_with fail
        obtain ⟨X, hX⟩ : ∃ X, X = dSet8 W1 w.heap.size (.int .i64 0) (.slice none 0 0) (.slice none 0 0) (.int .i64 0) (.int .i64 0) (.int .i64 0) (.slice none 0 0) (.slice none 0 0) := ⟨_, rfl⟩
        have HBX := Lib.hid (dSet8_blk HBZ.out (.int .i64 0) (.slice none 0 0) (.slice none 0 0) (.int .i64 0) (.int .i64 0) (.int .i64 0) (.slice none 0 0) (.slice none 0 0))
        have HAX := Lib.hid (dSet8_below HA1.out (Nat.le_refl _) (.int .i64 0) (.slice none 0 0) (.slice none 0 0) (.int .i64 0) (.int .i64 0) (.int .i64 0) (.slice none 0 0) (.slice none 0 0))
        rw [← hX] at HBX HAX
        unfold dSet8 at hX
        rw [← hX]
        clear hX
        obtain ⟨q0, q1, q2, q3, q4, q5, q6, q7⟩ := blk8s HBX.out
        exact bodyPost_ret (v := .tuple #[.agg #[.int .i64 0, .slice none 0 0, .slice none 0 0, .int .i64 0, .int .i64 0, .int .i64 0, .slice none 0 0, .slice none 0 0], .int .i64 32]) (by simp [results, Try.results15, go_sem, q0, q1, q2, q3, q4, q5, q6, q7]) rfl (HRET.out X 32 HAX.out HBX.out HNO.out HEC.out)
end Go.Proofs.Ytabndfkkbmhhjaa
namespace Go.Proofs.Ytabndfkkbmhhjaa
set_option linter.unusedVariables false
set_option linter.unusedSimpArgs false
open Go.RowKit Go.Deep

/-- a part that writes these bytes, if it may -/
def WrE {α : Type} (one : FSt → α → Option (FSt × α)) (f : α → List UInt8) (p : α → Bool) : Prop := ∀ bs x, one (.wr bs) x = if p x = true then some (.wr (bs ++ f x), x) else none
section
variable {α β : Type} {one : FSt → α → Option (FSt × α)} {two : FSt → β → Option (FSt × β)} {f : α → List UInt8} {g : β → List UInt8} {p : α → Bool} {q : β → Bool} {z : α}
theorem WrE.run (h : WrE one f p) : ∀ (xs : List α) (bs : List UInt8), runL one (.wr bs) xs = if xs.all p = true then some (.wr (bs ++ (xs.map f).flatten), xs) else none := by
  intro xs
  induction xs with
  | nil => intro bs; simp [runL]
  | cons x xs ih =>
    intro bs
    simp only [runL, h bs x]
    by_cases hx : p x = true
    · rw [if_pos hx]
      simp only [ih, List.all_cons, hx, Bool.true_and, List.map_cons, List.flatten_cons]
      by_cases hq : xs.all p = true
      · rw [if_pos hq, if_pos hq]; simp [List.append_assoc]
      · rw [if_neg hq, if_neg hq]
    · rw [if_neg hx, if_neg (by simp [hx])]
theorem wr_num : WrE num (fun n => numsB [n]) numOk := fun bs x => by
  unfold num numsB
  simp
theorem WrE.list (h : WrE one f p) : WrE (listF one z) (listBy f) (listOk p) := fun bs xs => by
  unfold listF listOk listBy
  by_cases hl : 1024 < xs.length
  · rw [if_pos hl, if_neg (by simp; omega)]
  · rw [if_neg hl]
    have h1 : numOk (xs.length : Int) = true := by unfold numOk; simp; omega
    have h2 : num (.wr bs) (xs.length : Int) = some (.wr (bs ++ numsB [(xs.length : Int)]), (xs.length : Int)) := by rw [wr_num bs, if_pos h1]
    rw [h2]
    simp only
    rw [h.run, show decide (xs.length ≤ 1024) = true from decide_eq_true (by omega), Bool.true_and, List.append_assoc]
theorem WrE.pair (h : WrE one f p) (k : WrE two g q) : WrE (pairF one two) (fun x => f x.1 ++ g x.2) (fun x => p x.1 && q x.2) := fun bs x => by
  unfold pairF
  rw [h bs]
  by_cases hx : p x.1 = true
  · rw [if_pos hx]
    simp only [Option.bind_some, hx, Bool.true_and]
    rw [k (bs ++ f x.1) x.2]
    by_cases hy : q x.2 = true
    · rw [if_pos hy, if_pos hy]; simp [List.append_assoc]
    · rw [if_neg hy, if_neg hy]; rfl
  · rw [if_neg hx, if_neg (by simp [hx])]; rfl
theorem WrE.map_ (h : WrE one f p) (e : β → α) (d : α → β) (h1 : ∀ x, d (e x) = x) : WrE (mapF e d one) (fun x => f (e x)) (fun x => p (e x)) := fun bs x => by
  unfold mapF
  rw [h bs]
  by_cases hx : p (e x) = true
  · rw [if_pos hx, if_pos hx]; simp [h1]
  · rw [if_neg hx, if_neg hx]; rfl
theorem WrE.congr {one' : FSt → α → Option (FSt × α)} {f' : α → List UInt8} {p' : α → Bool} (h : WrE one f p) (h1 : ∀ st x, one' st x = one st x) (h2 : ∀ x, f' x = f x) (h3 : ∀ x, p' x = p x) : WrE one' f' p' := fun bs x => by
  rw [h1, h2, h3]; exact h bs x
end
theorem numsB_cons (a : Int) (l : List Int) : numsB (a :: l) = numsB [a] ++ numsB l := by simp [numsB]
theorem wr_bits : WrE bitsF (fun a => vb a.toNat) (fun _ => true) := fun bs x => by simp [bitsF]
theorem wr_flag : WrE flagF (fun b => numsB [mInt b]) (fun _ => true) := fun bs x => by
  unfold flagF
  rw [wr_num bs, if_pos (by cases x <;> decide)]
  cases x <;> rfl
theorem wr_int : WrE intF (fun n => numsB [n]) numOk := wr_num.congr (fun st x => by
  unfold intF
  rw [run1_bind]
  rcases num st x with _ | ⟨s, y⟩ <;> rfl) (fun _ => rfl) (fun _ => rfl)
theorem wr_stop : WrE stopF stopBy stopOk := ((wr_num.pair wr_num).map_ (fun x : TStop => (x.ty, x.gd)) (fun p => ⟨p.1, p.2⟩) (fun _ => rfl)).congr (fun st x => by
    simp only [stopF, run2_bind, mapF, pairF, Option.bind_assoc, Option.bind_some, List.getD_cons_zero, List.getD_cons_succ]) (fun x => by unfold stopBy; rw [numsB_cons]) (fun _ => rfl)
theorem wr_tail : WrE tailF tailBy tailOk := ((wr_num.pair (wr_num.pair (wr_stop.list (z := zStop)))).map_ (fun x : TTail => (x.br, x.cl, x.bars)) (fun p => ⟨p.1, p.2.1, p.2.2⟩) (fun _ => rfl)).congr (fun st x => by
    simp only [tailF, run2_bind, mapF, pairF, Option.bind_assoc, Option.bind_some, List.getD_cons_zero, List.getD_cons_succ]) (fun x => by unfold tailBy; rw [numsB_cons, List.append_assoc]) (fun x => by unfold tailOk; rw [Bool.and_assoc])
theorem wr_row : WrE rowF rowBy rowOk := ((wr_num.pair (wr_num.pair (wr_flag.pair (wr_num.pair ((wr_stop.list (z := zStop)).pair (wr_num.pair (wr_num.pair (wr_tail.list (z := zTail))))))))).map_ (fun x : TRow => (x.par, x.ty, x.many, x.win, x.bars, x.leave, x.guard, x.ends)) (fun p => ⟨p.1, p.2.1, p.2.2.1, p.2.2.2.1, p.2.2.2.2.1, p.2.2.2.2.2.1, p.2.2.2.2.2.2.1, p.2.2.2.2.2.2.2⟩) (fun _ => rfl)).congr (fun st x => by
    simp only [rowF, run2_bind, mapF, pairF, Option.bind_assoc, Option.bind_some, List.getD_cons_zero, List.getD_cons_succ]) (fun x => by
    unfold rowBy
    rw [numsB_cons, numsB_cons x.ty, numsB_cons (mInt x.many), numsB_cons x.leave]
    simp only [List.append_assoc]) (fun x => by unfold rowOk; simp only [Bool.and_assoc, Bool.true_and])
def inpBy (x : TInp) : List UInt8 := numsB [x.op, x.kind, x.pos, x.attr]
def inpOk (x : TInp) : Bool := numOk x.op && numOk x.kind && numOk x.pos && numOk x.attr
def insBy (x : TIns) : List UInt8 := numsB [x.op, x.dst, x.a, x.b]
def insOk (x : TIns) : Bool := numOk x.op && numOk x.dst && numOk x.a && numOk x.b
def valBy (x : TVal) : List UInt8 := numsB [x.kind] ++ vb x.bits.toNat
def valOk (x : TVal) : Bool := numOk x.kind
def codeBy (c : TCode) : List UInt8 := numsB [c.regs, c.slots] ++ listBy inpBy c.inputs ++ listBy valBy c.consts ++ listBy insBy c.list
def codeOk (c : TCode) : Bool := numOk c.regs && numOk c.slots && listOk inpOk c.inputs && listOk valOk c.consts && listOk insOk c.list
theorem four_nums (a b c d : Int) : numsB [a, b, c, d] = numsB [a] ++ (numsB [b] ++ (numsB [c] ++ numsB [d])) := by simp [numsB]
theorem wr_inp : WrE inpF inpBy inpOk := ((wr_num.pair (wr_num.pair (wr_num.pair wr_num))).map_ (fun x : TInp => (x.op, x.kind, x.pos, x.attr)) (fun p => ⟨p.1, p.2.1, p.2.2.1, p.2.2.2⟩) (fun _ => rfl)).congr (fun st x => by
    simp only [inpF, run4_bind, mapF, pairF, Option.bind_assoc, Option.bind_some, List.getD_cons_zero, List.getD_cons_succ]) (fun x => by unfold inpBy; rw [four_nums]) (fun x => by unfold inpOk; simp only [Bool.and_assoc])
theorem wr_ins : WrE insF insBy insOk := ((wr_num.pair (wr_num.pair (wr_num.pair wr_num))).map_ (fun x : TIns => (x.op, x.dst, x.a, x.b)) (fun p => ⟨p.1, p.2.1, p.2.2.1, p.2.2.2⟩) (fun _ => rfl)).congr (fun st x => by
    simp only [insF, run4_bind, mapF, pairF, Option.bind_assoc, Option.bind_some, List.getD_cons_zero, List.getD_cons_succ]) (fun x => by unfold insBy; rw [four_nums]) (fun x => by unfold insOk; simp only [Bool.and_assoc])
theorem wr_val : WrE valF valBy valOk := ((wr_num.pair wr_bits).map_ (fun x : TVal => (x.kind, x.bits)) (fun p => ⟨p.1, p.2⟩) (fun _ => rfl)).congr (fun st x => by
    simp only [valF, run1_bind, mapF, pairF, Option.bind_assoc, Option.bind_some, List.getD_cons_zero, List.getD_cons_succ]) (fun x => rfl) (fun x => by unfold valOk; rw [Bool.and_true])
theorem wr_code : WrE codeF codeBy codeOk := ((wr_num.pair (wr_num.pair ((wr_inp.list (z := zInp)).pair ((wr_val.list (z := zVal)).pair (wr_ins.list (z := zIns)))))).map_ (fun x : TCode => (x.regs, x.slots, x.inputs, x.consts, x.list)) (fun p => ⟨p.1, p.2.1, p.2.2.1, p.2.2.2.1, p.2.2.2.2⟩) (fun _ => rfl)).congr (fun st x => by
    simp only [codeF, run2_bind, mapF, pairF, Option.bind_assoc, Option.bind_some, List.getD_cons_zero, List.getD_cons_succ]) (fun x => by unfold codeBy; rw [numsB_cons]; simp only [List.append_assoc]) (fun x => by unfold codeOk; simp only [Bool.and_assoc])
def intBy (n : Int) : List UInt8 := numsB [n]
def tabBy (T : TTab) : List UInt8 := numsB [T.strategy] ++ listBy intBy T.keys ++ listBy (listBy intBy) T.kinds ++ numsB [T.syms, T.runs, T.cells] ++ listBy rowBy T.states ++ listBy codeBy T.codes
def tabOk (T : TTab) : Bool := numOk T.strategy && listOk numOk T.keys && listOk (listOk numOk) T.kinds && numOk T.syms && numOk T.runs && numOk T.cells && listOk rowOk T.states && listOk codeOk T.codes
theorem wr_tab : WrE tabF tabBy tabOk := ((wr_num.pair ((wr_int.list (z := 0)).pair (((wr_int.list (z := 0)).list (z := [])).pair (wr_num.pair (wr_num.pair (wr_num.pair ((wr_row.list (z := zRow)).pair (wr_code.list (z := zCode))))))))).map_ (fun x : TTab => (x.strategy, x.keys, x.kinds, x.syms, x.runs, x.cells, x.states, x.codes)) (fun p => ⟨p.1, p.2.1, p.2.2.1, p.2.2.2.1, p.2.2.2.2.1, p.2.2.2.2.2.1, p.2.2.2.2.2.2.1, p.2.2.2.2.2.2.2⟩) (fun _ => rfl)).congr (fun st x => by
    simp only [tabF, run1_bind, run3_bind, mapF, pairF, Option.bind_assoc, Option.bind_some, List.getD_cons_zero, List.getD_cons_succ]) (fun x => by
    unfold tabBy
    rw [numsB_cons x.syms, numsB_cons x.runs]
    simp only [List.append_assoc]
    rfl) (fun x => by unfold tabOk; simp only [Bool.and_assoc])
/-- an image's bytes, by the document's words -/
theorem Img.by_ {y : TTab} {m : List UInt8} (h : Img y m) : tabOk y = true ∧ m = tabBy y := by
  have h1 := h.2
  rw [wr_tab] at h1
  by_cases hp : tabOk y = true
  · rw [if_pos hp] at h1
    simp only [List.nil_append, Option.some.injEq, Prod.mk.injEq, FSt.wr.injEq, and_true] at h1
    exact ⟨hp, h1.symm⟩
  · rw [if_neg hp] at h1; cases h1
theorem flat_ints (l : List Int) : (l.map intBy).flatten = numsB l := by
  induction l with
  | nil => rfl
  | cons x l ih => rw [List.map_cons, List.flatten_cons, ih, numsB_cons x l]; rfl
theorem kind_by : listBy intBy = kindBy := by
  funext l
  unfold listBy kindBy
  rw [flat_ints]
theorem plain_le (T : TTab) : (plainBy T).length ≤ (tabBy T).length := by
  unfold plainBy tabBy
  rw [kind_by]
  have e1 : kindBy T.keys = numsB [(T.keys.length : Int)] ++ numsB T.keys := rfl
  have e2 : listBy kindBy T.kinds = numsB [(T.kinds.length : Int)] ++ (T.kinds.map kindBy).flatten := rfl
  rw [e1, e2, numsB_cons T.strategy, numsB_cons T.syms, numsB_cons T.runs, numsB_cons T.cells, numsB_cons T.syms [T.runs, T.cells], numsB_cons T.runs [T.cells]]
  simp only [List.length_append]
  omega
theorem IsImg.plain {y : TTab} {b : List UInt8} (h : IsImg y b) : (plainBy y).length ≤ 1000000000 := by
  obtain ⟨m, h1, h2, h3⟩ := h
  have h4 := (h1.by_).2
  have h5 := plain_le y
  rw [h2, List.length_append, List.length_append] at h3
  rw [h4] at h3
  omega
end Go.Proofs.Ytabndfkkbmhhjaa
namespace Go.Proofs.Ytabndfkkbmhhjaa
set_option linter.unusedVariables false
set_option linter.unusedSimpArgs false
open Go.RowKit Go.Deep

theorem tabx_zero (w : World) : TabX w zTab (.slice none 0 0) (.slice none 0 0) (.slice none 0 0) (.slice none 0 0) :=
  ⟨⟨none, 0, rfl, Nat.le_refl _, by decide, fun h => by simp [zTab] at h⟩, ⟨none, 0, rfl, Nat.le_refl _, by decide, fun h => by simp [zTab] at h⟩, ⟨none, 0, rfl, Nat.le_refl _, by decide, fun h => by simp [zTab] at h⟩, ⟨none, 0, rfl, Nat.le_refl _, by decide, fun h => by simp [zTab] at h⟩, rfl, rfl, rfl, rfl⟩
theorem decErr_same (l : List UInt8) : (decErr l == decErr l) = true := beq_self_eq_true _
/-- what Decode told: a table and a code, whichever Decode it was -/
theorem decp_tab {l : List UInt8} {w w' : World} {e : Ending} (h : DecP l w e w') : ∃ (T : TTab) (vk vkk vs vc : Value) (ec : Int), e = .returned (.tuple #[.agg #[.int .i64 T.strategy, vk, vkk, .int .i64 T.syms, .int .i64 T.runs, .int .i64 T.cells, vs, vc], .int .i64 ec]) ∧ TabX w' T vk vkk vs vc ∧ Below w.heap.size w w' ∧ ((IsImg T l ∧ ec = 0) ∨ ((∀ y, ¬ IsImg y l) ∧ T = zTab ∧ ec = decErr l)) := by
  obtain ⟨hb, ⟨y, vk, vkk, vs, vc, h1, rfl, h3⟩ | ⟨h1, rfl⟩⟩ := h
  · exact ⟨y, vk, vkk, vs, vc, 0, rfl, h3, hb, .inl ⟨h1, rfl⟩⟩
  · exact ⟨zTab, _, _, _, _, decErr l, rfl, tabx_zero w', hb, .inr ⟨h1, rfl, rfl⟩⟩
theorem decp_same {l : List UInt8} {T U : TTab} {a b : Int} (h : (IsImg T l ∧ a = 0) ∨ ((∀ y, ¬ IsImg y l) ∧ T = zTab ∧ a = decErr l)) (k : (IsImg U l ∧ b = 0) ∨ ((∀ y, ¬ IsImg y l) ∧ U = zTab ∧ b = decErr l)) : U = T ∧ b = a ∧ (plainBy T).length ≤ 1000000000 := by
  rcases h with ⟨h1, rfl⟩ | ⟨h1, rfl, rfl⟩ <;> rcases k with ⟨k1, rfl⟩ | ⟨k1, rfl, rfl⟩
  · exact ⟨img_one k1 h1, rfl, h1.plain⟩
  · exact absurd h1 (k1 T)
  · exact absurd k1 (h1 U)
  · exact ⟨rfl, rfl, by decide⟩
set_option maxRecDepth 100000 in
set_option maxHeartbeats 8000000 in
theorem decodes_any (A : Option Addr) (n c : Nat) (l : List UInt8) (w : World) (hn : l.length = n) (hc : n ≤ c) (hm : c ≤ 9223372036854775807) (hnm : n ≤ 140737488351232) (hR : Reads w w.heap.size 1 A n (bv l)) :
    Calls Try.prog 4 #[.slice A n c] w fun e w' => e = .returned (.bool true) ∧ Below w.heap.size w w' := by
  obtain ⟨i0, hi, hz0, hz1, hz2⟩ := info_parts infoU8
  have HN := Lib.hid hn
  obtain ⟨W1, hW1⟩ : ∃ W, W = w.alloc (.cells #[] 5) := ⟨_, rfl⟩
  have ha1 : Below w.heap.size w W1 := by rw [hW1]; exact (Below.refl _ _).alloc (Nat.le_refl _) _
  have HO1 : Hid (W1.ownsRow w.heap.size 5 1 (.slice (some ⟨w.heap.size, 0, none⟩) 0 0) 0 []) := Lib.hid (by rw [hW1]; exact World.ownsRow_lit w #[] 0 (Nat.le_refl _) (by decide) rfl)
  have HR0 := Lib.hid hR
  have HR1 : Hid (Reads W1 w.heap.size 1 A n (bv l)) := Lib.hid (hR.below ha1)
  have HA1 := Lib.hid ha1
  have HW1 := Lib.hid hW1
  have HAW := Lib.hid (fun W => image_awake W)
  have nn : (0 : Int) ≤ (n : Int) := by omega
  clear hR ha1 hW1 hn
  go_enter Try.func4, Try.ntmps4
  go_wp2_with (first
    | (at_builtin; rw [← HW1.out]; refine wpList_append_any _ rfl (.tmp 8) (.tmp 9) 31 rfl w.heap.size 5 i0 _ 1 1 Try.underlying31 hi hz0 hz1 hz2 rfl (by omega) (.slice (some ⟨w.heap.size, 0, none⟩) 0 0) 0 [] rfl HO1.out w.heap.size A n c (bv l) rfl HR1.out (bv_one l) (by unfold maxLen; omega) (by omega) HA1.out.size ?_; intro v12 w12 ho12 hg12 hat12; simp only [Nat.zero_add, List.nil_append] at ho12; obtain ⟨A12, c12, rfl⟩ := own_slice ho12; (try rw [Nat.zero_add]); have HO12 := Lib.hid ho12; have HA12 : Hid (Below w.heap.size w w12) := Lib.hid (HA1.out.grown hg12 HA1.out.size (fun q hq => (own_lt2 HO1.out hq).2)); clear ho12 hg12 hat12; obtain ⟨W13, hW13⟩ : ∃ W, W = w12.alloc (.cells #[.int .u8 113] 5) := ⟨_, rfl⟩; have HR13 : Hid (Reads W13 (w12.heap.size + 1) 1 (some ⟨w12.heap.size, 0, none⟩) 1 (bv [113])) := Lib.hid (by rw [hW13]; exact reads_one w12 _ _ _); have ha13 : Below w12.heap.size w12 W13 := (by rw [hW13]; exact (Below.refl _ _).alloc (Nat.le_refl _) _); have HO13 := Lib.hid (own_below2 HO12.out ha13); have HA13 : Hid (Below w.heap.size w W13) := Lib.hid (HA12.out.trans (ha13.mono HA12.out.size)); have HW13 := Lib.hid hW13; clear hW13 ha13)
    | (at_builtin; rw [← HW13.out]; refine wpList_append_any _ rfl (.tmp 10) (.tmp 11) 31 rfl w.heap.size 5 i0 _ 1 1 Try.underlying31 hi hz0 hz1 hz2 rfl (by omega) (.slice A12 n c12) n (bv l) rfl HO13.out (w12.heap.size + 1) (some ⟨w12.heap.size, 0, none⟩) 1 1 (bv [113]) rfl HR13.out (bv_one [113]) (by unfold maxLen; omega) (by omega) HA13.out.size ?_; intro v14 w14 ho14 hg14 hat14; obtain ⟨g, cap, hv', hgw, hgl, hgc, hgm, hcells, hfz⟩ := own_shape ho14 (by omega); subst hv'; have HO14 : Hid (w14.ownsRow w.heap.size 5 1 (.slice (some ⟨g, 0, none⟩) (n + 1) cap) (n + 1) (bv (l ++ [113]))) := Lib.hid (by rw [bv_app]; exact ho14); have HA14 : Hid (Below w.heap.size w w14) := Lib.hid (HA13.out.grown hg14 HA13.out.size (fun q hq => (own_lt2 HO13.out hq).2)); clear ho14 hg14 hat14 hcells hfz))
  have hL : (l ++ [113]).length = n + 1 := by rw [List.length_append, HN.out]; rfl
  have HLL := Lib.hid hL
  have hRn : Reads w14 w14.heap.size 1 (some ⟨g, 0, none⟩) n (bv l) := by
    have h := (Reads.of_own HO14.out).take hL n (by omega)
    rw [← HN.out, List.take_left, HN.out] at h
    exact h
  unfold maxLen at hgm
  have CD := Lib.hid (decode_any (some ⟨g, 0, none⟩) n cap l w14 HN.out (by omega) (by omega) hRn)
  clear hRn hL
  refine CD.out.mono ?_
  intro e w15 hp
  obtain ⟨T, vk, vkk, vs, vc, ea, rfl, htx, hb15, hor⟩ := decp_tab hp
  have HB15 := Lib.hid (HA14.out.trans (hb15.mono HA14.out.size))
  have HX15 := Lib.hid htx
  have HOR := Lib.hid hor
  have HO15 := Lib.hid (own_below2 HO14.out hb15)
  obtain ⟨A1, x1, rfl, _, _⟩ := htx.keys.slice
  obtain ⟨A2, x2, rfl, _, _⟩ := htx.kinds.slice
  obtain ⟨A3, x3, rfl, _, _⟩ := htx.states.slice
  obtain ⟨A4, x4, rfl, _, _⟩ := htx.codes.slice
  clear hp htx hb15 hor CD
  obtain ⟨W16, hW16⟩ : ∃ W, W = w15.alloc (.cells #[.int .i64 T.strategy, .slice A1 T.keys.length x1, .slice A2 T.kinds.length x2, .int .i64 T.syms, .int .i64 T.runs, .int .i64 T.cells, .slice A3 T.states.length x3, .slice A4 T.codes.length x4] 27) := ⟨_, rfl⟩
  have ha16 : Below w15.heap.size w15 W16 := by rw [hW16]; exact (Below.refl _ _).alloc (Nat.le_refl _) _
  have HBX : Hid (Blk W16 w15.heap.size 27 #[.int .i64 T.strategy, .slice A1 T.keys.length x1, .slice A2 T.kinds.length x2, .int .i64 T.syms, .int .i64 T.runs, .int .i64 T.cells, .slice A3 T.states.length x3, .slice A4 T.codes.length x4]) := Lib.hid (by rw [hW16]; exact Blk.new _ _ _)
  have HB16 := Lib.hid (HB15.out.trans (ha16.mono HB15.out.size))
  have HX16 := Lib.hid (HX15.out.below ha16)
  have HO16 := Lib.hid (own_below2 HO15.out ha16)
  have HR16 := Lib.hid (HR0.out.below HB16.out)
  have CR := Lib.hid (rdecode_any A n c l W16 HN.out hc (by omega) (HR16.out.more HB16.out.size))
  clear ha16
  go_upto_region 3 with fail
  rw [← hW16]
  clear hW16 HB15 HX15 HO15 HO14
  go_wp2_with fail
  refine CR.out.mono ?_
  intro e w17 hp
  obtain ⟨U, uk, ukk, us, uc, eb, rfl, hux, hb17, hor⟩ := decp_tab hp
  obtain ⟨rfl, rfl, hpl⟩ := decp_same HOR.out hor
  have HB17 := Lib.hid (HB16.out.trans (hb17.mono HB16.out.size))
  have HX17 := Lib.hid (HX16.out.below hb17)
  have HU17 := Lib.hid hux
  have HO17 := Lib.hid (own_below2 HO16.out hb17)
  have HBX17 := Lib.hid (HBX.out.below hb17 HBX.out.lt)
  have HPL := Lib.hid hpl
  obtain ⟨B1, y1, rfl, _, _⟩ := hux.keys.slice
  obtain ⟨B2, y2, rfl, _, _⟩ := hux.kinds.slice
  obtain ⟨B3, y3, rfl, _, _⟩ := hux.states.slice
  obtain ⟨B4, y4, rfl, _, _⟩ := hux.codes.slice
  clear hp hux hb17 hor hpl CR HOR
  obtain ⟨W18, hW18⟩ : ∃ W, W = w17.alloc (.cells #[.int .i64 U.strategy, .slice B1 U.keys.length y1, .slice B2 U.kinds.length y2, .int .i64 U.syms, .int .i64 U.runs, .int .i64 U.cells, .slice B3 U.states.length y3, .slice B4 U.codes.length y4] 27) := ⟨_, rfl⟩
  have ha18 : Below w17.heap.size w17 W18 := by rw [hW18]; exact (Below.refl _ _).alloc (Nat.le_refl _) _
  have HBY : Hid (Blk W18 w17.heap.size 27 #[.int .i64 U.strategy, .slice B1 U.keys.length y1, .slice B2 U.kinds.length y2, .int .i64 U.syms, .int .i64 U.runs, .int .i64 U.cells, .slice B3 U.states.length y3, .slice B4 U.codes.length y4]) := Lib.hid (by rw [hW18]; exact Blk.new _ _ _)
  have HB18 := Lib.hid (HB17.out.trans (ha18.mono HB17.out.size))
  have HX18 := Lib.hid (HX17.out.below ha18)
  have HU18 := Lib.hid (HU17.out.below ha18)
  have HO18 := Lib.hid (own_below2 HO17.out ha18)
  have HBX18 := Lib.hid (HBX17.out.below ha18 HBX17.out.lt)
  clear ha18
  go_upto_region 4 with fail
  rw [← hW18]
  clear hW18 HB17 HX17 HU17 HO17 HBX17
  go_wp2_with fail
  refine (HAW.out _).mono ?_
  rintro e w19 ⟨rfl, hb19⟩
  have HB19 := Lib.hid (HB18.out.trans (hb19.mono HB18.out.size))
  have CS := Lib.hid (same_any U _ _ _ _ _ _ _ _ w19 (HX18.out.below hb19) (HU18.out.below hb19) HPL.out)
  have HO19 := Lib.hid (own_below2 HO18.out hb19)
  obtain ⟨k0, k1, k2, k3, k4, k5, k6, k7⟩ := blk8s (HBX18.out.below hb19 HBX18.out.lt)
  obtain ⟨j0, j1, j2, j3, j4, j5, j6, j7⟩ := blk8s (HBY.out.below hb19 HBY.out.lt)
  have he : (eb == eb) = true := beq_self_eq_true _
  clear hb19
  go_wp2_with fail
  refine CS.out.mono ?_
  rintro e w20 ⟨rfl, hb20⟩
  have HB20 := Lib.hid (HB19.out.trans (hb20.mono HB19.out.size))
  have hcv1 := reads_text (cap := cap) (Reads.of_own (own_below2 HO19.out hb20)) HLL.out
  have hcv2 := reads_text (cap := c) (HR0.out.below HB20.out) HN.out
  have hadd := bytes_app l [113]
  obtain ⟨BS1, hBS1⟩ : ∃ B : ByteArray, B = ⟨(l ++ [113]).toArray⟩ := ⟨_, rfl⟩
  obtain ⟨BS2, hBS2⟩ : ∃ B : ByteArray, B = ⟨l.toArray⟩ := ⟨_, rfl⟩
  rw [← hBS1] at hcv1 hadd
  rw [← hBS2] at hcv2 hadd
  have hsz : BS2.size + 1 ≤ 9223372036854775807 := by
    rw [hBS2]
    show l.toArray.size + 1 ≤ _
    rw [List.size_toArray, HN.out]
    omega
  have hadd2 : BS2 ++ (⟨#[113]⟩ : ByteArray) = BS1 := hadd
  clear hb20 hBS1 hBS2 CS hadd k0 k1 k2 k3 k4 k5 k6 k7 j0 j1 j2 j3 j4 j5 j6 j7
  go_wp2_with fail
  go_ret
  exact ⟨rfl, HB20.out⟩
end Go.Proofs.Ytabndfkkbmhhjaa

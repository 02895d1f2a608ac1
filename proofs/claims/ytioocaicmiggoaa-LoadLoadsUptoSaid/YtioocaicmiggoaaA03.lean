/- Snu: texts merged for a claim by a program of mine. -/
import Derived.Test.YtioocaicmiggoaaA01
import Derived.Test.YtioocaicmiggoaaA02
import Derived.Deep.RegionHeld3
import Derived.Deep.DeepCutAuto
namespace Go.Proofs.Ytioocaicmiggoaa
set_option linter.unusedVariables false
set_option linter.unusedSimpArgs false
open Go.RowKit Go.Deep
def numOk (n : Int) : Bool := decide (-1 ≤ n) && decide (n ≤ 1152921504606846976)
def numsB (l : List Int) : List UInt8 := (l.map fun n => vb (zig n)).flatten
theorem numsB_app (a b : List Int) : numsB (a ++ b) = numsB a ++ numsB b := by simp [numsB]
theorem numsB_len (l : List Int) : (numsB l).length ≤ 10 * l.length := by
 induction l with
 | nil => simp [numsB]
 | cons x l ih =>
  have := (vb_len (zig x)).2
  simp only [numsB, List.map_cons, List.flatten_cons, List.length_append, List.length_cons] at ih ⊢
  omega
theorem vb_flat_len (l : List Int) : l.length ≤ (numsB l).length := by
 induction l with
 | nil => simp
 | cons x l ih =>
  have := (vb_len (zig x)).1
  simp only [numsB, List.map_cons, List.flatten_cons, List.length_append, List.length_cons] at ih ⊢
  omega
theorem numsB_take_le (l : List Int) (r : Nat) : (numsB (l.take r)).length ≤ (numsB l).length := by
 have h : numsB l = numsB (l.take r) ++ numsB (l.drop r) := by rw [← numsB_app, List.take_append_drop]
 rw [h, List.length_append]; omega
theorem numsB_take {l : List Int} {r : Nat} {x : Int} (h : l[r]? = some x) : numsB (l.take (r + 1)) = numsB (l.take r) ++ vb (zig x) := by
 have : l.take (r + 1) = l.take r ++ [x] := by rw [List.take_add_one, h]; rfl
 rw [this, numsB_app]; simp [numsB]
theorem all_take {l : List Int} {r : Nat} {x : Int} (h : l[r]? = some x) : (l.take (r + 1)).all numOk = ((l.take r).all numOk && numOk x) := by
 have : l.take (r + 1) = l.take r ++ [x] := by rw [List.take_add_one, h]; rfl
 rw [this, List.all_append]; simp
theorem own_far2 {w : World} {base : Nat} {e : TypeId} {s n : Nat} {v : Value} {xs : List Value} (h : w.ownsRow base e s v n xs) {a : Addr} (ha : v.ownBlock ≠ some a.block) (u : Value) : (w.setCell a u).ownsRow base e s v n xs := by
 refine ⟨h.1, ?_⟩
 rcases h.2 with h1 | ⟨g, cap, cur, hv, hb, hh, hr⟩
 ·exact .inl h1
 ·exact .inr ⟨g, cap, cur, hv, hb, (Below.heap_setCell w a u g (fun e => ha (by rw [hv, ← e]; rfl))).trans hh, hr⟩
theorem own_below2 {w w' : World} {base : Nat} {e : TypeId} {s n : Nat} {v : Value} {xs : List Value} (h : w.ownsRow base e s v n xs) (hb : Below w.heap.size w w') : w'.ownsRow base e s v n xs := by
 refine ⟨h.1, ?_⟩
 rcases h.2 with h1 | ⟨g, cap, cur, hv, hB, hh, hr⟩
 ·exact .inl h1
 ·exact .inr ⟨g, cap, cur, hv, hB, (hb.block g (Array.getElem?_eq_some_iff.1 hh).1).trans hh, hr⟩
theorem own_lt2 {w : World} {base : Nat} {e : TypeId} {s n : Nat} {v : Value} {xs : List Value} (h : w.ownsRow base e s v n xs) {g : Nat} (hg : v.ownBlock = some g) : g < w.heap.size ∧ base ≤ g := by
 rcases h.2 with ⟨rfl, _⟩ | ⟨g', cap, cur, rfl, hB, hh, hr⟩
 ·simp [Value.ownBlock] at hg
 ·have : g' = g := by simpa [Value.ownBlock] using hg
  subst this
  exact ⟨(Array.getElem?_eq_some_iff.1 hh).1, hB⟩
def OutX (B : Nat) (w : World) (g : Nat) (bs : List UInt8) (ok : Bool) : Prop := ∃ v, Blk w g 78 #[v, .bool ok] ∧ w.ownsRow B 5 1 v bs.length (bv bs) ∧ B ≤ g
def ArgX (B : Nat) (w : World) (A : Option Addr) (l : List Int) : Prop := ∀ (i : Nat) (x : Int), l[i]? = some x → ∃ b off, A = some ⟨b, off, none⟩ ∧ w.cell? ⟨b, off + i, none⟩ = some (.int .i64 x) ∧ wfi x ∧ (b < B ∨ ∃ t cs, Blk w b t cs ∧ 5 ≠ t ∧ t ≠ 78)
section
variable {B : Nat} {w w' : World} {g : Nat} {bs : List UInt8} {ok : Bool} {A : Option Addr} {l : List Int}
theorem ArgX.below (h : ArgX B w A l) (hb : Below w.heap.size w w') : ArgX B w' A l := fun i x hx => by
 obtain ⟨b, off, h1, h2, h3, h4⟩ := h i x hx
 have hl : b < w.heap.size := cell_in h2
 refine ⟨b, off, h1, (World.cell?_of_block (hb.block b hl)).trans h2, h3, ?_⟩
 rcases h4 with h4 | ⟨t, cs, h5, h6⟩
 ·exact .inl h4
 ·exact .inr ⟨t, cs, h5.below hb hl, h6⟩
theorem ArgX.set_ (h : ArgX B w A l) {cs : Array Value} (hg : Blk w g 78 cs) (hB : B ≤ g) (i : Nat) (u : Value) : ArgX B (w.setCell ⟨g, i, none⟩ u) A l := fun j x hx => by
 obtain ⟨b, off, h1, h2, h3, h4⟩ := h j x hx
 have hne : b ≠ g := by
  rcases h4 with h4 | ⟨t, cs, h5, h6, h7⟩
  ·omega
  ·exact Blk.ne_ h5 hg h7
 refine ⟨b, off, h1, (World.cell?_setCell_other _ _ _ _ (fun e => hne (by injection e with e1 e2; exact e1.symm))).trans h2, h3, ?_⟩
 rcases h4 with h4 | ⟨t, cs, h5, h6⟩
 ·exact .inl h4
 ·exact .inr ⟨t, cs, h5.far (p := ⟨g, i, none⟩) hne u, h6⟩
theorem ArgX.grown (h : ArgX B w A l) {v : Value} {n : Nat} {xs : List Value} (ho : w.ownsRow B 5 1 v n xs) (hg : w.grownBy w' v.ownBlock) : ArgX B w' A l := fun j x hx => by
 obtain ⟨b, off, h1, h2, h3, h4⟩ := h j x hx
 have hne : some b ≠ v.ownBlock := by
  rcases h4 with h4 | ⟨t, cs, h5, h6, h7⟩
  ·intro e
   have := (own_lt2 ho e.symm).2
   omega
  ·exact fun e => own_blk_ne ho h5 h6 e.symm
 have hl : b < w.heap.size := cell_in h2
 refine ⟨b, off, h1, (World.cell?_of_block (hg.block b hl hne)).trans h2, h3, ?_⟩
 rcases h4 with h4 | ⟨t, cs, h5, h6⟩
 ·exact .inl h4
 ·exact .inr ⟨t, cs, h5.grown hg hne, h6⟩
theorem OutX.set_ok {v : Value} (h1 : Blk w g 78 #[v, .bool ok]) (h2 : w.ownsRow B 5 1 v bs.length (bv bs)) (b : Bool) : Blk (w.setCell ⟨g, 1, none⟩ (.bool b)) g 78 #[v, .bool b] ∧ (w.setCell ⟨g, 1, none⟩ (.bool b)).ownsRow B 5 1 v bs.length (bv bs) :=
 ⟨h1.set_ 1 _, own_far2 h2 (own_blk_ne h2 h1 (by decide)) _⟩
theorem OutX.lt (h : OutX B w g bs ok) : g < w.heap.size ∧ B ≤ g := by
 obtain ⟨v, h1, h2, h3⟩ := h
 exact ⟨h1.lt, h3⟩
theorem OutX.below (h : OutX B w g bs ok) (hb : Below w.heap.size w w') : OutX B w' g bs ok := by
 obtain ⟨v, h1, h2, h3⟩ := h
 exact ⟨v, h1.below hb h1.lt, own_below2 h2 hb, h3⟩
end
def KeepT (w w' : World) : Prop := ∀ b t cs, Blk w b t cs → 5 ≠ t → t ≠ 78 → Blk w' b t cs
theorem KeepT.refl (w : World) : KeepT w w := fun _ _ _ h _ _ => h
theorem KeepT.trans {a b c : World} (h : KeepT a b) (k : KeepT b c) : KeepT a c := fun i t cs h1 h2 h3 => k i t cs (h i t cs h1 h2 h3) h2 h3
theorem KeepT.below {w w' : World} (h : Below w.heap.size w w') : KeepT w w' := fun i t cs h1 _ _ => h1.below h h1.lt
theorem KeepT.set_ {w : World} {g : Nat} {cs : Array Value} (h : Blk w g 78 cs) (i : Nat) (u : Value) : KeepT w (w.setCell ⟨g, i, none⟩ u) := fun b t cs h1 _ h3 => h1.far (p := ⟨g, i, none⟩) (Blk.ne_ h1 h h3) u
theorem KeepT.grown {w w' : World} {B n : Nat} {v : Value} {xs : List Value} (ho : w.ownsRow B 5 1 v n xs) (hg : w.grownBy w' v.ownBlock) : KeepT w w' := fun b t cs h1 h2 _ => h1.grown hg (fun e => own_blk_ne ho h1 h2 e.symm)
theorem out_app {B : Nat} {w wi w2 : World} {g : Nat} {bs m : List UInt8} {ok : Bool} {v v' : Value} {n : Nat} (h1 : Blk w g 78 #[v, .bool ok]) (h2 : w.ownsRow B 5 1 v bs.length (bv bs)) (h3 : B ≤ g) (hb : Below w.heap.size w wi)
  (ho : w2.ownsRow B 5 1 v' n (bv bs ++ bv m)) (hn : n = bs.length + m.length) (hg : wi.grownBy w2 v.ownBlock) : OutX B (w2.setCell ⟨g, 0, none⟩ v') g (bs ++ m) ok := by
 have k1 : Blk w2 g 78 #[v, .bool ok] := (h1.below hb h1.lt).grown hg (fun e => own_blk_ne h2 h1 (by decide) e.symm)
 subst hn
 refine ⟨v', k1.set_ 0 _, ?_, h3⟩
 rw [bv_app, List.length_append]
 exact own_far2 ho (own_blk_ne ho k1 (by decide)) _
theorem below_app {B : Nat} {w0 w wi w2 : World} {g : Nat} {bs : List UInt8} {v v' : Value} {i : Nat} (h0 : Below B w0 w) (hB : B ≤ w.heap.size) (h2 : w.ownsRow B 5 1 v bs.length (bv bs)) (h3 : B ≤ g) (hb : Below w.heap.size w wi) (hg : wi.grownBy w2 v.ownBlock) : Below B w0 (w2.setCell ⟨g, i, none⟩ v') :=
 ((h0.trans (hb.mono hB)).grown hg (Nat.le_trans hB hb.size) (fun q hq => (own_lt2 h2 hq).2)).setCell h3 _
set_option maxRecDepth 100000 in
set_option maxHeartbeats 2000000 in
theorem nums_any (l : List Int) (A : Option Addr) (c : Nat) (B g : Nat) (bs : List UInt8) (ok : Bool) (w : World) (hx : OutX B w g bs ok) (ha : ArgX B w A l) (hBw : B ≤ w.heap.size) (hlb : bs.length + (numsB l).length ≤ 1000000000000) :
  Calls Try.prog 34 #[.pointer (some ⟨g, 0, none⟩), .slice A l.length c] w fun e w' => e = .returned (.tuple #[]) ∧ OutX B w' g (bs ++ numsB l) (ok && l.all numOk) ∧ Below B w w' ∧ KeepT w w' := by
 obtain ⟨i0, hi, hz0, hz1, hz2⟩ := info_parts infoU8
 have CI0 : ∀ (n : Int) W, wfi n → Calls Try.prog 58 #[.int .i64 n] W (Made W (vb (zig n))) := fun n W h => by
  obtain ⟨h0, h1⟩ : -9223372036854775808 ≤ n ∧ n ≤ 9223372036854775807 := by unfold wfi at h; simp only [Lit.wf, Bool.and_eq_true, decide_eq_true_eq] at h; exact h
  exact rint_any n W h0 h1
 have HCI := Lib.hid CI0
 have HX := Lib.hid hx
 have HA := Lib.hid ha
 have HL0 := Lib.hid hlb
 have nn : (0 : Int) ≤ (l.length : Int) := by omega
 have hB0 := Lib.hid (Below.refl B w)
 have HBW := Lib.hid hBw
 have hl9 : (l.length : Int) ≤ 1000000000000 := by have := vb_flat_len l; omega
 clear hx ha CI0 hlb hBw
 go_enter Try.func34, Try.ntmps34
 go_wp2_with fail
 go_loopw [8] (fun i wr => ∃ r : Nat, r ≤ l.length ∧ i = .int .i64 r ∧ Hid (OutX B wr g (bs ++ numsB (l.take r)) (ok && (l.take r).all numOk)) ∧ Hid (Below B w wr) ∧ Hid (ArgX B wr A l) ∧ Hid (KeepT w wr)) (fun i _ => l.length - (intOf i).toNat)
 case atStart => exact ⟨0, Nat.zero_le _, rfl, Lib.hid (by simpa [numsB] using HX.out), Lib.hid (Below.refl _ _), HA, Lib.hid (KeepT.refl _)⟩
 case round =>
  obtain ⟨r, hr, rfl, hX, hBe, hA, hKT⟩ := hrel
  have HSR : Hid (B ≤ wr.heap.size) := Lib.hid (Nat.le_trans HBW.out hBe.out.size)
  by_cases hlt : r < l.length
  ·obtain ⟨x, hx⟩ : ∃ x, l[r]? = some x := ⟨_, List.getElem?_eq_getElem hlt⟩
   obtain ⟨ab, ao, rfl, ca, wx, _⟩ := hA.out r x hx
   obtain ⟨v, hBv, hOv, hgB⟩ := hX.out
   obtain ⟨okr, HOK⟩ : ∃ okr, Hid (okr = (ok && (l.take r).all numOk)) := ⟨_, Lib.hid rfl⟩
   rw [← HOK.out] at hBv
   obtain ⟨ct, HCT⟩ : ∃ q, Hid (q = bs ++ numsB (l.take r)) := ⟨_, Lib.hid rfl⟩
   rw [← HCT.out] at hOv
   have HgB := Lib.hid hgB
   have CI := Lib.hid (fun W => HCI.out x W wx)
   have HLB : Hid (ct.length + (vb (zig x)).length ≤ 1000000000000) := Lib.hid (by rw [HCT.out]; have h1 := numsB_take_le l (r + 1); have h2 := HL0.out; rw [List.length_append]; rw [numsB_take hx, List.length_append] at h1; omega)
   have HV0 := Lib.hid hOv
   have HB0 := Lib.hid hBv
   have k0 := hBv.cell 0
   have k1 := hBv.cell 1
   have fz := hBv.frozen 1
   clear hBv hOv hgB hX
   cases okr with
   | false =>
    have HOKN : Hid (false = (false && numOk x)) := Lib.hid (by rfl)
    go_upto_region 4 with fail
    clear ca k0 k1 fz
    obtain ⟨wo, hwo⟩ : ∃ wo, wo = wr.setCell ⟨g, 1, none⟩ (.bool false) := ⟨_, rfl⟩
    rw [← hwo]
    have hT := OutX.set_ok HB0.out HV0.out false
    have BO : Hid (Blk wo g 78 #[v, .bool false]) := Lib.hid (by rw [hwo]; exact hT.1)
    have HOV : Hid (wo.ownsRow B 5 1 v ct.length (bv ct)) := Lib.hid (by rw [hwo]; exact hT.2)
    have HBO : Hid (Below B w wo) := Lib.hid (by rw [hwo]; exact hBe.out.setCell HgB.out _)
    have HAO : Hid (ArgX B wo (some ⟨ab, ao, none⟩) l) := Lib.hid (by rw [hwo]; exact hA.out.set_ HB0.out HgB.out 1 _)
    have HKO : Hid (KeepT w wo) := Lib.hid (by rw [hwo]; exact hKT.out.trans (KeepT.set_ HB0.out 1 _))
    have HSZ : Hid (B ≤ wo.heap.size) := Lib.hid (by rw [hwo]; simpa [World.setCell] using HSR.out)
    clear hwo hT HB0 HV0 hBe hA hKT
    have k0 := BO.out.cell 0
    refine wp_region_any (by kernel_rfl) ?_
    change wpAny _ _ _ _ _ _ _ (World.drew _)
    obtain ⟨yo, hyo⟩ : ∃ yo, yo = World.drew wo := ⟨_, rfl⟩
    rw [← hyo]
    have BO : Hid (Blk yo g 78 #[v, .bool false]) := Lib.hid (by rw [hyo]; exact BO.out)
    have HOV : Hid (yo.ownsRow B 5 1 v ct.length (bv ct)) := Lib.hid (by rw [hyo]; exact HOV.out)
    have HAO : Hid (ArgX B yo (some ⟨ab, ao, none⟩) l) := Lib.hid (by rw [hyo]; exact HAO.out)
    have HSZ : Hid (B ≤ yo.heap.size) := Lib.hid (by rw [hyo]; exact HSZ.out)
    have HKO : Hid (KeepT w yo) := Lib.hid (by rw [hyo]; exact HKO.out)
    have HBO : Hid (Below B w yo) := Lib.hid (by rw [hyo]; exact ⟨HBO.out.os, HBO.out.tape, HBO.out.output, HBO.out.size, HBO.out.block⟩)
    clear hyo k0
    have k0 := BO.out.cell 0
    refine wpAny_take (i := 0) (v := ?_) rfl (by kernel_rfl) (by kernel_rfl) (by kernel_rfl) (fun _ _ _ h => h) (Or.inl ⟨by kernel_rfl, ?_⟩) ?_
    rotate_left
    ·(intro w'; go_simp; try with_reducible rfl)
    refine wpAny_take (i := 1) (v := ?_) rfl (by kernel_rfl) (by kernel_rfl) (by kernel_rfl) (fun _ _ _ h => h) (Or.inl ⟨by kernel_rfl, ?_⟩) ?_
    rotate_left
    ·(intro w'; go_simp; try with_reducible rfl)
    refine wpAny_take (i := 2) (v := ?_) rfl (by kernel_rfl) (by kernel_rfl) (by kernel_rfl) (fun _ _ _ h => h) (Or.inl ⟨by kernel_rfl, ?_⟩) ?_
    rotate_left
    ·(intro w'; go_simp; try with_reducible rfl)
    refine wpAny_take (i := 3) (v := ?_) rfl (by kernel_rfl) (by kernel_rfl) (by kernel_rfl) (fun _ _ _ h => h) (Or.inl ⟨by kernel_rfl, ?_⟩) ?_
    rotate_left
    ·(intro w'; go_simp; try with_reducible rfl)
    refine wpAny_take (i := 5) (v := ?_) rfl (by kernel_rfl) (by kernel_rfl) (by kernel_rfl) (fun _ _ _ h => h) (Or.inl ⟨by kernel_rfl, ?_⟩) ?_
    rotate_left
    ·(intro w'; go_simp; try with_reducible rfl)
    refine wpAny_ready (rs := [4, 6]) (by kernel_rfl) (by simp) ?_
    refine AllReady.cons rfl (fun K hK => ?_) ?_
    ·skip
     go_simp
     (refine hK _ _ ?_; clear hK K)
     refine wpAny_ready (rs := [6]) (by kernel_rfl) (by simp) ?_
     refine AllReady.cons rfl (fun K hK => ?_) AllReady.nil
     go_simp
     go_wp2_with (go_at_call 58; refine (CI.out _).mono ?_; rintro e wi ⟨gi, ci, rfl, hoi, hbi⟩)
     have HBI : Hid (Below yo.heap.size yo wi) := Lib.hid hbi
     have HOI := Lib.hid hoi
     clear hoi hbi k0
     have BI := Lib.hid (BO.out.below HBI.out BO.out.lt)
     have k0 := BI.out.cell 0
     refine wpAny_ready (rs := [7]) (by kernel_rfl) (by simp) ?_
     refine AllReady.cons rfl (fun K hK => ?_) AllReady.nil
     refine step_append_any _ (by rfl) (.tmp 31) (.tmp 33) 47 (by rfl) B 5 i0 _ 1 1 Try.underlying47 hi hz0 hz1 hz2 rfl (by omega) v ct.length _ (by rfl) (own_below2 HOV.out HBI.out) wi.heap.size (some ⟨gi, 0, none⟩) (vb (zig x)).length ci (bv (vb (zig x))) (by rfl) (Reads.of_own HOI.out) (bv_one _) (by have := HLB.out; have := (vb_len (zig x)).2; unfold maxLen; omega) (by have := HLB.out; have := (vb_len (zig x)).2; omega) (by have := HBI.out.size; have := HSZ.out; omega) ?_
     intro v' w2 ho hg hat
     obtain ⟨Av, cv, rfl⟩ := own_slice ho
     have HO2 := Lib.hid ho
     have HG2 := Lib.hid hg
     clear ho hg hat k0
     have B2 : Hid (Blk w2 g 78 #[v, .bool false]) := Lib.hid (BI.out.grown HG2.out (fun e => own_blk_ne HOV.out BO.out (by decide) e.symm))
     have k0 := B2.out.cell 0
     have fz := B2.out.frozen 0
     (refine hK _ _ ?_; clear hK K)
     refine wpAny_take (i := 8) (v := ?_) rfl (by kernel_rfl) (by kernel_rfl) (by kernel_rfl) (fun _ _ _ h => h) (Or.inl ⟨by kernel_rfl, ?_⟩) ?_
     rotate_left
     ·(intro w'; go_simp; try with_reducible rfl)
     refine wpAny_take (i := 9) (v := ?_) rfl (by kernel_rfl) (by kernel_rfl) (by kernel_rfl) (fun _ _ _ h => h) (Or.inl ⟨by kernel_rfl, ?_⟩) ?_
     rotate_left
     ·(intro w'; go_simp; try with_reducible rfl)
     refine wpAny_ready (rs := [10]) (by kernel_rfl) (by simp) ?_
     refine AllReady.cons rfl (fun K hK => ?_) AllReady.nil
     go_simp
     (refine hK _ _ ?_; clear hK K)
     refine wpAny_done (by kernel_rfl) ?_ _
     go_wp2_with fail
     go_roundw
     case rel => exact ⟨r + 1, by omega, by go_num, Lib.hid (by rw [numsB_take hx, all_take hx, ← List.append_assoc, ← Bool.and_assoc, ← HOK.out, ← HOKN.out, ← HCT.out]; exact out_app BO.out HOV.out HgB.out HBI.out HO2.out rfl HG2.out), Lib.hid (below_app HBO.out HSZ.out HOV.out HgB.out HBI.out HG2.out), Lib.hid ((((HAO.out.below HBI.out).grown (own_below2 HOV.out HBI.out) HG2.out)).set_ B2.out HgB.out 0 _), Lib.hid ((HKO.out.trans ((KeepT.below HBI.out).trans (KeepT.grown (own_below2 HOV.out HBI.out) HG2.out))).trans (KeepT.set_ B2.out 0 _))⟩
     case measure => simp [intOf]; omega
    refine AllReady.cons rfl (fun K hK => ?_) AllReady.nil
    go_simp
    go_wp2_with (go_at_call 58; refine (CI.out _).mono ?_; rintro e wi ⟨gi, ci, rfl, hoi, hbi⟩)
    have HBI : Hid (Below yo.heap.size yo wi) := Lib.hid hbi
    have HOI := Lib.hid hoi
    clear hoi hbi k0
    have BI := Lib.hid (BO.out.below HBI.out BO.out.lt)
    have k0 := BI.out.cell 0
    refine wpAny_ready (rs := [4]) (by kernel_rfl) (by simp) ?_
    refine AllReady.cons rfl (fun K hK => ?_) AllReady.nil
    go_simp
    (refine hK _ _ ?_; clear hK K)
    refine wpAny_ready (rs := [7]) (by kernel_rfl) (by simp) ?_
    refine AllReady.cons rfl (fun K hK => ?_) AllReady.nil
    refine step_append_any _ (by rfl) (.tmp 31) (.tmp 33) 47 (by rfl) B 5 i0 _ 1 1 Try.underlying47 hi hz0 hz1 hz2 rfl (by omega) v ct.length _ (by rfl) (own_below2 HOV.out HBI.out) wi.heap.size (some ⟨gi, 0, none⟩) (vb (zig x)).length ci (bv (vb (zig x))) (by rfl) (Reads.of_own HOI.out) (bv_one _) (by have := HLB.out; have := (vb_len (zig x)).2; unfold maxLen; omega) (by have := HLB.out; have := (vb_len (zig x)).2; omega) (by have := HBI.out.size; have := HSZ.out; omega) ?_
    intro v' w2 ho hg hat
    obtain ⟨Av, cv, rfl⟩ := own_slice ho
    have HO2 := Lib.hid ho
    have HG2 := Lib.hid hg
    clear ho hg hat k0
    have B2 : Hid (Blk w2 g 78 #[v, .bool false]) := Lib.hid (BI.out.grown HG2.out (fun e => own_blk_ne HOV.out BO.out (by decide) e.symm))
    have k0 := B2.out.cell 0
    have fz := B2.out.frozen 0
    (refine hK _ _ ?_; clear hK K)
    refine wpAny_take (i := 8) (v := ?_) rfl (by kernel_rfl) (by kernel_rfl) (by kernel_rfl) (fun _ _ _ h => h) (Or.inl ⟨by kernel_rfl, ?_⟩) ?_
    rotate_left
    ·(intro w'; go_simp; try with_reducible rfl)
    refine wpAny_take (i := 9) (v := ?_) rfl (by kernel_rfl) (by kernel_rfl) (by kernel_rfl) (fun _ _ _ h => h) (Or.inl ⟨by kernel_rfl, ?_⟩) ?_
    rotate_left
    ·(intro w'; go_simp; try with_reducible rfl)
    refine wpAny_ready (rs := [10]) (by kernel_rfl) (by simp) ?_
    refine AllReady.cons rfl (fun K hK => ?_) AllReady.nil
    go_simp
    (refine hK _ _ ?_; clear hK K)
    refine wpAny_done (by kernel_rfl) ?_ _
    go_wp2_with fail
    go_roundw
    case rel => exact ⟨r + 1, by omega, by go_num, Lib.hid (by rw [numsB_take hx, all_take hx, ← List.append_assoc, ← Bool.and_assoc, ← HOK.out, ← HOKN.out, ← HCT.out]; exact out_app BO.out HOV.out HgB.out HBI.out HO2.out rfl HG2.out), Lib.hid (below_app HBO.out HSZ.out HOV.out HgB.out HBI.out HG2.out), Lib.hid ((((HAO.out.below HBI.out).grown (own_below2 HOV.out HBI.out) HG2.out)).set_ B2.out HgB.out 0 _), Lib.hid ((HKO.out.trans ((KeepT.below HBI.out).trans (KeepT.grown (own_below2 HOV.out HBI.out) HG2.out))).trans (KeepT.set_ B2.out 0 _))⟩
    case measure => simp [intOf]; omega
   | true =>
    by_cases h1 : x ≥ -1
    ·by_cases h2 : x ≤ 1152921504606846976
     ·skip
      have HOKN : Hid (true = (true && numOk x)) := Lib.hid (by simp [numOk, h1, h2])
      go_upto_region 4 with fail
      clear ca k0 k1 fz
      obtain ⟨wo, hwo⟩ : ∃ wo, wo = wr.setCell ⟨g, 1, none⟩ (.bool true) := ⟨_, rfl⟩
      rw [← hwo]
      have hT := OutX.set_ok HB0.out HV0.out true
      have BO : Hid (Blk wo g 78 #[v, .bool true]) := Lib.hid (by rw [hwo]; exact hT.1)
      have HOV : Hid (wo.ownsRow B 5 1 v ct.length (bv ct)) := Lib.hid (by rw [hwo]; exact hT.2)
      have HBO : Hid (Below B w wo) := Lib.hid (by rw [hwo]; exact hBe.out.setCell HgB.out _)
      have HAO : Hid (ArgX B wo (some ⟨ab, ao, none⟩) l) := Lib.hid (by rw [hwo]; exact hA.out.set_ HB0.out HgB.out 1 _)
      have HKO : Hid (KeepT w wo) := Lib.hid (by rw [hwo]; exact hKT.out.trans (KeepT.set_ HB0.out 1 _))
      have HSZ : Hid (B ≤ wo.heap.size) := Lib.hid (by rw [hwo]; simpa [World.setCell] using HSR.out)
      clear hwo hT HB0 HV0 hBe hA hKT
      have k0 := BO.out.cell 0
      refine wp_region_any (by kernel_rfl) ?_
      change wpAny _ _ _ _ _ _ _ (World.drew _)
      obtain ⟨yo, hyo⟩ : ∃ yo, yo = World.drew wo := ⟨_, rfl⟩
      rw [← hyo]
      have BO : Hid (Blk yo g 78 #[v, .bool true]) := Lib.hid (by rw [hyo]; exact BO.out)
      have HOV : Hid (yo.ownsRow B 5 1 v ct.length (bv ct)) := Lib.hid (by rw [hyo]; exact HOV.out)
      have HAO : Hid (ArgX B yo (some ⟨ab, ao, none⟩) l) := Lib.hid (by rw [hyo]; exact HAO.out)
      have HSZ : Hid (B ≤ yo.heap.size) := Lib.hid (by rw [hyo]; exact HSZ.out)
      have HKO : Hid (KeepT w yo) := Lib.hid (by rw [hyo]; exact HKO.out)
      have HBO : Hid (Below B w yo) := Lib.hid (by rw [hyo]; exact ⟨HBO.out.os, HBO.out.tape, HBO.out.output, HBO.out.size, HBO.out.block⟩)
      clear hyo k0
      have k0 := BO.out.cell 0
      refine wpAny_take (i := 0) (v := ?_) rfl (by kernel_rfl) (by kernel_rfl) (by kernel_rfl) (fun _ _ _ h => h) (Or.inl ⟨by kernel_rfl, ?_⟩) ?_
      rotate_left
      ·(intro w'; go_simp; try with_reducible rfl)
      refine wpAny_take (i := 1) (v := ?_) rfl (by kernel_rfl) (by kernel_rfl) (by kernel_rfl) (fun _ _ _ h => h) (Or.inl ⟨by kernel_rfl, ?_⟩) ?_
      rotate_left
      ·(intro w'; go_simp; try with_reducible rfl)
      refine wpAny_take (i := 2) (v := ?_) rfl (by kernel_rfl) (by kernel_rfl) (by kernel_rfl) (fun _ _ _ h => h) (Or.inl ⟨by kernel_rfl, ?_⟩) ?_
      rotate_left
      ·(intro w'; go_simp; try with_reducible rfl)
      refine wpAny_take (i := 3) (v := ?_) rfl (by kernel_rfl) (by kernel_rfl) (by kernel_rfl) (fun _ _ _ h => h) (Or.inl ⟨by kernel_rfl, ?_⟩) ?_
      rotate_left
      ·(intro w'; go_simp; try with_reducible rfl)
      refine wpAny_take (i := 5) (v := ?_) rfl (by kernel_rfl) (by kernel_rfl) (by kernel_rfl) (fun _ _ _ h => h) (Or.inl ⟨by kernel_rfl, ?_⟩) ?_
      rotate_left
      ·(intro w'; go_simp; try with_reducible rfl)
      refine wpAny_ready (rs := [4, 6]) (by kernel_rfl) (by simp) ?_
      refine AllReady.cons rfl (fun K hK => ?_) ?_
      ·skip
       go_simp
       (refine hK _ _ ?_; clear hK K)
       refine wpAny_ready (rs := [6]) (by kernel_rfl) (by simp) ?_
       refine AllReady.cons rfl (fun K hK => ?_) AllReady.nil
       go_simp
       go_wp2_with (go_at_call 58; refine (CI.out _).mono ?_; rintro e wi ⟨gi, ci, rfl, hoi, hbi⟩)
       have HBI : Hid (Below yo.heap.size yo wi) := Lib.hid hbi
       have HOI := Lib.hid hoi
       clear hoi hbi k0
       have BI := Lib.hid (BO.out.below HBI.out BO.out.lt)
       have k0 := BI.out.cell 0
       refine wpAny_ready (rs := [7]) (by kernel_rfl) (by simp) ?_
       refine AllReady.cons rfl (fun K hK => ?_) AllReady.nil
       refine step_append_any _ (by rfl) (.tmp 31) (.tmp 33) 47 (by rfl) B 5 i0 _ 1 1 Try.underlying47 hi hz0 hz1 hz2 rfl (by omega) v ct.length _ (by rfl) (own_below2 HOV.out HBI.out) wi.heap.size (some ⟨gi, 0, none⟩) (vb (zig x)).length ci (bv (vb (zig x))) (by rfl) (Reads.of_own HOI.out) (bv_one _) (by have := HLB.out; have := (vb_len (zig x)).2; unfold maxLen; omega) (by have := HLB.out; have := (vb_len (zig x)).2; omega) (by have := HBI.out.size; have := HSZ.out; omega) ?_
       intro v' w2 ho hg hat
       obtain ⟨Av, cv, rfl⟩ := own_slice ho
       have HO2 := Lib.hid ho
       have HG2 := Lib.hid hg
       clear ho hg hat k0
       have B2 : Hid (Blk w2 g 78 #[v, .bool true]) := Lib.hid (BI.out.grown HG2.out (fun e => own_blk_ne HOV.out BO.out (by decide) e.symm))
       have k0 := B2.out.cell 0
       have fz := B2.out.frozen 0
       (refine hK _ _ ?_; clear hK K)
       refine wpAny_take (i := 8) (v := ?_) rfl (by kernel_rfl) (by kernel_rfl) (by kernel_rfl) (fun _ _ _ h => h) (Or.inl ⟨by kernel_rfl, ?_⟩) ?_
       rotate_left
       ·(intro w'; go_simp; try with_reducible rfl)
       refine wpAny_take (i := 9) (v := ?_) rfl (by kernel_rfl) (by kernel_rfl) (by kernel_rfl) (fun _ _ _ h => h) (Or.inl ⟨by kernel_rfl, ?_⟩) ?_
       rotate_left
       ·(intro w'; go_simp; try with_reducible rfl)
       refine wpAny_ready (rs := [10]) (by kernel_rfl) (by simp) ?_
       refine AllReady.cons rfl (fun K hK => ?_) AllReady.nil
       go_simp
       (refine hK _ _ ?_; clear hK K)
       refine wpAny_done (by kernel_rfl) ?_ _
       go_wp2_with fail
       go_roundw
       case rel => exact ⟨r + 1, by omega, by go_num, Lib.hid (by rw [numsB_take hx, all_take hx, ← List.append_assoc, ← Bool.and_assoc, ← HOK.out, ← HOKN.out, ← HCT.out]; exact out_app BO.out HOV.out HgB.out HBI.out HO2.out rfl HG2.out), Lib.hid (below_app HBO.out HSZ.out HOV.out HgB.out HBI.out HG2.out), Lib.hid ((((HAO.out.below HBI.out).grown (own_below2 HOV.out HBI.out) HG2.out)).set_ B2.out HgB.out 0 _), Lib.hid ((HKO.out.trans ((KeepT.below HBI.out).trans (KeepT.grown (own_below2 HOV.out HBI.out) HG2.out))).trans (KeepT.set_ B2.out 0 _))⟩
       case measure => simp [intOf]; omega
      refine AllReady.cons rfl (fun K hK => ?_) AllReady.nil
      go_simp
      go_wp2_with (go_at_call 58; refine (CI.out _).mono ?_; rintro e wi ⟨gi, ci, rfl, hoi, hbi⟩)
      have HBI : Hid (Below yo.heap.size yo wi) := Lib.hid hbi
      have HOI := Lib.hid hoi
      clear hoi hbi k0
      have BI := Lib.hid (BO.out.below HBI.out BO.out.lt)
      have k0 := BI.out.cell 0
      refine wpAny_ready (rs := [4]) (by kernel_rfl) (by simp) ?_
      refine AllReady.cons rfl (fun K hK => ?_) AllReady.nil
      go_simp
      (refine hK _ _ ?_; clear hK K)
      refine wpAny_ready (rs := [7]) (by kernel_rfl) (by simp) ?_
      refine AllReady.cons rfl (fun K hK => ?_) AllReady.nil
      refine step_append_any _ (by rfl) (.tmp 31) (.tmp 33) 47 (by rfl) B 5 i0 _ 1 1 Try.underlying47 hi hz0 hz1 hz2 rfl (by omega) v ct.length _ (by rfl) (own_below2 HOV.out HBI.out) wi.heap.size (some ⟨gi, 0, none⟩) (vb (zig x)).length ci (bv (vb (zig x))) (by rfl) (Reads.of_own HOI.out) (bv_one _) (by have := HLB.out; have := (vb_len (zig x)).2; unfold maxLen; omega) (by have := HLB.out; have := (vb_len (zig x)).2; omega) (by have := HBI.out.size; have := HSZ.out; omega) ?_
      intro v' w2 ho hg hat
      obtain ⟨Av, cv, rfl⟩ := own_slice ho
      have HO2 := Lib.hid ho
      have HG2 := Lib.hid hg
      clear ho hg hat k0
      have B2 : Hid (Blk w2 g 78 #[v, .bool true]) := Lib.hid (BI.out.grown HG2.out (fun e => own_blk_ne HOV.out BO.out (by decide) e.symm))
      have k0 := B2.out.cell 0
      have fz := B2.out.frozen 0
      (refine hK _ _ ?_; clear hK K)
      refine wpAny_take (i := 8) (v := ?_) rfl (by kernel_rfl) (by kernel_rfl) (by kernel_rfl) (fun _ _ _ h => h) (Or.inl ⟨by kernel_rfl, ?_⟩) ?_
      rotate_left
      ·(intro w'; go_simp; try with_reducible rfl)
      refine wpAny_take (i := 9) (v := ?_) rfl (by kernel_rfl) (by kernel_rfl) (by kernel_rfl) (fun _ _ _ h => h) (Or.inl ⟨by kernel_rfl, ?_⟩) ?_
      rotate_left
      ·(intro w'; go_simp; try with_reducible rfl)
      refine wpAny_ready (rs := [10]) (by kernel_rfl) (by simp) ?_
      refine AllReady.cons rfl (fun K hK => ?_) AllReady.nil
      go_simp
      (refine hK _ _ ?_; clear hK K)
      refine wpAny_done (by kernel_rfl) ?_ _
      go_wp2_with fail
      go_roundw
      case rel => exact ⟨r + 1, by omega, by go_num, Lib.hid (by rw [numsB_take hx, all_take hx, ← List.append_assoc, ← Bool.and_assoc, ← HOK.out, ← HOKN.out, ← HCT.out]; exact out_app BO.out HOV.out HgB.out HBI.out HO2.out rfl HG2.out), Lib.hid (below_app HBO.out HSZ.out HOV.out HgB.out HBI.out HG2.out), Lib.hid ((((HAO.out.below HBI.out).grown (own_below2 HOV.out HBI.out) HG2.out)).set_ B2.out HgB.out 0 _), Lib.hid ((HKO.out.trans ((KeepT.below HBI.out).trans (KeepT.grown (own_below2 HOV.out HBI.out) HG2.out))).trans (KeepT.set_ B2.out 0 _))⟩
      case measure => simp [intOf]; omega
     ·have h2 : 1152921504606846976 < x := by omega
      have HOKN : Hid (false = (true && numOk x)) := Lib.hid (by simp [numOk]; omega)
      go_upto_region 4 with fail
      clear ca k0 k1 fz
      obtain ⟨wo, hwo⟩ : ∃ wo, wo = wr.setCell ⟨g, 1, none⟩ (.bool false) := ⟨_, rfl⟩
      rw [← hwo]
      have hT := OutX.set_ok HB0.out HV0.out false
      have BO : Hid (Blk wo g 78 #[v, .bool false]) := Lib.hid (by rw [hwo]; exact hT.1)
      have HOV : Hid (wo.ownsRow B 5 1 v ct.length (bv ct)) := Lib.hid (by rw [hwo]; exact hT.2)
      have HBO : Hid (Below B w wo) := Lib.hid (by rw [hwo]; exact hBe.out.setCell HgB.out _)
      have HAO : Hid (ArgX B wo (some ⟨ab, ao, none⟩) l) := Lib.hid (by rw [hwo]; exact hA.out.set_ HB0.out HgB.out 1 _)
      have HKO : Hid (KeepT w wo) := Lib.hid (by rw [hwo]; exact hKT.out.trans (KeepT.set_ HB0.out 1 _))
      have HSZ : Hid (B ≤ wo.heap.size) := Lib.hid (by rw [hwo]; simpa [World.setCell] using HSR.out)
      clear hwo hT HB0 HV0 hBe hA hKT
      have k0 := BO.out.cell 0
      refine wp_region_any (by kernel_rfl) ?_
      change wpAny _ _ _ _ _ _ _ (World.drew _)
      obtain ⟨yo, hyo⟩ : ∃ yo, yo = World.drew wo := ⟨_, rfl⟩
      rw [← hyo]
      have BO : Hid (Blk yo g 78 #[v, .bool false]) := Lib.hid (by rw [hyo]; exact BO.out)
      have HOV : Hid (yo.ownsRow B 5 1 v ct.length (bv ct)) := Lib.hid (by rw [hyo]; exact HOV.out)
      have HAO : Hid (ArgX B yo (some ⟨ab, ao, none⟩) l) := Lib.hid (by rw [hyo]; exact HAO.out)
      have HSZ : Hid (B ≤ yo.heap.size) := Lib.hid (by rw [hyo]; exact HSZ.out)
      have HKO : Hid (KeepT w yo) := Lib.hid (by rw [hyo]; exact HKO.out)
      have HBO : Hid (Below B w yo) := Lib.hid (by rw [hyo]; exact ⟨HBO.out.os, HBO.out.tape, HBO.out.output, HBO.out.size, HBO.out.block⟩)
      clear hyo k0
      have k0 := BO.out.cell 0
      refine wpAny_take (i := 0) (v := ?_) rfl (by kernel_rfl) (by kernel_rfl) (by kernel_rfl) (fun _ _ _ h => h) (Or.inl ⟨by kernel_rfl, ?_⟩) ?_
      rotate_left
      ·(intro w'; go_simp; try with_reducible rfl)
      refine wpAny_take (i := 1) (v := ?_) rfl (by kernel_rfl) (by kernel_rfl) (by kernel_rfl) (fun _ _ _ h => h) (Or.inl ⟨by kernel_rfl, ?_⟩) ?_
      rotate_left
      ·(intro w'; go_simp; try with_reducible rfl)
      refine wpAny_take (i := 2) (v := ?_) rfl (by kernel_rfl) (by kernel_rfl) (by kernel_rfl) (fun _ _ _ h => h) (Or.inl ⟨by kernel_rfl, ?_⟩) ?_
      rotate_left
      ·(intro w'; go_simp; try with_reducible rfl)
      refine wpAny_take (i := 3) (v := ?_) rfl (by kernel_rfl) (by kernel_rfl) (by kernel_rfl) (fun _ _ _ h => h) (Or.inl ⟨by kernel_rfl, ?_⟩) ?_
      rotate_left
      ·(intro w'; go_simp; try with_reducible rfl)
      refine wpAny_take (i := 5) (v := ?_) rfl (by kernel_rfl) (by kernel_rfl) (by kernel_rfl) (fun _ _ _ h => h) (Or.inl ⟨by kernel_rfl, ?_⟩) ?_
      rotate_left
      ·(intro w'; go_simp; try with_reducible rfl)
      refine wpAny_ready (rs := [4, 6]) (by kernel_rfl) (by simp) ?_
      refine AllReady.cons rfl (fun K hK => ?_) ?_
      ·skip
       go_simp
       (refine hK _ _ ?_; clear hK K)
       refine wpAny_ready (rs := [6]) (by kernel_rfl) (by simp) ?_
       refine AllReady.cons rfl (fun K hK => ?_) AllReady.nil
       go_simp
       go_wp2_with (go_at_call 58; refine (CI.out _).mono ?_; rintro e wi ⟨gi, ci, rfl, hoi, hbi⟩)
       have HBI : Hid (Below yo.heap.size yo wi) := Lib.hid hbi
       have HOI := Lib.hid hoi
       clear hoi hbi k0
       have BI := Lib.hid (BO.out.below HBI.out BO.out.lt)
       have k0 := BI.out.cell 0
       refine wpAny_ready (rs := [7]) (by kernel_rfl) (by simp) ?_
       refine AllReady.cons rfl (fun K hK => ?_) AllReady.nil
       refine step_append_any _ (by rfl) (.tmp 31) (.tmp 33) 47 (by rfl) B 5 i0 _ 1 1 Try.underlying47 hi hz0 hz1 hz2 rfl (by omega) v ct.length _ (by rfl) (own_below2 HOV.out HBI.out) wi.heap.size (some ⟨gi, 0, none⟩) (vb (zig x)).length ci (bv (vb (zig x))) (by rfl) (Reads.of_own HOI.out) (bv_one _) (by have := HLB.out; have := (vb_len (zig x)).2; unfold maxLen; omega) (by have := HLB.out; have := (vb_len (zig x)).2; omega) (by have := HBI.out.size; have := HSZ.out; omega) ?_
       intro v' w2 ho hg hat
       obtain ⟨Av, cv, rfl⟩ := own_slice ho
       have HO2 := Lib.hid ho
       have HG2 := Lib.hid hg
       clear ho hg hat k0
       have B2 : Hid (Blk w2 g 78 #[v, .bool false]) := Lib.hid (BI.out.grown HG2.out (fun e => own_blk_ne HOV.out BO.out (by decide) e.symm))
       have k0 := B2.out.cell 0
       have fz := B2.out.frozen 0
       (refine hK _ _ ?_; clear hK K)
       refine wpAny_take (i := 8) (v := ?_) rfl (by kernel_rfl) (by kernel_rfl) (by kernel_rfl) (fun _ _ _ h => h) (Or.inl ⟨by kernel_rfl, ?_⟩) ?_
       rotate_left
       ·(intro w'; go_simp; try with_reducible rfl)
       refine wpAny_take (i := 9) (v := ?_) rfl (by kernel_rfl) (by kernel_rfl) (by kernel_rfl) (fun _ _ _ h => h) (Or.inl ⟨by kernel_rfl, ?_⟩) ?_
       rotate_left
       ·(intro w'; go_simp; try with_reducible rfl)
       refine wpAny_ready (rs := [10]) (by kernel_rfl) (by simp) ?_
       refine AllReady.cons rfl (fun K hK => ?_) AllReady.nil
       go_simp
       (refine hK _ _ ?_; clear hK K)
       refine wpAny_done (by kernel_rfl) ?_ _
       go_wp2_with fail
       go_roundw
       case rel => exact ⟨r + 1, by omega, by go_num, Lib.hid (by rw [numsB_take hx, all_take hx, ← List.append_assoc, ← Bool.and_assoc, ← HOK.out, ← HOKN.out, ← HCT.out]; exact out_app BO.out HOV.out HgB.out HBI.out HO2.out rfl HG2.out), Lib.hid (below_app HBO.out HSZ.out HOV.out HgB.out HBI.out HG2.out), Lib.hid ((((HAO.out.below HBI.out).grown (own_below2 HOV.out HBI.out) HG2.out)).set_ B2.out HgB.out 0 _), Lib.hid ((HKO.out.trans ((KeepT.below HBI.out).trans (KeepT.grown (own_below2 HOV.out HBI.out) HG2.out))).trans (KeepT.set_ B2.out 0 _))⟩
       case measure => simp [intOf]; omega
      refine AllReady.cons rfl (fun K hK => ?_) AllReady.nil
      go_simp
      go_wp2_with (go_at_call 58; refine (CI.out _).mono ?_; rintro e wi ⟨gi, ci, rfl, hoi, hbi⟩)
      have HBI : Hid (Below yo.heap.size yo wi) := Lib.hid hbi
      have HOI := Lib.hid hoi
      clear hoi hbi k0
      have BI := Lib.hid (BO.out.below HBI.out BO.out.lt)
      have k0 := BI.out.cell 0
      refine wpAny_ready (rs := [4]) (by kernel_rfl) (by simp) ?_
      refine AllReady.cons rfl (fun K hK => ?_) AllReady.nil
      go_simp
      (refine hK _ _ ?_; clear hK K)
      refine wpAny_ready (rs := [7]) (by kernel_rfl) (by simp) ?_
      refine AllReady.cons rfl (fun K hK => ?_) AllReady.nil
      refine step_append_any _ (by rfl) (.tmp 31) (.tmp 33) 47 (by rfl) B 5 i0 _ 1 1 Try.underlying47 hi hz0 hz1 hz2 rfl (by omega) v ct.length _ (by rfl) (own_below2 HOV.out HBI.out) wi.heap.size (some ⟨gi, 0, none⟩) (vb (zig x)).length ci (bv (vb (zig x))) (by rfl) (Reads.of_own HOI.out) (bv_one _) (by have := HLB.out; have := (vb_len (zig x)).2; unfold maxLen; omega) (by have := HLB.out; have := (vb_len (zig x)).2; omega) (by have := HBI.out.size; have := HSZ.out; omega) ?_
      intro v' w2 ho hg hat
      obtain ⟨Av, cv, rfl⟩ := own_slice ho
      have HO2 := Lib.hid ho
      have HG2 := Lib.hid hg
      clear ho hg hat k0
      have B2 : Hid (Blk w2 g 78 #[v, .bool false]) := Lib.hid (BI.out.grown HG2.out (fun e => own_blk_ne HOV.out BO.out (by decide) e.symm))
      have k0 := B2.out.cell 0
      have fz := B2.out.frozen 0
      (refine hK _ _ ?_; clear hK K)
      refine wpAny_take (i := 8) (v := ?_) rfl (by kernel_rfl) (by kernel_rfl) (by kernel_rfl) (fun _ _ _ h => h) (Or.inl ⟨by kernel_rfl, ?_⟩) ?_
      rotate_left
      ·(intro w'; go_simp; try with_reducible rfl)
      refine wpAny_take (i := 9) (v := ?_) rfl (by kernel_rfl) (by kernel_rfl) (by kernel_rfl) (fun _ _ _ h => h) (Or.inl ⟨by kernel_rfl, ?_⟩) ?_
      rotate_left
      ·(intro w'; go_simp; try with_reducible rfl)
      refine wpAny_ready (rs := [10]) (by kernel_rfl) (by simp) ?_
      refine AllReady.cons rfl (fun K hK => ?_) AllReady.nil
      go_simp
      (refine hK _ _ ?_; clear hK K)
      refine wpAny_done (by kernel_rfl) ?_ _
      go_wp2_with fail
      go_roundw
      case rel => exact ⟨r + 1, by omega, by go_num, Lib.hid (by rw [numsB_take hx, all_take hx, ← List.append_assoc, ← Bool.and_assoc, ← HOK.out, ← HOKN.out, ← HCT.out]; exact out_app BO.out HOV.out HgB.out HBI.out HO2.out rfl HG2.out), Lib.hid (below_app HBO.out HSZ.out HOV.out HgB.out HBI.out HG2.out), Lib.hid ((((HAO.out.below HBI.out).grown (own_below2 HOV.out HBI.out) HG2.out)).set_ B2.out HgB.out 0 _), Lib.hid ((HKO.out.trans ((KeepT.below HBI.out).trans (KeepT.grown (own_below2 HOV.out HBI.out) HG2.out))).trans (KeepT.set_ B2.out 0 _))⟩
      case measure => simp [intOf]; omega
    ·have h1 : x < -1 := by omega
     have HOKN : Hid (false = (true && numOk x)) := Lib.hid (by simp [numOk]; omega)
     go_upto_region 4 with fail
     clear ca k0 k1 fz
     obtain ⟨wo, hwo⟩ : ∃ wo, wo = wr.setCell ⟨g, 1, none⟩ (.bool false) := ⟨_, rfl⟩
     rw [← hwo]
     have hT := OutX.set_ok HB0.out HV0.out false
     have BO : Hid (Blk wo g 78 #[v, .bool false]) := Lib.hid (by rw [hwo]; exact hT.1)
     have HOV : Hid (wo.ownsRow B 5 1 v ct.length (bv ct)) := Lib.hid (by rw [hwo]; exact hT.2)
     have HBO : Hid (Below B w wo) := Lib.hid (by rw [hwo]; exact hBe.out.setCell HgB.out _)
     have HAO : Hid (ArgX B wo (some ⟨ab, ao, none⟩) l) := Lib.hid (by rw [hwo]; exact hA.out.set_ HB0.out HgB.out 1 _)
     have HKO : Hid (KeepT w wo) := Lib.hid (by rw [hwo]; exact hKT.out.trans (KeepT.set_ HB0.out 1 _))
     have HSZ : Hid (B ≤ wo.heap.size) := Lib.hid (by rw [hwo]; simpa [World.setCell] using HSR.out)
     clear hwo hT HB0 HV0 hBe hA hKT
     have k0 := BO.out.cell 0
     refine wp_region_any (by kernel_rfl) ?_
     change wpAny _ _ _ _ _ _ _ (World.drew _)
     obtain ⟨yo, hyo⟩ : ∃ yo, yo = World.drew wo := ⟨_, rfl⟩
     rw [← hyo]
     have BO : Hid (Blk yo g 78 #[v, .bool false]) := Lib.hid (by rw [hyo]; exact BO.out)
     have HOV : Hid (yo.ownsRow B 5 1 v ct.length (bv ct)) := Lib.hid (by rw [hyo]; exact HOV.out)
     have HAO : Hid (ArgX B yo (some ⟨ab, ao, none⟩) l) := Lib.hid (by rw [hyo]; exact HAO.out)
     have HSZ : Hid (B ≤ yo.heap.size) := Lib.hid (by rw [hyo]; exact HSZ.out)
     have HKO : Hid (KeepT w yo) := Lib.hid (by rw [hyo]; exact HKO.out)
     have HBO : Hid (Below B w yo) := Lib.hid (by rw [hyo]; exact ⟨HBO.out.os, HBO.out.tape, HBO.out.output, HBO.out.size, HBO.out.block⟩)
     clear hyo k0
     have k0 := BO.out.cell 0
     refine wpAny_take (i := 0) (v := ?_) rfl (by kernel_rfl) (by kernel_rfl) (by kernel_rfl) (fun _ _ _ h => h) (Or.inl ⟨by kernel_rfl, ?_⟩) ?_
     rotate_left
     ·(intro w'; go_simp; try with_reducible rfl)
     refine wpAny_take (i := 1) (v := ?_) rfl (by kernel_rfl) (by kernel_rfl) (by kernel_rfl) (fun _ _ _ h => h) (Or.inl ⟨by kernel_rfl, ?_⟩) ?_
     rotate_left
     ·(intro w'; go_simp; try with_reducible rfl)
     refine wpAny_take (i := 2) (v := ?_) rfl (by kernel_rfl) (by kernel_rfl) (by kernel_rfl) (fun _ _ _ h => h) (Or.inl ⟨by kernel_rfl, ?_⟩) ?_
     rotate_left
     ·(intro w'; go_simp; try with_reducible rfl)
     refine wpAny_take (i := 3) (v := ?_) rfl (by kernel_rfl) (by kernel_rfl) (by kernel_rfl) (fun _ _ _ h => h) (Or.inl ⟨by kernel_rfl, ?_⟩) ?_
     rotate_left
     ·(intro w'; go_simp; try with_reducible rfl)
     refine wpAny_take (i := 5) (v := ?_) rfl (by kernel_rfl) (by kernel_rfl) (by kernel_rfl) (fun _ _ _ h => h) (Or.inl ⟨by kernel_rfl, ?_⟩) ?_
     rotate_left
     ·(intro w'; go_simp; try with_reducible rfl)
     refine wpAny_ready (rs := [4, 6]) (by kernel_rfl) (by simp) ?_
     refine AllReady.cons rfl (fun K hK => ?_) ?_
     ·skip
      go_simp
      (refine hK _ _ ?_; clear hK K)
      refine wpAny_ready (rs := [6]) (by kernel_rfl) (by simp) ?_
      refine AllReady.cons rfl (fun K hK => ?_) AllReady.nil
      go_simp
      go_wp2_with (go_at_call 58; refine (CI.out _).mono ?_; rintro e wi ⟨gi, ci, rfl, hoi, hbi⟩)
      have HBI : Hid (Below yo.heap.size yo wi) := Lib.hid hbi
      have HOI := Lib.hid hoi
      clear hoi hbi k0
      have BI := Lib.hid (BO.out.below HBI.out BO.out.lt)
      have k0 := BI.out.cell 0
      refine wpAny_ready (rs := [7]) (by kernel_rfl) (by simp) ?_
      refine AllReady.cons rfl (fun K hK => ?_) AllReady.nil
      refine step_append_any _ (by rfl) (.tmp 31) (.tmp 33) 47 (by rfl) B 5 i0 _ 1 1 Try.underlying47 hi hz0 hz1 hz2 rfl (by omega) v ct.length _ (by rfl) (own_below2 HOV.out HBI.out) wi.heap.size (some ⟨gi, 0, none⟩) (vb (zig x)).length ci (bv (vb (zig x))) (by rfl) (Reads.of_own HOI.out) (bv_one _) (by have := HLB.out; have := (vb_len (zig x)).2; unfold maxLen; omega) (by have := HLB.out; have := (vb_len (zig x)).2; omega) (by have := HBI.out.size; have := HSZ.out; omega) ?_
      intro v' w2 ho hg hat
      obtain ⟨Av, cv, rfl⟩ := own_slice ho
      have HO2 := Lib.hid ho
      have HG2 := Lib.hid hg
      clear ho hg hat k0
      have B2 : Hid (Blk w2 g 78 #[v, .bool false]) := Lib.hid (BI.out.grown HG2.out (fun e => own_blk_ne HOV.out BO.out (by decide) e.symm))
      have k0 := B2.out.cell 0
      have fz := B2.out.frozen 0
      (refine hK _ _ ?_; clear hK K)
      refine wpAny_take (i := 8) (v := ?_) rfl (by kernel_rfl) (by kernel_rfl) (by kernel_rfl) (fun _ _ _ h => h) (Or.inl ⟨by kernel_rfl, ?_⟩) ?_
      rotate_left
      ·(intro w'; go_simp; try with_reducible rfl)
      refine wpAny_take (i := 9) (v := ?_) rfl (by kernel_rfl) (by kernel_rfl) (by kernel_rfl) (fun _ _ _ h => h) (Or.inl ⟨by kernel_rfl, ?_⟩) ?_
      rotate_left
      ·(intro w'; go_simp; try with_reducible rfl)
      refine wpAny_ready (rs := [10]) (by kernel_rfl) (by simp) ?_
      refine AllReady.cons rfl (fun K hK => ?_) AllReady.nil
      go_simp
      (refine hK _ _ ?_; clear hK K)
      refine wpAny_done (by kernel_rfl) ?_ _
      go_wp2_with fail
      go_roundw
      case rel => exact ⟨r + 1, by omega, by go_num, Lib.hid (by rw [numsB_take hx, all_take hx, ← List.append_assoc, ← Bool.and_assoc, ← HOK.out, ← HOKN.out, ← HCT.out]; exact out_app BO.out HOV.out HgB.out HBI.out HO2.out rfl HG2.out), Lib.hid (below_app HBO.out HSZ.out HOV.out HgB.out HBI.out HG2.out), Lib.hid ((((HAO.out.below HBI.out).grown (own_below2 HOV.out HBI.out) HG2.out)).set_ B2.out HgB.out 0 _), Lib.hid ((HKO.out.trans ((KeepT.below HBI.out).trans (KeepT.grown (own_below2 HOV.out HBI.out) HG2.out))).trans (KeepT.set_ B2.out 0 _))⟩
      case measure => simp [intOf]; omega
     refine AllReady.cons rfl (fun K hK => ?_) AllReady.nil
     go_simp
     go_wp2_with (go_at_call 58; refine (CI.out _).mono ?_; rintro e wi ⟨gi, ci, rfl, hoi, hbi⟩)
     have HBI : Hid (Below yo.heap.size yo wi) := Lib.hid hbi
     have HOI := Lib.hid hoi
     clear hoi hbi k0
     have BI := Lib.hid (BO.out.below HBI.out BO.out.lt)
     have k0 := BI.out.cell 0
     refine wpAny_ready (rs := [4]) (by kernel_rfl) (by simp) ?_
     refine AllReady.cons rfl (fun K hK => ?_) AllReady.nil
     go_simp
     (refine hK _ _ ?_; clear hK K)
     refine wpAny_ready (rs := [7]) (by kernel_rfl) (by simp) ?_
     refine AllReady.cons rfl (fun K hK => ?_) AllReady.nil
     refine step_append_any _ (by rfl) (.tmp 31) (.tmp 33) 47 (by rfl) B 5 i0 _ 1 1 Try.underlying47 hi hz0 hz1 hz2 rfl (by omega) v ct.length _ (by rfl) (own_below2 HOV.out HBI.out) wi.heap.size (some ⟨gi, 0, none⟩) (vb (zig x)).length ci (bv (vb (zig x))) (by rfl) (Reads.of_own HOI.out) (bv_one _) (by have := HLB.out; have := (vb_len (zig x)).2; unfold maxLen; omega) (by have := HLB.out; have := (vb_len (zig x)).2; omega) (by have := HBI.out.size; have := HSZ.out; omega) ?_
     intro v' w2 ho hg hat
     obtain ⟨Av, cv, rfl⟩ := own_slice ho
     have HO2 := Lib.hid ho
     have HG2 := Lib.hid hg
     clear ho hg hat k0
     have B2 : Hid (Blk w2 g 78 #[v, .bool false]) := Lib.hid (BI.out.grown HG2.out (fun e => own_blk_ne HOV.out BO.out (by decide) e.symm))
     have k0 := B2.out.cell 0
     have fz := B2.out.frozen 0
     (refine hK _ _ ?_; clear hK K)
     refine wpAny_take (i := 8) (v := ?_) rfl (by kernel_rfl) (by kernel_rfl) (by kernel_rfl) (fun _ _ _ h => h) (Or.inl ⟨by kernel_rfl, ?_⟩) ?_
     rotate_left
     ·(intro w'; go_simp; try with_reducible rfl)
     refine wpAny_take (i := 9) (v := ?_) rfl (by kernel_rfl) (by kernel_rfl) (by kernel_rfl) (fun _ _ _ h => h) (Or.inl ⟨by kernel_rfl, ?_⟩) ?_
     rotate_left
     ·(intro w'; go_simp; try with_reducible rfl)
     refine wpAny_ready (rs := [10]) (by kernel_rfl) (by simp) ?_
     refine AllReady.cons rfl (fun K hK => ?_) AllReady.nil
     go_simp
     (refine hK _ _ ?_; clear hK K)
     refine wpAny_done (by kernel_rfl) ?_ _
     go_wp2_with fail
     go_roundw
     case rel => exact ⟨r + 1, by omega, by go_num, Lib.hid (by rw [numsB_take hx, all_take hx, ← List.append_assoc, ← Bool.and_assoc, ← HOK.out, ← HOKN.out, ← HCT.out]; exact out_app BO.out HOV.out HgB.out HBI.out HO2.out rfl HG2.out), Lib.hid (below_app HBO.out HSZ.out HOV.out HgB.out HBI.out HG2.out), Lib.hid ((((HAO.out.below HBI.out).grown (own_below2 HOV.out HBI.out) HG2.out)).set_ B2.out HgB.out 0 _), Lib.hid ((HKO.out.trans ((KeepT.below HBI.out).trans (KeepT.grown (own_below2 HOV.out HBI.out) HG2.out))).trans (KeepT.set_ B2.out 0 _))⟩
     case measure => simp [intOf]; omega
  ·go_wp2_with fail
   obtain rfl : r = l.length := by omega
   go_end0
   exact ⟨rfl, by have h := hX.out; rw [List.take_length] at h; exact h, hBe.out, hKT.out⟩
end Go.Proofs.Ytioocaicmiggoaa

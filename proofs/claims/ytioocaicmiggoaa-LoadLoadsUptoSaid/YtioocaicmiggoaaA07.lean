/- Twc, Twa, Sro, Fls: texts merged for a claim by a program of mine. -/
import Derived.Test.YtioocaicmiggoaaA05
import Derived.Test.YtioocaicmiggoaaA03
import Derived.Test.YtioocaicmiggoaaA06
import Derived.OwnWalk
import Derived.BigQuiet
namespace Go.Proofs.Ytioocaicmiggoaa
set_option linter.unusedVariables false
set_option linter.unusedSimpArgs false
open Go.RowKit Go.Deep
theorem info_inp : (Try.prog.info? 70).map (fun i => (i.zero, i.size, i.bytes)) = some (some (.agg #[.int .i64 0, .int .i64 0, .int .i64 0, .int .i64 0]), 4, 32) := by kernel_rfl
theorem info_val : (Try.prog.info? 88).map (fun i => (i.zero, i.size, i.bytes)) = some (some (.agg #[.int .i64 0, .int .u64 0]), 2, 16) := by kernel_rfl
theorem info_ins : (Try.prog.info? 75).map (fun i => (i.zero, i.size, i.bytes)) = some (some (.agg #[.int .i64 0, .int .i64 0, .int .i64 0, .int .i64 0]), 4, 32) := by kernel_rfl
theorem flat_one {α : Type} {F : Nat} {R : World → List Value → α → Prop} {w : World} {css : List (List Value)} {xs : List α} (h : FlatR F R w css xs) (h1 : ∀ cs x, R w cs x → ∀ u ∈ cs, u.oneCell' = true) : ∀ u ∈ css.flatten, u.oneCell' = true := by
 intro u hu
 obtain ⟨cs, hc, hu⟩ := List.mem_flatten.1 hu
 obtain ⟨i, hi, rfl⟩ := List.getElem_of_mem hc
 have hx : xs[i]? = some (xs[i]'(by rw [← h.1]; exact hi)) := List.getElem?_eq_getElem _
 obtain ⟨c, h2, _, h4⟩ := h.2 i _ hx
 rw [List.getElem?_eq_getElem hi] at h2
 injection h2 with h2
 rw [← h2] at h4
 exact h1 _ _ h4 u hu
theorem one_stop {w : World} {cs : List Value} {x : TStop} (h : StopC w cs x) : ∀ u ∈ cs, u.oneCell' = true := by
 intro u hu; rw [h.1] at hu; simp at hu; rcases hu with rfl | rfl <;> rfl
theorem blk5 {w : World} {g : Nat} {t : TypeId} {a0 a1 a2 a3 a4 : Value} (h : Blk w g t #[a0, a1, a2, a3, a4]) :
  w.cell? ⟨g, 0, none⟩ = some a0 ∧ w.cell? ⟨g, 1, none⟩ = some a1 ∧ w.cell? ⟨g, 2, none⟩ = some a2 ∧ w.cell? ⟨g, 3, none⟩ = some a3 ∧ w.cell? ⟨g, 4, none⟩ = some a4 :=
 ⟨h.cell 0, h.cell 1, h.cell 2, h.cell 3, h.cell 4⟩
theorem own_set {w : World} {base : Nat} {e : TypeId} {s n : Nat} {v : Value} {xs : List Value} (h : w.ownsRow base e s v n xs) {a : Addr} (ha : a.block < base) (u : Value) : (w.setCell a u).ownsRow base e s v n xs := by
 refine ⟨h.1, ?_⟩
 rcases h.2 with h1 | ⟨g, cap, cur, hv, hb, hh, hr⟩
 ·exact .inl h1
 ·exact .inr ⟨g, cap, cur, hv, hb, (Below.heap_setCell w a u g (by omega)).trans hh, hr⟩
end Go.Proofs.Ytioocaicmiggoaa
namespace Go.Proofs.Ytioocaicmiggoaa
set_option linter.unusedVariables false
open Go.RowKit
def QA (B : Nat) (v : Value) (w : World) (b : Nat) : Prop := B ≤ b ∧ b < w.heap.size ∧ some b ≠ v.ownBlock
section
variable {α : Type} {B : Nat} {e : TypeId} {F : Nat} {R : (Nat → Prop) → World → List Value → α → Prop} {w w' w2 w3 : World} {v v' : Value} {xs : List α} {css : List (List Value)}
theorem own_below (h : w.ownsRow B e F v xs.length css.flatten) (hb : Below w.heap.size w w') : w'.ownsRow B e F v xs.length css.flatten := by
 refine ⟨h.1, ?_⟩
 rcases h.2 with h1 | ⟨g, cap, cur, hv, hB, hh, hr⟩
 ·exact .inl h1
 ·have hlt : g < w.heap.size := (Array.getElem?_eq_some_iff.1 hh).1
  exact .inr ⟨g, cap, cur, hv, hB, (hb.block g hlt).trans hh, hr⟩
theorem own_lt {n s : Nat} {ys : List Value} (h : w.ownsRow B e s v n ys) {g : Nat} (hg : v.ownBlock = some g) : g < w.heap.size ∧ B ≤ g := by
 rcases h.2 with ⟨rfl, _⟩ | ⟨g', cap, cur, rfl, hB, hh, hr⟩
 ·simp [Value.ownBlock] at hg
 ·have : g' = g := by simpa [Value.ownBlock] using hg
  subst this
  exact ⟨(Array.getElem?_eq_some_iff.1 hh).1, hB⟩
end
def KeepsQ {α : Type} (R : (Nat → Prop) → World → List Value → α → Prop) : Prop := ∀ (Q Q' : Nat → Prop) (w w' : World) (cs : List Value) (x : α), R Q w cs x → KeepQ Q w w' → (∀ b, Q b → Q' b) → R Q' w' cs x
def Acc {α : Type} (B : Nat) (e : TypeId) (F : Nat) (R : (Nat → Prop) → World → List Value → α → Prop) (w : World) (v : Value) (xs : List α) (css : List (List Value)) : Prop :=
 w.ownsRow B e F v xs.length css.flatten ∧ FlatR F (R (QA B v w)) w css xs
section
variable {α : Type} {B : Nat} {e : TypeId} {F : Nat} {R : (Nat → Prop) → World → List Value → α → Prop} {w w' w2 w3 : World} {v v' : Value} {xs : List α} {css : List (List Value)}
theorem Acc.nil (w : World) : Acc B e F R w (.slice none 0 0) [] [] := ⟨World.ownsRow_nil _ _ _ _, FlatR.nil _ _ _⟩
theorem Acc.below (hR : KeepsQ R) (h : Acc B e F R w v xs css) (hb : Below w.heap.size w w') : Acc B e F R w' v xs css := by
 refine ⟨own_below h.1 hb, h.2.keep fun cs x hx => hR _ _ _ _ _ _ hx (KeepQ.of_below hb fun b hq => hq.2.1) fun b hq => ⟨hq.1, Nat.lt_of_lt_of_le hq.2.1 hb.size, hq.2.2⟩⟩
theorem Acc.step (hR : KeepsQ R) (h : Acc B e F R w v xs css) (hBw : B ≤ w.heap.size) (hb : Below w.heap.size w w2) {cs : List Value} {x : α} (hl : cs.length = F) (hx : R (fun b => w.heap.size ≤ b ∧ b < w2.heap.size) w2 cs x)
  (ho : w3.ownsRow B e F v' (xs.length + 1) (css.flatten ++ cs)) (hg : w2.grownBy w3 v.ownBlock) (hat : v'.ownBlock = v.ownBlock ∨ v'.ownBlock = some w2.heap.size) : Acc B e F R w3 v' (xs ++ [x]) (css ++ [cs]) := by
 have hvlt : ∀ g, v.ownBlock = some g → g < w.heap.size := fun g hg => (own_lt h.1 hg).1
 have hne : ∀ b, some b ≠ v.ownBlock → b < w2.heap.size → some b ≠ v'.ownBlock := fun b h1 h2 => by
  rcases hat with h3 | h3
  ·rw [h3]; exact h1
  ·rw [h3]; intro e; injection e with e; omega
 refine ⟨?_, FlatR.snoc ?_ hl ?_⟩
 ·rw [List.length_append, List.flatten_append]
  simpa using ho
 ·refine h.2.keep fun cs x hx => hR _ _ _ _ _ _ hx ?_ fun b hq => ⟨hq.1, Nat.lt_of_lt_of_le hq.2.1 (Nat.le_trans hb.size hg.size), hne b hq.2.2 (Nat.lt_of_lt_of_le hq.2.1 hb.size)⟩
  exact (KeepQ.of_below hb fun b hq => hq.2.1).trans (KeepQ.of_grown hg fun b hq => hq.2.2)
 ·have hself : ∀ b, w.heap.size ≤ b → some b ≠ v.ownBlock := fun b hb2 e => by have := hvlt b e.symm; omega
  exact hR _ _ _ _ _ _ hx (KeepQ.of_grown hg fun b hq => hself b hq.1) fun b hq => ⟨Nat.le_trans hBw hq.1, Nat.lt_of_lt_of_le hq.2 hg.size, hne b (hself b hq.1) hq.2⟩
theorem Acc.done (h : Acc B e F R w v xs css) (hR : KeepsQ R) : SlQ (fun b => B ≤ b ∧ b < w.heap.size) F (R (fun b => B ≤ b ∧ b < w.heap.size)) w v xs := by
 refine slq_of_own (h.2.keep fun cs x hx => hR _ _ _ _ _ _ hx (fun p u _ hp => hp) fun b hq => ⟨hq.1, hq.2.1⟩) h.1 (fun g _ h1 h2 => ⟨h1, h2⟩) (.inr trivial)
theorem Acc.apart (h : Acc B e F R w v xs css) (hR : KeepsQ R) : SlQ (fun b => B ≤ b ∧ b < w.heap.size ∧ some b = v.ownBlock) F (R (QA B v w)) w v xs :=
 slq_of_own h.2 h.1 (fun g hg h1 h2 => ⟨h1, h2, hg.symm⟩) (.inr trivial)
end
theorem keeps_ints : KeepsQ IntsQ := fun Q Q' w w' cs x h hk hq => h.keep hk hq
theorem keeps_tail : KeepsQ TailQ := fun Q Q' w w' cs x h hk hq => h.keep hk hq
theorem keeps_row : KeepsQ RowQ := fun Q Q' w w' cs x h hk hq => h.keep hk hq
theorem keeps_code : KeepsQ CodeQ := fun Q Q' w w' cs x h hk hq => h.keep hk hq
end Go.Proofs.Ytioocaicmiggoaa
namespace Go.Proofs.Ytioocaicmiggoaa
set_option linter.unusedVariables false
set_option linter.unusedSimpArgs false
open Go.RowKit Go.Deep
def listBy {α : Type} (f : α → List UInt8) (l : List α) : List UInt8 := numsB [(l.length : Int)] ++ (l.map f).flatten
def listOk {α : Type} (p : α → Bool) (l : List α) : Bool := decide (l.length ≤ 1024) && l.all p
def stopBy (x : TStop) : List UInt8 := numsB [x.ty, x.gd]
def stopOk (x : TStop) : Bool := numOk x.ty && numOk x.gd
def tailBy (e : TTail) : List UInt8 := numsB [e.br, e.cl] ++ listBy stopBy e.bars
def tailOk (e : TTail) : Bool := numOk e.br && numOk e.cl && listOk stopOk e.bars
def mInt (b : Bool) : Int := if b then 1 else 0
def rowBy (x : TRow) : List UInt8 := numsB [x.par, x.ty, mInt x.many, x.win] ++ listBy stopBy x.bars ++ numsB [x.leave, x.guard] ++ listBy tailBy x.ends
def rowOk (x : TRow) : Bool := numOk x.par && numOk x.ty && numOk x.win && listOk stopOk x.bars && numOk x.leave && numOk x.guard && listOk tailOk x.ends
theorem flat_take {α : Type} (f : α → List UInt8) {l : List α} {r : Nat} {x : α} (h : l[r]? = some x) : ((l.take (r + 1)).map f).flatten = ((l.take r).map f).flatten ++ f x := by
 have : l.take (r + 1) = l.take r ++ [x] := by rw [List.take_add_one, h]; rfl
 rw [this]; simp
theorem flat_le {α : Type} (f : α → List UInt8) (l : List α) (r : Nat) : ((l.take r).map f).flatten.length ≤ ((l.map f).flatten).length := by
 have h : (l.map f).flatten = ((l.take r).map f).flatten ++ ((l.drop r).map f).flatten := by rw [← List.flatten_append, ← List.map_append, List.take_append_drop]
 rw [h, List.length_append]; omega
theorem allp_take {α : Type} (p : α → Bool) {l : List α} {r : Nat} {x : α} (h : l[r]? = some x) : (l.take (r + 1)).all p = ((l.take r).all p && p x) := by
 have : l.take (r + 1) = l.take r ++ [x] := by rw [List.take_add_one, h]; rfl
 rw [this, List.all_append]; simp
theorem blk8s {w : World} {g : Nat} {t : TypeId} {a0 a1 a2 a3 a4 a5 a6 a7 : Value} (h : Blk w g t #[a0, a1, a2, a3, a4, a5, a6, a7]) :
  w.cell? ⟨g, 0, none⟩ = some a0 ∧ w.cell? ⟨g, 1, none⟩ = some a1 ∧ w.cell? ⟨g, 2, none⟩ = some a2 ∧ w.cell? ⟨g, 3, none⟩ = some a3 ∧ w.cell? ⟨g, 4, none⟩ = some a4 ∧ w.cell? ⟨g, 5, none⟩ = some a5 ∧ w.cell? ⟨g, 6, none⟩ = some a6 ∧ w.cell? ⟨g, 7, none⟩ = some a7 :=
 ⟨h.cell 0, h.cell 1, h.cell 2, h.cell 3, h.cell 4, h.cell 5, h.cell 6, h.cell 7⟩
structure WSt (B g : Nat) (w0 w : World) (bs : List UInt8) (ok : Bool) : Prop where
 out : OutX B w g bs ok
 bel : Below B w0 w
 sz : B ≤ w.heap.size
theorem WSt.below {B g : Nat} {w0 w w' : World} {bs : List UInt8} {ok : Bool} (h : WSt B g w0 w bs ok) (hb : Below w.heap.size w w') : WSt B g w0 w' bs ok := ⟨h.out.below hb, h.bel.trans (hb.mono h.sz), Nat.le_trans h.sz hb.size⟩
theorem WSt.alloc {B g : Nat} {w0 w : World} {bs : List UInt8} {ok : Bool} (h : WSt B g w0 w bs ok) (o : Obj) : WSt B g w0 (w.alloc o) bs ok := h.below ((Below.refl _ _).alloc (Nat.le_refl _) _)
theorem KeepT.alloc (w : World) (o : Obj) : KeepT w (w.alloc o) := KeepT.below ((Below.refl _ _).alloc (Nat.le_refl _) _)
def WrQ (B g : Nat) (w0 w : World) (bs : List UInt8) (ok : Bool) (e : Ending) (w' : World) : Prop := e = .returned (.tuple #[]) ∧ WSt B g w0 w' bs ok ∧ KeepT w w'
theorem argx_lit (B : Nat) (w : World) (l : List Int) (h : ∀ x ∈ l, wfi x) : ArgX B (w.alloc (.cells (l.map (Value.int .i64)).toArray 3)) (some ⟨w.heap.size, 0, none⟩) l := fun i x hx => by
 refine ⟨_, _, rfl, ?_, h x (List.mem_of_getElem? hx), .inr ⟨_, _, Blk.new w 3 _, by decide, by decide⟩⟩
 have e : (l.map (Value.int .i64)).toArray[i]? = some (.int .i64 x) := by simp [hx]
 rw [Nat.zero_add]
 exact ((Blk.new w 3 (l.map (Value.int .i64)).toArray).cell i).trans e
theorem wfi_nat {n : Nat} (h : n ≤ 9223372036854775807) : wfi (n : Int) := by unfold wfi; simp only [Lit.wf, Bool.and_eq_true, decide_eq_true_eq]; exact ⟨show (-9223372036854775808 : Int) ≤ n by omega, show (n : Int) ≤ 9223372036854775807 by omega⟩
set_option maxRecDepth 100000 in
set_option maxHeartbeats 2000000 in
theorem count_any (n : Nat) (B g : Nat) (bs : List UInt8) (ok : Bool) (w0 w : World) (hst : WSt B g w0 w bs ok) (hn : n ≤ 9223372036854775807) (hlb : bs.length ≤ 1000000000) :
  Calls Try.prog 35 #[.pointer (some ⟨g, 0, none⟩), .int .i64 n] w (WrQ B g w0 w (bs ++ numsB [(n : Int)]) (ok && decide (n ≤ 1024))) := by
 obtain ⟨⟨v, hBv, hOv, hgB⟩, hbel, hBw⟩ := hst
 have k1 := hBv.cell 1
 have fz := hBv.frozen 1
 have HB := Lib.hid hBv
 have HO := Lib.hid hOv
 have HG := Lib.hid hgB
 have HW := Lib.hid hBw
 have HL := Lib.hid hlb
 have main : ∀ (okn : Bool) (W : World), Hid (W = w.setCell ⟨g, 1, none⟩ (.bool okn)) → Calls Try.prog 34 #[.pointer (some ⟨g, 0, none⟩), .slice (some ⟨W.heap.size, 0, none⟩) 1 1] (W.alloc (.cells #[.int .i64 n] 3)) (WrQ B g w0 w (bs ++ numsB [(n : Int)]) (okn && numOk n)) := fun okn W hW => by
  have h1 := OutX.set_ok HB.out HO.out okn
  rw [← hW.out] at h1
  have hs : W.heap.size = w.heap.size := by rw [hW.out]; simp [World.setCell]
  have hw := hBw
  have hbe : Below B w W := by rw [hW.out]; exact (Below.refl _ _).setCell hgB _
  have ha : Below W.heap.size W (W.alloc (.cells #[.int .i64 n] 3)) := (Below.refl _ _).alloc (Nat.le_refl _) _
  have hox : OutX B W g bs okn := ⟨v, h1.1, h1.2, hgB⟩
  refine (nums_any [(n : Int)] _ 1 B g bs okn _ (hox.below ha) (argx_lit B W [(n : Int)] (by intro x hx; simp at hx; subst hx; exact wfi_nat hn)) (by simp; omega) (by have := numsB_len [(n : Int)]; simp at this; omega)).mono ?_
  rintro e w' ⟨rfl, h2, h3, h4⟩
  have h5 : Below B W w' := (ha.mono (by omega)).trans h3
  exact ⟨rfl, ⟨by simpa using h2, hbel.trans (hbe.trans h5), Nat.le_trans (by omega) h5.size⟩, (show KeepT w W by rw [hW.out]; exact KeepT.set_ HB.out 1 _).trans ((KeepT.below ha).trans h4)⟩
 have HM := Lib.hid main
 have fin : ∀ okn : Bool, okn = (ok && decide (n ≤ 1024)) → (okn && numOk n) = (ok && decide (n ≤ 1024)) := fun okn h => by
  rw [h, Bool.and_assoc]; congr 1
  rw [Bool.eq_iff_iff]; simp [numOk]; omega
 have HF := Lib.hid fin
 clear hBv hOv hgB hBw hlb main fin
 cases ok with
 | false =>
  go_enter Try.func35, Try.ntmps35
  go_upto_region 1 with fail
  obtain ⟨W, hW⟩ : ∃ W, W = w.setCell ⟨g, 1, none⟩ (.bool false) := ⟨_, rfl⟩
  rw [← hW]
  have hv := HM.out false W (Lib.hid hW)
  rw [HF.out false rfl] at hv
  clear k1 fz hW
  go_wp2_with fail
  refine hv.mono ?_
  rintro e w' ⟨rfl, h2, h3⟩
  go_wp2_with fail
  go_end0
  exact ⟨rfl, h2, h3⟩
 | true =>
  have hv := fun W hW => HM.out (decide ((n : Int) ≤ 1024)) W hW
  rw [HF.out (decide ((n : Int) ≤ 1024)) (by rw [Bool.true_and]; exact decide_eq_decide.mpr (by omega))] at hv
  have HV := Lib.hid hv
  clear hv
  go_enter Try.func35, Try.ntmps35
  go_upto_region 1 with fail
  obtain ⟨W, hW⟩ : ∃ W, W = w.setCell ⟨g, 1, none⟩ (.bool (decide ((n : Int) ≤ 1024))) := ⟨_, rfl⟩
  rw [← hW]
  have hv := HV.out W (Lib.hid hW)
  clear k1 fz hW
  go_wp2_with fail
  refine hv.mono ?_
  rintro e w' ⟨rfl, h2, h3⟩
  go_wp2_with fail
  go_end0
  exact ⟨rfl, h2, h3⟩
theorem nums_lit (l : List Int) (hl : ∀ x ∈ l, wfi x) (B g : Nat) (bs : List UInt8) (ok : Bool) (w0 w : World) (h : WSt B g w0 w bs ok) (hlb : bs.length + (numsB l).length ≤ 1000000000000) :
  Calls Try.prog 34 #[.pointer (some ⟨g, 0, none⟩), .slice (some ⟨w.heap.size, 0, none⟩) l.length l.length] (w.alloc (.cells (l.map (Value.int .i64)).toArray 3)) (WrQ B g w0 w (bs ++ numsB l) (ok && l.all numOk)) := by
 have ha : Below w.heap.size w (w.alloc (.cells (l.map (Value.int .i64)).toArray 3)) := (Below.refl _ _).alloc (Nat.le_refl _) _
 refine (nums_any l _ l.length B g bs ok _ (h.out.below ha) (argx_lit B w l hl) (by have := h.sz; simp; omega) hlb).mono ?_
 rintro e w' ⟨rfl, h2, h3, h4⟩
 have h5 := (ha.mono h.sz).trans h3
 exact ⟨rfl, ⟨h2, h.bel.trans h5, Nat.le_trans h.sz h5.size⟩, (KeepT.below ha).trans h4⟩
theorem nums_row (l : List Int) (v : Value) (B g : Nat) (bs : List UInt8) (ok : Bool) (w0 w : World) (h : WSt B g w0 w bs ok) (hB : w0.heap.size ≤ B) (hl : SlR 1 IntC w0 v l) (hlb : bs.length + (numsB l).length ≤ 1000000000000) :
  Calls Try.prog 34 #[.pointer (some ⟨g, 0, none⟩), v] w (WrQ B g w0 w (bs ++ numsB l) (ok && l.all numOk)) := by
 obtain ⟨A, c, rfl, _, _⟩ := hl.slice
 refine (nums_any l A c B g bs ok _ h.out (fun i x hx => ?_) h.sz hlb).mono ?_
 ·obtain ⟨b, off, c2, hv, _, _, _, cs, hcl, ⟨rfl, hw⟩, hc⟩ := hl.get hx
  injection hv with hv _ _
  subst hv
  have h0 := hc 0 _ rfl
  have hb := cell_in h0
  refine ⟨b, off, rfl, ?_, hw, .inl (by simp only at hb; omega)⟩
  simp only [Nat.mul_one, Nat.add_zero] at h0
  exact (h.bel.cell (by simp only at hb ⊢; omega)).trans h0
 rintro e w' ⟨rfl, h2, h3, h4⟩
 exact ⟨rfl, ⟨h2, h.bel.trans h3, Nat.le_trans h.sz h3.size⟩, h4⟩
set_option maxRecDepth 100000 in
set_option maxHeartbeats 2000000 in
theorem wstops_any (l : List TStop) (v : Value) (B g : Nat) (bs : List UInt8) (ok : Bool) (w0 w : World) (hst : WSt B g w0 w bs ok) (hB : w0.heap.size ≤ B) (hl : SlR 2 StopC w0 v l) (hlb : bs.length + (listBy stopBy l).length ≤ 1000000000) :
  Calls Try.prog 59 #[.pointer (some ⟨g, 0, none⟩), v] w (WrQ B g w0 w (bs ++ listBy stopBy l) (ok && listOk stopOk l)) := by
 obtain ⟨A, c, rfl, hc1, hc2⟩ := hl.slice
 unfold maxLen at hc2
 have C0 := Lib.hid (count_any l.length B g bs ok w0 w hst (by omega) (by omega))
 have HL := Lib.hid hl
 have HLB := Lib.hid hlb
 have nn : (0 : Int) ≤ (l.length : Int) := by omega
 clear hl hlb hst
 go_enter Try.func59, Try.ntmps59
 go_wp2_with fail
 refine C0.out.mono ?_
 rintro e w1 ⟨rfl, hx1, hk1⟩
 have HX1 := Lib.hid hx1
 have HK1 := Lib.hid hk1
 clear hx1 hk1
 go_wp2_with fail
 go_loopw [12] (fun i wr => ∃ r : Nat, r ≤ l.length ∧ i = .int .i64 r ∧ Hid (WSt B g w0 wr ((bs ++ numsB [(l.length : Int)]) ++ ((l.take r).map stopBy).flatten) ((ok && decide (l.length ≤ 1024)) && (l.take r).all stopOk)) ∧ Hid (KeepT w wr)) (fun i _ => l.length - (intOf i).toNat)
 case atStart => exact ⟨0, Nat.zero_le _, rfl, Lib.hid (by simpa using HX1.out), HK1⟩
 case round =>
  obtain ⟨r, hr, rfl, hX, hKt⟩ := hrel
  by_cases hlt : r < l.length
  ·obtain ⟨x, hx⟩ : ∃ x, l[r]? = some x := ⟨_, List.getElem?_eq_getElem hlt⟩
   obtain ⟨b5, o5, c5, hv5, _, _, m0, m1, wx0, wx1⟩ := stops_get HL.out hx
   injection hv5 with hv5 _ hcap5
   subst hv5 hcap5
   have kc := KeepC.of_below (hX.out.bel.mono hB)
   replace m0 := kc _ _ m0
   replace m1 := kc _ _ m1
   clear kc
   obtain ⟨W, hW⟩ : ∃ W, W = wr.alloc (.cells #[.int .i64 x.ty, .int .i64 x.gd] 98) := ⟨_, rfl⟩
   have hbx : Blk W wr.heap.size 98 #[.int .i64 x.ty, .int .i64 x.gd] := by rw [hW]; exact Blk.new _ _ _
   have x0 := hbx.cell 0
   have x1 := hbx.cell 1
   have HKW : Hid (KeepT w W) := Lib.hid (by rw [hW]; exact hKt.out.trans (KeepT.alloc _ _))
   have N := Lib.hid (nums_lit [x.ty, x.gd] (by intro y hy; simp at hy; rcases hy with rfl | rfl <;> assumption) B g _ _ w0 W (by rw [hW]; exact hX.out.alloc _) (by
    have h1 := flat_le stopBy l (r + 1)
    rw [flat_take stopBy hx] at h1
    have h2 := HLB.out
    simp only [listBy, List.length_append, stopBy] at h1 h2 ⊢
    omega))
   clear hbx hX hKt
   go_upto_region 4 with fail
   rw [← hW]
   clear hW m0 m1
   go_wp2_with fail
   refine N.out.mono ?_
   rintro e w5 ⟨rfl, h2, h3⟩
   have H2 := Lib.hid h2
   have H3 := Lib.hid (HKW.out.trans h3)
   clear h2 h3 x0 x1
   go_wp2_with fail
   go_roundw
   case rel =>
    have H4 : Hid (WSt B g w0 w5 ((bs ++ numsB [(l.length : Int)]) ++ ((l.take (r + 1)).map stopBy).flatten) ((ok && decide (l.length ≤ 1024)) && (l.take (r + 1)).all stopOk)) := Lib.hid (by rw [flat_take stopBy hx, allp_take stopOk hx, ← List.append_assoc, ← Bool.and_assoc]; have h := H2.out; simp only [List.all_cons, List.all_nil, Bool.and_true] at h; exact h)
    first | exact ⟨r + 1, by omega, by go_num, H4, H3⟩ | ((repeat apply Exists.intro); exact ⟨⟨r + 1, by omega, by go_num, H4, H3⟩, rfl⟩)
   case measure => simp [intOf]; omega
  ·go_wp2_with fail
   obtain rfl : r = l.length := by omega
   go_end0
   refine ⟨rfl, ?_, hKt.out⟩
   have h := hX.out
   rw [List.take_length] at h
   unfold listBy listOk
   rw [← List.append_assoc, ← Bool.and_assoc]
   exact h
end Go.Proofs.Ytioocaicmiggoaa
namespace Go.Proofs.Ytioocaicmiggoaa
set_option linter.unusedVariables false
set_option linter.unusedSimpArgs false
open Go.RowKit Go.Deep
def listF {α : Type} (one : FSt → α → Option (FSt × α)) (zero : α) (st : FSt) (xs : List α) : Option (FSt × List α) :=
 if 1024 < xs.length then none else
 match num st xs.length with
 | none => none
 | some (.rd R A n c l p, k) => if 0 ≤ k ∧ k ≤ 1024 ∧ k ≤ ((n - p : Nat) : Int) then runL one (.rd R A n c l p) (List.replicate k.toNat zero) else none
 | some (.wr bs, _) => runL one (.wr bs) xs
theorem fine_list {α : Type} {one : FSt → α → Option (FSt × α)} {zero : α} {C : Nat} (h : Fine one C) : Fine (listF one zero) (10 + C * 1024) := by
 intro st xs st' ys h1
 unfold listF at h1
 split at h1
 ·cases h1
 ·rename_i hlen
  split at h1
  ·cases h1
  ·rename_i R A n c l p k hn
   obtain ⟨a1, a2⟩ := fine_num _ _ _ _ hn
   split at h1
   ·rename_i hk
    obtain ⟨b1, b2, b3⟩ := fine_run h _ _ _ _ h1
    refine ⟨?_, kin_trans a2 b2⟩
    have : C * (List.replicate k.toNat zero).length ≤ C * 1024 := Nat.mul_le_mul_left _ (by rw [List.length_replicate]; omega)
    omega
   ·cases h1
  ·rename_i bs k hn
   obtain ⟨a1, a2⟩ := fine_num _ _ _ _ hn
   obtain ⟨b1, b2, b3⟩ := fine_run h _ _ _ _ h1
   refine ⟨?_, kin_trans a2 b2⟩
   have : C * xs.length ≤ C * 1024 := Nat.mul_le_mul_left _ (by omega)
   omega
def FreshQ (base : Nat) (w : World) (b : Nat) : Prop := base ≤ b ∧ ∃ t cs, Blk w b t cs ∧ ¬ hot t
def FreshN (base g : Nat) (w : World) (b : Nat) : Prop := base ≤ b ∧ b ≠ g ∧ ∃ t cs, Blk w b t cs ∧ ¬ hot t
theorem keepN {B g base : Nat} {w w' : World} (h : Fr B g w w') : KeepQ (FreshN base g w) w w' := fun p u ⟨_, h2, t, cs, h3, h4⟩ hp => by
 have h5 := h.2 p.block t cs h2 h4 h3
 exact (World.cell?_of_block (h5.trans h3.symm)).trans hp
theorem freshN_mono {B g base : Nat} {w w' : World} (h : Fr B g w w') {b : Nat} (hb : FreshN base g w b) : FreshN base g w' b := by
 obtain ⟨h1, h2, t, cs, h3, h4⟩ := hb
 exact ⟨h1, h2, t, cs, h.2 b t cs h2 h4 h3, h4⟩
def OneC {α : Type} (B F : Nat) (e : TypeId) (sz : Nat) (R : (Nat → Prop) → World → List Value → α → Prop) (Cap : Nat → World → Prop) (one : FSt → α → Option (FSt × α)) (C : Nat) (call : Value → World → (Ending → World → Prop) → Prop) : Prop :=
 ∀ (tb : Nat) (L1 L2 vs : List Value) (off : Nat) (st : FSt) (x : α) (w : World), FlX B w F st → Blk w tb e (L1 ++ (vs ++ L2)).toArray → L1.length = off → vs.length = sz → B ≤ tb → B ≤ w.heap.size → st.rdUp tb → st.room + C ≤ 1000000000000 → R (· < B) w vs x → Cap tb w →
  call (.pointer (some ⟨tb, off, none⟩)) w (FlP B F tb e L1 L2 (fun w' vs' y => vs'.length = sz ∧ R (FreshQ w.heap.size w') w' vs' y) st (one st x) w)
theorem ints_box (B F tb : Nat) (t : TypeId) (cs : Array Value) (st : FSt) (a : Int) (w W : World) (hf : FlX B w F st) (ht : ¬ hot t) (hbt : Blk W tb t cs) (htb : tb < w.heap.size) (hw : wfi a) (hBw : B ≤ w.heap.size) (hroom : st.room + 10 ≤ 1000000000000)
  (hW : Fr B tb w W) (hs : W.heap.size = w.heap.size + 1) (hb : Blk W w.heap.size 3 #[.int .i64 a]) (hfW : FlX B W F st) :
  Calls Try.prog 74 #[.pointer (some ⟨F, 0, none⟩), .slice (some ⟨W.heap.size, 0, none⟩) 1 1] (W.alloc (.cells #[.pointer (some ⟨w.heap.size, 0, none⟩)] 139)) (fun e w' => (∃ s y, num st a = some (s, y) ∧ e = .returned (.tuple #[]) ∧ FlX B w' F s ∧ Blk w' w.heap.size 3 #[.int .i64 y] ∧ Blk w' tb t cs ∧ Fr B tb w w') ∨ (num st a = none ∧ ∃ ec, e = .panicked (stopP ec) ∧ errOk st ec ∧ Fr B tb w w')) := by
 have ha : Below W.heap.size W (W.alloc (.cells #[.pointer (some ⟨w.heap.size, 0, none⟩)] 139)) := (Below.refl _ _).alloc (Nat.le_refl _) _
 refine (ints_step B F w.heap.size 3 [] [] 0 st [a] _ W.heap.size 1 (hfW.below ha) hot_int (by intro b h; simp at h; subst h; exact hw) (hb.below ha hb.lt) rfl hBw (by simp; omega) (hf.rdUp (Nat.le_refl _)) (by simpa using hroom) (Blk.new W _ _) (by omega) (by simp)).mono ?_
 rintro e w' (⟨s, ys, vs, h1, rfl, h2, h3, rfl, h4⟩ | ⟨h1, ec, rfl, h2, h3⟩)
 ·rw [run_one] at h1
  rcases hn : num st a with _ | ⟨s2, y⟩
  ·rw [hn] at h1; cases h1
  ·rw [hn] at h1
   simp only [Option.map_some] at h1
   cases h1
   have h5 : Fr B tb w w' := (hW.trans (Fr.below (by omega) ha)).new h4 (Nat.le_refl _)
   exact .inl ⟨_, y, rfl, rfl, h2, h3, h4.2 tb t _ (by omega) ht (hbt.below ha hbt.lt), h5⟩
 ·rw [run_one] at h1
  rcases hn : num st a with _ | ⟨s2, y⟩
  ·exact .inr ⟨rfl, ec, rfl, h2, (hW.trans (Fr.below (by omega) ha)).new h3 (Nat.le_refl _)⟩
  ·rw [hn] at h1; cases h1
def LoopS {α : Type} (B F tb : Nat) (t : TypeId) (L1 L2 : List Value) (e : TypeId) (sz : Nat) (R : (Nat → Prop) → World → List Value → α → Prop) (one : FSt → α → Option (FSt × α)) (st : FSt) (o : Option (FSt × List α)) (w : World) (m : Nat) (wx : World) : Prop :=
 ∃ (s0 : FSt) (xs0 : List α) (v2 : Value) (css : List (List Value)), o = runL one s0 xs0 ∧ (xs0.length ≤ 1024 ∧ xs0.length = m) ∧ st.kin s0 ∧ s0.room ≤ st.room + 10 ∧ FlX B wx F s0 ∧ Blk wx tb t (L1 ++ ([v2] ++ L2)).toArray ∧ wx.ownsRow w.heap.size e sz v2 xs0.length css.flatten ∧ FlatR sz (R (· < B)) wx css xs0 ∧ Fr B tb w wx
theorem made_zero {sz : Nat} (zs : List Value) (hz : zs.length = sz) (hp : 0 < sz) (n : Nat) : (madeCells zs.toArray (n * sz)).toList = (List.replicate n zs).flatten := by
 apply List.ext_getElem?
 intro i
 have hfl : ((List.replicate n zs).flatten).length = n * sz := by rw [flat_len (F := sz) (by intro cs hc; rw [List.eq_of_mem_replicate hc]; exact hz)]; simp
 rcases Nat.lt_or_ge i (n * sz) with hi | hi
 ·have hdiv : i / sz < n := Nat.div_lt_of_lt_mul (by rw [Nat.mul_comm]; exact hi)
  have hmod : i % sz < sz := Nat.mod_lt _ hp
  have h1 : (List.replicate n zs)[i / sz]? = some zs := by rw [List.getElem?_replicate]; simp [hdiv]
  have h2 := flat_get (F := sz) (css := List.replicate n zs) (by intro cs hc; rw [List.eq_of_mem_replicate hc]; exact hz) h1 (i % sz) (zs[i % sz]'(by omega)) (List.getElem?_eq_getElem _)
  rw [show i / sz * sz + i % sz = i by rw [Nat.mul_comm]; exact Nat.div_add_mod i sz] at h2
  rw [h2]
  unfold madeCells
  simp only [Array.getElem?_toList, Array.getElem?_map, Array.getElem?_range, hi, if_true, Option.map_some, Option.some.injEq, List.size_toArray, hz]
  simp [hz, hmod]
 ·rw [List.getElem?_eq_none (by rw [Array.length_toList, size_madeCells]; exact hi), List.getElem?_eq_none (by rw [hfl]; exact hi)]
theorem flat_zero {α : Type} {sz : Nat} {R : World → List Value → α → Prop} {w : World} (zs : List Value) (zero : α) (hz : zs.length = sz) (hr : R w zs zero) (n : Nat) : FlatR sz R w (List.replicate n zs) (List.replicate n zero) := by
 refine ⟨by simp, fun i x hx => ?_⟩
 rw [List.getElem?_replicate] at hx
 split at hx
 ·cases hx
  exact ⟨zs, by rw [List.getElem?_replicate]; simp [*], hz, hr⟩
 ·cases hx
theorem flat_of_slq {α : Type} {Q : Nat → Prop} {F : Nat} {R : World → List Value → α → Prop} {w : World} {v : Value} {xs : List α} (h : SlQ Q F R w v xs) :
  ∃ (css : List (List Value)) (A : Option Addr) (c : Nat), v = .slice A xs.length c ∧ xs.length ≤ c ∧ c ≤ maxLen ∧ FlatR F R w css xs ∧ (0 < F → Reads w w.heap.size F A xs.length css.flatten) := by
 refine flat_of_slr (F := F) (R := R) ?_
 obtain ⟨A, c, h1, h2, h3, h4⟩ := h
 refine ⟨A, c, h1, h2, h3, fun hp => ?_⟩
 obtain ⟨b, off, h5, _, h6⟩ := h4 hp
 exact ⟨b, off, h5, h6⟩
theorem flat_of_slqB {α : Type} {B F : Nat} {R : World → List Value → α → Prop} {w : World} {v : Value} {xs : List α} (h : SlQ (· < B) F R w v xs) (hF : 0 < F) :
  ∃ (css : List (List Value)) (A : Option Addr) (c : Nat), v = .slice A xs.length c ∧ xs.length ≤ c ∧ c ≤ maxLen ∧ FlatR F R w css xs ∧ Reads w B F A xs.length css.flatten := by
 obtain ⟨css, A, c, h1, h2, h3, h4, h5⟩ := flat_of_slq h
 refine ⟨css, A, c, h1, h2, h3, h4, (h5 hF).1, fun hp => ?_⟩
 obtain ⟨ad, k1, k2, k3⟩ := (h5 hF).2 hp
 refine ⟨ad, k1, ?_, k3⟩
 obtain ⟨A', c', g1, _, _, g4⟩ := h
 obtain ⟨b, off, g5, g6, _⟩ := g4 hp
 rw [g1] at h1
 injection h1 with h1 _ _
 rw [← h1, g5] at k1
 injection k1 with k1
 subst k1
 exact g6
theorem flatR_drop {α : Type} {F : Nat} {R : World → List Value → α → Prop} {w : World} {css : List (List Value)} {x : α} {xs : List α} (h : FlatR F R w css (x :: xs)) : ∃ cs rest, css = cs :: rest ∧ cs.length = F ∧ R w cs x ∧ FlatR F R w rest xs := by
 obtain ⟨cs, h1, h2, h3⟩ := h.2 0 x rfl
 cases css with
 | nil => simp at h1
 | cons c rest =>
  simp at h1
  subst h1
  refine ⟨c, rest, rfl, h2, h3, by have := h.1; simpa using this, fun i y hy => ?_⟩
  obtain ⟨d, k1, k2⟩ := h.2 (i + 1) y (by simpa using hy)
  exact ⟨d, by simpa using k1, k2⟩
def LoopR {α : Type} (B F tb g : Nat) (t : TypeId) (L1 L2 tail : List Value) (v2 : Value) (e : TypeId) (sz : Nat) (R : (Nat → Prop) → World → List Value → α → Prop) (Cap : Nat → World → Prop) (one : FSt → α → Option (FSt × α)) (s0 : FSt) (xs0 : List α) (w : World) (r : Nat) (wr : World) : Prop :=
 ∃ (s : FSt) (ys : List α) (dn rest : List (List Value)), runL one s0 (xs0.take r) = some (s, ys) ∧ FlX B wr F s ∧ Blk wr tb t (L1 ++ ([v2] ++ L2)).toArray ∧ Fr B tb w wr ∧ (0 < xs0.length → Blk wr g e (dn.flatten ++ (rest.flatten ++ tail)).toArray) ∧
  FlatR sz (R (FreshN w.heap.size g wr)) wr dn ys ∧ FlatR sz (R (· < B)) wr rest (xs0.drop r) ∧ Cap g wr
theorem LoopR.step {α : Type} {B F tb g : Nat} {t : TypeId} {L1 L2 tail : List Value} {v2 : Value} {e : TypeId} {sz : Nat} {R : (Nat → Prop) → World → List Value → α → Prop} {Cap : Nat → World → Prop} {one : FSt → α → Option (FSt × α)} {s0 : FSt} {xs0 : List α} {w : World} {r : Nat} {wr : World}
  (h : LoopR B F tb g t L1 L2 tail v2 e sz R Cap one s0 xs0 w r wr) (hR : KeepsQ R) (ht : ¬ hot t) (he : ¬ hot e) (hg : w.heap.size ≤ g) (hB : B ≤ w.heap.size) (htb : tb < w.heap.size) {call : Value → World → (Ending → World → Prop) → Prop} {C : Nat} (hone : OneC B F e sz R Cap one C call) (hfine : Fine one C)
  (hcap : ∀ w1 w2, Fr B g w1 w2 → Cap g w1 → Cap g w2) (hroom : s0.room + C * 1024 ≤ 1000000000000) (hlen : xs0.length ≤ 1024) (hup : s0.rdUp g) (hr : r < xs0.length) (hmono : ∀ p w (Q Q' : Ending → World → Prop), (∀ e w, Q e w → Q' e w) → call p w Q → call p w Q') :
  call (.pointer (some ⟨g, r * sz, none⟩)) wr (fun e' w' => (e' = .returned (.tuple #[]) ∧ LoopR B F tb g t L1 L2 tail v2 e sz R Cap one s0 xs0 w (r + 1) w') ∨ (runL one s0 xs0 = none ∧ ∃ ec, e' = .panicked (stopP ec) ∧ errOk s0 ec ∧ Fr B tb w w')) := by
 obtain ⟨s, ys, dn, rest, h1, h2, h3, h4, h5, h6, h7, h8⟩ := h
 obtain ⟨x, hx⟩ : ∃ x, xs0[r]? = some x := ⟨_, List.getElem?_eq_getElem hr⟩
 have hd : xs0.drop r = x :: xs0.drop (r + 1) := by
  rw [List.getElem?_eq_some_iff] at hx
  obtain ⟨p, q⟩ := hx
  rw [← q]; exact List.drop_eq_getElem_cons p
 rw [hd] at h7
 obtain ⟨cs, rest2, rfl, k1, k2, k3⟩ := flatR_drop h7
 obtain ⟨f1, f2, f3⟩ := fine_run hfine _ _ _ _ h1
 have hys : ys.length = r := by rw [f3, List.length_take]; omega
 have hdl : dn.flatten.length = r * sz := by rw [flat_len (F := sz) h6.each, h6.1, hys]
 have h5' := h5 (by omega)
 have h5b : Blk wr g e (dn.flatten ++ (cs ++ (rest2.flatten ++ tail))).toArray := by simpa [List.append_assoc] using h5'
 have hsr : s.room + C ≤ 1000000000000 := by
  rw [List.length_take] at f1
  have h9 : C * min r xs0.length + C ≤ C * 1024 := by rw [← Nat.mul_succ]; exact Nat.mul_le_mul_left _ (by omega)
  omega
 have hBr : B ≤ wr.heap.size := Nat.le_trans hB h4.size
 have hcall := hone g dn.flatten (rest2.flatten ++ tail) cs (r * sz) s x wr h2 h5b hdl k1 (Nat.le_trans hB hg) hBr (kin_up f2 hup) hsr k2 h8
 refine hmono _ _ _ _ ?_ hcall
 rintro e' w' (⟨s2, y, vs, p1, rfl, p2, p3, ⟨p4, p5⟩, p6⟩ | ⟨p1, ec, rfl, p2, p3⟩)
 ·refine .inl ⟨rfl, s2, ys ++ [y], dn ++ [vs], rest2, ?_, p2, p6.2 tb t _ (by omega) ht h3, h4.new p6 hg, fun _ => ?_, ?_, ?_, hcap _ _ p6 h8⟩
  ·rw [run_take _ _ _ _ _ _ hx h1, p1]; rfl
  ·simpa [List.append_assoc] using p3
  ·refine FlatR.snoc (h6.keep fun cs x hc => hR _ _ _ _ _ _ hc (keepN p6) fun b hb => freshN_mono p6 hb) p4 ?_
   refine hR _ _ _ _ _ _ p5 (fun _ _ _ h => h) fun b hb => ⟨Nat.le_trans h4.size hb.1, ?_, hb.2⟩
   have := h5'.lt
   have := hb.1
   omega
  ·exact k3.keep fun cs x hc => hR _ _ _ _ _ _ hc (KeepQ.of_below p6.1 fun b hb => hb) fun b hb => hb
 ·exact .inr ⟨run_none xs0 (r + 1) s0 (by rw [run_take _ _ _ _ _ _ hx h1, p1]; rfl), ec, rfl, kin_err f2 p2, h4.new p3 hg⟩
theorem LoopR.done {α : Type} {B F tb g : Nat} {t : TypeId} {L1 L2 tail : List Value} {A : Option Addr} {c : Nat} {e : TypeId} {sz : Nat} {R : (Nat → Prop) → World → List Value → α → Prop} {Cap : Nat → World → Prop} {one : FSt → α → Option (FSt × α)} {s0 : FSt} {xs0 : List α} {w : World} {wr : World}
  (h : LoopR B F tb g t L1 L2 tail (.slice A xs0.length c) e sz R Cap one s0 xs0 w xs0.length wr) (hR : KeepsQ R) (he : ¬ hot e) (hg : w.heap.size ≤ g) {C : Nat} (hfine : Fine one C) (hA : 0 < xs0.length → A = some ⟨g, 0, none⟩) (hc1 : xs0.length ≤ c) (hc2 : c ≤ maxLen) (st : FSt) :
  FlP B F tb t L1 L2 (fun w' vs ys => ∃ v', vs = [v'] ∧ SlQ (FreshQ w.heap.size w') sz (R (FreshQ w.heap.size w')) w' v' ys) st (runL one s0 xs0) w (.returned (.tuple #[])) wr := by
 obtain ⟨s, ys, dn, rest, h1, h2, h3, h4, h5, h6, h7, h8⟩ := h
 rw [List.take_length] at h1
 obtain ⟨f1, f2, f3⟩ := fine_run hfine _ _ _ _ h1
 refine .inl ⟨s, ys, [.slice A xs0.length c], h1, rfl, h2, h3, ⟨_, rfl, A, c, by rw [f3], by rw [f3]; exact hc1, hc2, fun hp => ?_⟩, h4⟩
 rw [f3] at hp
 have h5' := h5 hp
 refine ⟨g, 0, hA hp, ⟨hg, e, _, h5', he⟩, fun i x hx => ?_⟩
 obtain ⟨cs, k1, k2, k3⟩ := h6.2 i x hx
 refine ⟨cs, k2, hR _ _ _ _ _ _ k3 (fun _ _ _ h => h) fun b hb => ⟨hb.1, hb.2.2⟩, fun j u hu => ?_⟩
 have h9 := flat_get h6.each k1 j u hu
 rw [Nat.zero_add]
 refine (h5'.cell _).trans ?_
 have h10 : i * sz + j < dn.flatten.length := (List.getElem?_eq_some_iff.1 h9).1
 simp only [List.getElem?_toArray]
 rw [List.getElem?_append_left h10]
 exact h9
end Go.Proofs.Ytioocaicmiggoaa

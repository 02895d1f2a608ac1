/-
  What the document's writer puts of a table, as plain bytes; the walks of its count and stops.
-/
import Derived.Test.YtioocaicmiggoaaSnu
import Derived.Test.YtioocaicmiggoaaLty
namespace Go.Proofs.Ytioocaicmiggoaa
set_option linter.unusedVariables false
set_option linter.unusedSimpArgs false
open Go.RowKit Go.Deep

def listBy {α : Type} (f : α → List UInt8) (l : List α) : List UInt8 := numsB [(l.length : Int)] ++ (l.map f).flatten
def listOk {α : Type} (p : α → Bool) (l : List α) : Bool := decide (l.length ≤ 1024) && l.all p
def stopBy (x : TStop) : List UInt8 := numsB [x.ty, x.gd]
def stopOk (x : TStop) : Bool := numOk x.ty && numOk x.gd
def tailBy (e : TTail) : List UInt8 := numsB [e.br, e.cl] ++ listBy stopBy e.bars
def tailOk (e : TTail) : Bool := numOk e.br && numOk e.cl && listOk stopOk e.bars
def mInt (b : Bool) : Int := if b then 1 else 0
def rowBy (x : TRow) : List UInt8 := numsB [x.par, x.ty, mInt x.many, x.win] ++ listBy stopBy x.bars ++ numsB [x.leave, x.guard] ++ listBy tailBy x.ends
def rowOk (x : TRow) : Bool := numOk x.par && numOk x.ty && numOk x.win && listOk stopOk x.bars && numOk x.leave && numOk x.guard && listOk tailOk x.ends
theorem flat_take {α : Type} (f : α → List UInt8) {l : List α} {r : Nat} {x : α} (h : l[r]? = some x) : ((l.take (r + 1)).map f).flatten = ((l.take r).map f).flatten ++ f x := by
  have : l.take (r + 1) = l.take r ++ [x] := by rw [List.take_add_one, h]; rfl
  rw [this]; simp
theorem flat_le {α : Type} (f : α → List UInt8) (l : List α) (r : Nat) : ((l.take r).map f).flatten.length ≤ ((l.map f).flatten).length := by
  have h : (l.map f).flatten = ((l.take r).map f).flatten ++ ((l.drop r).map f).flatten := by rw [← List.flatten_append, ← List.map_append, List.take_append_drop]
  rw [h, List.length_append]; omega
theorem allp_take {α : Type} (p : α → Bool) {l : List α} {r : Nat} {x : α} (h : l[r]? = some x) : (l.take (r + 1)).all p = ((l.take r).all p && p x) := by
  have : l.take (r + 1) = l.take r ++ [x] := by rw [List.take_add_one, h]; rfl
  rw [this, List.all_append]; simp
theorem num_len (n : Nat) : (decide ((n : Int) ≤ 1024) && numOk (n : Int)) = decide (n ≤ 1024) := by
  rw [Bool.eq_iff_iff]; simp [numOk]; omega
theorem blk8s {w : World} {g : Nat} {t : TypeId} {a0 a1 a2 a3 a4 a5 a6 a7 : Value} (h : Blk w g t #[a0, a1, a2, a3, a4, a5, a6, a7]) :
    w.cell? ⟨g, 0, none⟩ = some a0 ∧ w.cell? ⟨g, 1, none⟩ = some a1 ∧ w.cell? ⟨g, 2, none⟩ = some a2 ∧ w.cell? ⟨g, 3, none⟩ = some a3 ∧ w.cell? ⟨g, 4, none⟩ = some a4 ∧ w.cell? ⟨g, 5, none⟩ = some a5 ∧ w.cell? ⟨g, 6, none⟩ = some a6 ∧ w.cell? ⟨g, 7, none⟩ = some a7 :=
  ⟨h.cell 0, h.cell 1, h.cell 2, h.cell 3, h.cell 4, h.cell 5, h.cell 6, h.cell 7⟩
/-- the writer where it has got to, since w0 -/
structure WSt (B g : Nat) (w0 w : World) (bs : List UInt8) (ok : Bool) : Prop where
  out : OutX B w g bs ok
  bel : Below B w0 w
  sz : B ≤ w.heap.size
theorem WSt.below {B g : Nat} {w0 w w' : World} {bs : List UInt8} {ok : Bool} (h : WSt B g w0 w bs ok) (hb : Below w.heap.size w w') : WSt B g w0 w' bs ok := ⟨h.out.below hb, h.bel.trans (hb.mono h.sz), Nat.le_trans h.sz hb.size⟩
theorem WSt.alloc {B g : Nat} {w0 w : World} {bs : List UInt8} {ok : Bool} (h : WSt B g w0 w bs ok) (o : Obj) : WSt B g w0 (w.alloc o) bs ok := h.below ((Below.refl _ _).alloc (Nat.le_refl _) _)
theorem KeepT.alloc (w : World) (o : Obj) : KeepT w (w.alloc o) := KeepT.below ((Below.refl _ _).alloc (Nat.le_refl _) _)
/-- what one of the writer's calls leaves -/
def WrQ (B g : Nat) (w0 w : World) (bs : List UInt8) (ok : Bool) (e : Ending) (w' : World) : Prop := e = .returned (.tuple #[]) ∧ WSt B g w0 w' bs ok ∧ KeepT w w'
theorem argx_lit (B : Nat) (w : World) (l : List Int) (h : ∀ x ∈ l, wfi x) : ArgX B (w.alloc (.cells (l.map (Value.int .i64)).toArray 3)) (some ⟨w.heap.size, 0, none⟩) l := fun i x hx => by
  refine ⟨_, _, rfl, ?_, h x (List.mem_of_getElem? hx), .inr ⟨_, _, Blk.new w 3 _, by decide, by decide⟩⟩
  have e : (l.map (Value.int .i64)).toArray[i]? = some (.int .i64 x) := by simp [hx]
  rw [Nat.zero_add]
  exact ((Blk.new w 3 (l.map (Value.int .i64)).toArray).cell i).trans e
theorem wfi_nat {n : Nat} (h : n ≤ 9223372036854775807) : wfi (n : Int) := by unfold wfi; simp only [Lit.wf, Bool.and_eq_true, decide_eq_true_eq]; exact ⟨show (-9223372036854775808 : Int) ≤ n by omega, show (n : Int) ≤ 9223372036854775807 by omega⟩

set_option maxRecDepth 100000 in
set_option maxHeartbeats 2000000 in
theorem count_any (n : Nat) (B g : Nat) (bs : List UInt8) (ok : Bool) (w0 w : World) (hst : WSt B g w0 w bs ok) (hn : n ≤ 9223372036854775807) (hlb : bs.length ≤ 1000000000) :
    Calls Try.prog 35 #[.pointer (some ⟨g, 0, none⟩), .int .i64 n] w (WrQ B g w0 w (bs ++ numsB [(n : Int)]) (ok && decide (n ≤ 1024))) := by
  obtain ⟨⟨v, hBv, hOv, hgB⟩, hbel, hBw⟩ := hst
  have k1 := hBv.cell 1
  have fz := hBv.frozen 1
  have HB := Lib.hid hBv
  have HO := Lib.hid hOv
  have HG := Lib.hid hgB
  have HW := Lib.hid hBw
  have HL := Lib.hid hlb
  have main : ∀ (okn : Bool) (W : World), Hid (W = w.setCell ⟨g, 1, none⟩ (.bool okn)) → Calls Try.prog 34 #[.pointer (some ⟨g, 0, none⟩), .slice (some ⟨W.heap.size, 0, none⟩) 1 1] (W.alloc (.cells #[.int .i64 n] 3)) (WrQ B g w0 w (bs ++ numsB [(n : Int)]) (okn && numOk n)) := fun okn W hW => by
    have h1 := OutX.set_ok HB.out HO.out okn
    rw [← hW.out] at h1
    have hs : W.heap.size = w.heap.size := by rw [hW.out]; simp [World.setCell]
    have hw := hBw
    have hbe : Below B w W := by rw [hW.out]; exact (Below.refl _ _).setCell hgB _
    have ha : Below W.heap.size W (W.alloc (.cells #[.int .i64 n] 3)) := (Below.refl _ _).alloc (Nat.le_refl _) _
    have hox : OutX B W g bs okn := ⟨v, h1.1, h1.2, hgB⟩
    refine (nums_any [(n : Int)] _ 1 B g bs okn _ (hox.below ha) (argx_lit B W [(n : Int)] (by intro x hx; simp at hx; subst hx; exact wfi_nat hn)) (by simp; omega) (by have := numsB_len [(n : Int)]; simp at this; omega)).mono ?_
    rintro e w' ⟨rfl, h2, h3, h4⟩
    have h5 : Below B W w' := (ha.mono (by omega)).trans h3
    exact ⟨rfl, ⟨by simpa using h2, hbel.trans (hbe.trans h5), Nat.le_trans (by omega) h5.size⟩, (show KeepT w W by rw [hW.out]; exact KeepT.set_ HB.out 1 _).trans ((KeepT.below ha).trans h4)⟩
  have HM := Lib.hid main
  have fin : ∀ okn : Bool, okn = (ok && decide (n ≤ 1024)) → (okn && numOk n) = (ok && decide (n ≤ 1024)) := fun okn h => by
    rw [h, Bool.and_assoc]; congr 1
    rw [Bool.eq_iff_iff]; simp [numOk]; omega
  have HF := Lib.hid fin
  clear hBv hOv hgB hBw hlb main fin
  cases ok with
  | false =>
    go_enter Try.func35, Try.ntmps35
    go_upto_region 1 with fail
    obtain ⟨W, hW⟩ : ∃ W, W = w.setCell ⟨g, 1, none⟩ (.bool false) := ⟨_, rfl⟩
    rw [← hW]
    have hv := HM.out false W (Lib.hid hW)
    rw [HF.out false rfl] at hv
    clear k1 fz hW
    go_wp2_with fail
    refine hv.mono ?_
    rintro e w' ⟨rfl, h2, h3⟩
    go_wp2_with fail
    go_end0
    exact ⟨rfl, h2, h3⟩
  | true =>
    have hv := fun W hW => HM.out (decide ((n : Int) ≤ 1024)) W hW
    rw [HF.out (decide ((n : Int) ≤ 1024)) (by rw [Bool.true_and]; exact decide_eq_decide.mpr (by omega))] at hv
    have HV := Lib.hid hv
    clear hv
    go_enter Try.func35, Try.ntmps35
    go_upto_region 1 with fail
    obtain ⟨W, hW⟩ : ∃ W, W = w.setCell ⟨g, 1, none⟩ (.bool (decide ((n : Int) ≤ 1024))) := ⟨_, rfl⟩
    rw [← hW]
    have hv := HV.out W (Lib.hid hW)
    clear k1 fz hW
    go_wp2_with fail
    refine hv.mono ?_
    rintro e w' ⟨rfl, h2, h3⟩
    go_wp2_with fail
    go_end0
    exact ⟨rfl, h2, h3⟩
/-- numbers of a row of one's own, just made -/
theorem nums_lit (l : List Int) (hl : ∀ x ∈ l, wfi x) (B g : Nat) (bs : List UInt8) (ok : Bool) (w0 w : World) (h : WSt B g w0 w bs ok) (hlb : bs.length + (numsB l).length ≤ 1000000000000) :
    Calls Try.prog 34 #[.pointer (some ⟨g, 0, none⟩), .slice (some ⟨w.heap.size, 0, none⟩) l.length l.length] (w.alloc (.cells (l.map (Value.int .i64)).toArray 3)) (WrQ B g w0 w (bs ++ numsB l) (ok && l.all numOk)) := by
  have ha : Below w.heap.size w (w.alloc (.cells (l.map (Value.int .i64)).toArray 3)) := (Below.refl _ _).alloc (Nat.le_refl _) _
  refine (nums_any l _ l.length B g bs ok _ (h.out.below ha) (argx_lit B w l hl) (by have := h.sz; simp; omega) hlb).mono ?_
  rintro e w' ⟨rfl, h2, h3, h4⟩
  have h5 := (ha.mono h.sz).trans h3
  exact ⟨rfl, ⟨h2, h.bel.trans h5, Nat.le_trans h.sz h5.size⟩, (KeepT.below ha).trans h4⟩
/-- numbers that lie below -/
theorem nums_row (l : List Int) (v : Value) (B g : Nat) (bs : List UInt8) (ok : Bool) (w0 w : World) (h : WSt B g w0 w bs ok) (hB : w0.heap.size ≤ B) (hl : SlR 1 IntC w0 v l) (hlb : bs.length + (numsB l).length ≤ 1000000000000) :
    Calls Try.prog 34 #[.pointer (some ⟨g, 0, none⟩), v] w (WrQ B g w0 w (bs ++ numsB l) (ok && l.all numOk)) := by
  obtain ⟨A, c, rfl, _, _⟩ := hl.slice
  refine (nums_any l A c B g bs ok _ h.out (fun i x hx => ?_) h.sz hlb).mono ?_
  · obtain ⟨b, off, c2, hv, _, _, _, cs, hcl, ⟨rfl, hw⟩, hc⟩ := hl.get hx
    injection hv with hv _ _
    subst hv
    have h0 := hc 0 _ rfl
    have hb := cell_in h0
    refine ⟨b, off, rfl, ?_, hw, .inl (by simp only at hb; omega)⟩
    simp only [Nat.mul_one, Nat.add_zero] at h0
    exact (h.bel.cell (by simp only at hb ⊢; omega)).trans h0
  rintro e w' ⟨rfl, h2, h3, h4⟩
  exact ⟨rfl, ⟨h2, h.bel.trans h3, Nat.le_trans h.sz h3.size⟩, h4⟩

set_option maxRecDepth 100000 in
set_option maxHeartbeats 2000000 in
theorem wstops_any (l : List TStop) (v : Value) (B g : Nat) (bs : List UInt8) (ok : Bool) (w0 w : World) (hst : WSt B g w0 w bs ok) (hB : w0.heap.size ≤ B) (hl : SlR 2 StopC w0 v l) (hlb : bs.length + (listBy stopBy l).length ≤ 1000000000) :
    Calls Try.prog 59 #[.pointer (some ⟨g, 0, none⟩), v] w (WrQ B g w0 w (bs ++ listBy stopBy l) (ok && listOk stopOk l)) := by
  obtain ⟨A, c, rfl, hc1, hc2⟩ := hl.slice
  unfold maxLen at hc2
  have C0 := Lib.hid (count_any l.length B g bs ok w0 w hst (by omega) (by omega))
  have HL := Lib.hid hl
  have HLB := Lib.hid hlb
  have nn : (0 : Int) ≤ (l.length : Int) := by omega
  clear hl hlb hst
  go_enter Try.func59, Try.ntmps59
  go_wp2_with fail
  refine C0.out.mono ?_
  rintro e w1 ⟨rfl, hx1, hk1⟩
  have HX1 := Lib.hid hx1
  have HK1 := Lib.hid hk1
  clear hx1 hk1
  go_wp2_with fail
  go_loopw [12] (fun i wr => ∃ r : Nat, r ≤ l.length ∧ i = .int .i64 r ∧ Hid (WSt B g w0 wr ((bs ++ numsB [(l.length : Int)]) ++ ((l.take r).map stopBy).flatten) ((ok && decide (l.length ≤ 1024)) && (l.take r).all stopOk)) ∧ Hid (KeepT w wr)) (fun i _ => l.length - (intOf i).toNat)
  case atStart => exact ⟨0, Nat.zero_le _, rfl, Lib.hid (by simpa using HX1.out), HK1⟩
  case round =>
    obtain ⟨r, hr, rfl, hX, hKt⟩ := hrel
    by_cases hlt : r < l.length
    · obtain ⟨x, hx⟩ : ∃ x, l[r]? = some x := ⟨_, List.getElem?_eq_getElem hlt⟩
      obtain ⟨b5, o5, c5, hv5, _, _, m0, m1, wx0, wx1⟩ := stops_get HL.out hx
      injection hv5 with hv5 _ hcap5
      subst hv5 hcap5
      have kc := KeepC.of_below (hX.out.bel.mono hB)
      replace m0 := kc _ _ m0
      replace m1 := kc _ _ m1
      clear kc
      obtain ⟨W, hW⟩ : ∃ W, W = wr.alloc (.cells #[.int .i64 x.ty, .int .i64 x.gd] 98) := ⟨_, rfl⟩
      have hbx : Blk W wr.heap.size 98 #[.int .i64 x.ty, .int .i64 x.gd] := by rw [hW]; exact Blk.new _ _ _
      have x0 := hbx.cell 0
      have x1 := hbx.cell 1
      have HKW : Hid (KeepT w W) := Lib.hid (by rw [hW]; exact hKt.out.trans (KeepT.alloc _ _))
      have N := Lib.hid (nums_lit [x.ty, x.gd] (by intro y hy; simp at hy; rcases hy with rfl | rfl <;> assumption) B g _ _ w0 W (by rw [hW]; exact hX.out.alloc _) (by
        have h1 := flat_le stopBy l (r + 1)
        rw [flat_take stopBy hx] at h1
        have h2 := HLB.out
        simp only [listBy, List.length_append, stopBy] at h1 h2 ⊢
        omega))
      clear hbx hX hKt
      go_upto_region 4 with fail
      rw [← hW]
      clear hW m0 m1
      go_wp2_with fail
      refine N.out.mono ?_
      rintro e w5 ⟨rfl, h2, h3⟩
      have H2 := Lib.hid h2
      have H3 := Lib.hid (HKW.out.trans h3)
      clear h2 h3 x0 x1
      go_wp2_with fail
      go_roundw
      case rel =>
        have H4 : Hid (WSt B g w0 w5 ((bs ++ numsB [(l.length : Int)]) ++ ((l.take (r + 1)).map stopBy).flatten) ((ok && decide (l.length ≤ 1024)) && (l.take (r + 1)).all stopOk)) := Lib.hid (by rw [flat_take stopBy hx, allp_take stopOk hx, ← List.append_assoc, ← Bool.and_assoc]; have h := H2.out; simp only [List.all_cons, List.all_nil, Bool.and_true] at h; exact h)
        first | exact ⟨r + 1, by omega, by go_num, H4, H3⟩ | ((repeat apply Exists.intro); exact ⟨⟨r + 1, by omega, by go_num, H4, H3⟩, rfl⟩)
      case measure => simp [intOf]; omega
    · go_wp2_with fail
      obtain rfl : r = l.length := by omega
      go_end0
      refine ⟨rfl, ?_, hKt.out⟩
      have h := hX.out
      rw [List.take_length] at h
      unfold listBy listOk
      rw [← List.append_assoc, ← Bool.and_assoc]
      exact h
end Go.Proofs.Ytioocaicmiggoaa

/- Ecd, Enf: texts merged for a claim by a program of mine. -/
import Derived.Test.YtioocaicmiggoaaA19
import Derived.Test.YtioocaicmiggoaaA17
import Derived.Test.YtioocaicmiggoaaA08
namespace Go.Proofs.Ytioocaicmiggoaa
set_option linter.unusedVariables false
set_option linter.unusedSimpArgs false
open Go.RowKit Go.Deep
attribute [local go_sem ↓] Go.wp_at_zero Go.wp_at_succ
theorem cells_at {α : Type} {F : Nat} {R : World → List Value → α → Prop} {w : World} {v : Value} {l : List α} (h : SlR F R w v l) {i : Nat} {x : α} (hx : l[i]? = some x) :
  ∃ b off c cs, v = .slice (some ⟨b, off, none⟩) l.length c ∧ l.length ≤ c ∧ c ≤ maxLen ∧ R w cs x ∧ ∀ (j : Nat) (u : Value), cs[j]? = some u → w.cell? ⟨b, off + i * F + j, none⟩ = some u := by
 obtain ⟨b, off, c, hv, h1, h2, hi, cs, hl, hr, hc⟩ := h.get hx
 exact ⟨b, off, c, cs, hv, h1, h2, hr, hc⟩
theorem bits_nat {x : Int} (h : wfu x) : ∃ n : Nat, x = (n : Int) ∧ n < 18446744073709551616 := by
 have h2 := bd_u64 h
 exact ⟨x.toNat, by omega, by omega⟩
theorem WSt.app {B g : Nat} {w0 w wi w2 : World} {bs m : List UInt8} {ok : Bool} {v v' : Value} {n : Nat} (h : WSt B g w0 w bs ok) (h1 : Blk w g 78 #[v, .bool ok]) (h2 : w.ownsRow B 5 1 v bs.length (bv bs)) (hb : Below w.heap.size w wi)
  (ho : w2.ownsRow B 5 1 v' n (bv bs ++ bv m)) (hn : n = bs.length + m.length) (hg : wi.grownBy w2 v.ownBlock) : WSt B g w0 (w2.setCell ⟨g, 0, none⟩ v') (bs ++ m) ok ∧ KeepT w (w2.setCell ⟨g, 0, none⟩ v') := by
 have k1 : Blk w2 g 78 #[v, .bool ok] := (h1.below hb h1.lt).grown hg (fun e => own_blk_ne h2 h1 (by decide) e.symm)
 refine ⟨⟨out_app h1 h2 h.out.lt.2 hb ho hn hg, below_app h.bel h.sz h2 h.out.lt.2 hb hg, ?_⟩, ((KeepT.below hb).trans (KeepT.grown (own_below2 h2 hb) hg)).trans (KeepT.set_ k1 0 _)⟩
 exact Nat.le_trans h.sz (Nat.le_trans hb.size (by simpa using hg.size))
set_option maxRecDepth 100000 in
set_option maxHeartbeats 8000000 in
theorem wcode_any (x : TCode) (vi vc vl : Value) (B g : Nat) (bs : List UInt8) (ok : Bool) (w0 w : World) (hst : WSt B g w0 w bs ok) (hB : w0.heap.size ≤ B) (hi : SlR 4 InpC w0 vi x.inputs) (hc : SlR 2 ValC w0 vc x.consts) (hl : SlR 4 InsC w0 vl x.list) (hreg : wfi x.regs) (hsl : wfi x.slots) (hlb : bs.length + (codeBy x).length ≤ 1000000000) :
  Calls Try.prog 37 #[.pointer (some ⟨g, 0, none⟩), .agg #[.int .i64 x.regs, .int .i64 x.slots, vi, vc, vl]] w (WrQ B g w0 w (bs ++ codeBy x) (ok && codeOk x)) := by
 obtain ⟨A1, c1, rfl, ha1, hb1⟩ := hi.slice
 obtain ⟨A2, c2, rfl, ha2, hb2⟩ := hc.slice
 obtain ⟨A3, c3, rfl, ha3, hb3⟩ := hl.slice
 unfold maxLen at hb1 hb2 hb3
 have HI := Lib.hid hi
 have HC := Lib.hid hc
 have HL := Lib.hid hl
 have HLB := Lib.hid hlb
 obtain ⟨i0, hi0, hz0, hz1, hz2⟩ := info_parts infoU8
 obtain ⟨W1, hW1⟩ : ∃ W, W = w.alloc (.cells #[.int .i64 x.regs, .int .i64 x.slots, .slice A1 x.inputs.length c1, .slice A2 x.consts.length c2, .slice A3 x.list.length c3] 40) := ⟨_, rfl⟩
 have BX : Hid (Blk W1 w.heap.size 40 #[.int .i64 x.regs, .int .i64 x.slots, .slice A1 x.inputs.length c1, .slice A2 x.consts.length c2, .slice A3 x.list.length c3]) := Lib.hid (by rw [hW1]; exact Blk.new _ _ _)
 have HK1 : Hid (KeepT w W1) := Lib.hid (by rw [hW1]; exact KeepT.alloc _ _)
 have CX := Lib.hid (nums_lit [x.regs, x.slots] (by intro y hy; simp at hy; rcases hy with rfl | rfl <;> assumption) B g bs ok w0 W1 (by rw [hW1]; exact hst.alloc _) (by
  have h2 := HLB.out
  simp only [codeBy, List.length_append] at h2
  omega))
 obtain ⟨x0, x1, x2, x3, x4⟩ := blk5 BX.out
 have HW1 := Lib.hid hW1
 clear hi hc hl hlb hst hW1
 go_enter Try.func37, Try.ntmps37
 go_upto_region 1 with fail
 rw [← HW1.out]
 clear HW1
 go_wp2_with fail
 refine CX.out.mono ?_
 rintro e w2 ⟨rfl, h2, k2⟩
 have H1 := Lib.hid h2
 have K1 := Lib.hid (HK1.out.trans k2)
 have B1 := Lib.hid (k2 _ _ _ BX.out (by decide) (by decide))
 clear x0 x1 x2 x3 x4 h2 k2 CX BX HK1
 obtain ⟨p0, hp0⟩ : ∃ p, p = bs ++ numsB [x.regs, x.slots] := ⟨_, rfl⟩
 obtain ⟨o0, ho0⟩ : ∃ o, o = (ok && [x.regs, x.slots].all numOk) := ⟨_, rfl⟩
 rw [← hp0, ← ho0] at H1
 have HLP : Hid (p0.length + ((listBy inpBy x.inputs).length + ((listBy valBy x.consts).length + (listBy insBy x.list).length)) ≤ 1000000000) := Lib.hid (by
  have h2 := HLB.out
  rw [hp0]
  simp only [codeBy, List.length_append] at h2 ⊢
  omega)
 have HP0 := Lib.hid hp0
 have HO0 := Lib.hid ho0
 clear hp0 ho0
 obtain ⟨x0, x1, x2, x3, x4⟩ := blk5 B1.out
 have CX := Lib.hid (count_any x.inputs.length B g p0 o0 w0 w2 H1.out (by omega) (by have := HLP.out; omega))
 go_wp2_with fail
 refine CX.out.mono ?_
 rintro e u1 ⟨rfl, h2, k2⟩
 have HX1 := Lib.hid h2
 have KX := Lib.hid (K1.out.trans k2)
 have BX := Lib.hid (k2 _ _ _ B1.out (by decide) (by decide))
 clear x0 x1 x2 x3 x4 h2 k2 CX K1 B1 H1
 obtain ⟨x0, x1, x2, x3, x4⟩ := blk5 BX.out
 have nn : (0 : Int) ≤ (x.inputs.length : Int) := by omega
 go_wp2_with fail
 clear x0 x1 x2 x3 x4
 go_loopw [25] (fun i wr => ∃ r : Nat, r ≤ x.inputs.length ∧ i = .int .i64 r ∧ Hid (WSt B g w0 wr ((p0 ++ numsB [(x.inputs.length : Int)]) ++ ((x.inputs.take r).map inpBy).flatten) ((o0 && decide (x.inputs.length ≤ 1024)) && (x.inputs.take r).all inpOk)) ∧ Hid (KeepT u1 wr)) (fun i _ => x.inputs.length - (intOf i).toNat)
 case atStart => exact ⟨0, Nat.zero_le _, rfl, Lib.hid (by simpa using HX1.out), Lib.hid (KeepT.refl _)⟩
 case round =>
  obtain ⟨r, hr, rfl, hX, hKt⟩ := hrel
  by_cases hlt : r < x.inputs.length
  ·obtain ⟨y, hx⟩ : ∃ y, x.inputs[r]? = some y := ⟨_, List.getElem?_eq_getElem hlt⟩
   obtain ⟨b5, q5, c5, cs5, hv5, _, _, ⟨rfl, wy0, wy1, wy2, wy3⟩, hcc⟩ := cells_at HI.out hx
   injection hv5 with hv5 _ hcap5
   subst hv5 hcap5
   have kc := KeepC.of_below (hX.out.bel.mono hB)
   have m0 := kc _ _ (hcc 0 _ rfl)
   have m1 := kc _ _ (hcc 1 _ rfl)
   have m2 := kc _ _ (hcc 2 _ rfl)
   have m3 := kc _ _ (hcc 3 _ rfl)
   clear kc hcc
   simp only [Nat.add_zero] at m0
   have HFL : Hid ((p0 ++ numsB [(x.inputs.length : Int)] ++ ((x.inputs.take r).map inpBy).flatten).length + (inpBy y).length ≤ 1000000000) := Lib.hid (by
    have h1 := flat_le inpBy x.inputs (r + 1)
    rw [flat_take inpBy hx] at h1
    have h2 := HLP.out
    simp only [listBy, List.length_append] at h1 h2 ⊢
    omega)
   obtain ⟨W, hW⟩ : ∃ W, W = wr.alloc (.cells #[.int .i64 y.op, .int .i64 y.kind, .int .i64 y.pos, .int .i64 y.attr] 70) := ⟨_, rfl⟩
   have hbx : Blk W wr.heap.size 70 #[.int .i64 y.op, .int .i64 y.kind, .int .i64 y.pos, .int .i64 y.attr] := by rw [hW]; exact Blk.new _ _ _
   have x0 := hbx.cell 0
   have x1 := hbx.cell 1
   have x2 := hbx.cell 2
   have x3 := hbx.cell 3
   have HKW : Hid (KeepT u1 W) := Lib.hid (by rw [hW]; exact hKt.out.trans (KeepT.alloc _ _))
   have N := Lib.hid (nums_lit [y.op, y.kind, y.pos, y.attr] (by intro z hz; simp at hz; rcases hz with rfl | rfl | rfl | rfl <;> assumption) B g _ _ w0 W (by rw [hW]; exact hX.out.alloc _) (by
    have h2 := HFL.out
    rw [show inpBy y = numsB [y.op, y.kind, y.pos, y.attr] from rfl] at h2
    omega))
   clear hbx hX hKt
   go_upto_region 6 with fail
   rw [← hW]
   clear hW m0 m1 m2 m3
   go_wp2_with fail
   refine N.out.mono ?_
   rintro e w5 ⟨rfl, h2, h3⟩
   have H2 := Lib.hid h2
   have H3 := Lib.hid (HKW.out.trans h3)
   clear h2 h3 x0 x1 x2 x3
   go_wp2_with fail
   go_roundw
   case rel =>
    have H4 : Hid (WSt B g w0 w5 ((p0 ++ numsB [(x.inputs.length : Int)]) ++ ((x.inputs.take (r + 1)).map inpBy).flatten) ((o0 && decide (x.inputs.length ≤ 1024)) && (x.inputs.take (r + 1)).all inpOk)) := Lib.hid (by rw [flat_take inpBy hx, allp_take inpOk hx, ← List.append_assoc, ← Bool.and_assoc]; have h := H2.out; simp only [List.all_cons, List.all_nil, Bool.and_true] at h; rw [show inpOk y = (numOk y.op && numOk y.kind && numOk y.pos && numOk y.attr) from rfl, show inpBy y = numsB [y.op, y.kind, y.pos, y.attr] from rfl]; simp only [Bool.and_assoc] at h ⊢; exact h)
    first | exact ⟨r + 1, by omega, by go_num, H4, H3⟩ | ((repeat apply Exists.intro); exact ⟨⟨r + 1, by omega, by go_num, H4, H3⟩, rfl⟩)
   case measure => simp [intOf]; omega
  ·have hge : (x.inputs.length : Int) ≤ (r : Int) := by omega
   have hXe := hX.out
   rw [show r = x.inputs.length by omega, List.take_length] at hXe
   obtain ⟨p1, hp⟩ : ∃ p, p = p0 ++ listBy inpBy x.inputs := ⟨_, rfl⟩
   obtain ⟨o1, ho⟩ : ∃ o, o = (o0 && listOk inpOk x.inputs) := ⟨_, rfl⟩
   have H2 : Hid (WSt B g w0 wr p1 o1) := Lib.hid (by rw [hp, ho]; unfold listBy listOk; rw [← List.append_assoc, ← Bool.and_assoc]; exact hXe)
   have K2 := Lib.hid (KX.out.trans hKt.out)
   have B2 := Lib.hid (hKt.out _ _ _ BX.out (by decide) (by decide))
   have HP1 := Lib.hid hp
   have HO1 := Lib.hid ho
   have HLP1 : Hid (p1.length + ((listBy valBy x.consts).length + (listBy insBy x.list).length) ≤ 1000000000) := Lib.hid (by rw [hp, List.length_append]; have := HLP.out; omega)
   clear hXe hX hKt KX BX hp ho
   obtain ⟨V1, hV⟩ : ∃ V, V = wr := ⟨wr, rfl⟩
   subst hV
   obtain ⟨x0, x1, x2, x3, x4⟩ := blk5 B2.out
   have CX := Lib.hid (count_any x.consts.length B g p1 o1 w0 V1 H2.out (by omega) (by have := HLP1.out; omega))
   go_wp2_with fail
   refine CX.out.mono ?_
   rintro e u2 ⟨rfl, h2, k2⟩
   have HX2 := Lib.hid h2
   have KX := Lib.hid (K2.out.trans k2)
   have BX := Lib.hid (k2 _ _ _ B2.out (by decide) (by decide))
   clear x0 x1 x2 x3 x4 h2 k2 CX K2 B2 H2
   obtain ⟨x0, x1, x2, x3, x4⟩ := blk5 BX.out
   have nn : (0 : Int) ≤ (x.consts.length : Int) := by omega
   go_wp2_with fail
   clear x0 x1 x2 x3 x4
   go_loopw [49] (fun i wr => ∃ r : Nat, r ≤ x.consts.length ∧ i = .int .i64 r ∧ Hid (WSt B g w0 wr ((p1 ++ numsB [(x.consts.length : Int)]) ++ ((x.consts.take r).map valBy).flatten) ((o1 && decide (x.consts.length ≤ 1024)) && (x.consts.take r).all valOk)) ∧ Hid (KeepT u2 wr)) (fun i _ => x.consts.length - (intOf i).toNat)
   case atStart => exact ⟨0, Nat.zero_le _, rfl, Lib.hid (by simpa using HX2.out), Lib.hid (KeepT.refl _)⟩
   case round =>
    obtain ⟨r, hr, rfl, hX, hKt⟩ := hrel
    by_cases hlt : r < x.consts.length
    ·obtain ⟨y, hx⟩ : ∃ y, x.consts[r]? = some y := ⟨_, List.getElem?_eq_getElem hlt⟩
     obtain ⟨b5, q5, c5, cs5, hv5, _, _, ⟨rfl, wy0, wy1⟩, hcc⟩ := cells_at HC.out hx
     injection hv5 with hv5 _ hcap5
     subst hv5 hcap5
     have kc := KeepC.of_below (hX.out.bel.mono hB)
     have m0 := kc _ _ (hcc 0 _ rfl)
     have m1 := kc _ _ (hcc 1 _ rfl)
     clear kc hcc
     simp only [Nat.add_zero] at m0
     have HFL : Hid ((p1 ++ numsB [(x.consts.length : Int)] ++ ((x.consts.take r).map valBy).flatten).length + (valBy y).length ≤ 1000000000) := Lib.hid (by
      have h1 := flat_le valBy x.consts (r + 1)
      rw [flat_take valBy hx] at h1
      have h2 := HLP1.out
      simp only [listBy, List.length_append] at h1 h2 ⊢
      omega)
     obtain ⟨nb, hnb, hn64⟩ := bits_nat wy1
     rw [hnb] at m1
     obtain ⟨W, hW⟩ : ∃ W, W = wr.alloc (.cells #[.int .i64 y.kind, .int .u64 (nb : Int)] 88) := ⟨_, rfl⟩
     have hbx : Blk W wr.heap.size 88 #[.int .i64 y.kind, .int .u64 (nb : Int)] := by rw [hW]; exact Blk.new _ _ _
     have HBX := Lib.hid hbx
     have x0 := hbx.cell 0
     have HKW : Hid (KeepT u2 W) := Lib.hid (by rw [hW]; exact hKt.out.trans (KeepT.alloc _ _))
     have N := Lib.hid (nums_lit [y.kind] (by intro z hz; simp at hz; subst hz; assumption) B g _ _ w0 W (by rw [hW]; exact hX.out.alloc _) (by
      have h2 := HFL.out
      rw [show valBy y = numsB [y.kind] ++ vb y.bits.toNat from rfl] at h2
      simp only [List.length_append] at h2 ⊢
      omega))
     have HNB := Lib.hid hnb
     obtain ⟨X, hX0⟩ : ∃ X, X = wr.heap.size := ⟨_, rfl⟩
     rw [← hX0] at HBX x0
     clear hbx hX hKt hnb
     go_upto_region 12 with fail
     rw [← hW, ← hX0]
     clear hW m0 m1 hX0
     go_wp2_with fail
     refine N.out.mono ?_
     rintro e w5 ⟨rfl, h2, h3⟩
     have H3 := Lib.hid (HKW.out.trans h3)
     have HB5 := Lib.hid (h3 _ _ _ HBX.out (by decide) (by decide))
     obtain ⟨ct, HCT⟩ : ∃ q, Hid (q = (p1 ++ numsB [(x.consts.length : Int)]) ++ ((x.consts.take r).map valBy).flatten ++ numsB [y.kind]) := ⟨_, Lib.hid rfl⟩
     obtain ⟨okr, HOK⟩ : ∃ q, Hid (q = (((o1 && decide (x.consts.length ≤ 1024)) && (x.consts.take r).all valOk) && [y.kind].all numOk)) := ⟨_, Lib.hid rfl⟩
     rw [← HCT.out, ← HOK.out] at h2
     have H2 := Lib.hid h2
     have HCL : Hid (ct.length + (vb nb).length ≤ 1000000000) := Lib.hid (by
      have h2 := HFL.out
      rw [HCT.out]
      rw [show valBy y = numsB [y.kind] ++ vb y.bits.toNat from rfl] at h2
      rw [HNB.out, Int.toNat_natCast] at h2
      simp only [List.length_append] at h2 ⊢
      omega)
     clear h2 h3 x0 N HFL
     go_upto_region 13 with fail
     obtain ⟨yo, hyo⟩ : ∃ yo, yo = World.drew w5 := ⟨_, rfl⟩
     have HBO : Hid (Below w5.heap.size w5 yo) := Lib.hid (by rw [hyo]; exact ⟨rfl, rfl, rfl, Nat.le_refl _, fun _ _ => rfl⟩)
     have HSO := Lib.hid (H2.out.below HBO.out)
     obtain ⟨v, hbv, hov, hgB⟩ := HSO.out.out
     have HBV := Lib.hid hbv
     have HOV := Lib.hid hov
     have HBY := Lib.hid (HB5.out.below HBO.out HB5.out.lt)
     have HSZ := Lib.hid HSO.out.sz
     have HS : Hid (yo.cell? ⟨g, 0, none⟩ = some v ∧ yo.cell? ⟨X, 1, none⟩ = some (.int .u64 (nb : Int))) := Lib.hid ⟨hbv.cell 0, HBY.out.cell 1⟩
     have CU := Lib.hid (ruint_any 9 nb yo hn64 (by omega))
     clear hbv hov hgB
     refine region_till (fun W => W.cell? ⟨g, 0, none⟩ = some v ∧ W.cell? ⟨X, 1, none⟩ = some (.int .u64 (nb : Int))) (fun j => !([0, 1, 2, 3, 4, 5, 6, 7, 8, 10] : List Nat).contains j) (by kernel_rfl) ?_
     rw [← hyo]
     clear hyo
     refine till_take (i := 0) (v := ?_) rfl (by kernel_rfl) (by kernel_rfl) (by kernel_rfl) (by kernel_rfl) (fun _ _ _ h => h) (Or.inl ⟨by kernel_rfl, ?_⟩) HS.out ?_
     rotate_left
     ·(intro w' hSw; obtain ⟨hc0, hc1⟩ := hSw; go_simp; try with_reducible rfl)
     refine till_take (i := 1) (v := ?_) rfl (by kernel_rfl) (by kernel_rfl) (by kernel_rfl) (by kernel_rfl) (fun _ _ _ h => h) (Or.inl ⟨by kernel_rfl, ?_⟩) HS.out ?_
     rotate_left
     ·(intro w' hSw; obtain ⟨hc0, hc1⟩ := hSw; go_simp; try with_reducible rfl)
     refine till_take (i := 2) (v := ?_) rfl (by kernel_rfl) (by kernel_rfl) (by kernel_rfl) (by kernel_rfl) (fun _ _ _ h => h) (Or.inl ⟨by kernel_rfl, ?_⟩) HS.out ?_
     rotate_left
     ·(intro w' hSw; obtain ⟨hc0, hc1⟩ := hSw; go_simp; try with_reducible rfl)
     refine till_take (i := 3) (v := ?_) rfl (by kernel_rfl) (by kernel_rfl) (by kernel_rfl) (by kernel_rfl) (fun _ _ _ h => h) (Or.inl ⟨by kernel_rfl, ?_⟩) HS.out ?_
     rotate_left
     ·(intro w' hSw; obtain ⟨hc0, hc1⟩ := hSw; go_simp; try with_reducible rfl)
     refine till_take (i := 4) (v := ?_) rfl (by kernel_rfl) (by kernel_rfl) (by kernel_rfl) (by kernel_rfl) (fun _ _ _ h => h) (Or.inl ⟨by kernel_rfl, ?_⟩) HS.out ?_
     rotate_left
     ·(intro w' hSw; obtain ⟨hc0, hc1⟩ := hSw; go_simp; try with_reducible rfl)
     refine till_take (i := 5) (v := ?_) rfl (by kernel_rfl) (by kernel_rfl) (by kernel_rfl) (by kernel_rfl) (fun _ _ _ h => h) (Or.inl ⟨by kernel_rfl, ?_⟩) HS.out ?_
     rotate_left
     ·(intro w' hSw; obtain ⟨hc0, hc1⟩ := hSw; go_simp; try with_reducible rfl)
     refine till_take (i := 6) (v := ?_) rfl (by kernel_rfl) (by kernel_rfl) (by kernel_rfl) (by kernel_rfl) (fun _ _ _ h => h) (Or.inl ⟨by kernel_rfl, ?_⟩) HS.out ?_
     rotate_left
     ·(intro w' hSw; obtain ⟨hc0, hc1⟩ := hSw; go_simp; try with_reducible rfl)
     refine till_ready (rs := [7]) (by kernel_rfl) (by simp) ?_
     refine TillAll.cons rfl (fun K hK => ?_) TillAll.nil
     go_simp
     go_wp2_with (go_at_call 60; refine CU.out.mono ?_; rintro e wi ⟨gi, ci, rfl, hoi, hbi⟩)
     have HBI := Lib.hid hbi
     have HOI := Lib.hid hoi
     have BI := Lib.hid (HBV.out.below hbi HBV.out.lt)
     have HS : Hid (wi.cell? ⟨g, 0, none⟩ = some v ∧ wi.cell? ⟨X, 1, none⟩ = some (.int .u64 (nb : Int))) := Lib.hid ⟨BI.out.cell 0, (HBY.out.below hbi HBY.out.lt).cell 1⟩
     clear hoi hbi CU
     (refine hK.out _ _ (fun _ => HS.out) ?_; clear hK K)
     refine till_ready (rs := [8]) (by kernel_rfl) (by simp) ?_
     refine TillAll.cons rfl (fun K hK => ?_) TillAll.nil
     refine step_append_any _ (by rfl) (.tmp 62) (.tmp 65) 47 (by rfl) B 5 i0 _ 1 1 Try.underlying47 hi0 hz0 hz1 hz2 rfl (by omega) v ct.length _ (by rfl) (own_below2 HOV.out HBI.out) wi.heap.size (some ⟨gi, 0, none⟩) (vb nb).length ci (bv (vb nb)) (by rfl) (Reads.of_own HOI.out) (bv_one _) (by have := HCL.out; unfold maxLen; omega) (by have := HCL.out; omega) (by have := HBI.out.size; have := HSZ.out; omega) ?_
     intro v' w6 ho hg hat
     obtain ⟨N6, hN6⟩ : ∃ N, N = ct.length + (vb nb).length := ⟨_, rfl⟩
     rw [← hN6] at ho
     obtain ⟨Av, cv, rfl⟩ := own_slice ho
     have HN6 := Lib.hid hN6
     clear hN6
     have HO2 := Lib.hid ho
     have HG2 := Lib.hid hg
     have B2 : Hid (Blk w6 g 78 #[v, .bool okr]) := Lib.hid (BI.out.grown hg (fun e => own_blk_ne HOV.out HBV.out (by decide) e.symm))
     have HS : Hid (w6.cell? ⟨g, 0, none⟩ = some v ∧ w6.cell? ⟨X, 1, none⟩ = some (.int .u64 (nb : Int))) := Lib.hid ⟨B2.out.cell 0, ((HBY.out.below HBI.out HBY.out.lt).grown hg (fun e => own_blk_ne HOV.out HBY.out (by decide) e.symm)).cell 1⟩
     clear ho hg hat
     (refine hK.out _ _ (fun _ => HS.out) ?_; clear hK K)
     refine till_pure (i := 9) (v := ?_) rfl (by kernel_rfl) (by kernel_rfl) (by kernel_rfl) (by kernel_rfl) (fun _ _ _ h => h) (Or.inl ⟨by kernel_rfl, ?_⟩) ?_
     rotate_left
     ·(intro w' _; go_simp; try with_reducible rfl)
     refine till_take (i := 10) (v := ?_) rfl (by kernel_rfl) (by kernel_rfl) (by kernel_rfl) (by kernel_rfl) (fun _ _ _ h => h) (Or.inl ⟨by kernel_rfl, ?_⟩) HS.out ?_
     rotate_left
     ·(intro w' hSw; obtain ⟨hc0, hc1⟩ := hSw; go_simp; try with_reducible rfl)
     refine till_ready (rs := [11]) (by kernel_rfl) (by simp) ?_
     refine TillAll.cons rfl (fun K hK => ?_) TillAll.nil
     have k0 := B2.out.cell 0
     have fz := B2.out.frozen 0
     go_simp
     (refine hK.out _ _ (fun h => absurd h (by decide)) ?_; clear hK K)
     clear k0 fz
     refine till_done (by kernel_rfl) ?_ _
     have HQ := Lib.hid (HSO.out.app HBV.out HOV.out HBI.out HO2.out HN6.out HG2.out)
     try simp only [Exit.then]
     go_wp2_with fail
     go_roundw
     case rel =>
      have H4 : Hid (WSt B g w0 (w6.setCell ⟨g, 0, none⟩ (.slice Av N6 cv)) ((p1 ++ numsB [(x.consts.length : Int)]) ++ ((x.consts.take (r + 1)).map valBy).flatten) ((o1 && decide (x.consts.length ≤ 1024)) && (x.consts.take (r + 1)).all valOk)) := Lib.hid (by
       have h := HQ.out.1
       rw [HCT.out, HOK.out] at h
       rw [flat_take valBy hx, allp_take valOk hx, ← List.append_assoc, ← Bool.and_assoc]
       rw [show valOk y = (numOk y.kind) from rfl, show valBy y = numsB [y.kind] ++ vb y.bits.toNat from rfl]
       rw [HNB.out, Int.toNat_natCast]
       simp only [List.all_cons, List.all_nil, Bool.and_true, List.append_assoc] at h ⊢
       exact h)
      have H5 := Lib.hid (H3.out.trans ((KeepT.below HBO.out).trans HQ.out.2))
      first | exact ⟨r + 1, by omega, by go_num, H4, H5⟩ | ((repeat apply Exists.intro); exact ⟨⟨r + 1, by omega, by go_num, H4, H5⟩, rfl⟩)
     case measure => simp [intOf]; omega
    ·have hge : (x.consts.length : Int) ≤ (r : Int) := by omega
     have hXe := hX.out
     rw [show r = x.consts.length by omega, List.take_length] at hXe
     obtain ⟨p2, hp⟩ : ∃ p, p = p1 ++ listBy valBy x.consts := ⟨_, rfl⟩
     obtain ⟨o2, ho⟩ : ∃ o, o = (o1 && listOk valOk x.consts) := ⟨_, rfl⟩
     have H3 : Hid (WSt B g w0 wr p2 o2) := Lib.hid (by rw [hp, ho]; unfold listBy listOk; rw [← List.append_assoc, ← Bool.and_assoc]; exact hXe)
     have K3 := Lib.hid (KX.out.trans hKt.out)
     have B3 := Lib.hid (hKt.out _ _ _ BX.out (by decide) (by decide))
     have HP2 := Lib.hid hp
     have HO2 := Lib.hid ho
     have HLP2 : Hid (p2.length + (listBy insBy x.list).length ≤ 1000000000) := Lib.hid (by rw [hp, List.length_append]; have := HLP1.out; omega)
     clear hXe hX hKt KX BX hp ho
     obtain ⟨V2, hV⟩ : ∃ V, V = wr := ⟨wr, rfl⟩
     subst hV
     obtain ⟨x0, x1, x2, x3, x4⟩ := blk5 B3.out
     have CX := Lib.hid (count_any x.list.length B g p2 o2 w0 V2 H3.out (by omega) (by have := HLP2.out; omega))
     go_wp2_with fail
     refine CX.out.mono ?_
     rintro e u3 ⟨rfl, h2, k2⟩
     have HX3 := Lib.hid h2
     have KX := Lib.hid (K3.out.trans k2)
     have BX := Lib.hid (k2 _ _ _ B3.out (by decide) (by decide))
     clear x0 x1 x2 x3 x4 h2 k2 CX K3 B3 H3
     obtain ⟨x0, x1, x2, x3, x4⟩ := blk5 BX.out
     have nn : (0 : Int) ≤ (x.list.length : Int) := by omega
     go_wp2_with fail
     clear x0 x1 x2 x3 x4
     go_loopw [78] (fun i wr => ∃ r : Nat, r ≤ x.list.length ∧ i = .int .i64 r ∧ Hid (WSt B g w0 wr ((p2 ++ numsB [(x.list.length : Int)]) ++ ((x.list.take r).map insBy).flatten) ((o2 && decide (x.list.length ≤ 1024)) && (x.list.take r).all insOk)) ∧ Hid (KeepT u3 wr)) (fun i _ => x.list.length - (intOf i).toNat)
     case atStart => exact ⟨0, Nat.zero_le _, rfl, Lib.hid (by simpa using HX3.out), Lib.hid (KeepT.refl _)⟩
     case round =>
      obtain ⟨r, hr, rfl, hX, hKt⟩ := hrel
      by_cases hlt : r < x.list.length
      ·obtain ⟨y, hx⟩ : ∃ y, x.list[r]? = some y := ⟨_, List.getElem?_eq_getElem hlt⟩
       obtain ⟨b5, q5, c5, cs5, hv5, _, _, ⟨rfl, wy0, wy1, wy2, wy3⟩, hcc⟩ := cells_at HL.out hx
       injection hv5 with hv5 _ hcap5
       subst hv5 hcap5
       have kc := KeepC.of_below (hX.out.bel.mono hB)
       have m0 := kc _ _ (hcc 0 _ rfl)
       have m1 := kc _ _ (hcc 1 _ rfl)
       have m2 := kc _ _ (hcc 2 _ rfl)
       have m3 := kc _ _ (hcc 3 _ rfl)
       clear kc hcc
       simp only [Nat.add_zero] at m0
       have HFL : Hid ((p2 ++ numsB [(x.list.length : Int)] ++ ((x.list.take r).map insBy).flatten).length + (insBy y).length ≤ 1000000000) := Lib.hid (by
        have h1 := flat_le insBy x.list (r + 1)
        rw [flat_take insBy hx] at h1
        have h2 := HLP2.out
        simp only [listBy, List.length_append] at h1 h2 ⊢
        omega)
       obtain ⟨W, hW⟩ : ∃ W, W = wr.alloc (.cells #[.int .i64 y.op, .int .i64 y.dst, .int .i64 y.a, .int .i64 y.b] 75) := ⟨_, rfl⟩
       have hbx : Blk W wr.heap.size 75 #[.int .i64 y.op, .int .i64 y.dst, .int .i64 y.a, .int .i64 y.b] := by rw [hW]; exact Blk.new _ _ _
       have x0 := hbx.cell 0
       have x1 := hbx.cell 1
       have x2 := hbx.cell 2
       have x3 := hbx.cell 3
       have HKW : Hid (KeepT u3 W) := Lib.hid (by rw [hW]; exact hKt.out.trans (KeepT.alloc _ _))
       have N := Lib.hid (nums_lit [y.op, y.dst, y.a, y.b] (by intro z hz; simp at hz; rcases hz with rfl | rfl | rfl | rfl <;> assumption) B g _ _ w0 W (by rw [hW]; exact hX.out.alloc _) (by
        have h2 := HFL.out
        rw [show insBy y = numsB [y.op, y.dst, y.a, y.b] from rfl] at h2
        omega))
       clear hbx hX hKt
       go_upto_region 19 with fail
       rw [← hW]
       clear hW m0 m1 m2 m3
       go_wp2_with fail
       refine N.out.mono ?_
       rintro e w5 ⟨rfl, h2, h3⟩
       have H2 := Lib.hid h2
       have H3 := Lib.hid (HKW.out.trans h3)
       clear h2 h3 x0 x1 x2 x3
       go_wp2_with fail
       go_roundw
       case rel =>
        have H4 : Hid (WSt B g w0 w5 ((p2 ++ numsB [(x.list.length : Int)]) ++ ((x.list.take (r + 1)).map insBy).flatten) ((o2 && decide (x.list.length ≤ 1024)) && (x.list.take (r + 1)).all insOk)) := Lib.hid (by rw [flat_take insBy hx, allp_take insOk hx, ← List.append_assoc, ← Bool.and_assoc]; have h := H2.out; simp only [List.all_cons, List.all_nil, Bool.and_true] at h; rw [show insOk y = (numOk y.op && numOk y.dst && numOk y.a && numOk y.b) from rfl, show insBy y = numsB [y.op, y.dst, y.a, y.b] from rfl]; simp only [Bool.and_assoc] at h ⊢; exact h)
        first | exact ⟨r + 1, by omega, by go_num, H4, H3⟩ | ((repeat apply Exists.intro); exact ⟨⟨r + 1, by omega, by go_num, H4, H3⟩, rfl⟩)
       case measure => simp [intOf]; omega
      ·have hge : (x.list.length : Int) ≤ (r : Int) := by omega
       have hXe := hX.out
       rw [show r = x.list.length by omega, List.take_length] at hXe
       obtain ⟨p3, hp⟩ : ∃ p, p = p2 ++ listBy insBy x.list := ⟨_, rfl⟩
       obtain ⟨o3, ho⟩ : ∃ o, o = (o2 && listOk insOk x.list) := ⟨_, rfl⟩
       have H4 : Hid (WSt B g w0 wr p3 o3) := Lib.hid (by rw [hp, ho]; unfold listBy listOk; rw [← List.append_assoc, ← Bool.and_assoc]; exact hXe)
       have K4 := Lib.hid (KX.out.trans hKt.out)
       have B4 := Lib.hid (hKt.out _ _ _ BX.out (by decide) (by decide))
       have HP3 := Lib.hid hp
       have HO3 := Lib.hid ho
       clear hXe hX hKt KX BX hp ho
       obtain ⟨V3, hV⟩ : ∃ V, V = wr := ⟨wr, rfl⟩
       subst hV
       go_wp2_with fail
       go_end0
       refine ⟨rfl, ?_, K4.out⟩
       have h := H4.out
       rw [HP3.out, HO3.out, HP2.out, HO2.out, HP1.out, HO1.out, HP0.out, HO0.out] at h
       have e1 : bs ++ codeBy x = bs ++ numsB [x.regs, x.slots] ++ listBy inpBy x.inputs ++ listBy valBy x.consts ++ listBy insBy x.list := by unfold codeBy; simp only [List.append_assoc]
       have e2 : (ok && codeOk x) = ((((ok && [x.regs, x.slots].all numOk) && listOk inpOk x.inputs) && listOk valOk x.consts) && listOk insOk x.list) := by unfold codeOk; simp [Bool.and_assoc]
       rw [e1, e2]
       exact h
end Go.Proofs.Ytioocaicmiggoaa
namespace Go.Proofs.Ytioocaicmiggoaa
set_option linter.unusedVariables false
set_option linter.unusedSimpArgs false
open Go.RowKit Go.Deep
attribute [local go_sem ↓] Go.wp_at_zero Go.wp_at_succ
set_option maxRecDepth 100000 in
set_option maxHeartbeats 4000000 in
theorem nums_first (a : Int) (hwa : wfi a) (B g : Nat) (v : Value) (l : List UInt8) (w0 w : World) (hb : Blk w g 78 #[v, .bool true]) (hown : OwnB B w v l) (hBg : B ≤ g) (hbel : Below B w0 w) (hsz : B ≤ w.heap.size) (hl : l.length ≤ 1000) :
  Calls Try.prog 34 #[.pointer (some ⟨g, 0, none⟩), .slice (some ⟨w.heap.size, 0, none⟩) 1 1] (w.alloc (.cells #[.int .i64 a] 3)) (WrQ B g w0 w (l ++ numsB [a]) (numOk a)) := by
 obtain ⟨i0, hi0, hz0, hz1, hz2⟩ := info_parts infoU8
 obtain ⟨W1, hW1⟩ : ∃ W, W = w.alloc (.cells #[.int .i64 a] 3) := ⟨_, rfl⟩
 have ha1 : Below w.heap.size w W1 := by rw [hW1]; exact (Below.refl _ _).alloc (Nat.le_refl _) _
 have HB1 := Lib.hid (hb.below ha1 hb.lt)
 have HO1 := Lib.hid (hown.below ha1)
 have HA1 := Lib.hid ha1
 have HBL := Lib.hid hbel
 have HSZ := Lib.hid hsz
 have HBG := Lib.hid hBg
 have m0 : W1.cell? ⟨w.heap.size, 0, none⟩ = some (.int .i64 a) := by rw [hW1]; exact (Blk.new w 3 #[.int .i64 a]).cell 0
 have HWA : Hid (-9223372036854775808 ≤ a ∧ a ≤ 9223372036854775807) := Lib.hid (bd_i64 hwa)
 have HLL := Lib.hid hl
 rw [← hW1]
 clear hb hown hbel hsz ha1 hW1 hBg hl
 go_enter Try.func34, Try.ntmps34
 go_wp2_with fail
 go_loopw [8] (fun i wr => (i = .int .i64 0 ∧ wr = W1) ∨ (i = .int .i64 1 ∧ Hid (WSt B g w0 wr (l ++ numsB [a]) (numOk a)) ∧ Hid (KeepT w wr))) (fun i _ => 1 - (intOf i).toNat)
 case atStart => exact .inl ⟨rfl, rfl⟩
 case round =>
  rcases hrel with ⟨rfl, rfl⟩ | ⟨rfl, H2, H3⟩
  ·have k0 := HB1.out.cell 0
   have k1 := HB1.out.cell 1
   have fz := HB1.out.frozen 1
   go_upto_region 3 with fail
   go_cut [5] (fun b wx => b = .int .i64 a ∧ wx = wr.setCell ⟨g, 1, none⟩ (.bool (numOk a)))
   case first =>
    by_cases h1 : a ≥ -1
    ·by_cases h2 : a ≤ 1152921504606846976
     ·have hok : numOk a = true := by simp [numOk, h1, h2]
      have HQ := Lib.hid hok
      clear hok
      go_wp2_with fail
      go_meet
      exact ⟨rfl, by rw [HQ.out]⟩
     ·have hok : numOk a = false := by simp [numOk]; omega
      have HQ := Lib.hid hok
      have h2 : 1152921504606846976 < a := by omega
      have hd : decide (a ≤ 1152921504606846976) = false := decide_eq_false (by omega)
      clear hok
      go_wp2_with fail
      go_meet
      exact ⟨rfl, by rw [HQ.out]⟩
    ·have hok : numOk a = false := by simp [numOk]; omega
     have HQ := Lib.hid hok
     have h1 : a < -1 := by omega
     have hd : decide (-1 ≤ a) = false := decide_eq_false (by omega)
     clear hok
     go_wp2_with fail
     go_meet
     exact ⟨rfl, by rw [HQ.out]⟩
   case rest =>
    obtain ⟨rfl, hwx⟩ := hcut
    obtain ⟨okr, HOK⟩ : ∃ q, Hid (q = numOk a) := ⟨_, Lib.hid rfl⟩
    rw [← HOK.out] at hwx
    have HB2 : Hid (Blk wc g 78 #[v, .bool okr]) := Lib.hid (by rw [hwx]; simpa using HB1.out.set_ 1 (.bool okr))
    have HO2 : Hid (OwnB B wc v l) := Lib.hid (by rw [hwx]; exact HO1.out.far (HO1.out.ne HB1.out (by decide)) _)
    have HA2 : Hid (Below B w0 wc) := Lib.hid (by rw [hwx]; exact (HBL.out.trans (HA1.out.mono HSZ.out)).setCell HBG.out _)
    have HK2 : Hid (KeepT w wc) := Lib.hid (by rw [hwx]; exact (KeepT.below HA1.out).trans (KeepT.set_ HB1.out 1 _))
    have HZ2 : Hid (B ≤ wc.heap.size) := Lib.hid (by rw [hwx]; simp only [World.size_setCell]; exact Nat.le_trans HSZ.out HA1.out.size)
    clear hwx k0 k1 fz m0
    go_upto_region 4 with fail
    obtain ⟨yo, hyo⟩ : ∃ yo, yo = World.drew wc := ⟨_, rfl⟩
    have HBO : Hid (Below wc.heap.size wc yo) := Lib.hid (by rw [hyo]; exact ⟨rfl, rfl, rfl, Nat.le_refl _, fun _ _ => rfl⟩)
    have HBY := Lib.hid (HB2.out.below HBO.out HB2.out.lt)
    have HOY := Lib.hid (HO2.out.below HBO.out)
    have HAY := Lib.hid (HA2.out.trans (HBO.out.mono HZ2.out))
    have HKY := Lib.hid (HK2.out.trans (KeepT.below HBO.out))
    have HZY := Lib.hid (Nat.le_trans HZ2.out HBO.out.size)
    have HS : Hid (yo.cell? ⟨g, 0, none⟩ = some v) := Lib.hid (HBY.out.cell 0)
    have CI := Lib.hid (rint_any a yo HWA.out.1 HWA.out.2)
    clear HB2 HO2 HA2 HK2 HBO
    refine region_till (fun W => W.cell? ⟨g, 0, none⟩ = some v) (fun j => !([0, 1, 2, 3, 4, 5, 6, 7, 9] : List Nat).contains j) (by kernel_rfl) ?_
    rw [← hyo]
    clear hyo
    refine till_take (i := 0) (v := ?_) rfl (by kernel_rfl) (by kernel_rfl) (by kernel_rfl) (by kernel_rfl) (fun _ _ _ h => h) (Or.inl ⟨by kernel_rfl, ?_⟩) HS.out ?_
    rotate_left
    ·(intro w' hSw; obtain hc0 := hSw; go_simp; try with_reducible rfl)
    refine till_take (i := 1) (v := ?_) rfl (by kernel_rfl) (by kernel_rfl) (by kernel_rfl) (by kernel_rfl) (fun _ _ _ h => h) (Or.inl ⟨by kernel_rfl, ?_⟩) HS.out ?_
    rotate_left
    ·(intro w' hSw; obtain hc0 := hSw; go_simp; try with_reducible rfl)
    refine till_take (i := 2) (v := ?_) rfl (by kernel_rfl) (by kernel_rfl) (by kernel_rfl) (by kernel_rfl) (fun _ _ _ h => h) (Or.inl ⟨by kernel_rfl, ?_⟩) HS.out ?_
    rotate_left
    ·(intro w' hSw; obtain hc0 := hSw; go_simp; try with_reducible rfl)
    refine till_take (i := 3) (v := ?_) rfl (by kernel_rfl) (by kernel_rfl) (by kernel_rfl) (by kernel_rfl) (fun _ _ _ h => h) (Or.inl ⟨by kernel_rfl, ?_⟩) HS.out ?_
    rotate_left
    ·(intro w' hSw; obtain hc0 := hSw; go_simp; try with_reducible rfl)
    refine till_take (i := 4) (v := ?_) rfl (by kernel_rfl) (by kernel_rfl) (by kernel_rfl) (by kernel_rfl) (fun _ _ _ h => h) (Or.inl ⟨by kernel_rfl, ?_⟩) HS.out ?_
    rotate_left
    ·(intro w' hSw; obtain hc0 := hSw; go_simp; try with_reducible rfl)
    refine till_take (i := 5) (v := ?_) rfl (by kernel_rfl) (by kernel_rfl) (by kernel_rfl) (by kernel_rfl) (fun _ _ _ h => h) (Or.inl ⟨by kernel_rfl, ?_⟩) HS.out ?_
    rotate_left
    ·(intro w' hSw; obtain hc0 := hSw; go_simp; try with_reducible rfl)
    refine till_ready (rs := [6]) (by kernel_rfl) (by simp) ?_
    refine TillAll.cons rfl (fun K hK => ?_) TillAll.nil
    go_simp
    go_wp2_with (go_at_call 58; refine CI.out.mono ?_; rintro e wi ⟨gi, ci, rfl, hoi, hbi⟩)
    have HBI := Lib.hid hbi
    have HOI := Lib.hid hoi
    have BI := Lib.hid (HBY.out.below hbi HBY.out.lt)
    have HS : Hid (wi.cell? ⟨g, 0, none⟩ = some v) := Lib.hid (BI.out.cell 0)
    clear hoi hbi CI
    (refine hK.out _ _ (fun _ => HS.out) ?_; clear hK K)
    refine till_ready (rs := [7]) (by kernel_rfl) (by simp) ?_
    refine TillAll.cons rfl (fun K hK => ?_) TillAll.nil
    refine step_append_b (by rfl) (.tmp 31) (.tmp 33) 47 (by rfl) (B := B) (v := v) (l := l) i0 Try.underlying47 hi0 hz0 hz1 hz2 (by rfl) (HOY.out.below HBI.out) wi.heap.size (some ⟨gi, 0, none⟩) (vb (zig a)).length ci (vb (zig a)) (by rfl) (Reads.of_own HOI.out) (vb_len _).1 (by have := HLL.out; have := (vb_len (zig a)).2; omega) (by have := HBI.out.size; have := HZY.out; omega) ?_
    intro v' w6 ho hg
    obtain ⟨N6, hN6⟩ : ∃ N, N = l.length + (vb (zig a)).length := ⟨_, rfl⟩
    rw [← hN6] at ho
    obtain ⟨Av, cv, rfl⟩ := own_slice ho
    have HN6 := Lib.hid hN6
    clear hN6
    have HO6 := Lib.hid ho
    have HG6 := Lib.hid hg
    have B6 : Hid (Blk w6 g 78 #[v, .bool okr]) := Lib.hid (BI.out.grown hg (fun e => HOY.out.ne HBY.out (by decide) e.symm))
    have HS : Hid (w6.cell? ⟨g, 0, none⟩ = some v) := Lib.hid (B6.out.cell 0)
    clear ho hg
    (refine hK.out _ _ (fun _ => HS.out) ?_; clear hK K)
    refine till_pure (i := 8) (v := ?_) rfl (by kernel_rfl) (by kernel_rfl) (by kernel_rfl) (by kernel_rfl) (fun _ _ _ h => h) (Or.inl ⟨by kernel_rfl, ?_⟩) ?_
    rotate_left
    ·(intro w' _; go_simp; try with_reducible rfl)
    refine till_take (i := 9) (v := ?_) rfl (by kernel_rfl) (by kernel_rfl) (by kernel_rfl) (by kernel_rfl) (fun _ _ _ h => h) (Or.inl ⟨by kernel_rfl, ?_⟩) HS.out ?_
    rotate_left
    ·(intro w' hSw; obtain hc0 := hSw; go_simp; try with_reducible rfl)
    refine till_ready (rs := [10]) (by kernel_rfl) (by simp) ?_
    refine TillAll.cons rfl (fun K hK => ?_) TillAll.nil
    have k0 := B6.out.cell 0
    have fz := B6.out.frozen 0
    go_simp
    (refine hK.out _ _ (fun h => absurd h (by decide)) ?_; clear hK K)
    clear k0 fz
    refine till_done (by kernel_rfl) ?_ _
    have HW : Hid (WSt B g w0 (w6.setCell ⟨g, 0, none⟩ (.slice Av N6 cv)) (l ++ numsB [a]) (numOk a)) := Lib.hid (by
     have hnb : numsB [a] = vb (zig a) := by simp [numsB]
     rw [hnb, ← HOK.out]
     have ho : w6.ownsRow B 5 1 (.slice Av N6 cv) (l ++ vb (zig a)).length (bv (l ++ vb (zig a))) := by
      have h := HO6.out
      rw [bv_app, List.length_append, ← HN6.out]
      exact h
     refine ⟨⟨_, by simpa using B6.out.set_ 0 (.slice Av N6 cv), own_far2 ho (own_blk_ne ho B6.out (by decide)) _, HBG.out⟩, ?_, ?_⟩
     ·exact ((HAY.out.trans (HBI.out.mono HZY.out)).grown HG6.out (Nat.le_trans HZY.out HBI.out.size) (fun q hq => (HOY.out.lt hq).2)).setCell HBG.out _
     ·rw [World.size_setCell]; exact Nat.le_trans HZY.out (Nat.le_trans HBI.out.size HG6.out.size))
    have HK : Hid (KeepT w (w6.setCell ⟨g, 0, none⟩ (.slice Av N6 cv))) := Lib.hid (((HKY.out.trans (KeepT.below HBI.out)).trans (fun b t cs h1 h2 _ => h1.grown HG6.out (fun e => (HOY.out.below HBI.out).ne h1 h2 e.symm))).trans (KeepT.set_ B6.out 0 _))
    try simp only [Exit.then]
    go_wp2_with fail
    go_roundw
    case rel => first | exact .inr ⟨rfl, HW, HK⟩ | exact .inr ⟨by go_num, HW, HK⟩
    case measure => simp [intOf]
  ·go_wp2_with fail
   go_end0
   exact ⟨rfl, H2.out, H3.out⟩
end Go.Proofs.Ytioocaicmiggoaa

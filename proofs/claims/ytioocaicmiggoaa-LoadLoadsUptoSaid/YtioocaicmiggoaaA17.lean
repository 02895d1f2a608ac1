/- Srw, Spl: texts merged for a claim by a program of mine. -/
import Derived.Test.YtioocaicmiggoaaA07
namespace Go.Proofs.Ytioocaicmiggoaa
set_option linter.unusedVariables false
set_option linter.unusedSimpArgs false
open Go.RowKit Go.Deep
theorem mInt_wf (b : Bool) : wfi (mInt b) := by cases b <;> (unfold mInt wfi; decide)
theorem mInt_ok (b : Bool) : numOk (mInt b) = true := by cases b <;> decide
set_option maxRecDepth 100000 in
set_option maxHeartbeats 4000000 in
theorem wrows_any (l : List TRow) (v : Value) (B g : Nat) (bs : List UInt8) (ok : Bool) (w0 w : World) (hst : WSt B g w0 w bs ok) (hB : w0.heap.size ≤ B) (hl : SlR 8 RowC w0 v l) (hlb : bs.length + (listBy rowBy l).length ≤ 1000000000) :
  Calls Try.prog 36 #[.pointer (some ⟨g, 0, none⟩), v] w (WrQ B g w0 w (bs ++ listBy rowBy l) (ok && listOk rowOk l)) := by
 obtain ⟨A, c, rfl, hc1, hc2⟩ := hl.slice
 unfold maxLen at hc2
 have C0 := Lib.hid (count_any l.length B g bs ok w0 w hst (by omega) (by omega))
 have HL := Lib.hid hl
 have HLB := Lib.hid hlb
 have HBB := Lib.hid hB
 have nn : (0 : Int) ≤ (l.length : Int) := by omega
 clear hl hlb hst hB
 go_enter Try.func36, Try.ntmps36
 go_wp2_with fail
 refine C0.out.mono ?_
 rintro e w1 ⟨rfl, hx1, hk1⟩
 have HX1 := Lib.hid hx1
 have HK1 := Lib.hid hk1
 clear hx1 hk1
 go_wp2_with fail
 go_loopw [15] (fun i wr => ∃ r : Nat, r ≤ l.length ∧ i = .int .i64 r ∧ Hid (WSt B g w0 wr ((bs ++ numsB [(l.length : Int)]) ++ ((l.take r).map rowBy).flatten) ((ok && decide (l.length ≤ 1024)) && (l.take r).all rowOk)) ∧ Hid (KeepT w wr)) (fun i _ => l.length - (intOf i).toNat)
 case atStart => exact ⟨0, Nat.zero_le _, rfl, Lib.hid (by simpa using HX1.out), HK1⟩
 case round =>
  obtain ⟨r, hr, rfl, hX, hKt⟩ := hrel
  by_cases hlt : r < l.length
  ·obtain ⟨x, hx⟩ : ∃ x, l[r]? = some x := ⟨_, List.getElem?_eq_getElem hlt⟩
   obtain ⟨b5, o5, c5, vb, ve, hv5, _, _, m0, m1, m2, m3, m4, m5, m6, m7, hsb, hte, wx0, wx1, wx3, wx5, wx6⟩ := rows_get HL.out hx
   injection hv5 with hv5 _ hcap5
   subst hv5 hcap5
   have kc := KeepC.of_below (hX.out.bel.mono HBB.out)
   replace m0 := kc _ _ m0
   replace m1 := kc _ _ m1
   replace m2 := kc _ _ m2
   obtain ⟨mb, hmb⟩ : ∃ mb, x.many = mb := ⟨_, rfl⟩
   rw [hmb] at m2
   have HMB := Lib.hid hmb
   replace m3 := kc _ _ m3
   replace m4 := kc _ _ m4
   replace m5 := kc _ _ m5
   replace m6 := kc _ _ m6
   replace m7 := kc _ _ m7
   obtain ⟨A6, c6, rfl, hn6, hn7⟩ := hte.slice
   obtain ⟨A4, c4, rfl, _, _⟩ := hsb.slice
   unfold maxLen at hn7
   have HSB := Lib.hid hsb
   have HTE := Lib.hid hte
   have HXR := Lib.hid hx
   clear kc hsb hte hmb
   obtain ⟨pre, hpre⟩ : ∃ q, q = (bs ++ numsB [(l.length : Int)]) ++ ((l.take r).map rowBy).flatten := ⟨_, rfl⟩
   obtain ⟨okp, hokp⟩ : ∃ q, q = ((ok && decide (l.length ≤ 1024)) && (l.take r).all rowOk) := ⟨_, rfl⟩
   have HN : Hid (∀ bs' ok', bs' = pre ++ rowBy x → ok' = (okp && rowOk x) → bs' = (bs ++ numsB [(l.length : Int)]) ++ ((l.take (r + 1)).map rowBy).flatten ∧ ok' = ((ok && decide (l.length ≤ 1024)) && (l.take (r + 1)).all rowOk)) := Lib.hid (fun bs' ok' h1 h2 => by
    rw [flat_take rowBy hx, allp_take rowOk hx, ← List.append_assoc, ← Bool.and_assoc, ← hpre, ← hokp]
    exact ⟨h1, h2⟩)
   have HP : Hid (pre.length + (rowBy x).length ≤ 1000000000) := Lib.hid (by
    have h1 := flat_le rowBy l (r + 1)
    rw [flat_take rowBy hx] at h1
    have h2 := HLB.out
    rw [hpre]
    simp only [listBy, List.length_append] at h1 h2 ⊢
    omega)
   rw [← hpre, ← hokp] at hX
   clear hpre hokp hx
   obtain ⟨W, hW⟩ : ∃ W, W = wr.alloc (.cells #[.int .i64 x.par, .int .i64 x.ty, .bool mb, .int .i64 x.win, .slice A4 x.bars.length c4, .int .i64 x.leave, .int .i64 x.guard, .slice A6 x.ends.length c6] 46) := ⟨_, rfl⟩
   have hbx : Blk W wr.heap.size 46 #[.int .i64 x.par, .int .i64 x.ty, .bool mb, .int .i64 x.win, .slice A4 x.bars.length c4, .int .i64 x.leave, .int .i64 x.guard, .slice A6 x.ends.length c6] := by rw [hW]; exact Blk.new _ _ _
   obtain ⟨x0, x1, x2, x3, x4, x5, x6, x7⟩ := blk8s hbx
   have HKW : Hid (KeepT w W) := Lib.hid (by rw [hW]; exact hKt.out.trans (KeepT.alloc _ _))
   have N1 := Lib.hid (nums_lit [x.par, x.ty, mInt mb, x.win] (by intro y hy; simp at hy; rcases hy with rfl | rfl | rfl | rfl <;> first | assumption | exact mInt_wf _) B g pre okp w0 W (by rw [hW]; exact hX.out.alloc _) (by
    have h2 := HP.out
    simp only [rowBy, List.length_append, HMB.out] at h2 ⊢
    omega))
   have HBX := Lib.hid hbx
   clear hbx hX hKt
   go_upto_region 5 with fail
   rw [← hW]
   clear hW m0 m1 m2 m3 m4 m5 m6 m7
   go_upto_if 20 with fail
   go_cut [6] from 6 to 6 (fun s wx => s = .int .i64 (mInt mb) ∧ wx = W)
   case first =>
    cases mb <;> (go_wp2_with fail; go_meet; exact ⟨rfl, rfl⟩)
   case rest =>
    obtain ⟨rfl, rfl⟩ := hcut
    go_wp2_with fail
    refine N1.out.mono ?_
    rintro e w2 ⟨rfl, h2, k2⟩
    have B2 := Lib.hid (k2 _ _ _ HBX.out (by decide) (by decide))
    have K2 := Lib.hid (HKW.out.trans k2)
    have S2 := Lib.hid (wstops_any x.bars _ B g _ _ w0 w2 h2 HBB.out HSB.out (by
     have h2 := HP.out
     simp only [rowBy, List.length_append, HMB.out] at h2 ⊢
     omega))
    clear x0 x1 x2 x3 x4 x5 x6 x7 h2 k2
    obtain ⟨x0, x1, x2, x3, x4, x5, x6, x7⟩ := blk8s B2.out
    go_wp2_with fail
    refine S2.out.mono ?_
    rintro e w3 ⟨rfl, h3, k3⟩
    have B3 := Lib.hid (k3 _ _ _ B2.out (by decide) (by decide))
    have K3 := Lib.hid (K2.out.trans k3)
    have N3 := Lib.hid (nums_lit [x.leave, x.guard] (by intro y hy; simp at hy; rcases hy with rfl | rfl <;> assumption) B g _ _ w0 w3 h3 (by
     have h2 := HP.out
     simp only [rowBy, List.length_append, HMB.out] at h2 ⊢
     omega))
    clear x0 x1 x2 x3 x4 x5 x6 x7 h3 k3
    obtain ⟨x0, x1, x2, x3, x4, x5, x6, x7⟩ := blk8s B3.out
    go_wp2_with fail
    refine N3.out.mono ?_
    rintro e w4 ⟨rfl, h4, k4⟩
    have B4 := Lib.hid (k4 _ _ _ B3.out (by decide) (by decide))
    have K4 := Lib.hid (K3.out.trans k4)
    have C4 := Lib.hid (count_any x.ends.length B g _ _ w0 w4 h4 (by omega) (by
     have h2 := HP.out
     simp only [rowBy, List.length_append, HMB.out] at h2 ⊢
     omega))
    clear x0 x1 x2 x3 x4 x5 x6 x7 h4 k4
    obtain ⟨x0, x1, x2, x3, x4, x5, x6, x7⟩ := blk8s B4.out
    go_wp2_with fail
    refine C4.out.mono ?_
    rintro e w5 ⟨rfl, h5, k5⟩
    have B5 := Lib.hid (k5 _ _ _ B4.out (by decide) (by decide))
    have K5 := Lib.hid (K4.out.trans k5)
    have H5 := Lib.hid h5
    clear x0 x1 x2 x3 x4 x5 x6 x7 h5 k5
    obtain ⟨x0, x1, x2, x3, x4, x5, x6, x7⟩ := blk8s B5.out
    have ne : (0 : Int) ≤ (x.ends.length : Int) := by omega
    obtain ⟨pr2, hpr2⟩ : ∃ q, q = ((((pre ++ numsB [x.par, x.ty, mInt mb, x.win]) ++ listBy stopBy x.bars) ++ numsB [x.leave, x.guard]) ++ numsB [(x.ends.length : Int)]) := ⟨_, rfl⟩
    obtain ⟨ok2, hok2⟩ : ∃ q, q = ((((okp && [x.par, x.ty, mInt mb, x.win].all numOk) && listOk stopOk x.bars) && [x.leave, x.guard].all numOk) && decide (x.ends.length ≤ 1024)) := ⟨_, rfl⟩
    rw [← hpr2, ← hok2] at H5
    have HP2 : Hid (pr2.length + ((x.ends.map tailBy).flatten).length ≤ 1000000000) := Lib.hid (by
     have h2 := HP.out
     rw [hpr2]
     simp only [rowBy, listBy, List.length_append, HMB.out] at h2 ⊢
     omega)
    have HE1 : Hid (pr2 ++ (x.ends.map tailBy).flatten = pre ++ rowBy x) := Lib.hid (by rw [hpr2]; simp only [rowBy, listBy, List.append_assoc, HMB.out])
    have HE2 : Hid ((ok2 && x.ends.all tailOk) = (okp && rowOk x)) := Lib.hid (by
     rw [hok2]
     simp only [rowOk, listOk, List.all_cons, List.all_nil, Bool.and_true, mInt_ok, Bool.true_and]
     simp only [Bool.and_assoc])
    clear hpr2 hok2
    go_wp2_with fail
    clear x0 x1 x2 x3 x4 x5 x6 x7
    go_loopw [50] (fun i wz => ∃ q : Nat, q ≤ x.ends.length ∧ i = .int .i64 q ∧ Hid (WSt B g w0 wz (pr2 ++ ((x.ends.take q).map tailBy).flatten) (ok2 && (x.ends.take q).all tailOk)) ∧ Hid (KeepT w wz)) (fun i _ => x.ends.length - (intOf i).toNat)
    case atStart => exact ⟨0, Nat.zero_le _, rfl, Lib.hid (by simpa using H5.out), K5⟩
    case round =>
     obtain ⟨q, hq, rfl, hY, hKu⟩ := hrel
     by_cases hqt : q < x.ends.length
     ·obtain ⟨z, hz⟩ : ∃ z, x.ends[q]? = some z := ⟨_, List.getElem?_eq_getElem hqt⟩
      obtain ⟨b7, o7, c7, vz, hv7, _, _, z0, z1, z2, hsz, wz0, wz1⟩ := tails_get HTE.out hz
      injection hv7 with hv7 _ hcap7
      subst hv7 hcap7
      have kc := KeepC.of_below (hY.out.bel.mono HBB.out)
      replace z0 := kc _ _ z0
      replace z1 := kc _ _ z1
      replace z2 := kc _ _ z2
      obtain ⟨A8, c8, rfl, _, _⟩ := hsz.slice
      have HSZ := Lib.hid hsz
      obtain ⟨W2, hW2⟩ : ∃ W, W = wr.alloc (.cells #[.int .i64 z.br, .int .i64 z.cl, .slice A8 z.bars.length c8] 56) := ⟨_, rfl⟩
      have hbz : Blk W2 wr.heap.size 56 #[.int .i64 z.br, .int .i64 z.cl, .slice A8 z.bars.length c8] := by rw [hW2]; exact Blk.new _ _ _
      have y0 := hbz.cell 0
      have y1 := hbz.cell 1
      have y2 := hbz.cell 2
      have HBZ := Lib.hid hbz
      have HKZ : Hid (KeepT w W2) := Lib.hid (by rw [hW2]; exact hKu.out.trans (KeepT.alloc _ _))
      have HPZ : Hid ((pr2 ++ ((x.ends.take q).map tailBy).flatten).length + (tailBy z).length ≤ 1000000000) := Lib.hid (by
       have h1 := flat_le tailBy x.ends (q + 1)
       rw [flat_take tailBy hz] at h1
       have h2 := HP2.out
       simp only [List.length_append] at h1 h2 ⊢
       omega)
      have N6 := Lib.hid (nums_lit [z.br, z.cl] (by intro y hy; simp at hy; rcases hy with rfl | rfl <;> assumption) B g _ _ w0 W2 (by rw [hW2]; exact hY.out.alloc _) (by
       have h2 := HPZ.out
       simp only [tailBy, List.length_append] at h2 ⊢
       omega))
      clear kc hsz hbz hY hKu
      go_upto_region 14 with fail
      rw [← hW2]
      clear hW2 z0 z1 z2
      go_wp2_with fail
      refine N6.out.mono ?_
      rintro e w6 ⟨rfl, h6, k6⟩
      have B6 := Lib.hid (k6 _ _ _ HBZ.out (by decide) (by decide))
      have K6 := Lib.hid (HKZ.out.trans k6)
      have S6 := Lib.hid (wstops_any z.bars _ B g _ _ w0 w6 h6 HBB.out HSZ.out (by
       have h2 := HPZ.out
       simp only [tailBy, List.length_append] at h2 ⊢
       omega))
      clear y0 y1 y2 h6 k6
      have y0 := B6.out.cell 0
      have y1 := B6.out.cell 1
      have y2 := B6.out.cell 2
      go_wp2_with fail
      refine S6.out.mono ?_
      rintro e w7 ⟨rfl, h7, k7⟩
      have H7 := Lib.hid h7
      have K7 := Lib.hid (K6.out.trans k7)
      clear y0 y1 y2 h7 k7
      go_wp2_with fail
      go_roundw
      case rel =>
       have H8 : Hid (WSt B g w0 w7 (pr2 ++ ((x.ends.take (q + 1)).map tailBy).flatten) (ok2 && (x.ends.take (q + 1)).all tailOk)) := Lib.hid (by
        have h := H7.out
        rw [flat_take tailBy hz, allp_take tailOk hz]
        simp only [tailBy, tailOk, List.append_assoc, Bool.and_assoc, List.all_cons, List.all_nil, Bool.and_true] at h ⊢
        exact h)
       first | exact ⟨q + 1, by omega, by go_num, H8, K7⟩ | ((repeat apply Exists.intro); exact ⟨⟨q + 1, by omega, by go_num, H8, K7⟩, rfl⟩)
      case measure => simp [intOf]; omega
     ·go_wp2_with fail
      obtain rfl : q = x.ends.length := by omega
      go_roundw
      case rel =>
       have H8 : Hid (WSt B g w0 wr ((bs ++ numsB [(l.length : Int)]) ++ ((l.take (r + 1)).map rowBy).flatten) ((ok && decide (l.length ≤ 1024)) && (l.take (r + 1)).all rowOk)) := Lib.hid (by
        have h := hY.out
        rw [List.take_length] at h
        obtain ⟨e1, e2⟩ := HN.out _ _ HE1.out HE2.out
        rw [e1, e2] at h
        exact h)
       first | exact ⟨r + 1, by omega, by go_num, H8, hKu⟩ | ((repeat apply Exists.intro); exact ⟨⟨r + 1, by omega, by go_num, H8, hKu⟩, rfl⟩)
      case measure => simp [intOf]; omega
  ·go_wp2_with fail
   obtain rfl : r = l.length := by omega
   go_end0
   refine ⟨rfl, ?_, hKt.out⟩
   have h := hX.out
   rw [List.take_length] at h
   unfold listBy listOk
   rw [← List.append_assoc, ← Bool.and_assoc]
   exact h
end Go.Proofs.Ytioocaicmiggoaa
namespace Go.Proofs.Ytioocaicmiggoaa
set_option linter.unusedVariables false
set_option linter.unusedSimpArgs false
open Go.RowKit Go.Deep
def kindBy (l : List Int) : List UInt8 := numsB [(l.length : Int)] ++ numsB l
def plainBy (T : TTab) : List UInt8 := numsB [T.strategy, T.syms, T.runs, T.cells, (T.keys.length : Int)] ++ numsB T.keys ++ numsB [(T.kinds.length : Int)] ++ (T.kinds.map kindBy).flatten ++ listBy rowBy T.states
def MadeV (w : World) (l : List UInt8) (e : Ending) (w' : World) : Prop := ∃ v, e = .returned v ∧ w'.ownsRow w.heap.size 5 1 v l.length (bv l) ∧ Below w.heap.size w w'
def WStE (B g : Nat) (w0 w : World) (bs : List UInt8) : Prop := ∃ ok, WSt B g w0 w bs ok
theorem kinds_get {w : World} {v : Value} {l : List (List Int)} (h : SlR 1 IntsC w v l) {i : Nat} {x : List Int} (hx : l[i]? = some x) :
  ∃ b off c vk, v = .slice (some ⟨b, off, none⟩) l.length c ∧ l.length ≤ c ∧ c ≤ maxLen ∧ w.cell? ⟨b, off + i, none⟩ = some vk ∧ SlR 1 IntC w vk x := by
 obtain ⟨b, off, c, hv, h1, h2, hi, cs, hl, ⟨vk, rfl, hs⟩, hc⟩ := h.get hx
 exact ⟨b, off, c, vk, hv, h1, h2, by have := hc 0 _ rfl; simpa using this, hs⟩
set_option maxRecDepth 100000 in
set_option maxHeartbeats 4000000 in
theorem plain_any (T : TTab) (vk vkk vs vc : Value) (w : World) (h : TabX w T vk vkk vs vc) (hlb : (plainBy T).length ≤ 1000000000) :
  Calls Try.prog 31 #[.agg #[.int .i64 T.strategy, vk, vkk, .int .i64 T.syms, .int .i64 T.runs, .int .i64 T.cells, vs, vc]] w (MadeV w (plainBy T)) := by
 obtain ⟨Ak, ck, rfl, hk1, hk2⟩ := h.keys.slice
 obtain ⟨Akk, ckk, rfl, hkk1, hkk2⟩ := h.kinds.slice
 obtain ⟨As, cs, rfl, hs1, hs2⟩ := h.states.slice
 obtain ⟨Ac, cc, rfl, hc1, hc2⟩ := h.codes.slice
 unfold maxLen at hk2 hkk2 hs2 hc2
 obtain ⟨ws, wy, wr_, wc_⟩ := h.ok
 have wk : wfi (T.keys.length : Int) := wfi_nat (by omega)
 have wkk : wfi (T.kinds.length : Int) := wfi_nat (by omega)
 have HL := Lib.hid hlb
 have HX := Lib.hid h
 have nk : (0 : Int) ≤ (T.kinds.length : Int) := by omega
 obtain ⟨W1, hW1⟩ : ∃ W, W = w.alloc (.cells #[.int .i64 T.strategy, .slice Ak T.keys.length ck, .slice Akk T.kinds.length ckk, .int .i64 T.syms, .int .i64 T.runs, .int .i64 T.cells, .slice As T.states.length cs, .slice Ac T.codes.length cc] 27) := ⟨_, rfl⟩
 have hs1 : W1.heap.size = w.heap.size + 1 := by rw [hW1]; simp
 obtain ⟨W2, hW2⟩ : ∃ W, W = W1.alloc (.cells #[.slice none 0 0, .bool false] 78) := ⟨_, rfl⟩
 have BX : Hid (Blk W2 w.heap.size 27 #[.int .i64 T.strategy, .slice Ak T.keys.length ck, .slice Akk T.kinds.length ckk, .int .i64 T.syms, .int .i64 T.runs, .int .i64 T.cells, .slice As T.states.length cs, .slice Ac T.codes.length cc]) := Lib.hid (by rw [hW2, hW1]; exact (Blk.new _ _ _).alloc _)
 have hst : WSt w.heap.size W1.heap.size w W2 [] false := by
  refine ⟨⟨.slice none 0 0, by rw [hW2]; exact Blk.new _ _ _, World.ownsRow_nil _ _ _ _, by omega⟩, ?_, ?_⟩
  ·rw [hW2, hW1]; exact ((Below.refl _ _).alloc (Nat.le_refl _) _).alloc (by simp) _
  ·rw [hW2, hW1]; simp; omega
 have N1 := Lib.hid (nums_lit [T.strategy, T.syms, T.runs, T.cells, (T.keys.length : Int)] (by intro y hy; simp at hy; rcases hy with rfl | rfl | rfl | rfl | rfl <;> assumption) w.heap.size W1.heap.size [] false w W2 hst (by
  have h2 := HL.out
  simp only [plainBy, List.length_append] at h2 ⊢
  simp only [List.length_nil]
  omega))
 obtain ⟨x0, x1, x2, x3, x4, x5, x6, x7⟩ := blk8s BX.out
 clear h hlb hst
 go_enter Try.func31, Try.ntmps31
 have hs1' : w.heap.size + 1 = W1.heap.size := hs1.symm
 have HW1 := Lib.hid hW1
 have HW2 := Lib.hid hW2
 have HS1 := Lib.hid hs1'
 clear hW1 hW2 hs1' hs1
 go_upto_region 2 with fail
 rw [← HW1.out, ← HW2.out]
 try rw [HS1.out]
 clear HW1 HW2 HS1
 go_wp2_with fail
 refine N1.out.mono ?_
 rintro e w3 ⟨rfl, h3, k3⟩
 have B3 := Lib.hid (k3 _ _ _ BX.out (by decide) (by decide))
 have N3 := Lib.hid (nums_row T.keys _ w.heap.size W1.heap.size _ _ w w3 h3 (Nat.le_refl _) HX.out.keys (by
  have h2 := HL.out
  simp only [plainBy, List.length_append, List.nil_append] at h2 ⊢
  omega))
 clear x0 x1 x2 x3 x4 x5 x6 x7 h3 k3
 obtain ⟨x0, x1, x2, x3, x4, x5, x6, x7⟩ := blk8s B3.out
 go_wp2_with fail
 refine N3.out.mono ?_
 rintro e w4 ⟨rfl, h4, k4⟩
 have B4 := Lib.hid (k4 _ _ _ B3.out (by decide) (by decide))
 have N4 := Lib.hid (nums_lit [(T.kinds.length : Int)] (by intro y hy; simp at hy; subst hy; assumption) w.heap.size W1.heap.size _ _ w w4 h4 (by
  have h2 := HL.out
  simp only [plainBy, List.length_append, List.nil_append] at h2 ⊢
  omega))
 clear x0 x1 x2 x3 x4 x5 x6 x7 h4 k4
 obtain ⟨x0, x1, x2, x3, x4, x5, x6, x7⟩ := blk8s B4.out
 go_wp2_with fail
 refine N4.out.mono ?_
 rintro e w5 ⟨rfl, h5, k5⟩
 have B5 := Lib.hid (k5 _ _ _ B4.out (by decide) (by decide))
 have H5 : Hid (WStE w.heap.size W1.heap.size w w5 ((numsB [T.strategy, T.syms, T.runs, T.cells, (T.keys.length : Int)] ++ numsB T.keys) ++ numsB [(T.kinds.length : Int)])) := Lib.hid ⟨_, h5⟩
 clear x0 x1 x2 x3 x4 x5 x6 x7 h5 k5
 obtain ⟨x0, x1, x2, x3, x4, x5, x6, x7⟩ := blk8s B5.out
 obtain ⟨pre, hpre⟩ : ∃ q, q = ((numsB [T.strategy, T.syms, T.runs, T.cells, (T.keys.length : Int)] ++ numsB T.keys) ++ numsB [(T.kinds.length : Int)]) := ⟨_, rfl⟩
 rw [← hpre] at H5
 have HE : Hid ((pre ++ (T.kinds.map kindBy).flatten) ++ listBy rowBy T.states = plainBy T) := Lib.hid (by rw [hpre]; rfl)
 clear hpre
 have HP : Hid ((pre ++ (T.kinds.map kindBy).flatten).length + (listBy rowBy T.states).length ≤ 1000000000) := Lib.hid (by rw [← List.length_append, HE.out]; exact HL.out)
 go_wp2_with fail
 clear x0 x1 x2 x3 x4 x5 x6 x7
 go_loopw [35] (fun i wr => ∃ r : Nat, r ≤ T.kinds.length ∧ i = .int .i64 r ∧ Hid (WStE w.heap.size W1.heap.size w wr (pre ++ ((T.kinds.take r).map kindBy).flatten)) ∧ Hid (KeepT w5 wr)) (fun i _ => T.kinds.length - (intOf i).toNat)
 case atStart => exact ⟨0, Nat.zero_le _, rfl, Lib.hid (by simpa using H5.out), Lib.hid (KeepT.refl _)⟩
 case round =>
  obtain ⟨r, hr, rfl, hX, hKt⟩ := hrel
  by_cases hlt : r < T.kinds.length
  ·obtain ⟨x, hx⟩ : ∃ x, T.kinds[r]? = some x := ⟨_, List.getElem?_eq_getElem hlt⟩
   obtain ⟨b5, o5, c5, vx, hv5, _, _, m0, hsx⟩ := kinds_get HX.out.kinds hx
   injection hv5 with hv5 _ hcap5
   subst hv5 hcap5
   obtain ⟨okr, hW⟩ := hX.out
   have kc := KeepC.of_below (hW.bel.mono (Nat.le_refl _))
   replace m0 := kc _ _ m0
   obtain ⟨Ax, cx, rfl, hx1, hx2⟩ := hsx.slice
   unfold maxLen at hx2
   have HSX := Lib.hid hsx
   have HPK : Hid ((pre ++ ((T.kinds.take r).map kindBy).flatten).length + (numsB [(x.length : Int)]).length + (numsB x).length ≤ 1000000000) := Lib.hid (by
    have h1 := flat_le kindBy T.kinds (r + 1)
    rw [flat_take kindBy hx] at h1
    have h2 := HP.out
    simp only [kindBy, List.length_append] at h1 h2 ⊢
    omega)
   have N6 := Lib.hid (nums_lit [(x.length : Int)] (by intro y hy; simp at hy; subst hy; exact wfi_nat (by omega)) w.heap.size W1.heap.size _ _ w wr hW (by
    have h2 := HPK.out
    omega))
   have HXR := Lib.hid hx
   clear kc hsx hX hW hx
   go_wp2_with fail
   refine N6.out.mono ?_
   rintro e w6 ⟨rfl, h6, k6⟩
   have K6 := Lib.hid (hKt.out.trans k6)
   have N7 := Lib.hid (nums_row x _ w.heap.size W1.heap.size _ _ w w6 h6 (Nat.le_refl _) HSX.out (by
    have h2 := HPK.out
    simp only [List.length_append] at h2 ⊢
    omega))
   clear h6 k6 m0
   go_wp2_with fail
   refine N7.out.mono ?_
   rintro e w7 ⟨rfl, h7, k7⟩
   have K7 := Lib.hid (K6.out.trans k7)
   have H8 : Hid (WStE w.heap.size W1.heap.size w w7 (pre ++ ((T.kinds.take (r + 1)).map kindBy).flatten)) := Lib.hid (by
    rw [flat_take kindBy HXR.out, kindBy, ← List.append_assoc, ← List.append_assoc]
    exact ⟨_, h7⟩)
   clear h7 k7
   go_wp2_with fail
   go_roundw
   case rel => first | exact ⟨r + 1, by omega, by go_num, H8, K7⟩ | ((repeat apply Exists.intro); exact ⟨⟨r + 1, by omega, by go_num, H8, K7⟩, rfl⟩)
   case measure => simp [intOf]; omega
  ·have hre : r = T.kinds.length := by omega
   have HXK := hX.out
   rw [hre, List.take_length] at HXK
   obtain ⟨okr, hW⟩ := HXK
   have B8 := Lib.hid (hKt.out _ _ _ B5.out (by decide) (by decide))
   obtain ⟨x0, x1, x2, x3, x4, x5, x6, x7⟩ := blk8s B8.out
   have N8 := Lib.hid (wrows_any T.states _ w.heap.size W1.heap.size _ _ w wr hW (Nat.le_refl _) HX.out.states (by
    have h2 := HP.out
    exact h2))
   clear hW hre
   go_wp2_with fail
   refine N8.out.mono ?_
   rintro e w9 ⟨rfl, ⟨⟨v9, g9, o9, _⟩, hb9, _⟩, _⟩
   rw [HE.out] at o9
   have y0 := g9.cell 0
   have H9 := Lib.hid o9
   have HB9 := Lib.hid hb9
   clear o9 hb9 x0 x1 x2 x3 x4 x5 x6 x7
   go_wp2_with fail
   go_ret
   exact ⟨v9, rfl, H9.out, HB9.out⟩
end Go.Proofs.Ytioocaicmiggoaa

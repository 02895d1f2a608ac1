/- End, Szc: texts merged for a claim by a program of mine. -/
import Derived.Test.YtioocaicmiggoaaA38
import Derived.Test.YtioocaicmiggoaaA18
import Derived.Test.YtioocaicmiggoaaA24
namespace Go.Proofs.Ytioocaicmiggoaa
set_option linter.unusedVariables false
set_option linter.unusedSimpArgs false
open Go.RowKit Go.Deep
theorem kinds_at {w : World} {v : Value} {l : List (List Int)} (h : SlR 1 IntsC w v l) {i : Nat} {x : List Int} (hx : l[i]? = some x) :
  ∃ b off c A n, v = .slice (some ⟨b, off, none⟩) l.length c ∧ w.cell? ⟨b, off + i, none⟩ = some (.slice A x.length n) ∧ x.length ≤ n ∧ n ≤ maxLen ∧ SlR 1 IntC w (.slice A x.length n) x := by
 obtain ⟨b, off, c, cs, hv, h1, h2, ⟨u, rfl, hs⟩, hc⟩ := cells_at h hx
 obtain ⟨A, n, rfl, h3, h4⟩ := hs.slice
 exact ⟨b, off, c, A, n, hv, by have := hc 0 _ rfl; simpa using this, h3, h4, hs⟩
theorem flat_list {α : Type} (f : α → List UInt8) (l : List α) : listBy f l = numsB [(l.length : Int)] ++ (l.map f).flatten := rfl
theorem enc_bytes (T : TTab) : magicB ++ numsB [T.strategy] ++ numsB [(T.keys.length : Int)] ++ numsB T.keys ++ (numsB [(T.kinds.length : Int)] ++ (T.kinds.map kindBy).flatten) ++ numsB [T.syms, T.runs, T.cells] ++ listBy rowBy T.states ++ (numsB [(T.codes.length : Int)] ++ (T.codes.map codeBy).flatten) = magicB ++ tabBy T := by
 unfold tabBy
 rw [kind_by, show kindBy T.keys = numsB [(T.keys.length : Int)] ++ numsB T.keys from rfl]
 simp only [List.append_assoc, flat_list]
theorem enc_ok (T : TTab) : (((((((numOk T.strategy && decide (T.keys.length ≤ 1024)) && T.keys.all numOk) && (decide (T.kinds.length ≤ 1024) && T.kinds.all (listOk numOk))) && [T.syms, T.runs, T.cells].all numOk) && listOk rowOk T.states) && (decide (T.codes.length ≤ 1024) && T.codes.all codeOk))) = tabOk T := by
 unfold tabOk
 simp only [listOk, List.all_cons, List.all_nil, Bool.and_true, Bool.and_assoc]
theorem enc_none {T : TTab} (h : tabOk T = false) : tabF (.wr magicB) T = none := by rw [wr_tab, if_neg (by rw [h]; decide)]
theorem enc_some {T : TTab} (h : tabOk T = true) : tabF (.wr magicB) T = some (.wr (magicB ++ tabBy T), T) := by rw [wr_tab, if_pos h]
set_option maxRecDepth 100000 in
set_option maxHeartbeats 16000000 in
theorem rencode_any (T : TTab) (vk vkk vs vc : Value) (w : World) (h : TabX w T vk vkk vs vc) (hlb : (magicB ++ tabBy T).length ≤ 900000000) :
  Calls Try.prog 18 #[.agg #[.int .i64 T.strategy, vk, vkk, .int .i64 T.syms, .int .i64 T.runs, .int .i64 T.cells, vs, vc]] w (EncP T w) := by
 obtain ⟨Ak, ck, rfl, hk1, hk2⟩ := h.keys.slice
 obtain ⟨Akk, ckk, rfl, hkk1, hkk2⟩ := h.kinds.slice
 obtain ⟨As, cs, rfl, hs1, hs2⟩ := h.states.slice
 obtain ⟨Ac, cc, rfl, hc1, hc2⟩ := h.codes.slice
 unfold maxLen at hk2 hkk2 hs2 hc2
 have hcs : ∀ (o : Obj) (C : Array Value) (n c : Nat), (convert 47 47 (.slice (some ⟨w.heap.size + 1, 0, none⟩) n c)).run Try.prog ((w.alloc o).alloc (.cells C 5)) = .ok (.slice (some ⟨w.heap.size + 1, 0, none⟩) n c) ((w.alloc o).alloc (.cells C 5 (C.size, C.size + 1))) := fun o C n c => by
  have h := Lib.run_convert_bytes_const (P := Try.prog) (w.alloc o) 47 5 C n c Try.underlying47 Try.underlying5
  rw [World.size_alloc] at h
  exact h
 obtain ⟨ws, wy, wr_, wc_⟩ := h.ok
 have HX := Lib.hid h
 obtain ⟨W2, hW2⟩ : ∃ W, W = ((w.alloc (.cells #[.int .i64 T.strategy, .slice Ak T.keys.length ck, .slice Akk T.kinds.length ckk, .int .i64 T.syms, .int .i64 T.runs, .int .i64 T.cells, .slice As T.states.length cs, .slice Ac T.codes.length cc] 27)).alloc (.cells #[.int .u8 65, .int .u8 85, .int .u8 83, .int .u8 80] 5 (4, 5))).alloc (.cells #[.slice (some ⟨w.heap.size + 1, 0, none⟩) 4 4, .bool true] 78) := ⟨_, rfl⟩
 have hb2 : Below w.heap.size w W2 := by
  rw [hW2]
  exact (((Below.refl _ _).alloc (Nat.le_refl _) _).alloc (by simp) _).alloc (by simp; omega) _
 have hsz : W2.heap.size = w.heap.size + 3 := by rw [hW2]; simp
 have hbt : Blk W2 w.heap.size 27 #[.int .i64 T.strategy, .slice Ak T.keys.length ck, .slice Akk T.kinds.length ckk, .int .i64 T.syms, .int .i64 T.runs, .int .i64 T.cells, .slice As T.states.length cs, .slice Ac T.codes.length cc] := by
  rw [hW2]; exact ((Blk.new _ _ _).alloc _).alloc _
 have hbo : Blk W2 (w.heap.size + 2) 78 #[.slice (some ⟨w.heap.size + 1, 0, none⟩) 4 4, .bool true] := by
  have hh := Blk.new ((w.alloc (.cells #[.int .i64 T.strategy, .slice Ak T.keys.length ck, .slice Akk T.kinds.length ckk, .int .i64 T.syms, .int .i64 T.runs, .int .i64 T.cells, .slice As T.states.length cs, .slice Ac T.codes.length cc] 27)).alloc (.cells #[.int .u8 65, .int .u8 85, .int .u8 83, .int .u8 80] 5 (4, 5))) 78 #[.slice (some ⟨w.heap.size + 1, 0, none⟩) 4 4, .bool true]
  rw [World.size_alloc, World.size_alloc] at hh
  rw [hW2]; exact hh
 have hown : OwnB w.heap.size W2 (.slice (some ⟨w.heap.size + 1, 0, none⟩) 4 4) magicB := by
  refine .inr ⟨w.heap.size + 1, (4, 5), rfl, by decide, by omega, ?_, by decide⟩
  rw [hW2]
  have h1 := heap_alloc_new (w.alloc (.cells #[.int .i64 T.strategy, .slice Ak T.keys.length ck, .slice Akk T.kinds.length ckk, .int .i64 T.syms, .int .i64 T.runs, .int .i64 T.cells, .slice As T.states.length cs, .slice Ac T.codes.length cc] 27)) (.cells #[.int .u8 65, .int .u8 85, .int .u8 83, .int .u8 80] 5 (4, 5))
  rw [World.size_alloc] at h1
  exact (Below.heap_alloc _ _ _ (by simp)).trans h1
 obtain ⟨g, hg⟩ : ∃ g, g = w.heap.size + 2 := ⟨_, rfl⟩
 rw [← hg] at hbo
 have N1 := Lib.hid (nums_first T.strategy ws w.heap.size g _ magicB w W2 hbo hown (by omega) hb2 (by omega) (by decide))
 obtain ⟨x0, x1, x2, x3, x4, x5, x6, x7⟩ := blk8s hbt
 have BT := Lib.hid hbt
 have HLB := Lib.hid hlb
 have HW2 := Lib.hid hW2
 have HG := Lib.hid hg
 have nk : (0 : Int) ≤ (T.kinds.length : Int) := by omega
 have nc : (0 : Int) ≤ (T.codes.length : Int) := by omega
 clear h hlb hb2 hsz hbt hbo hown hW2 hg
 go_enter Try.func18, Try.ntmps18
 go_upto_region 2 with fail
 rw [← HW2.out]
 try rw [← HG.out]
 clear HW2 hcs
 go_wp2_with fail
 refine N1.out.mono ?_
 rintro e w3 ⟨rfl, h3, k3⟩
 have B3 := Lib.hid (k3 _ _ _ BT.out (by decide) (by decide))
 have HEB := Lib.hid (enc_bytes T)
 have HEO := Lib.hid (enc_ok T)
 obtain ⟨p1, hp1⟩ : ∃ p, p = magicB ++ numsB [T.strategy] := ⟨_, rfl⟩
 obtain ⟨o1, ho1⟩ : ∃ o, o = numOk T.strategy := ⟨_, rfl⟩
 rw [← hp1] at h3 HEB
 rw [← ho1] at h3 HEO
 have HLP : Hid (p1.length + (numsB [(T.keys.length : Int)]).length + (numsB T.keys).length + ((numsB [(T.kinds.length : Int)]).length + ((T.kinds.map kindBy).flatten).length) + (numsB [T.syms, T.runs, T.cells]).length + (listBy rowBy T.states).length + ((numsB [(T.codes.length : Int)]).length + ((T.codes.map codeBy).flatten).length) ≤ 900000000) := Lib.hid (by
  have h1 := HLB.out
  rw [← HEB.out] at h1
  simp only [List.length_append] at h1 ⊢
  omega)
 clear hp1 ho1 N1 BT x0 x1 x2 x3 x4 x5 x6 x7 k3
 obtain ⟨x0, x1, x2, x3, x4, x5, x6, x7⟩ := blk8s B3.out
 have CX := Lib.hid (count_any T.keys.length w.heap.size g p1 o1 w w3 h3 (by omega) (by have := HLP.out; omega))
 clear h3
 go_wp2_with fail
 refine CX.out.mono ?_
 rintro e w4 ⟨rfl, h4, k4⟩
 have B4 := Lib.hid (k4 _ _ _ B3.out (by decide) (by decide))
 clear x0 x1 x2 x3 x4 x5 x6 x7 k4 CX B3
 obtain ⟨x0, x1, x2, x3, x4, x5, x6, x7⟩ := blk8s B4.out
 have CX := Lib.hid (nums_row T.keys _ w.heap.size g _ _ w w4 h4 (Nat.le_refl _) HX.out.keys (by have := HLP.out; simp only [List.length_append]; omega))
 clear h4
 go_wp2_with fail
 refine CX.out.mono ?_
 rintro e w5 ⟨rfl, h5, k5⟩
 have B5 := Lib.hid (k5 _ _ _ B4.out (by decide) (by decide))
 clear x0 x1 x2 x3 x4 x5 x6 x7 k5 CX B4
 obtain ⟨x0, x1, x2, x3, x4, x5, x6, x7⟩ := blk8s B5.out
 have CX := Lib.hid (count_any T.kinds.length w.heap.size g _ _ w w5 h5 (by omega) (by have := HLP.out; simp only [List.length_append]; omega))
 clear h5
 go_wp2_with fail
 refine CX.out.mono ?_
 rintro e w6 ⟨rfl, h6, k6⟩
 have B6 := Lib.hid (k6 _ _ _ B5.out (by decide) (by decide))
 clear x0 x1 x2 x3 x4 x5 x6 x7 k6 CX B5
 obtain ⟨x0, x1, x2, x3, x4, x5, x6, x7⟩ := blk8s B6.out
 obtain ⟨p2, hp2⟩ : ∃ p, p = p1 ++ numsB [(T.keys.length : Int)] ++ numsB T.keys := ⟨_, rfl⟩
 obtain ⟨o2, ho2⟩ : ∃ o, o = ((o1 && decide (T.keys.length ≤ 1024)) && T.keys.all numOk) := ⟨_, rfl⟩
 rw [← hp2] at h6 HEB
 rw [← ho2] at h6 HEO
 have HL2 : Hid (p2.length + ((numsB [(T.kinds.length : Int)]).length + ((T.kinds.map kindBy).flatten).length) + (numsB [T.syms, T.runs, T.cells]).length + (listBy rowBy T.states).length + ((numsB [(T.codes.length : Int)]).length + ((T.codes.map codeBy).flatten).length) ≤ 900000000) := Lib.hid (by
  have h1 := HLP.out
  rw [hp2]
  simp only [List.length_append] at h1 ⊢
  omega)
 have H6 := Lib.hid h6
 clear hp2 ho2 h6 HLP
 go_wp2_with fail
 clear x0 x1 x2 x3 x4 x5 x6 x7
 go_loopw [35] (fun i wr => ∃ r : Nat, r ≤ T.kinds.length ∧ i = .int .i64 r ∧ Hid (WSt w.heap.size g w wr (p2 ++ numsB [(T.kinds.length : Int)] ++ ((T.kinds.take r).map kindBy).flatten) (o2 && decide (T.kinds.length ≤ 1024) && (T.kinds.take r).all (listOk numOk))) ∧ Hid (KeepT w6 wr)) (fun i _ => T.kinds.length - (intOf i).toNat)
 case atStart => exact ⟨0, Nat.zero_le _, rfl, Lib.hid (by simpa using H6.out), Lib.hid (KeepT.refl _)⟩
 case round =>
  obtain ⟨r, hr, rfl, hX, hKt⟩ := hrel
  by_cases hlt : r < T.kinds.length
  ·obtain ⟨x, hx⟩ : ∃ x, T.kinds[r]? = some x := ⟨_, List.getElem?_eq_getElem hlt⟩
   obtain ⟨b5, o5, c5, Ax, cx, hv5, m0, hx1, hx2, hsx⟩ := kinds_at HX.out.kinds hx
   injection hv5 with hv5 _ hcap5
   subst hv5 hcap5
   have kc := KeepC.of_below (hX.out.bel.mono (Nat.le_refl _))
   replace m0 := kc _ _ m0
   unfold maxLen at hx2
   have HSX := Lib.hid hsx
   have HPK : Hid ((p2 ++ numsB [(T.kinds.length : Int)] ++ ((T.kinds.take r).map kindBy).flatten).length + (numsB [(x.length : Int)]).length + (numsB x).length ≤ 900000000) := Lib.hid (by
    have h1 := flat_le kindBy T.kinds (r + 1)
    rw [flat_take kindBy hx] at h1
    have h2 := HL2.out
    simp only [kindBy, List.length_append] at h1 h2 ⊢
    omega)
   have CX := Lib.hid (count_any x.length w.heap.size g _ _ w wr hX.out (by omega) (by have := HPK.out; omega))
   have HXR := Lib.hid hx
   clear kc hsx hX hx
   go_wp2_with fail
   refine CX.out.mono ?_
   rintro e w7 ⟨rfl, h7, k7⟩
   have K7 := Lib.hid (hKt.out.trans k7)
   have N7 := Lib.hid (nums_row x _ w.heap.size g _ _ w w7 h7 (Nat.le_refl _) HSX.out (by
    have h2 := HPK.out
    simp only [List.length_append] at h2 ⊢
    omega))
   clear h7 k7 m0
   go_wp2_with fail
   refine N7.out.mono ?_
   rintro e w8 ⟨rfl, h8, k8⟩
   have K8 := Lib.hid (K7.out.trans k8)
   have H8 : Hid (WSt w.heap.size g w w8 (p2 ++ numsB [(T.kinds.length : Int)] ++ ((T.kinds.take (r + 1)).map kindBy).flatten) (o2 && decide (T.kinds.length ≤ 1024) && (T.kinds.take (r + 1)).all (listOk numOk))) := Lib.hid (by
    rw [flat_take kindBy HXR.out, allp_take (listOk numOk) HXR.out, kindBy, ← List.append_assoc, ← List.append_assoc, listOk, ← Bool.and_assoc, ← Bool.and_assoc]
    exact h8)
   clear h8 k8
   go_wp2_with fail
   go_roundw
   case rel => first | exact ⟨r + 1, by omega, by go_num, H8, K8⟩ | ((repeat apply Exists.intro); exact ⟨⟨r + 1, by omega, by go_num, H8, K8⟩, rfl⟩)
   case measure => simp [intOf]; omega
  ·have hge : (T.kinds.length : Int) ≤ (r : Int) := by omega
   have hXe := hX.out
   rw [show r = T.kinds.length by omega, List.take_length] at hXe
   have B7 := Lib.hid (hKt.out _ _ _ B6.out (by decide) (by decide))
   obtain ⟨x0, x1, x2, x3, x4, x5, x6, x7⟩ := blk8s B7.out
   have CX := Lib.hid (nums_lit [T.syms, T.runs, T.cells] (by intro y hy; simp at hy; rcases hy with rfl | rfl | rfl <;> assumption) w.heap.size g _ _ w wr hXe (by have := HL2.out; simp only [List.length_append] at this ⊢; omega))
   clear hXe hX
   go_wp2_with fail
   refine CX.out.mono ?_
   rintro e w10 ⟨rfl, h10, k10⟩
   have B10 := Lib.hid (k10 _ _ _ B7.out (by decide) (by decide))
   clear x0 x1 x2 x3 x4 x5 x6 x7 k10 CX B7 hKt
   obtain ⟨x0, x1, x2, x3, x4, x5, x6, x7⟩ := blk8s B10.out
   have CX := Lib.hid (wrows_any T.states _ w.heap.size g _ _ w w10 h10 (Nat.le_refl _) HX.out.states (by have := HL2.out; simp only [List.length_append] at this ⊢; omega))
   clear h10
   go_wp2_with fail
   refine CX.out.mono ?_
   rintro e w11 ⟨rfl, h11, k11⟩
   have B11 := Lib.hid (k11 _ _ _ B10.out (by decide) (by decide))
   clear x0 x1 x2 x3 x4 x5 x6 x7 k11 CX B10
   obtain ⟨x0, x1, x2, x3, x4, x5, x6, x7⟩ := blk8s B11.out
   have CX := Lib.hid (count_any T.codes.length w.heap.size g _ _ w w11 h11 (by omega) (by have := HL2.out; simp only [List.length_append] at this ⊢; omega))
   clear h11
   go_wp2_with fail
   refine CX.out.mono ?_
   rintro e w12 ⟨rfl, h12, k12⟩
   have B12 := Lib.hid (k12 _ _ _ B11.out (by decide) (by decide))
   clear x0 x1 x2 x3 x4 x5 x6 x7 k12 CX B11
   obtain ⟨x0, x1, x2, x3, x4, x5, x6, x7⟩ := blk8s B12.out
   obtain ⟨p3, hp3⟩ : ∃ p, p = p2 ++ (numsB [(T.kinds.length : Int)] ++ (T.kinds.map kindBy).flatten) ++ numsB [T.syms, T.runs, T.cells] ++ listBy rowBy T.states := ⟨_, rfl⟩
   obtain ⟨o3, ho3⟩ : ∃ o, o = (((o2 && (decide (T.kinds.length ≤ 1024) && T.kinds.all (listOk numOk))) && [T.syms, T.runs, T.cells].all numOk) && listOk rowOk T.states) := ⟨_, rfl⟩
   have h12' : WSt w.heap.size g w w12 (p3 ++ numsB [(T.codes.length : Int)]) (o3 && decide (T.codes.length ≤ 1024)) := by
    rw [hp3, ho3, ← List.append_assoc p2, ← Bool.and_assoc o2]
    exact h12
   rw [← hp3] at HEB
   rw [← ho3] at HEO
   have HL3 : Hid (p3.length + ((numsB [(T.codes.length : Int)]).length + ((T.codes.map codeBy).flatten).length) ≤ 900000000) := Lib.hid (by
    have h1 := HL2.out
    rw [hp3]
    simp only [List.length_append] at h1 ⊢
    omega)
   have H12 := Lib.hid h12'
   clear hp3 ho3 h12 h12' HL2
   go_wp2_with fail
   clear x0 x1 x2 x3 x4 x5 x6 x7
   go_loopw [68] (fun i wy => ∃ r : Nat, r ≤ T.codes.length ∧ i = .int .i64 r ∧ Hid (WSt w.heap.size g w wy (p3 ++ numsB [(T.codes.length : Int)] ++ ((T.codes.take r).map codeBy).flatten) (o3 && decide (T.codes.length ≤ 1024) && (T.codes.take r).all codeOk)) ∧ Hid (KeepT w12 wy)) (fun i _ => T.codes.length - (intOf i).toNat)
   case atStart => exact ⟨0, Nat.zero_le _, rfl, Lib.hid (by simpa using H12.out), Lib.hid (KeepT.refl _)⟩
   case round =>
    obtain ⟨q, hq, rfl, hX, hKt⟩ := hrel
    by_cases hlt2 : q < T.codes.length
    ·obtain ⟨x, hx⟩ : ∃ x, T.codes[q]? = some x := ⟨_, List.getElem?_eq_getElem hlt2⟩
     obtain ⟨b5, o5, c5, cs5, hv5, _, _, ⟨vi, vq, vl, rfl, hi, hcq, hl, hw1, hw2⟩, hcc⟩ := cells_at HX.out.codes hx
     injection hv5 with hv5 _ hcap5
     subst hv5 hcap5
     obtain ⟨A1, n1, rfl, _, _⟩ := hi.slice
     obtain ⟨A2, n2, rfl, _, _⟩ := hcq.slice
     obtain ⟨A3, n3, rfl, _, _⟩ := hl.slice
     have kc := KeepC.of_below (hX.out.bel.mono (Nat.le_refl _))
     have m0 := kc _ _ (hcc 0 _ rfl)
     have m1 := kc _ _ (hcc 1 _ rfl)
     have m2 := kc _ _ (hcc 2 _ rfl)
     have m3 := kc _ _ (hcc 3 _ rfl)
     have m4 := kc _ _ (hcc 4 _ rfl)
     clear kc hcc
     simp only [Nat.add_zero] at m0
     obtain ⟨W, hW⟩ : ∃ W, W = wr.alloc (.cells #[.int .i64 x.regs, .int .i64 x.slots, .slice A1 x.inputs.length n1, .slice A2 x.consts.length n2, .slice A3 x.list.length n3] 40) := ⟨_, rfl⟩
     have hbx : Blk W wr.heap.size 40 #[.int .i64 x.regs, .int .i64 x.slots, .slice A1 x.inputs.length n1, .slice A2 x.consts.length n2, .slice A3 x.list.length n3] := by rw [hW]; exact Blk.new _ _ _
     obtain ⟨x0, x1, x2, x3, x4⟩ := blk5 hbx
     have HKW : Hid (KeepT w12 W) := Lib.hid (by rw [hW]; exact hKt.out.trans (KeepT.alloc _ _))
     have CX := Lib.hid (wcode_any x _ _ _ w.heap.size g _ _ w W (by rw [hW]; exact hX.out.alloc _) (Nat.le_refl _) hi hcq hl hw1 hw2 (by
      have h1 := flat_le codeBy T.codes (q + 1)
      rw [flat_take codeBy hx] at h1
      have h2 := HL3.out
      simp only [List.length_append] at h1 h2 ⊢
      omega))
     have HXR := Lib.hid hx
     clear hbx hX hKt hi hcq hl hx
     go_upto_region 18 with fail
     rw [← hW]
     clear hW m0 m1 m2 m3 m4
     go_wp2_with fail
     refine CX.out.mono ?_
     rintro e w15 ⟨rfl, h15, k15⟩
     have K15 := Lib.hid (HKW.out.trans k15)
     have H15 : Hid (WSt w.heap.size g w w15 (p3 ++ numsB [(T.codes.length : Int)] ++ ((T.codes.take (q + 1)).map codeBy).flatten) (o3 && decide (T.codes.length ≤ 1024) && (T.codes.take (q + 1)).all codeOk)) := Lib.hid (by
      rw [flat_take codeBy HXR.out, allp_take codeOk HXR.out, ← List.append_assoc, ← Bool.and_assoc]
      exact h15)
     clear h15 k15 x0 x1 x2 x3 x4
     go_wp2_with fail
     go_roundw
     case rel => first | exact ⟨q + 1, by omega, by go_num, H15, K15⟩ | ((repeat apply Exists.intro); exact ⟨⟨q + 1, by omega, by go_num, H15, K15⟩, rfl⟩)
     case measure => simp [intOf]; omega
    ·have hge2 : (T.codes.length : Int) ≤ (q : Int) := by omega
     have hXe := hX.out
     rw [show q = T.codes.length by omega, List.take_length] at hXe
     have hfin : WSt w.heap.size g w wr (magicB ++ tabBy T) (tabOk T) := by
      rw [← HEB.out, ← HEO.out, ← List.append_assoc, ← Bool.and_assoc]
      exact hXe
     have HBE := Lib.hid hfin.bel
     have HSZ := Lib.hid hfin.sz
     obtain ⟨v, hbv, hov, _⟩ := hfin.out
     obtain ⟨L, hL⟩ : ∃ L, L = magicB ++ tabBy T := ⟨_, rfl⟩
     rw [← hL] at hov
     obtain ⟨Av, cv, rfl⟩ := own_slice hov
     obtain ⟨N, hN⟩ : ∃ N, N = L.length := ⟨_, rfl⟩
     rw [← hN] at hov hbv
     have hN9 : N ≤ 900000000 := by rw [hN, hL]; exact HLB.out
     have hcap := own_caps hov
     have k0 := hbv.cell 0
     have k1 := hbv.cell 1
     have HOV := Lib.hid hov
     have HLN := Lib.hid hN.symm
     have HLL := Lib.hid hL
     clear hXe hX hKt hfin hbv hov hN hL
     by_cases hok : tabOk T = true
     ·have HSM := Lib.hid (enc_some hok)
      have kk : wr.cell? ⟨g, 1, none⟩ = some (.bool true) := by rw [k1, hok]; rfl
      clear k1 hok
      have hn0 : (0 : Int) ≤ (N : Int) := by omega
      by_cases hbig : 65536 < N + 4
      ·have hb2 : (65536 : Int) < (N : Int) + 4 := by omega
       go_wp2_with fail
       go_ret2
       exact ⟨HBE.out, .inl ⟨L, T, by rw [HLL.out]; exact HSM.out, .inr ⟨by rw [HLN.out]; exact hbig, rfl⟩⟩⟩
      ·have HNB : Hid (N ≤ 65532) := Lib.hid (by omega)
       obtain ⟨M, hM⟩ : ∃ M : Int, (N : Int) + 4 = M := ⟨_, rfl⟩
       have hb2 : M ≤ 65536 := by omega
       have CS := Lib.hid (summed_any Av N cv L wr HLN.out hcap.1 (by have := hcap.2; unfold maxLen at this; omega) (by omega) (Reads.of_own HOV.out))
       clear hbig
       go_wp2_with fail
       refine CS.out.mono ?_
       rintro e w20 ⟨v2, rfl, ho2, hb20⟩
       have h4 : (L ++ sumBy L).length = L.length + 4 := by rw [List.length_append]; rfl
       rw [h4] at ho2
       obtain ⟨A2, c2, rfl⟩ := own_slice ho2
       have HB20 := Lib.hid (HBE.out.trans (hb20.mono HSZ.out))
       have HO20 := Lib.hid (own_base ho2 HSZ.out)
       have HLE : Hid (L.length + 4 ≤ 65536) := Lib.hid (by rw [HLN.out]; have := HNB.out; omega)
       clear ho2 hb20 h4 CS
       go_wp2_with fail
       go_ret2
       exact ⟨HB20.out, .inl ⟨L, T, by rw [HLL.out]; exact HSM.out, .inl ⟨HLE.out, A2, c2, rfl, HO20.out⟩⟩⟩
     ·have hok2 : tabOk T = false := by simpa using hok
      have HSM := Lib.hid (enc_none hok2)
      have kk : wr.cell? ⟨g, 1, none⟩ = some (.bool false) := by rw [k1, hok2]; rfl
      clear k1 hok hok2
      go_wp2_with fail
      go_ret2
      exact ⟨HBE.out, .inr ⟨HSM.out, rfl⟩⟩
end Go.Proofs.Ytioocaicmiggoaa
namespace Go.Proofs.Ytioocaicmiggoaa
set_option linter.unusedVariables false
set_option linter.unusedSimpArgs false
open Go.RowKit Go.Deep
theorem len_int (x : Int) : (intBy x).length ≤ 100 * (0 + 1) := by have h := numsB_len [x]; unfold intBy; simp only [List.length_cons, List.length_nil] at h; omega
theorem len_kind (l : List Int) : (listBy intBy l).length ≤ 100 * (szL (fun _ => 0) l + 1) := by
 have h2 := plist_le (sz := fun _ => 0) len_int l
 omega
theorem len_inp (x : TInp) : (inpBy x).length ≤ 100 * (0 + 1) := by have h := numsB_len [x.op, x.kind, x.pos, x.attr]; unfold inpBy; simp only [List.length_cons, List.length_nil] at h; omega
theorem len_ins (x : TIns) : (insBy x).length ≤ 100 * (0 + 1) := by have h := numsB_len [x.op, x.dst, x.a, x.b]; unfold insBy; simp only [List.length_cons, List.length_nil] at h; omega
theorem len_val (x : TVal) : (valBy x).length ≤ 100 * (0 + 1) := by
 have h := numsB_len [x.kind]
 have h2 := (vb_len x.bits.toNat).2
 unfold valBy
 rw [List.length_append]
 simp only [List.length_cons, List.length_nil] at h
 omega
theorem len_code (x : TCode) : (codeBy x).length ≤ 100 * (szCode x + 1) := by
 have h := numsB_len [x.regs, x.slots]
 have h2 := plist_le (sz := fun _ => 0) len_inp x.inputs
 have h3 := plist_le (sz := fun _ => 0) len_val x.consts
 have h4 := plist_le (sz := fun _ => 0) len_ins x.list
 unfold codeBy szCode
 simp only [List.length_append]
 simp only [List.length_cons, List.length_nil] at h
 omega
theorem len_tab {T : TTab} (h : szTab T ≤ 1048576) : (magicB ++ tabBy T).length ≤ 900000000 ∧ (plainBy T).length ≤ 1000000000 := by
 have h0 := plain_le T
 have h1 := numsB_len [T.strategy]
 have h2 := numsB_len [T.syms, T.runs, T.cells]
 have h3 := plist_le (sz := fun _ => 0) len_int T.keys
 have h4 := plist_le (sz := fun l : List Int => szL (fun _ => 0) l) len_kind T.kinds
 have h5 := plist_le (sz := szRow) prow_le T.states
 have h6 := plist_le (sz := szCode) len_code T.codes
 have h7 : (tabBy T).length ≤ 200 + 100 * szTab T := by
  unfold tabBy szTab
  simp only [List.length_append]
  simp only [List.length_cons, List.length_nil] at h1 h2
  omega
 have hm : magicB.length = 4 := rfl
 rw [List.length_append, hm]
 omega
theorem encp_own {T : TTab} {w w' : World} {e : Ending} (h : EncP T w e w') : ∃ (l : List UInt8) (A : Option Addr) (n c : Nat) (ec : Int), l.length = n ∧ e = .returned (.tuple #[.slice A n c, .int .i64 ec]) ∧ Below w.heap.size w w' ∧ (ec = 0 → w'.ownsRow w.heap.size 5 1 (.slice A n c) n (bv l)) := by
 obtain ⟨hb, ⟨b, y, h1, ⟨h2, A, c, rfl, h3⟩ | ⟨h2, rfl⟩⟩ | ⟨h1, rfl⟩⟩ := h
 ·exact ⟨b ++ sumBy b, A, b.length + 4, c, 0, by rw [List.length_append]; rfl, rfl, hb, fun _ => h3⟩
 ·exact ⟨[], none, 0, 0, 2, rfl, rfl, hb, fun h => by cases h⟩
 ·exact ⟨[], none, 0, 0, 3, rfl, rfl, hb, fun h => by cases h⟩
theorem dSet8_size (w : World) (g : Nat) (v0 v1 v2 v3 v4 v5 v6 v7 : Value) : (dSet8 w g v0 v1 v2 v3 v4 v5 v6 v7).heap.size = w.heap.size := by
 unfold dSet8
 simp
theorem dSet8_far {w : World} {g G : Nat} {t : TypeId} {cs : Array Value} (h : Blk w g t cs) (hne : g ≠ G) (v0 v1 v2 v3 v4 v5 v6 v7 : Value) : Blk (dSet8 w G v0 v1 v2 v3 v4 v5 v6 v7) g t cs := by
 unfold dSet8
 exact (((((((h.far (p := ⟨G, 0, none⟩) hne v0).far (p := ⟨G, 1, none⟩) hne v1).far (p := ⟨G, 2, none⟩) hne v2).far (p := ⟨G, 3, none⟩) hne v3).far (p := ⟨G, 4, none⟩) hne v4).far (p := ⟨G, 5, none⟩) hne v5).far (p := ⟨G, 6, none⟩) hne v6).far (p := ⟨G, 7, none⟩) hne v7
theorem dSet8_own {w : World} {base G : Nat} {e : TypeId} {s n : Nat} {v : Value} {xs : List Value} (h : w.ownsRow base e s v n xs) (hG : G < base) (v0 v1 v2 v3 v4 v5 v6 v7 : Value) : (dSet8 w G v0 v1 v2 v3 v4 v5 v6 v7).ownsRow base e s v n xs := by
 unfold dSet8
 exact own_set (own_set (own_set (own_set (own_set (own_set (own_set (own_set h (a := ⟨G, 0, none⟩) hG v0) (a := ⟨G, 1, none⟩) hG v1) (a := ⟨G, 2, none⟩) hG v2) (a := ⟨G, 3, none⟩) hG v3) (a := ⟨G, 4, none⟩) hG v4) (a := ⟨G, 5, none⟩) hG v5) (a := ⟨G, 6, none⟩) hG v6) (a := ⟨G, 7, none⟩) hG v7
end Go.Proofs.Ytioocaicmiggoaa

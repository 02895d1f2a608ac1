/- Lst: texts merged for a claim by a program of mine. -/
import Derived.Test.YtioocaicmiggoaaA22
namespace Go.Proofs.Ytioocaicmiggoaa
set_option linter.unusedVariables false
set_option linter.unusedSimpArgs false
open Go.RowKit Go.Deep Go.Maps
def StateP (w : World) (T : TTab) (vk vkk vs vc : Value) (g bM : Nat) (b : Bool) (S : List Int) (e : Ending) (w' : World) : Prop :=
 e = .returned (.bool b) ∧ w.grownBy w' (some bM) ∧ (b = true → AskM w' T vk vkk vs vc g bM S.length S)
theorem PathV.zero {w : World} {B : Nat} {v : Value} {l : List Int} (h : PathV w B v l) : PathV w 0 v l := by
 obtain ⟨A, c, h1, h2, h3, h4, h5⟩ := h
 exact ⟨A, c, h1, h2, h3, h4, fun _ _ => Nat.zero_le _⟩
set_option maxRecDepth 100000 in
set_option maxHeartbeats 4000000 in
theorem state_any (T : TTab) (vk vkk vs vc : Value) (w : World) (g bM : Nat) (S : List Int) (h : AskM w T vk vkk vs vc g bM S.length S) (i : Nat) (x : TRow) (hx : T.states[i]? = some x) (hn : T.states.length ≤ 1500000000000)
  (hpos : ∀ c ∈ T.codes, ∀ x ∈ c.inputs, 0 ≤ x.pos) (hS : CapS T S) (hcd : T.codes.length ≤ 1024) :
  Calls Try.prog 23 #[.pointer (some ⟨g, 0, none⟩), .int .i64 i] w (StateP w T vk vkk vs vc g bM (stateT T i x) (toldU (usesRow T i x) S)) := by
 have hi : i < T.states.length := (List.getElem?_eq_some_iff.1 hx).1
 obtain ⟨b, off, c5, vb, ve, hv, hc1, hc2, q0, q1, q2, q3, q4, q5, q6, q7, hbars, hends, _, _, _, hwl, hwg⟩ := rows_get h.2.2.states hx
 subst hv
 obtain ⟨A6, c6, rfl, hc7, hc8⟩ := hbars.slice
 obtain ⟨A7, c7, rfl, hc9, hc10⟩ := hends.slice
 unfold maxLen at hc2 hc8 hc10
 have b1 : (0 : Int) ≤ (i : Int) := by omega
 have b2 : (i : Int) < (T.states.length : Int) := by omega
 obtain ⟨w1, hw1⟩ : ∃ w1, w1 = w.alloc (.cells #[.int .i64 x.par, .int .i64 x.ty, .bool x.many, .int .i64 x.win, .slice A6 x.bars.length c6, .int .i64 x.leave, .int .i64 x.guard, .slice A7 x.ends.length c7] 46) := ⟨_, rfl⟩
 have B0 : Below w.heap.size w w1 := by rw [hw1]; exact (Below.refl w.heap.size w).alloc (Nat.le_refl _) _
 have BR : Blk w1 w.heap.size 46 #[.int .i64 x.par, .int .i64 x.ty, .bool x.many, .int .i64 x.win, .slice A6 x.bars.length c6, .int .i64 x.leave, .int .i64 x.guard, .slice A7 x.ends.length c7] := by rw [hw1]; exact Blk.new w _ _
 have M1 := h.below B0
 have HK := Lib.hid (fun W (hg : w.grownBy W (some bM)) => keepC_of_set h.2.1 hg)
 have HBA := Lib.hid (fun W (hk : KeepC w W) => keep_stops hk hbars)
 have HEN := Lib.hid (fun W (hk : KeepC w W) => keep_tails hk hends)
 obtain ⟨k0, k1, k2, k3, k4, k5, k6, k7, k8⟩ := blk9 h.1
 obtain ⟨own, hown⟩ : ∃ own, pathT T.states i = own := ⟨_, rfl⟩
 obtain ⟨up, hup⟩ : ∃ up, pathT T.states x.par = up := ⟨_, rfl⟩
 have hol : own.length ≤ 1500000000000 := by rw [← hown]; exact Nat.le_trans (pathT_len _ _) hn
 have hul : up.length ≤ 1500000000000 := by rw [← hup]; exact Nat.le_trans (pathT_len _ _) hn
 have HOI := Lib.hid (show ∀ j ∈ own, 0 ≤ j ∧ j < (T.states.length : Int) by rw [← hown]; exact pathT_in _ _)
 have HUI := Lib.hid (show ∀ j ∈ up, 0 ≤ j ∧ j < (T.states.length : Int) by rw [← hup]; exact pathT_in _ _)
 have HOWN := Lib.hid hown
 have HUP := Lib.hid hup
 have HM1 := Lib.hid M1
 have HB0 := Lib.hid B0
 have HBR := Lib.hid BR
 have HPOS := Lib.hid hpos
 have HW := Lib.hid (And.intro hwl hwg)
 have HCS := Lib.hid hS
 obtain ⟨us, hus⟩ : ∃ us, usesRow T i x = us := ⟨_, rfl⟩
 have HUS := Lib.hid hus
 obtain ⟨rv, hrv⟩ : ∃ rv, stateT T i x = rv := ⟨_, rfl⟩
 have HRV := Lib.hid hrv
 rw [hrv, hus]
 have hgl := h.1.lt
 clear h hx hbars hends hown hup M1 B0 BR hpos hwl hwg hS hus hrv
 go_enter Try.func23, Try.ntmps23
 go_upto_region 2 with fail
 rw [← hw1]
 clear hw1 q0 q1 q2 q3 q4 q5 q6 q7 k0 k1 k2 k3 k4 k5 k6 k7 k8
 go_cut [6, 7] from 23 to 35 (fun a b wx => PathV wx 0 a own ∧ PathV wx 0 b up ∧ Below w1.heap.size w1 wx)
 case first =>
  obtain ⟨k0, k1, k2, k3, k4, k5, k6, k7, k8⟩ := blk9 HM1.out.1
  obtain ⟨r0, r1, r2, r3, r4, r5, r6, r7⟩ := blk8 HBR.out
  have CP : Hid (∀ (W : World) (j : Int), Below w1.heap.size w1 W → Calls Try.prog 13 #[.agg #[.int .i64 T.strategy, vk, vkk, .int .i64 T.syms, .int .i64 T.runs, .int .i64 T.cells, .slice (some ⟨b, off, none⟩) T.states.length c5, vc], .int .i64 j] W (PathP W (pathT T.states j))) := Lib.hid (fun W j hb => path_any T vk vkk _ vc hn j W (HM1.out.2.2.below hb))
  have HBD : Hid (Below w1.heap.size w1 w1.drew) := Lib.hid ⟨rfl, rfl, rfl, Nat.le_refl _, fun _ _ => rfl⟩
  go_region_with (first
   | (go_at_call 13; (with_reducible refine (CP.out w1.drew (i : Int) HBD.out).mono ?_); rintro e wa ⟨va, rfl, hoa, hba⟩; have hb9 : Below w1.heap.size w1 wa := ⟨hba.os, hba.tape, hba.output, hba.size, hba.block⟩; have HB9 := Lib.hid hb9; have PA := Lib.hid (PathV.of hoa); clear hb9 hoa hba; obtain ⟨k0, k1, k2, k3, k4, k5, k6, k7, k8⟩ := blk9 (HM1.out.below HB9.out).1; obtain ⟨r0, r1, r2, r3, r4, r5, r6, r7⟩ := blk8 (HBR.out.below HB9.out HBR.out.lt))
   | (go_at_call 13; (with_reducible refine (CP.out wa x.par HB9.out).mono ?_); rintro e wb ⟨v2, rfl, hob, hbb⟩; have hb10 : Below w1.heap.size w1 wb := HB9.out.trans (hbb.mono HB9.out.size); have HB10 := Lib.hid hb10; have HBB := Lib.hid hbb; have PB := Lib.hid (PathV.of hob); clear hb10 hob hbb))
  all_goals go_wp2_with fail
  all_goals (go_meet; exact ⟨by rw [← HOWN.out]; exact PA.out.zero.below HBB.out, by rw [← HUP.out]; exact PB.out.zero, HB10.out⟩)
 case rest =>
  obtain ⟨ho, hu, hbx⟩ := hcut
  have SW := Lib.hid (show StW w T vk vkk (.slice (some ⟨b, off, none⟩) T.states.length c5) vc g bM u6 u7 own up w.heap.size #[.int .i64 x.par, .int .i64 x.ty, .bool x.many, .int .i64 x.win, .slice A6 x.bars.length c6, .int .i64 x.leave, .int .i64 x.guard, .slice A7 x.ends.length c7] wc S from
   ⟨HM1.out.below hbx, ho, hu, HBR.out.below hbx HBR.out.lt, (only_of_below HB0.out _).trans (only_of_below (hbx.mono (Nat.le_refl _)) _)⟩)
  obtain ⟨Ao, co, rfl, _, hco1, hco2, _⟩ := ho
  obtain ⟨Au, cu, rfl, _, hcu1, hcu2, _⟩ := hu
  unfold maxLen at hco2 hcu2
  obtain ⟨r0, r1, r2, r3, r4, r5, r6, r7⟩ := blk8 SW.out.row
  have HU0 : Hid (useTwo T i x = [⟨x.guard, own, own.length - 1, own.length, x.ty⟩, ⟨x.leave, up, up.length, up.length, -1⟩]) := Lib.hid (by unfold useTwo; rw [HOWN.out, HUP.out])
  have HUS2 : Hid (us = useTwo T i x ++ x.bars.map (useBar up) ++ x.ends.flatMap (useEnd own)) := Lib.hid (by rw [← HUS.out]; unfold usesRow; rw [HOWN.out, HUP.out])
  have HRV2 : Hid (us.all (useOk T) = rv) := Lib.hid (by rw [← HRV.out, ← HUS.out]; rfl)
  have C1 := Lib.hid (st_code SW.out (by have := capS_len HCS.out; omega) HPOS.out rfl ⟨x.guard, own, own.length - 1, own.length, x.ty⟩ HW.out.2 _ SW.out.po (by simp; omega) (by simp) HOI.out)
  clear hbx
  simp only at C1
  go_wp2_with fail
  refine C1.out.mono ?_
  rintro e w2 ⟨rfl, hg2, hk2, hs2, hb2⟩
  clear r0 r1 r2 r3 r4 r5 r6 r7 C1
  obtain ⟨t1, ht1⟩ : ∃ t1, useOk T ⟨x.guard, own, own.length - 1, own.length, x.ty⟩ = t1 := ⟨_, rfl⟩
  rw [ht1] at hb2 ⊢
  have HT1 := Lib.hid ht1
  have HG2 := Lib.hid hg2
  clear ht1 hg2 hk2 hs2
  cases t1 with
  | false =>
   have e : Hid (rv = false) := Lib.hid (by rw [← HRV2.out]; exact st_bad (P := []) (by rw [HUS2.out, HU0.out]; rfl) HT1.out)
   clear hb2
   go_wp2_with fail
   go_ret
   exact ⟨ret_bool e.out.symm, HG2.out, fun h => by rw [e.out] at h; cases h⟩
  | true =>
   have SW2 := Lib.hid (hb2 rfl)
   obtain ⟨r0, r1, r2, r3, r4, r5, r6, r7⟩ := blk8 SW2.out.row
   have C2 := Lib.hid (st_code SW2.out (by have h1 := capS_len (capS_told HCS.out HT1.out); exact Nat.lt_of_le_of_lt h1 (by omega)) HPOS.out rfl ⟨x.leave, up, up.length, up.length, -1⟩ HW.out.1 _ SW2.out.pu (by simp) (by simp) HUI.out)
   clear hb2
   simp only at C2
   go_wp2_with fail
   refine C2.out.mono ?_
   rintro e w3 ⟨rfl, hg3, hk3, hs3, hb3⟩
   clear r0 r1 r2 r3 r4 r5 r6 r7 C2
   obtain ⟨t2, ht2⟩ : ∃ t2, useOk T ⟨x.leave, up, up.length, up.length, -1⟩ = t2 := ⟨_, rfl⟩
   rw [ht2] at hb3 ⊢
   have HT2 := Lib.hid ht2
   have HG3 := Lib.hid hg3
   clear ht2 hg3 hk3 hs3
   cases t2 with
   | false =>
    have e : Hid (rv = false) := Lib.hid (by rw [← HRV2.out]; exact st_bad (P := [⟨x.guard, own, own.length - 1, own.length, x.ty⟩]) (by rw [HUS2.out, HU0.out]; rfl) HT2.out)
    clear hb3
    go_wp2_with fail
    go_ret
    exact ⟨ret_bool e.out.symm, HG3.out, fun h => by rw [e.out] at h; cases h⟩
   | true =>
    have SW3 := hb3 rfl
    obtain ⟨r0, r1, r2, r3, r4, r5, r6, r7⟩ := blk8 SW3.row
    have I0 : Hid (StInv w T vk vkk (.slice (some ⟨b, off, none⟩) T.states.length c5) vc g bM (.slice Ao own.length co) (.slice Au up.length cu) own up w.heap.size #[.int .i64 x.par, .int .i64 x.ty, .bool x.many, .int .i64 x.win, .slice A6 x.bars.length c6, .int .i64 x.leave, .int .i64 x.guard, .slice A7 x.ends.length c7] S (useTwo T i x ++ (x.bars.take 0).map (useBar up)) w3) := Lib.hid (by
     rw [HU0.out]
     refine ⟨SW3, ?_⟩
     simp only [List.take_zero, List.map_nil, List.append_nil, List.all_cons, List.all_nil, HT1.out, HT2.out]; rfl)
    have nb : (0 : Int) ≤ (x.bars.length : Int) := by omega
    clear hb3 SW3
    go_wp2_with fail
    clear r0 r1 r2 r3 r4 r5 r6 r7
    go_loopw [66] (fun s wr => ∃ r : Nat, r ≤ x.bars.length ∧ s = .int .i64 r ∧ Hid (StInv w T vk vkk (.slice (some ⟨b, off, none⟩) T.states.length c5) vc g bM (.slice Ao own.length co) (.slice Au up.length cu) own up w.heap.size #[.int .i64 x.par, .int .i64 x.ty, .bool x.many, .int .i64 x.win, .slice A6 x.bars.length c6, .int .i64 x.leave, .int .i64 x.guard, .slice A7 x.ends.length c7] S (useTwo T i x ++ (x.bars.take r).map (useBar up)) wr)) (fun s _ => x.bars.length - (intOf s).toNat)
    case atStart => exact ⟨0, Nat.zero_le _, rfl, I0⟩
    case round =>
     clear I0
     obtain ⟨r, hr, rfl, hI⟩ := hrel
     have SWr := hI.out.1
     by_cases hlt : r < x.bars.length
     ·obtain ⟨y, hy⟩ : ∃ y, x.bars[r]? = some y := ⟨_, List.getElem?_eq_getElem hlt⟩
      obtain ⟨b6, off6, c8, hvv, _, _, q0, q1, _, wy⟩ := stops_get (HBA.out wr (HK.out wr SWr.grown)) hy
      injection hvv with hv1 hv2 hv3
      subst hv1
      have b3 : (0 : Int) ≤ (r : Int) := by omega
      have b4 : (r : Int) < (x.bars.length : Int) := by omega
      obtain ⟨w5, hw5⟩ : ∃ w5, w5 = wr.alloc (.cells #[.int .i64 y.ty, .int .i64 y.gd] 98) := ⟨_, rfl⟩
      have SW5 := Lib.hid (SWr.below (w' := w5) (by rw [hw5]; exact (Below.refl _ _).alloc (Nat.le_refl _) _))
      have BX := Lib.hid (show Blk w5 wr.heap.size 98 #[.int .i64 y.ty, .int .i64 y.gd] by rw [hw5]; exact Blk.new wr _ _)
      have HSP : Hid (us = (useTwo T i x ++ (x.bars.take r).map (useBar up)) ++ useBar up y :: ((x.bars.drop (r + 1)).map (useBar up) ++ x.ends.flatMap (useEnd own))) := Lib.hid (by
       rw [HUS2.out]
       conv => lhs; rw [split_at hy]
       simp)
      have HNX : Hid ((useTwo T i x ++ (x.bars.take (r + 1)).map (useBar up)) = (useTwo T i x ++ (x.bars.take r).map (useBar up)) ++ [useBar up y]) := Lib.hid (by rw [take_one hy]; simp)
      have CT := Lib.hid (st_code SW5.out (by have h1 := capS_len (capU HCS.out _ hI.out.2); omega) HPOS.out rfl (useBar up y) wy _ SW5.out.pu (by simp [useBar]) (by simp [useBar]) HUI.out)
      have HALL := Lib.hid hI.out.2
      clear hy hv2 hv3 wy SWr hI
      simp only [useBar] at CT
      go_upto_region 9 with fail
      rw [← hw5]
      clear hw5 q0 q1
      obtain ⟨z0, z1⟩ := blk2 BX.out
      go_wp2_with fail
      refine CT.out.mono ?_
      rintro e w6 ⟨rfl, hg6, hk6, hs6, hb6⟩
      obtain ⟨t6, ht6⟩ : ∃ t6, useOk T ⟨y.gd, up, up.length, up.length, y.ty⟩ = t6 := ⟨_, rfl⟩
      rw [ht6] at hb6 ⊢
      have HT6 := Lib.hid ht6
      have HG6 := Lib.hid hg6
      clear ht6 hg6 hk6 hs6 z0 z1 CT
      cases t6 with
      | false =>
       have e : Hid (rv = false) := Lib.hid (by rw [← HRV2.out]; exact st_bad HSP.out HT6.out)
       clear hb6
       go_wp2_with fail
       go_ret
       exact ⟨ret_bool e.out.symm, HG6.out, fun h => by rw [e.out] at h; cases h⟩
      | true =>
       have I6 : Hid (StInv w T vk vkk (.slice (some ⟨b, off, none⟩) T.states.length c5) vc g bM (.slice Ao own.length co) (.slice Au up.length cu) own up w.heap.size #[.int .i64 x.par, .int .i64 x.ty, .bool x.many, .int .i64 x.win, .slice (some ⟨b6, off6, none⟩) x.bars.length c6, .int .i64 x.leave, .int .i64 x.guard, .slice A7 x.ends.length c7] S (useTwo T i x ++ (x.bars.take (r + 1)).map (useBar up)) w6) := Lib.hid (by
        rw [HNX.out]
        refine ⟨?_, ?_⟩
        ·rw [toldU_snoc]; exact hb6 rfl
        ·rw [List.all_append, HALL.out]
         simp only [List.all_cons, List.all_nil, useBar, HT6.out]; rfl)
       clear hb6 HALL
       go_wp2_with fail
       go_roundw
       case rel => first | exact ⟨r + 1, by omega, by go_num, I6⟩ | ((repeat apply Exists.intro); exact ⟨⟨r + 1, by omega, by go_num, I6⟩, rfl⟩)
       case measure => simp [intOf]; omega
     ·have hge : (x.bars.length : Int) ≤ (r : Int) := by omega
      have I1 : Hid (StInv w T vk vkk (.slice (some ⟨b, off, none⟩) T.states.length c5) vc g bM (.slice Ao own.length co) (.slice Au up.length cu) own up w.heap.size #[.int .i64 x.par, .int .i64 x.ty, .bool x.many, .int .i64 x.win, .slice A6 x.bars.length c6, .int .i64 x.leave, .int .i64 x.guard, .slice A7 x.ends.length c7] S (useTwo T i x ++ x.bars.map (useBar up) ++ (x.ends.take 0).flatMap (useEnd own)) wr) := Lib.hid (by
       have h9 := hI.out
       rw [List.take_of_length_le (by omega)] at h9
       simpa using h9)
      obtain ⟨r0, r1, r2, r3, r4, r5, r6, r7⟩ := blk8 SWr.row
      have ne : (0 : Int) ≤ (x.ends.length : Int) := by omega
      clear hI SWr
      go_wp2_with fail
      clear r0 r1 r2 r3 r4 r5 r6 r7
      go_loopw [87] (fun s wr => ∃ r : Nat, r ≤ x.ends.length ∧ s = .int .i64 r ∧ Hid (StInv w T vk vkk (.slice (some ⟨b, off, none⟩) T.states.length c5) vc g bM (.slice Ao own.length co) (.slice Au up.length cu) own up w.heap.size #[.int .i64 x.par, .int .i64 x.ty, .bool x.many, .int .i64 x.win, .slice A6 x.bars.length c6, .int .i64 x.leave, .int .i64 x.guard, .slice A7 x.ends.length c7] S (useTwo T i x ++ x.bars.map (useBar up) ++ (x.ends.take r).flatMap (useEnd own)) wr)) (fun s _ => x.ends.length - (intOf s).toNat)
      case atStart => exact ⟨0, Nat.zero_le _, rfl, I1⟩
      case round =>
       clear I1
       obtain ⟨r, hr, rfl, hI⟩ := hrel
       have SWr := hI.out.1
       by_cases hlt : r < x.ends.length
       ·obtain ⟨z, hz⟩ : ∃ z, x.ends[r]? = some z := ⟨_, List.getElem?_eq_getElem hlt⟩
        obtain ⟨b6, off6, c8, vb8, hvv, _, _, q0, q1, q2, hb8, _, wz⟩ := tails_get (HEN.out w (KeepC.refl w)) hz
        injection hvv with hv1 hv2 hv3
        subst hv1
        obtain ⟨A8, c9, rfl, hc11, hc12⟩ := hb8.slice
        unfold maxLen at hc12
        have b3 : (0 : Int) ≤ (r : Int) := by omega
        have b4 : (r : Int) < (x.ends.length : Int) := by omega
        obtain ⟨w5, hw5⟩ : ∃ w5, w5 = wr.alloc (.cells #[.int .i64 z.br, .int .i64 z.cl, .slice A8 z.bars.length c9] 56) := ⟨_, rfl⟩
        have SW5 := Lib.hid (SWr.below (w' := w5) (by rw [hw5]; exact (Below.refl _ _).alloc (Nat.le_refl _) _))
        have BX := Lib.hid (show Blk w5 wr.heap.size 56 #[.int .i64 z.br, .int .i64 z.cl, .slice A8 z.bars.length c9] by rw [hw5]; exact Blk.new wr _ _)
        have HB8 : Hid (∀ W, w.grownBy W (some bM) → SlR 2 StopC W (.slice A8 z.bars.length c9) z.bars) := Lib.hid (fun W hg => keep_stops (HK.out W hg) hb8)
        have q0 := HK.out wr SWr.grown _ _ q0
        have q1 := HK.out wr SWr.grown _ _ q1
        have q2 := HK.out wr SWr.grown _ _ q2
        have HSP : Hid (us = (useTwo T i x ++ x.bars.map (useBar up) ++ (x.ends.take r).flatMap (useEnd own)) ++ ⟨z.cl, own, own.length, own.length, -1⟩ :: (z.bars.map (useBar own) ++ (x.ends.drop (r + 1)).flatMap (useEnd own))) := Lib.hid (by
         rw [HUS2.out]
         conv => lhs; rw [split_at hz]
         simp [useEnd])
        have HNX : Hid ((useTwo T i x ++ x.bars.map (useBar up) ++ (x.ends.take (r + 1)).flatMap (useEnd own)) = (useTwo T i x ++ x.bars.map (useBar up) ++ (x.ends.take r).flatMap (useEnd own)) ++ ⟨z.cl, own, own.length, own.length, -1⟩ :: z.bars.map (useBar own)) := Lib.hid (by rw [take_one hz]; simp [useEnd])
        have CT := Lib.hid (st_code SW5.out (by have h1 := capS_len (capU HCS.out _ hI.out.2); omega) HPOS.out rfl ⟨z.cl, own, own.length, own.length, -1⟩ wz _ SW5.out.po (by simp) (by simp) HOI.out)
        have HALL := Lib.hid hI.out.2
        clear hz hv2 hv3 wz SWr hI hb8
        simp only at CT
        go_upto_region 15 with fail
        rw [← hw5]
        clear hw5 q0 q1 q2
        obtain ⟨z0, z1, z2⟩ : _ ∧ _ ∧ _ := ⟨BX.out.cell 0, BX.out.cell 1, BX.out.cell 2⟩
        go_wp2_with fail
        refine CT.out.mono ?_
        rintro e w6 ⟨rfl, hg6, hk6, hs6, hb6⟩
        obtain ⟨t6, ht6⟩ : ∃ t6, useOk T ⟨z.cl, own, own.length, own.length, -1⟩ = t6 := ⟨_, rfl⟩
        rw [ht6] at hb6 ⊢
        have HT6 := Lib.hid ht6
        have HG6 := Lib.hid hg6
        have z2 := hk6 _ _ z2
        clear ht6 hg6 hk6 hs6 z0 z1 CT
        cases t6 with
        | false =>
         have e : Hid (rv = false) := Lib.hid (by rw [← HRV2.out]; exact st_bad HSP.out HT6.out)
         clear hb6
         go_wp2_with fail
         go_ret
         exact ⟨ret_bool e.out.symm, HG6.out, fun h => by rw [e.out] at h; cases h⟩
        | true =>
         have I6 : Hid (StInv w T vk vkk (.slice (some ⟨b, off, none⟩) T.states.length c5) vc g bM (.slice Ao own.length co) (.slice Au up.length cu) own up w.heap.size #[.int .i64 x.par, .int .i64 x.ty, .bool x.many, .int .i64 x.win, .slice A6 x.bars.length c6, .int .i64 x.leave, .int .i64 x.guard, .slice (some ⟨b6, off6, none⟩) x.ends.length c7] S ((useTwo T i x ++ x.bars.map (useBar up) ++ (x.ends.take r).flatMap (useEnd own)) ++ ⟨z.cl, own, own.length, own.length, -1⟩ :: (z.bars.take 0).map (useBar own)) w6) := Lib.hid (by
          rw [List.take_zero, List.map_nil]
          refine ⟨?_, ?_⟩
          ·rw [toldU_snoc]; exact hb6 rfl
          ·rw [List.all_append, HALL.out]
           simp only [List.all_cons, List.all_nil, HT6.out]; rfl)
         have nz : (0 : Int) ≤ (z.bars.length : Int) := by omega
         clear hb6 HALL
         go_wp2_with fail
         clear z2
         go_loopw [103] (fun s wr => ∃ q : Nat, q ≤ z.bars.length ∧ s = .int .i64 q ∧ Hid (StInv w T vk vkk (.slice (some ⟨b, off, none⟩) T.states.length c5) vc g bM (.slice Ao own.length co) (.slice Au up.length cu) own up w.heap.size #[.int .i64 x.par, .int .i64 x.ty, .bool x.many, .int .i64 x.win, .slice A6 x.bars.length c6, .int .i64 x.leave, .int .i64 x.guard, .slice (some ⟨b6, off6, none⟩) x.ends.length c7] S ((useTwo T i x ++ x.bars.map (useBar up) ++ (x.ends.take r).flatMap (useEnd own)) ++ ⟨z.cl, own, own.length, own.length, -1⟩ :: (z.bars.take q).map (useBar own)) wr)) (fun s _ => z.bars.length - (intOf s).toNat)
         case atStart => exact ⟨0, Nat.zero_le _, rfl, I6⟩
         case round =>
          clear I6
          obtain ⟨q, hq, rfl, hI⟩ := hrel
          have SWr := hI.out.1
          by_cases hlq : q < z.bars.length
          ·obtain ⟨y, hy⟩ : ∃ y, z.bars[q]? = some y := ⟨_, List.getElem?_eq_getElem hlq⟩
           obtain ⟨b7, off7, c10, hvv, _, _, q0, q1, _, wy⟩ := stops_get (HB8.out wr SWr.grown) hy
           injection hvv with hv1 hv2 hv3
           subst hv1
           have b5 : (0 : Int) ≤ (q : Int) := by omega
           have b6' : (q : Int) < (z.bars.length : Int) := by omega
           obtain ⟨w7, hw7⟩ : ∃ w7, w7 = wr.alloc (.cells #[.int .i64 y.ty, .int .i64 y.gd] 98) := ⟨_, rfl⟩
           have SW7 := Lib.hid (SWr.below (w' := w7) (by rw [hw7]; exact (Below.refl _ _).alloc (Nat.le_refl _) _))
           have BX7 := Lib.hid (show Blk w7 wr.heap.size 98 #[.int .i64 y.ty, .int .i64 y.gd] by rw [hw7]; exact Blk.new wr _ _)
           have HSQ : Hid (us = ((useTwo T i x ++ x.bars.map (useBar up) ++ (x.ends.take r).flatMap (useEnd own)) ++ ⟨z.cl, own, own.length, own.length, -1⟩ :: (z.bars.take q).map (useBar own)) ++ useBar own y :: ((z.bars.drop (q + 1)).map (useBar own) ++ (x.ends.drop (r + 1)).flatMap (useEnd own))) := Lib.hid (by
            rw [HSP.out]
            conv => lhs; rw [split_at hy]
            simp)
           have HNQ : Hid (((useTwo T i x ++ x.bars.map (useBar up) ++ (x.ends.take r).flatMap (useEnd own)) ++ ⟨z.cl, own, own.length, own.length, -1⟩ :: (z.bars.take (q + 1)).map (useBar own)) = ((useTwo T i x ++ x.bars.map (useBar up) ++ (x.ends.take r).flatMap (useEnd own)) ++ ⟨z.cl, own, own.length, own.length, -1⟩ :: (z.bars.take q).map (useBar own)) ++ [useBar own y]) := Lib.hid (by rw [take_one hy]; simp)
           have CT := Lib.hid (st_code SW7.out (by have h1 := capS_len (capU HCS.out _ hI.out.2); omega) HPOS.out rfl (useBar own y) wy _ SW7.out.po (by simp [useBar]) (by simp [useBar]) HOI.out)
           have HALL := Lib.hid hI.out.2
           clear hy hv2 hv3 wy SWr hI
           simp only [useBar] at CT
           go_upto_region 20 with fail
           rw [← hw7]
           clear hw7 q0 q1
           obtain ⟨z0, z1⟩ := blk2 BX7.out
           go_wp2_with fail
           refine CT.out.mono ?_
           rintro e w8 ⟨rfl, hg8, hk8, hs8, hb8⟩
           obtain ⟨t8, ht8⟩ : ∃ t8, useOk T ⟨y.gd, own, own.length, own.length, y.ty⟩ = t8 := ⟨_, rfl⟩
           rw [ht8] at hb8 ⊢
           have HT8 := Lib.hid ht8
           have HG8 := Lib.hid hg8
           clear ht8 hg8 hk8 hs8 z0 z1 CT
           cases t8 with
           | false =>
            have e : Hid (rv = false) := Lib.hid (by rw [← HRV2.out]; exact st_bad HSQ.out HT8.out)
            clear hb8
            go_wp2_with fail
            go_ret
            exact ⟨ret_bool e.out.symm, HG8.out, fun h => by rw [e.out] at h; cases h⟩
           | true =>
            have I8 : Hid (StInv w T vk vkk (.slice (some ⟨b, off, none⟩) T.states.length c5) vc g bM (.slice Ao own.length co) (.slice Au up.length cu) own up w.heap.size #[.int .i64 x.par, .int .i64 x.ty, .bool x.many, .int .i64 x.win, .slice A6 x.bars.length c6, .int .i64 x.leave, .int .i64 x.guard, .slice (some ⟨b6, off6, none⟩) x.ends.length c7] S ((useTwo T i x ++ x.bars.map (useBar up) ++ (x.ends.take r).flatMap (useEnd own)) ++ ⟨z.cl, own, own.length, own.length, -1⟩ :: (z.bars.take (q + 1)).map (useBar own)) w8) := Lib.hid (by
             rw [HNQ.out]
             refine ⟨?_, ?_⟩
             ·rw [toldU_snoc]; exact hb8 rfl
             ·rw [List.all_append, HALL.out]
              simp only [List.all_cons, List.all_nil, useBar, HT8.out]; rfl)
            clear hb8 HALL
            go_wp2_with fail
            go_roundw
            case rel => first | exact ⟨q + 1, by omega, by go_num, I8⟩ | ((repeat apply Exists.intro); exact ⟨⟨q + 1, by omega, by go_num, I8⟩, rfl⟩)
            case measure => simp [intOf]; omega
          ·have hgq : (z.bars.length : Int) ≤ (q : Int) := by omega
           have I9 : Hid (StInv w T vk vkk (.slice (some ⟨b, off, none⟩) T.states.length c5) vc g bM (.slice Ao own.length co) (.slice Au up.length cu) own up w.heap.size #[.int .i64 x.par, .int .i64 x.ty, .bool x.many, .int .i64 x.win, .slice A6 x.bars.length c6, .int .i64 x.leave, .int .i64 x.guard, .slice (some ⟨b6, off6, none⟩) x.ends.length c7] S (useTwo T i x ++ x.bars.map (useBar up) ++ (x.ends.take (r + 1)).flatMap (useEnd own)) wr) := Lib.hid (by
            have h9 := hI.out
            rw [List.take_of_length_le (l := z.bars) (by omega), ← HNX.out] at h9
            exact h9)
           clear hI SWr
           go_wp2_with fail
           go_roundw
           case rel => first | exact ⟨r + 1, by omega, by go_num, I9⟩ | ((repeat apply Exists.intro); exact ⟨⟨r + 1, by omega, by go_num, I9⟩, rfl⟩)
           case measure => simp [intOf]; omega
       ·have hge : (x.ends.length : Int) ≤ (r : Int) := by omega
        have h9 := hI.out
        rw [List.take_of_length_le (by omega), ← HUS2.out] at h9
        have HF := Lib.hid h9
        have e : Hid (rv = true) := Lib.hid (by rw [← HRV2.out]; exact h9.2)
        clear hI SWr h9
        go_wp2_with fail
        go_ret
        exact ⟨ret_bool e.out.symm, HF.out.1.grown, fun _ => HF.out.1.ask⟩
end Go.Proofs.Ytioocaicmiggoaa

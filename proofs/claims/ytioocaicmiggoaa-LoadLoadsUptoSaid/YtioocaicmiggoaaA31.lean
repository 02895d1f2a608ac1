/- May: texts merged for a claim by a program of mine. -/
import Derived.Deep.DeepCutAuto
import Derived.StillTailTactics
import Derived.BigQuiet
import Derived.Test.YtioocaicmiggoaaA27
import Derived.Test.YtioocaicmiggoaaA29
import Derived.Test.YtioocaicmiggoaaA30
namespace Go.Proofs.Ytioocaicmiggoaa
set_option linter.unusedVariables false
set_option linter.unusedSimpArgs false
open Go.RowKit Go.Deep Go.Maps
theorem SetX.noBlk {w : World} {b n : Nat} {S : List Int} (h : SetX w b n S) {g : Nat} {t : TypeId} {cs : Array Value} (hb : Blk w g t cs) : g ≠ b := fun e => by
 subst e
 obtain ⟨D, ⟨es, clock, hh, _⟩, _⟩ := h
 obtain ⟨m, hm⟩ : ∃ m, w.heap[g]? = some (.cells cs t m) := ⟨_, hb⟩
 rw [hm] at hh
 cases hh
theorem PathU.set {w w' : World} {b n : Nat} {S : List Int} {v : Value} {l : List Int} (h : PathU w v l) (hs : SetX w b n S) (hg : w.grownBy w' (some b)) : PathU w' v l := by
 obtain ⟨A, c, h1, h2, h3, h4, h5⟩ := h
 refine ⟨A, c, h1, ⟨h2.1, fun hn => ?_⟩, h3, h4, fun ad e => ?_⟩
 ·obtain ⟨ad, e, hb, hc⟩ := h2.2 hn
  obtain ⟨cs, hk⟩ := h5 ad e
  have hk2 := hk.grown hg (fun e => by injection e with e; exact hs.noBlk hk e)
  exact ⟨ad, e, Nat.lt_of_lt_of_le hb hg.size, fun j x hj => (World.cell?_of_block (by rw [block_of_add]; exact hk2.trans hk.symm)).trans (hc j x hj)⟩
 ·obtain ⟨cs, hc⟩ := h5 ad e
  exact ⟨cs, hc.grown hg (fun e => by injection e with e; exact hs.noBlk hc e)⟩
theorem useC_to {w w' : World} (hk : ∀ v l, PathU w v l → PathU w' v l) {cs : List Value} {u : TUse} (h : UseC w cs u) : UseC w' cs u := by
 obtain ⟨vp, h1, h2, h3⟩ := h
 exact ⟨vp, h1, hk _ _ h2, h3⟩
theorem uacc_slr {B : Nat} {w : World} {v : Value} {us : List TUse} {css : List (List Value)} (h : UAcc B w v us css) : SlR 5 UseC w v us :=
 (slq_of_own (Q := fun _ => True) h.2 h.1 (fun _ _ _ _ => trivial) (.inr trivial)).out (fun _ _ h => h)
theorem uses_get {w : World} {v : Value} {us : List TUse} (h : SlR 5 UseC w v us) {i : Nat} {u : TUse} (hu : us[i]? = some u) :
  ∃ b off c vp, v = .slice (some ⟨b, off, none⟩) us.length c ∧ w.cell? ⟨b, off + i * 5, none⟩ = some (.int .i64 u.code) ∧ w.cell? ⟨b, off + i * 5 + 1, none⟩ = some vp ∧ w.cell? ⟨b, off + i * 5 + 2, none⟩ = some (.int .i64 u.one) ∧
   w.cell? ⟨b, off + i * 5 + 3, none⟩ = some (.int .i64 u.many) ∧ w.cell? ⟨b, off + i * 5 + 4, none⟩ = some (.int .i64 u.asked) ∧ PathU w vp u.path ∧ wfi u.code := by
 obtain ⟨b, off, c, hv, h1, h2, hi, cs, hl, ⟨vp, rfl, hp, hw⟩, hc⟩ := h.get hu
 exact ⟨b, off, c, vp, hv, hc 0 _ rfl, hc 1 _ rfl, hc 2 _ rfl, hc 3 _ rfl, hc 4 _ rfl, hp, hw⟩
structure MayW (T : TTab) (us : List TUse) (vk vkk vs vc vu : Value) (w0 : World) (H : Nat) (cs : Array Value) (g : Nat) (w : World) (S : List Int) : Prop where
 tab : TabX w T vk vkk vs vc
 set : SetX w H S.length S
 use : SlR 5 UseC w vu us
 blk : Blk w g 27 cs
 grown : w0.grownBy w (some H)
section
variable {T : TTab} {us : List TUse} {vk vkk vs vc vu : Value} {w0 w w' : World} {H g : Nat} {cs : Array Value} {S : List Int}
theorem MayW.below (h : MayW T us vk vkk vs vc vu w0 H cs g w S) (hb : Below w.heap.size w w') : MayW T us vk vkk vs vc vu w0 H cs g w' S :=
 ⟨h.tab.below hb, h.set.below hb h.set.lt, h.use.keep (KeepC.of_below hb) fun _ _ k => useC_to (fun _ _ p => p.below hb) k, h.blk.below hb h.blk.lt, h.grown.trans (only_of_below hb _)⟩
theorem MayW.store (h : MayW T us vk vkk vs vc vu w0 H cs g w S) {k : Int} (hk : wfi k) (hn : S.length < maxLen) :
  ∃ w', (Instr.mapUpdate 60 (.map (some H)) (.int .i64 k) (.bool true)).run Try.prog w = .ok () w' ∧ MayW T us vk vkk vs vc vu w0 H cs g w' (addS k S) ∧ w.grownBy w' (some H) := by
 obtain ⟨w', hr, hs, hg⟩ := h.set.store hk hn
 have hkc := keepC_of_set h.set hg
 exact ⟨w', hr, ⟨h.tab.keep hkc, hs.low, h.use.keep hkc fun _ _ k => useC_to (fun _ _ p => p.set h.set hg) k, h.blk.grown hg (fun e => by injection e with e; exact h.set.noBlk h.blk e), h.grown.trans hg⟩, hg⟩
end
theorem told_none {u : TUse} (h : u.code = -1) (S : List Int) : toldS u.code S = S := by unfold toldS; rw [if_pos h]
theorem told_add {u : TUse} (h : ¬ u.code = -1) (S : List Int) : toldS u.code S = addS u.code S := by unfold toldS; rw [if_neg h]
theorem told_more {us : List TUse} {r : Nat} {u : TUse} (h : us[r]? = some u) : toldU (us.take (r + 1)) [] = toldS u.code (toldU (us.take r) []) := by rw [take_one h, toldU_snoc]
theorem may_pre {T : TTab} (h : preM T = false) : mayT T = false := by unfold mayT; rw [h]; rfl
theorem may_first {T : TTab} (h : firstT T = false) : mayT T = false := may_pre (by unfold preM; rw [h]; rfl)
theorem may_second {T : TTab} (h : secondT T = false) : mayT T = false := may_pre (by unfold preM; rw [h]; simp)
theorem may_codes {T : TTab} (h : ¬ T.codes.length ≤ 1024) : mayT T = false := may_pre (by unfold preM; rw [decide_eq_false h]; simp)
theorem may_code {T : TTab} {i : Nat} {c : TCode} (hc : T.codes[i]? = some c) (h : codeB c = false) : mayT T = false := by unfold mayT; rw [all_bad hc h]; simp
theorem may_use {T : TTab} {i : Nat} {u : TUse} (hu : (usesT T)[i]? = some u) (h : okM T u = false) : mayT T = false := by unfold mayT; rw [all_bad hu h]; simp
theorem ok_none {T : TTab} {u : TUse} (h : u.code = -1) : okM T u = true := by unfold okM; rw [decide_eq_true h]; rfl
theorem ok_out {T : TTab} {u : TUse} (h : ¬ u.code = -1) (k : inB u.code 0 ((T.codes.length : Int) - 1) = false) : okM T u = false := by unfold okM; rw [decide_eq_false h, k]; rfl
theorem ok_in {T : TTab} {u : TUse} (h : ¬ u.code = -1) (k : inB u.code 0 ((T.codes.length : Int) - 1) = true) {q : Nat} (hq : u.code = q) {c : TCode} (hc : T.codes[q]? = some c) : okM T u = c.inputs.all (fitsT T u) := by
 unfold okM insM
 rw [decide_eq_false h, k, hq, Int.toNat_natCast, hc]
 rfl
set_option maxRecDepth 100000 in
set_option maxHeartbeats 16000000 in
theorem may_any (T : TTab) (vk vkk vs vc : Value) (w : World) (h : TabX w T vk vkk vs vc) (hsz : szTab T ≤ 1048576) :
  Calls Try.prog 11 #[.agg #[.int .i64 T.strategy, vk, vkk, .int .i64 T.syms, .int .i64 T.runs, .int .i64 T.cells, vs, vc]] w (BoolP w (mayT T)) := by
 obtain ⟨A, c, rfl, hc1, hc2⟩ := h.states.slice
 obtain ⟨A2, c2, rfl, hc3, hc4⟩ := h.codes.slice
 obtain ⟨A3, c3, rfl, hc5, hc6⟩ := h.kinds.slice
 obtain ⟨A1, c1, rfl, hc7, hc8⟩ := h.keys.slice
 unfold maxLen at hc2 hc4 hc6 hc8
 obtain ⟨W0, hW0⟩ : ∃ W, W = w.alloc (.cells #[.int .i64 T.strategy, .slice A1 T.keys.length c1, .slice A3 T.kinds.length c3, .int .i64 T.syms, .int .i64 T.runs, .int .i64 T.cells, .slice A T.states.length c, .slice A2 T.codes.length c2] 27) := ⟨_, rfl⟩
 have B0 : Below w.heap.size w W0 := by rw [hW0]; exact (Below.refl _ _).alloc (Nat.le_refl _) _
 have HX := Lib.hid (fun W (hb : Below W0.heap.size W0 W) => (h.below B0).below hb)
 have HB0 := Lib.hid B0
 have BX : Hid (Blk W0 w.heap.size 27 #[.int .i64 T.strategy, .slice A1 T.keys.length c1, .slice A3 T.kinds.length c3, .int .i64 T.syms, .int .i64 T.runs, .int .i64 T.cells, .slice A T.states.length c, .slice A2 T.codes.length c2]) := Lib.hid (by rw [hW0]; exact Blk.new _ _ _)
 have HSZ := Lib.hid hsz
 obtain ⟨k0, k1, k2, k3, k4, k5, k6, k7⟩ := blk8 BX.out
 obtain ⟨rv, hrv⟩ : ∃ rv, mayT T = rv := ⟨_, rfl⟩
 have HRV := Lib.hid hrv
 rw [hrv]
 have CF := Lib.hid (first_may T _ _ _ _ W0 (HX.out W0 (Below.refl _ _)))
 obtain ⟨f1, hf1⟩ : ∃ f, firstT T = f := ⟨_, rfl⟩
 rw [hf1] at CF
 have HF := Lib.hid hf1
 have ncd : (0 : Int) ≤ (T.codes.length : Int) := by omega
 clear h B0 hsz hrv hf1
 go_enter Try.func11, Try.ntmps11
 go_upto_region 1 with fail
 rw [← hW0]
 clear hW0
 go_wp2_with fail
 refine CF.out.mono ?_
 rintro e w2 ⟨rfl, hb2⟩
 have HB2 := Lib.hid hb2
 clear k0 k1 k2 k3 k4 k5 k6 k7 CF hb2
 cases f1 with
 | false =>
  have e : Hid (rv = false) := Lib.hid (HRV.out.symm.trans (may_first HF.out))
  go_wp2_with fail
  go_ret
  exact ⟨ret_bool e.out.symm, HB0.out.trans (HB2.out.mono HB0.out.size)⟩
 | true =>
  have CS := Lib.hid (second_may T _ _ _ _ w2 (HX.out w2 HB2.out) HSZ.out)
  obtain ⟨f2, hf2⟩ : ∃ f, secondT T = f := ⟨_, rfl⟩
  rw [hf2] at CS
  have HS := Lib.hid hf2
  obtain ⟨k0, k1, k2, k3, k4, k5, k6, k7⟩ := blk8 (BX.out.below HB2.out BX.out.lt)
  clear hf2
  go_wp2_with fail
  refine CS.out.mono ?_
  rintro e w3 ⟨rfl, hb3⟩
  have HB3 := Lib.hid (HB2.out.trans (hb3.mono HB2.out.size))
  clear k0 k1 k2 k3 k4 k5 k6 k7 CS hb3
  cases f2 with
  | false =>
   have e : Hid (rv = false) := Lib.hid (HRV.out.symm.trans (may_second HS.out))
   go_wp2_with fail
   go_ret
   exact ⟨ret_bool e.out.symm, HB0.out.trans (HB3.out.mono HB0.out.size)⟩
  | true =>
   obtain ⟨k0, k1, k2, k3, k4, k5, k6, k7⟩ := blk8 (BX.out.below HB3.out BX.out.lt)
   by_cases hcd : T.codes.length ≤ 1024
   ·have hcd2 : (T.codes.length : Int) ≤ 1024 := by omega
    have HCD := Lib.hid hcd
    clear hcd
    go_wp2_with fail
    clear k0 k1 k2 k3 k4 k5 k6 k7
    go_loopw [27] (fun s wr => ∃ r : Nat, r ≤ T.codes.length ∧ s = .int .i64 r ∧ Hid (Below W0.heap.size W0 wr) ∧ Hid ((T.codes.take r).all codeB = true)) (fun s _ => T.codes.length - (intOf s).toNat)
    case atStart => exact ⟨0, Nat.zero_le _, rfl, HB3, Lib.hid (by simp)⟩
    case round =>
     obtain ⟨r2, hr2, rfl, hb, hal⟩ := hrel
     have HW := Lib.hid (HB0.out.trans (hb.out.mono HB0.out.size))
     by_cases hlt2 : r2 < T.codes.length
     ·obtain ⟨x, hx⟩ : ∃ x, T.codes[r2]? = some x := ⟨_, List.getElem?_eq_getElem hlt2⟩
      obtain ⟨b5, off5, c5, vi, vcc, vl, hvv, _, _, q0, q1, q2, q3, q4, hi, hv, hl, _⟩ := codes_get (HX.out wr hb.out).codes hx
      injection hvv with hv1 hv2 hv3
      subst hv1
      obtain ⟨A6, c6, rfl, _, _⟩ := hi.slice
      obtain ⟨A7, c7, rfl, _, _⟩ := hv.slice
      obtain ⟨A8, c8, rfl, _, _⟩ := hl.slice
      have b1 : (0 : Int) ≤ (r2 : Int) := by omega
      have b2 : (r2 : Int) < (T.codes.length : Int) := by omega
      obtain ⟨w5, hw5⟩ : ∃ w5, w5 = wr.alloc (.cells #[.int .i64 x.regs, .int .i64 x.slots, .slice A6 x.inputs.length c6, .slice A7 x.consts.length c7, .slice A8 x.list.length c8] 40) := ⟨_, rfl⟩
      have hb5 : Below wr.heap.size wr w5 := by rw [hw5]; exact (Below.refl _ _).alloc (Nat.le_refl _) _
      have BC := Lib.hid (show Blk w5 wr.heap.size 40 #[.int .i64 x.regs, .int .i64 x.slots, .slice A6 x.inputs.length c6, .slice A7 x.consts.length c7, .slice A8 x.list.length c8] by rw [hw5]; exact Blk.new wr _ _)
      have CT := Lib.hid (good_may x w5 _ _ _ (keep_inps (KeepC.of_below hb5) hi) (keep_vals (KeepC.of_below hb5) hv) (keep_inss (KeepC.of_below hb5) hl))
      have HB5 := Lib.hid (hb.out.trans (hb5.mono hb.out.size))
      have HST := Lib.hid (all_step (f := codeB) hx hal.out)
      have HBD : Hid (codeB x = false → rv = false) := Lib.hid (fun h => HRV.out.symm.trans (may_code hx h))
      obtain ⟨tb, htb⟩ : ∃ tb, goodB x = tb := ⟨_, rfl⟩
      have HCB : Hid (codeB x = (decide (x.regs ≤ 16) && tb)) := Lib.hid (by unfold codeB; rw [htb])
      rw [htb] at CT
      clear hx hv2 hv3 htb hal hb5 hi hv hl
      go_upto_region 6 with fail
      rw [← hw5]
      clear hw5 q0 q1 q2 q3 q4
      obtain ⟨z0, z1, z2, z3, z4⟩ := blk5 BC.out
      by_cases hreg : 16 < x.regs
      ·have e : Hid (rv = false) := Lib.hid (HBD.out (by rw [HCB.out, decide_eq_false (by omega)]; rfl))
       clear HST HBD hb
       go_wp2_with fail
       go_ret
       exact ⟨ret_bool e.out.symm, HB0.out.trans (HB5.out.mono HB0.out.size)⟩
      ·have HC2 : Hid (codeB x = tb) := Lib.hid (by rw [HCB.out, decide_eq_true (by omega)]; rfl)
       go_wp2_with fail
       refine CT.out.mono ?_
       rintro e w6 ⟨rfl, hb6⟩
       have HB6 := Lib.hid (HB5.out.trans (hb6.mono HB5.out.size))
       clear hb6 CT z0 z1 z2 z3 z4 hb
       cases tb with
       | true =>
        have e := Lib.hid (HST.out HC2.out)
        clear HST HBD
        go_wp2_with fail
        go_roundw
        case rel => first | exact ⟨r2 + 1, by omega, by go_num, HB6, e⟩ | ((repeat apply Exists.intro); exact ⟨⟨r2 + 1, by omega, by go_num, HB6, e⟩, rfl⟩)
        case measure => simp [intOf]; omega
       | false =>
        have e := Lib.hid (HBD.out HC2.out)
        clear HST HBD
        go_wp2_with fail
        go_ret
        exact ⟨ret_bool e.out.symm, HB0.out.trans (HB6.out.mono HB0.out.size)⟩
     ·have hge2 : (T.codes.length : Int) ≤ (r2 : Int) := by omega
      have HCODES : Hid (T.codes.all codeB = true) := Lib.hid (by have h9 := hal.out; rw [List.take_of_length_le (by omega)] at h9; exact h9)
      have hmm := fun t w => @run_makeMap Try.prog t w
      clear hal
      go_upto_region 10 with fail
      clear hmm
      obtain ⟨H, hH⟩ : ∃ H, wr.heap.size = H := ⟨_, rfl⟩
      obtain ⟨w4, hw4⟩ : ∃ w4, w4 = wr.alloc (.map #[] 0) := ⟨_, rfl⟩
      have SR : SetX w4 H 0 [] := by rw [hw4, ← hH]; exact SetX.made wr
      have SB : Below wr.heap.size wr w4 := by rw [hw4]; exact (Below.refl _ wr).alloc (Nat.le_refl _) _
      have HB4 := Lib.hid (hb.out.trans (SB.mono hb.out.size))
      have hbH : W0.heap.size ≤ H := by rw [← hH]; exact hb.out.size
      have HHS := Lib.hid hbH
      have HW4 := Lib.hid (HB0.out.trans (HB4.out.mono HB0.out.size))
      rw [← hw4, hH]
      have CU := Lib.hid (uses_may T _ _ _ _ w4 (HX.out w4 HB4.out) HSZ.out)
      have HUC := Lib.hid (uses_cap HSZ.out T.states.length)
      have HUG := Lib.hid (uses_good HS.out)
      obtain ⟨us, hus⟩ : ∃ us, usesT T = us := ⟨_, rfl⟩
      have HUS := Lib.hid hus
      rw [show usesUp T T.states.length = us from hus] at HUC
      rw [hus] at CU HUG
      clear hus hw4 hH hb HW hbH SB hge2 hlt2
      obtain ⟨k0, k1, k2, k3, k4, k5, k6, k7⟩ := blk8 (BX.out.below HB4.out BX.out.lt)
      go_wp2_with fail
      refine CU.out.mono ?_
      rintro e w5 ⟨vu, css, rfl, hua, hb5⟩
      have US := uacc_slr hua
      obtain ⟨Au, cu, rfl, hu1, hu2⟩ := US.slice
      unfold maxLen at hu2
      have HM0 : Hid (MayW T us _ _ _ _ (.slice Au us.length cu) w4 H _ w.heap.size w5 (toldU (us.take 0) [])) := Lib.hid ⟨HX.out w5 (HB4.out.trans (hb5.mono HB4.out.size)), SR.below hb5 SR.lt, US, (BX.out.below HB4.out BX.out.lt).below hb5 (by have := BX.out.lt; have := HB4.out.size; omega), only_of_below hb5 _⟩
      have nus : (0 : Int) ≤ (us.length : Int) := by omega
      clear hua hb5 US CU k0 k1 k2 k3 k4 k5 k6 k7 SR
      go_wp2_with fail
      go_loopw [44] (fun s wx => ∃ r : Nat, r ≤ us.length ∧ s = .int .i64 r ∧ Hid (MayW T us (.slice A1 T.keys.length c1) (.slice A3 T.kinds.length c3) (.slice A T.states.length c) (.slice A2 T.codes.length c2) (.slice Au us.length cu) w4 H #[.int .i64 T.strategy, .slice A1 T.keys.length c1, .slice A3 T.kinds.length c3, .int .i64 T.syms, .int .i64 T.runs, .int .i64 T.cells, .slice A T.states.length c, .slice A2 T.codes.length c2] w.heap.size wx (toldU (us.take r) [])) ∧ Hid ((us.take r).all (okM T) = true)) (fun s _ => us.length - (intOf s).toNat)
      case atStart => exact ⟨0, Nat.zero_le _, rfl, HM0, Lib.hid (by simp)⟩
      case round =>
       clear HM0
       obtain ⟨r3, hr3, rfl, hM, hal⟩ := hrel
       have HOUT := Lib.hid (fun (W : World) (hg : w4.grownBy W (some H)) => show Below w.heap.size w W from HW4.out.trans ⟨hg.os, hg.tape, hg.output, by have := hg.size; have := HW4.out.size; omega, fun k hk => hg.block k (by have := HW4.out.size; omega) (fun e => by injection e with e; have := HHS.out; have := HB0.out.size; omega)⟩)
       by_cases hlt3 : r3 < us.length
       ·obtain ⟨u, hu⟩ : ∃ u, us[r3]? = some u := ⟨_, List.getElem?_eq_getElem hlt3⟩
        obtain ⟨b7, off7, c7, vp, hvv, q0, q1, q2, q3, q4, hpu, huw⟩ := uses_get hM.out.use hu
        obtain ⟨Ap, cp, rfl, _, _, hcp, _⟩ := id hpu
        unfold maxLen at hcp
        injection hvv with hv1 hv2 hv3
        subst hv1
        have b1 : (0 : Int) ≤ (r3 : Int) := by omega
        have b2 : (r3 : Int) < (us.length : Int) := by omega
        obtain ⟨w6, hw6⟩ : ∃ w6, w6 = wr.alloc (.cells #[.int .i64 u.code, .slice Ap u.path.length cp, .int .i64 u.one, .int .i64 u.many, .int .i64 u.asked] 67) := ⟨_, rfl⟩
        have hb6 : Below wr.heap.size wr w6 := by rw [hw6]; exact (Below.refl _ _).alloc (Nat.le_refl _) _
        have BU := Lib.hid (show Blk w6 wr.heap.size 67 #[.int .i64 u.code, .slice Ap u.path.length cp, .int .i64 u.one, .int .i64 u.many, .int .i64 u.asked] by rw [hw6]; exact Blk.new wr _ _)
        have M6 := Lib.hid (hM.out.below hb6)
        have HAL := Lib.hid hal.out
        have HNX : Hid (toldU (us.take (r3 + 1)) [] = toldS u.code (toldU (us.take r3) [])) := Lib.hid (told_more hu)
        have HST : Hid (okM T u = true → (us.take (r3 + 1)).all (okM T) = true) := Lib.hid (fun h => by rw [take_one hu, List.all_append, HAL.out]; simp [h])
        have HBD : Hid (okM T u = false → rv = false) := Lib.hid (fun h => HRV.out.symm.trans (may_use (by rw [HUS.out]; exact hu) h))
        have HU := Lib.hid (HUG.out u (List.mem_of_getElem? hu))
        have HUW := Lib.hid huw
        have HPU := Lib.hid (hpu.below hb6)
        have hb6s := hb6.size
        have HB6 := Lib.hid hb6
        clear hu hv2 hv3 hal huw hM hpu
        go_upto_region 13 with fail
        rw [← hw6]
        clear hw6 q0 q1 q2 q3 q4
        obtain ⟨z0, z1, z2, z3, z4⟩ := blk5u BU.out
        by_cases hc0 : u.code = -1
        ·have e1 : (u.code == -1) = true := by simpa using hc0
         have HM7 := Lib.hid (show MayW T us (.slice A1 T.keys.length c1) (.slice A3 T.kinds.length c3) (.slice A T.states.length c) (.slice A2 T.codes.length c2) (.slice (some ⟨b7, off7, none⟩) us.length cu) w4 H #[.int .i64 T.strategy, .slice A1 T.keys.length c1, .slice A3 T.kinds.length c3, .int .i64 T.syms, .int .i64 T.runs, .int .i64 T.cells, .slice A T.states.length c, .slice A2 T.codes.length c2] w.heap.size w6 (toldU (us.take (r3 + 1)) []) by rw [HNX.out, told_none hc0]; exact M6.out)
         have HA7 := Lib.hid (HST.out (ok_none hc0))
         clear hc0 HBD HST HPU
         go_wp2_with fail
         go_roundw
         case rel => first | exact ⟨r3 + 1, by omega, by go_num, HM7, HA7⟩ | ((repeat apply Exists.intro); exact ⟨⟨r3 + 1, by omega, by go_num, HM7, HA7⟩, rfl⟩)
         case measure => simp [intOf]; omega
        ·have e1 : (u.code == -1) = false := by simpa using hc0
         have HC0 := Lib.hid hc0
         clear hc0
         obtain ⟨k0, k1, k2, k3, k4, k5, k6, k7⟩ := blk8 M6.out.blk
         have CW := Lib.hid (fun W => within_any u.code 0 ((T.codes.length : Int) - 1) W)
         obtain ⟨ib, hib⟩ : ∃ ib, inB u.code 0 ((T.codes.length : Int) - 1) = ib := ⟨_, rfl⟩
         rw [hib] at CW
         have HIB := Lib.hid hib
         clear hib
         cases ib with
         | false =>
          have e : Hid (rv = false) := Lib.hid (HBD.out (ok_out HC0.out HIB.out))
          clear HBD HST
          go_wp2_with (go_at_call 28; refine (CW.out _).mono ?_; rintro e w' ⟨rfl, rfl⟩)
          go_ret
          exact ⟨ret_bool e.out.symm, HOUT.out _ M6.out.grown⟩
         | true =>
          obtain ⟨j0, j1⟩ := inB_iff.1 HIB.out
          obtain ⟨q, hq⟩ : ∃ q : Nat, u.code = q := ⟨u.code.toNat, by omega⟩
          obtain ⟨cd, hcd'⟩ : ∃ cd, T.codes[q]? = some cd := ⟨_, List.getElem?_eq_getElem (by omega)⟩
          have HOK := Lib.hid (ok_in HC0.out HIB.out hq hcd')
          obtain ⟨w7, hrun, hm7, hg7⟩ := M6.out.store HUW.out (by unfold maxLen; have h8 := toldU_len (us.take r3) []; have h9 := HUC.out; simp at h8; omega)
          have M7 : Hid (MayW T us _ _ _ _ _ w4 H _ w.heap.size w7 (toldU (us.take (r3 + 1)) [])) := Lib.hid (by rw [HNX.out, told_add HC0.out]; exact hm7)
          have HPU7 := Lib.hid (HPU.out.set M6.out.set hg7)
          have BU7 := Lib.hid (BU.out.grown hg7 (fun e => by injection e with e; exact M6.out.set.noBlk BU.out e))
          have hg7s := hg7.size
          have HPO : Hid (∀ x ∈ cd.inputs, 0 ≤ x.pos) := Lib.hid (pos_of_good HCODES.out cd (List.mem_of_getElem? hcd'))
          obtain ⟨b5, off5, c5, vi, vcc, vl, hvv, _, _, q0, q1, q2, q3, q4, hinp, _⟩ := codes_get M7.out.tab.codes hcd'
          injection hvv with hv1 hv2 hv3
          subst hv1
          obtain ⟨A6, c6, rfl, hc9, hc10⟩ := hinp.slice
          unfold maxLen at hc10
          have HINP := Lib.hid hinp
          have b3 : (0 : Int) ≤ (q : Int) := by omega
          have b4 : (q : Int) < (T.codes.length : Int) := by omega
          have nl : (0 : Int) ≤ (cd.inputs.length : Int) := by omega
          have hwr7 : wr.heap.size < w7.heap.size := by have := BU.out.lt; omega
          have HTYS := Lib.hid (tys_of HS.out)
          have HQ := Lib.hid hq
          clear hinp hm7 hg7 hcd' hv2 hv3 HPU M6 hq j0 j1
          go_upto_region 17 with (go_at_call 28; refine (CW.out _).mono ?_; rintro e w' ⟨rfl, rfl⟩)
          clear k0 k1 k2 k3 k4 k5 k6 k7 z0 z1 z2 z3 z4 hrun
          obtain ⟨k0, k1, k2, k3, k4, k5, k6, k7⟩ := blk8 M7.out.blk
          obtain ⟨z0, z1, z2, z3, z4⟩ := blk5u BU7.out
          rw [HQ.out] at z0
          go_wp2_with fail
          clear k0 k1 k2 k3 k4 k5 k6 k7 z0 z1 z2 z3 z4 q0 q1 q2 q3 q4 e1 CW
          go_loopw [70] (fun s wx => ∃ n : Nat, n ≤ cd.inputs.length ∧ s = .int .i64 n ∧ Hid (Below w7.heap.size w7 wx) ∧ Hid ((cd.inputs.take n).all (fitsT T u) = true)) (fun s _ => cd.inputs.length - (intOf s).toNat)
          case atStart => exact ⟨0, Nat.zero_le _, rfl, Lib.hid (Below.refl _ _), Lib.hid (by simp)⟩
          case round =>
           obtain ⟨n, hn, rfl, hb, hal⟩ := hrel
           have hwr := hb.out.size
           have M8 := Lib.hid (M7.out.grown.trans (only_of_below hb.out _))
           by_cases hlt : n < cd.inputs.length
           ·obtain ⟨x, hx⟩ : ∃ x, cd.inputs[n]? = some x := ⟨_, List.getElem?_eq_getElem hlt⟩
            obtain ⟨b6, off6, c7, hvv, _, _, q0, q1, q2, q3, _⟩ := inps_get (keep_inps (KeepC.of_below hb.out) HINP.out) hx
            injection hvv with hv1 hv2 hv3
            subst hv1
            have b3 : (0 : Int) ≤ (n : Int) := by omega
            have b4 : (n : Int) < (cd.inputs.length : Int) := by omega
            obtain ⟨w8, hw8⟩ : ∃ w8, w8 = wr.alloc (.cells #[.int .i64 x.op, .int .i64 x.kind, .int .i64 x.pos, .int .i64 x.attr] 70) := ⟨_, rfl⟩
            have hb8 : Below w7.heap.size w7 w8 := by rw [hw8]; exact hb.out.alloc hwr _
            have CT := Lib.hid (fits_may T _ _ _ _ w8 (M7.out.tab.below hb8) x u _ (HPU7.out.below hb8) (HPO.out x (List.mem_of_getElem? hx)) HU.out.1 HU.out.2.1 HU.out.2.2.1 HTYS.out HU.out.2.2.2)
            have HST3 := Lib.hid (all_step (f := fitsT T u) hx hal.out)
            have HBD3 : Hid (fitsT T u x = false → rv = false) := Lib.hid (fun h => HBD.out (by rw [HOK.out]; exact all_bad hx h))
            have BI := Lib.hid (show Blk w8 wr.heap.size 70 #[.int .i64 x.op, .int .i64 x.kind, .int .i64 x.pos, .int .i64 x.attr] by rw [hw8]; exact Blk.new wr _ _)
            have BU8 := Lib.hid (BU7.out.below hb8 hwr7)
            have BT8 := Lib.hid (M7.out.blk.below hb8 M7.out.blk.lt)
            have HB8 := Lib.hid hb8
            obtain ⟨tb, htb⟩ : ∃ tb, fitsT T u x = tb := ⟨_, rfl⟩
            rw [htb] at CT HST3 HBD3
            clear hx hv2 hv3 htb hal hb hb8
            go_upto_region 20 with fail
            rw [← hw8]
            clear hw8 q0 q1 q2 q3
            obtain ⟨x0, x1, x2, x3⟩ := blk4u BI.out
            obtain ⟨z0, z1, z2, z3, z4⟩ := blk5u BU8.out
            obtain ⟨k0, k1, k2, k3, k4, k5, k6, k7⟩ := blk8 BT8.out
            go_wp2_with fail
            refine CT.out.mono ?_
            rintro e w9 ⟨rfl, hb9⟩
            have HB9 := Lib.hid (HB8.out.trans (hb9.mono HB8.out.size))
            clear hb9 CT x0 x1 x2 x3 z0 z1 z2 z3 z4 k0 k1 k2 k3 k4 k5 k6 k7
            cases tb with
            | true =>
             have e := Lib.hid (HST3.out rfl)
             clear HST3 HBD3
             go_wp2_with fail
             go_roundw
             case rel => first | exact ⟨n + 1, by omega, by go_num, HB9, e⟩ | ((repeat apply Exists.intro); exact ⟨⟨n + 1, by omega, by go_num, HB9, e⟩, rfl⟩)
             case measure => simp [intOf]; omega
            | false =>
             have e := Lib.hid (HBD3.out rfl)
             clear HST3 HBD3
             go_wp2_with fail
             go_ret
             exact ⟨ret_bool e.out.symm, HOUT.out _ (M7.out.grown.trans (only_of_below HB9.out _))⟩
           ·have hge : (cd.inputs.length : Int) ≤ (n : Int) := by omega
            have HA9 := Lib.hid (HST.out (by have h9 := hal.out; rw [List.take_of_length_le (by omega)] at h9; rw [HOK.out]; exact h9))
            have HM9 := Lib.hid (M7.out.below hb.out)
            clear hal hb HST HBD
            go_wp2_with fail
            go_roundw
            case rel => first | exact ⟨r3 + 1, by omega, by go_num, HM9, HA9⟩ | ((repeat apply Exists.intro); exact ⟨⟨r3 + 1, by omega, by go_num, HM9, HA9⟩, rfl⟩)
            case measure => simp [intOf]; omega
       ·have hge3 : (us.length : Int) ≤ (r3 : Int) := by omega
        obtain ⟨n9, hn9⟩ : ∃ n9, (toldU (usesT T) []).length = n9 := ⟨_, rfl⟩
        have hrl : r3 = us.length := by omega
        have hM1 := hM.out
        rw [hrl, List.take_length] at hM1
        have HFIN : Hid (rv = decide (n9 = T.codes.length)) := Lib.hid (by
         have h9 := hal.out
         rw [hrl, List.take_length] at h9
         rw [← HRV.out, ← hn9]
         unfold mayT preM
         rw [HF.out, HS.out, HCODES.out, decide_eq_true HCD.out, HUS.out, h9]
         rfl)
        have HLN : (Builtin.len_ #[60] 3 #[.map (some H)]).run Try.prog wr = .ok (.int .i64 (n9 : Int)) wr := by
         have := hM1.set.len 3
         rw [show (toldU us []).length = n9 by rw [← hn9, HUS.out]] at this
         exact this
        obtain ⟨k0, k1, k2, k3, k4, k5, k6, k7⟩ := blk8 hM1.blk
        have HBW := Lib.hid (HOUT.out _ hM1.grown)
        clear hM1 hM hal hn9 hrl hlt3
        by_cases hfin : n9 = T.codes.length
        ·have e : Hid (rv = true) := Lib.hid (by rw [HFIN.out, decide_eq_true hfin])
         have e1 : ((n9 : Int) == (T.codes.length : Int)) = true := by simp [hfin]
         clear hfin
         go_wp2_with fail
         go_ret
         exact ⟨ret_bool e.out.symm, HBW.out⟩
        ·have e : Hid (rv = false) := Lib.hid (by rw [HFIN.out, decide_eq_false hfin])
         have e1 : ((n9 : Int) == (T.codes.length : Int)) = false := by rw [beq_eq_false_iff_ne]; omega
         clear hfin
         go_wp2_with fail
         go_ret
         exact ⟨ret_bool e.out.symm, HBW.out⟩
   ·have e : Hid (rv = false) := Lib.hid (HRV.out.symm.trans (may_codes hcd))
    have hcd2 : (1024 : Int) < (T.codes.length : Int) := by omega
    clear hcd
    go_wp2_with fail
    go_ret
    exact ⟨ret_bool e.out.symm, HB0.out.trans (HB3.out.mono HB0.out.size)⟩
end Go.Proofs.Ytioocaicmiggoaa

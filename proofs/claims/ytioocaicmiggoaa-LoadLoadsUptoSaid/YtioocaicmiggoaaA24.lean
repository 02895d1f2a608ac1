/- Lve, Twh, Vsz, Ldp, Lpo: texts merged for a claim by a program of mine. -/
import Derived.Test.YtioocaicmiggoaaA23
import Derived.Test.YtioocaicmiggoaaA22
import Derived.Test.YtioocaicmiggoaaA07
import Derived.Test.YtioocaicmiggoaaA02
import Derived.Test.YtioocaicmiggoaaA17
import Derived.Test.YtioocaicmiggoaaA18
import Derived.Test.YtioocaicmiggoaaA19
namespace Go.Proofs.Ytioocaicmiggoaa
set_option linter.unusedVariables false
set_option linter.unusedSimpArgs false
open Go.RowKit Go.Deep Go.Maps
def VerP (w : World) (b : Bool) (e : Ending) (w' : World) : Prop := e = .returned (.int .i64 (if b then 0 else 32)) ∧ Below w.heap.size w w'
theorem ver_no {w w' : World} {b : Bool} (h : b = false) (hb : Below w.heap.size w w') : VerP w b (.returned (.int .i64 32)) w' := ⟨by rw [h]; rfl, hb⟩
theorem ver_yes {w w' : World} {b : Bool} (h : b = true) (hb : Below w.heap.size w w') : VerP w b (.returned (.int .i64 0)) w' := ⟨by rw [h]; rfl, hb⟩
set_option maxRecDepth 100000 in
set_option maxHeartbeats 4000000 in
theorem verify_any (T : TTab) (vk vkk vs vc : Value) (w : World) (h : TabX w T vk vkk vs vc) :
  Calls Try.prog 10 #[.agg #[.int .i64 T.strategy, vk, vkk, .int .i64 T.syms, .int .i64 T.runs, .int .i64 T.cells, vs, vc]] w (VerP w (verT T)) := by
 obtain ⟨A, c, rfl, hc1, hc2⟩ := h.states.slice
 obtain ⟨A2, c2, rfl, hc3, hc4⟩ := h.codes.slice
 obtain ⟨A3, c3, rfl, hc5, hc6⟩ := h.kinds.slice
 obtain ⟨A4, c4, rfl, hc7, hc8⟩ := h.keys.slice
 unfold maxLen at hc2 hc4 hc6 hc8
 have HX := Lib.hid (fun W (hb : Below w.heap.size w W) => h.below hb)
 obtain ⟨w1, hw1⟩ : ∃ w1, w1 = w.alloc (.cells #[.int .i64 T.strategy, .slice A4 T.keys.length c4, .slice A3 T.kinds.length c3, .int .i64 T.syms, .int .i64 T.runs, .int .i64 T.cells, .slice A T.states.length c, .slice A2 T.codes.length c2] 27) := ⟨_, rfl⟩
 have B0 : Below w.heap.size w w1 := by rw [hw1]; exact (Below.refl w.heap.size w).alloc (Nat.le_refl _) _
 have hs1 : w1.heap.size = w.heap.size + 1 := by rw [hw1]; simp
 have BT : Blk w1 w.heap.size 27 #[.int .i64 T.strategy, .slice A4 T.keys.length c4, .slice A3 T.kinds.length c3, .int .i64 T.syms, .int .i64 T.runs, .int .i64 T.cells, .slice A T.states.length c, .slice A2 T.codes.length c2] := by rw [hw1]; exact Blk.new w _ _
 have HB0 := Lib.hid B0
 have HBT := Lib.hid BT
 have HS1 := Lib.hid hs1
 obtain ⟨k0, k1, k2, k3, k4, k5, k6, k7⟩ := blk8 BT
 obtain ⟨rv, hrv⟩ : ∃ rv, verT T = rv := ⟨_, rfl⟩
 have HRV := Lib.hid hrv
 rw [hrv]
 have CH := Lib.hid (head_any T _ _ _ _ w1 (HX.out w1 B0))
 obtain ⟨hb1, hhb1⟩ : ∃ hb1, headT T = hb1 := ⟨_, rfl⟩
 rw [hhb1] at CH
 have HH := Lib.hid hhb1
 clear h B0 BT hs1 hrv hhb1
 go_enter Try.func10, Try.ntmps10
 go_upto_region 1 with fail
 rw [← hw1]
 clear hw1
 go_wp2_with fail
 refine CH.out.mono ?_
 rintro e w2 ⟨rfl, hb2⟩
 have HB2 := Lib.hid hb2
 clear k0 k1 k2 k3 k4 k5 k6 k7 CH hb2
 cases hb1 with
 | false =>
  have e : Hid (rv = false) := Lib.hid (by rw [← HRV.out]; unfold verT; rw [HH.out]; rfl)
  go_wp2_with fail
  go_ret
  exact ver_no e.out (HB0.out.trans (HB2.out.mono HB0.out.size))
 | true =>
  have hsc := states_cap HH.out
  have hcdc := codes_cap HH.out
  obtain ⟨k0, k1, k2, k3, k4, k5, k6, k7⟩ := blk8 (HBT.out.below HB2.out HBT.out.lt)
  have ns : (0 : Int) ≤ (T.states.length : Int) := by omega
  go_wp2_with fail
  clear k0 k1 k2 k3 k4 k5 k6 k7
  go_loopw [14] (fun s wr => ∃ r : Nat, r ≤ T.states.length ∧ s = .int .i64 r ∧ Hid (Below w1.heap.size w1 wr) ∧ Hid (rowsB T r = true)) (fun s _ => T.states.length - (intOf s).toNat)
  case atStart => exact ⟨0, Nat.zero_le _, rfl, HB2, Lib.hid (by simp [rowsB])⟩
  case round =>
   obtain ⟨r, hr, rfl, hb, hal⟩ := hrel
   have HW := Lib.hid (HB0.out.trans (hb.out.mono HB0.out.size))
   obtain ⟨k0, k1, k2, k3, k4, k5, k6, k7⟩ := blk8 (HBT.out.below hb.out HBT.out.lt)
   by_cases hlt : r < T.states.length
   ·obtain ⟨x, hx⟩ : ∃ x, T.states[r]? = some x := ⟨_, List.getElem?_eq_getElem hlt⟩
    have b1 : (0 : Int) ≤ (r : Int) := by omega
    have b2 : (r : Int) < (T.states.length : Int) := by omega
    have CT := Lib.hid (row_any T _ _ _ _ wr (HX.out wr HW.out) (by omega) r x hx)
    have HST := Lib.hid (rows_step hx hal.out)
    have HBD : Hid (rowT T r x = false → rv = false) := Lib.hid (fun h => by rw [← HRV.out]; unfold verT; rw [rows_bad hx h]; simp)
    obtain ⟨tb, htb⟩ : ∃ tb, rowT T r x = tb := ⟨_, rfl⟩
    rw [htb] at CT HST HBD
    clear hx htb hal
    go_wp2_with fail
    refine CT.out.mono ?_
    rintro e w3 ⟨rfl, hb3⟩
    have HB3 := Lib.hid (hb.out.trans (hb3.mono hb.out.size))
    clear hb3 CT k0 k1 k2 k3 k4 k5 k6 k7 hb
    cases tb with
    | true =>
     clear HBD
     go_wp2_with fail
     go_roundw
     case rel => first | exact ⟨r + 1, by omega, by go_num, HB3, HST⟩ | ((repeat apply Exists.intro); exact ⟨⟨r + 1, by omega, by go_num, HB3, HST⟩, rfl⟩)
     case measure => simp [intOf]; omega
    | false =>
     have e := Lib.hid (HBD.out rfl)
     clear HST HBD
     go_wp2_with fail
     go_ret
     exact ver_no e.out (HB0.out.trans (HB3.out.mono HB0.out.size))
   ·have hge : (T.states.length : Int) ≤ (r : Int) := by omega
    have HROWS : Hid (rowsB T T.states.length = true) := Lib.hid (by have h9 := hal.out; rw [show r = T.states.length by omega] at h9; exact h9)
    have ncd : (0 : Int) ≤ (T.codes.length : Int) := by omega
    clear hal
    go_wp2_with fail
    clear k0 k1 k2 k3 k4 k5 k6 k7
    go_loopw [25] (fun s wr => ∃ r : Nat, r ≤ T.codes.length ∧ s = .int .i64 r ∧ Hid (Below w1.heap.size w1 wr) ∧ Hid ((T.codes.take r).all codeB = true)) (fun s _ => T.codes.length - (intOf s).toNat)
    case atStart => exact ⟨0, Nat.zero_le _, rfl, hb, Lib.hid (by simp)⟩
    case round =>
     clear hb HW
     obtain ⟨r2, hr2, rfl, hb, hal⟩ := hrel
     have HW := Lib.hid (HB0.out.trans (hb.out.mono HB0.out.size))
     by_cases hlt2 : r2 < T.codes.length
     ·obtain ⟨x, hx⟩ : ∃ x, T.codes[r2]? = some x := ⟨_, List.getElem?_eq_getElem hlt2⟩
      obtain ⟨b5, off5, c5, vi, vcc, vl, hvv, _, _, q0, q1, q2, q3, q4, hi, hv, hl, _⟩ := codes_get (HX.out wr HW.out).codes hx
      injection hvv with hv1 hv2 hv3
      subst hv1
      obtain ⟨A6, c6, rfl, _, _⟩ := hi.slice
      obtain ⟨A7, c7, rfl, _, _⟩ := hv.slice
      obtain ⟨A8, c8, rfl, _, _⟩ := hl.slice
      have b1 : (0 : Int) ≤ (r2 : Int) := by omega
      have b2 : (r2 : Int) < (T.codes.length : Int) := by omega
      obtain ⟨w5, hw5⟩ : ∃ w5, w5 = wr.alloc (.cells #[.int .i64 x.regs, .int .i64 x.slots, .slice A6 x.inputs.length c6, .slice A7 x.consts.length c7, .slice A8 x.list.length c8] 40) := ⟨_, rfl⟩
      have hb5 : Below wr.heap.size wr w5 := by rw [hw5]; exact (Below.refl _ _).alloc (Nat.le_refl _) _
      have BX := Lib.hid (show Blk w5 wr.heap.size 40 #[.int .i64 x.regs, .int .i64 x.slots, .slice A6 x.inputs.length c6, .slice A7 x.consts.length c7, .slice A8 x.list.length c8] by rw [hw5]; exact Blk.new wr _ _)
      have CT := Lib.hid (good_any x w5 _ _ _ (keep_inps (KeepC.of_below hb5) hi) (keep_vals (KeepC.of_below hb5) hv) (keep_inss (KeepC.of_below hb5) hl))
      have HB5 := Lib.hid (hb.out.trans (hb5.mono hb.out.size))
      have HST := Lib.hid (all_step (f := codeB) hx hal.out)
      have HBD : Hid (codeB x = false → rv = false) := Lib.hid (fun h => by rw [← HRV.out]; unfold verT; rw [all_bad hx h]; simp)
      obtain ⟨tb, htb⟩ : ∃ tb, goodB x = tb := ⟨_, rfl⟩
      have HCB : Hid (codeB x = (decide (x.regs ≤ 16) && tb)) := Lib.hid (by unfold codeB; rw [htb])
      rw [htb] at CT
      clear hx hv2 hv3 htb hal hb5 hi hv hl
      go_upto_region 12 with fail
      rw [← hw5]
      clear hw5 q0 q1 q2 q3 q4
      obtain ⟨z0, z1, z2, z3, z4⟩ := blk5 BX.out
      by_cases hreg : 16 < x.regs
      ·have e : Hid (rv = false) := Lib.hid (HBD.out (by rw [HCB.out, decide_eq_false (by omega)]; rfl))
       clear HST HBD hb
       go_wp2_with fail
       go_ret
       exact ver_no e.out (HB0.out.trans (HB5.out.mono HB0.out.size))
      ·have HC2 : Hid (codeB x = tb) := Lib.hid (by rw [HCB.out, decide_eq_true (by omega)]; rfl)
       go_wp2_with fail
       refine CT.out.mono ?_
       rintro e w6 ⟨rfl, hb6⟩
       have HB6 := Lib.hid (HB5.out.trans (hb6.mono HB5.out.size))
       clear hb6 CT z0 z1 z2 z3 z4 hb
       cases tb with
       | true =>
        have e := Lib.hid (HST.out HC2.out)
        clear HST HBD
        go_wp2_with fail
        go_roundw
        case rel => first | exact ⟨r2 + 1, by omega, by go_num, HB6, e⟩ | ((repeat apply Exists.intro); exact ⟨⟨r2 + 1, by omega, by go_num, HB6, e⟩, rfl⟩)
        case measure => simp [intOf]; omega
       | false =>
        have e := Lib.hid (HBD.out HC2.out)
        clear HST HBD
        go_wp2_with fail
        go_ret
        exact ver_no e.out (HB0.out.trans (HB6.out.mono HB0.out.size))
     ·have hge2 : (T.codes.length : Int) ≤ (r2 : Int) := by omega
      have HCODES : Hid (T.codes.all codeB = true) := Lib.hid (by have h9 := hal.out; rw [List.take_of_length_le (by omega)] at h9; exact h9)
      obtain ⟨k0, k1, k2, k3, k4, k5, k6, k7⟩ := blk8 (HBT.out.below hb.out HBT.out.lt)
      have hmm := fun t w => @run_makeMap Try.prog t w
      clear hal
      go_upto_region 16 with fail
      clear hmm k0 k1 k2 k3 k4 k5 k6 k7
      obtain ⟨H, hH⟩ : ∃ H, wr.heap.size = H := ⟨_, rfl⟩
      obtain ⟨w4, hw4⟩ : ∃ w4, w4 = (wr.alloc (.map #[] 0)).alloc (.cells #[.int .i64 T.strategy, .slice A4 T.keys.length c4, .slice A3 T.kinds.length c3, .int .i64 T.syms, .int .i64 T.runs, .int .i64 T.cells, .slice A T.states.length c, .slice A2 T.codes.length c2, .map (some wr.heap.size)] 62) := ⟨_, rfl⟩
      have SR : SetX w4 H 0 [] := by rw [hw4, ← hH]; exact (SetX.made wr).alloc _
      have SK : Blk w4 (H + 1) 62 #[.int .i64 T.strategy, .slice A4 T.keys.length c4, .slice A3 T.kinds.length c3, .int .i64 T.syms, .int .i64 T.runs, .int .i64 T.cells, .slice A T.states.length c, .slice A2 T.codes.length c2, .map (some H)] := by
       rw [hw4, ← hH]
       have := Blk.new (wr.alloc (.map #[] 0)) 62 #[.int .i64 T.strategy, .slice A4 T.keys.length c4, .slice A3 T.kinds.length c3, .int .i64 T.syms, .int .i64 T.runs, .int .i64 T.cells, .slice A T.states.length c, .slice A2 T.codes.length c2, .map (some wr.heap.size)]
       rw [World.size_alloc] at this
       exact this
      have SB : Below H wr w4 := by rw [hw4, ← hH]; exact ((Below.refl _ wr).alloc (Nat.le_refl _) _).alloc (by simp) _
      have hs4 : w4.heap.size = H + 2 := by rw [hw4]; simp [hH]
      have hbH : w1.heap.size ≤ H := by rw [← hH]; exact hb.out.size
      have HW4 := Lib.hid (HW.out.trans (SB.mono (by have := HS1.out; omega)))
      have SM : Hid (AskM w4 T (.slice A4 T.keys.length c4) (.slice A3 T.kinds.length c3) (.slice A T.states.length c) (.slice A2 T.codes.length c2) (H + 1) H (toldU (usesUp T 0) []).length (toldU (usesUp T 0) []) ∧ w4.grownBy w4 (some H)) := Lib.hid ⟨⟨SK, SR, HX.out w4 HW4.out⟩, World.grownBy.refl _ _⟩
      have BT4 := Lib.hid ((HBT.out.below hb.out HBT.out.lt).below SB (by have := HBT.out.lt; omega))
      try rw [← hw4]
      rw [hH]
      have HS4 := Lib.hid hs4
      have HHS := Lib.hid hbH
      have HPOS := Lib.hid (pos_of_good HCODES.out)
      clear hw4 SR SK SB hs4 hH hbH hb HW
      obtain ⟨k0, k1, k2, k3, k4, k5, k6, k7⟩ := blk8 BT4.out
      go_wp2_with fail
      clear k0 k1 k2 k3 k4 k5 k6 k7
      go_loopw [45] (fun s wx => ∃ r : Nat, r ≤ T.states.length ∧ s = .int .i64 r ∧ Hid (AskM wx T (.slice A4 T.keys.length c4) (.slice A3 T.kinds.length c3) (.slice A T.states.length c) (.slice A2 T.codes.length c2) (H + 1) H (toldU (usesUp T r) []).length (toldU (usesUp T r) []) ∧ w4.grownBy wx (some H)) ∧ Hid ((usesUp T r).all (useOk T) = true)) (fun s _ => T.states.length - (intOf s).toNat)
      case atStart => exact ⟨0, Nat.zero_le _, rfl, SM, Lib.hid (by simp [usesUp])⟩
      case round =>
       clear SM
       obtain ⟨r3, hr3, rfl, hM, hal⟩ := hrel
       have HBW : Hid (Below w.heap.size w wr) := Lib.hid (HW4.out.trans ⟨hM.out.2.os, hM.out.2.tape, hM.out.2.output, hM.out.2.size, fun k hk => hM.out.2.block k (by have := HS4.out; have := HHS.out; have := HS1.out; omega) (fun e => by injection e with e; have := HHS.out; have := HS1.out; omega)⟩)
       by_cases hlt3 : r3 < T.states.length
       ·obtain ⟨x, hx⟩ : ∃ x, T.states[r3]? = some x := ⟨_, List.getElem?_eq_getElem hlt3⟩
        have b1 : (0 : Int) ≤ (r3 : Int) := by omega
        have b2 : (r3 : Int) < (T.states.length : Int) := by omega
        have CT := Lib.hid (state_any T _ _ _ _ wr (H + 1) H _ hM.out.1 r3 x hx (by omega) HPOS.out (capU (S := []) ⟨List.nodup_nil, fun j hj => by cases hj⟩ _ hal.out) hcdc)
        have HST := Lib.hid (uses_step hx)
        have HTU : Hid (toldU (usesUp T (r3 + 1)) [] = toldU (usesRow T r3 x) (toldU (usesUp T r3) [])) := Lib.hid (by rw [uses_step hx, toldU_app])
        have HBD : Hid (stateT T r3 x = false → rv = false) := Lib.hid (fun h => by rw [← HRV.out]; unfold verT; rw [uses_bad hx h]; simp)
        have HAL := Lib.hid hal.out
        have HGM := Lib.hid hM.out.2
        obtain ⟨tb, htb⟩ : ∃ tb, stateT T r3 x = tb := ⟨_, rfl⟩
        have HTB : Hid ((usesRow T r3 x).all (useOk T) = tb) := Lib.hid htb
        rw [htb] at CT HBD
        clear hx htb hal hM
        go_wp2_with fail
        refine CT.out.mono ?_
        rintro e w6 ⟨rfl, hg6, hb6⟩
        have HG6 := Lib.hid (HGM.out.trans hg6)
        have HB6 : Hid (Below w.heap.size w w6) := Lib.hid (HW4.out.trans ⟨HG6.out.os, HG6.out.tape, HG6.out.output, HG6.out.size, fun k hk => HG6.out.block k (by have := HS4.out; have := HHS.out; have := HS1.out; omega) (fun e => by injection e with e; have := HHS.out; have := HS1.out; omega)⟩)
        clear CT hg6
        cases tb with
        | true =>
         have HM7 := Lib.hid (show AskM w6 T (.slice A4 T.keys.length c4) (.slice A3 T.kinds.length c3) (.slice A T.states.length c) (.slice A2 T.codes.length c2) (H + 1) H (toldU (usesUp T (r3 + 1)) []).length (toldU (usesUp T (r3 + 1)) []) ∧ w4.grownBy w6 (some H) by rw [HTU.out]; exact ⟨hb6 rfl, HG6.out⟩)
         have HA7 : Hid ((usesUp T (r3 + 1)).all (useOk T) = true) := Lib.hid (by rw [HST.out, List.all_append, HAL.out, HTB.out]; rfl)
         clear hb6
         go_wp2_with fail
         go_roundw
         case rel => first | exact ⟨r3 + 1, by omega, by go_num, HM7, HA7⟩ | ((repeat apply Exists.intro); exact ⟨⟨r3 + 1, by omega, by go_num, HM7, HA7⟩, rfl⟩)
         case measure => simp [intOf]; omega
        | false =>
         have e := Lib.hid (HBD.out rfl)
         clear hb6
         go_wp2_with fail
         go_ret
         exact ver_no e.out HB6.out
       ·have hge3 : (T.states.length : Int) ≤ (r3 : Int) := by omega
        obtain ⟨n9, hn9⟩ : ∃ n9, (toldU (usesT T) []).length = n9 := ⟨_, rfl⟩
        have HF : Hid (rv = decide (n9 = T.codes.length)) := Lib.hid (by
         have h9 := hal.out
         rw [show r3 = T.states.length by omega] at h9
         rw [← HRV.out, ← hn9]
         unfold verT
         rw [HH.out, HROWS.out, HCODES.out, show (usesT T).all (useOk T) = true from h9]
         rfl)
        have hM1 := hM.out.1
        rw [show r3 = T.states.length by omega] at hM1
        have HLN : ∀ n : Nat, (Builtin.len_ #[60] 3 #[.map (some H)]).run Try.prog (wr.drewN n) = .ok (.int .i64 (n9 : Int)) (wr.drewN n) := fun n => by
         have := (hM1.2.1.drewN n).len 3
         rw [show (toldU (usesUp T T.states.length) []).length = n9 from hn9] at this
         exact this
        obtain ⟨a0, a1, a2, a3, a4, a5, a6, a7, a8⟩ := blk9 hM1.1
        obtain ⟨k0, k1, k2, k3, k4, k5, k6, k7⟩ := blk8 (BT4.out.grown hM.out.2 (fun e => by injection e with e; have := HHS.out; have := HS1.out; omega))
        clear hM1 hM hal hn9
        by_cases hfin : n9 = T.codes.length
        ·have e : Hid (rv = true) := Lib.hid (by rw [HF.out, decide_eq_true hfin])
         have e1 : ((n9 : Int) != (T.codes.length : Int)) = false := by simp [hfin]
         clear hfin
         go_upto_region 22 with fail
         refine wp_region_quiet_lit (by kernel_rfl) (by kernel_rfl) ?_
         repeat (any_goals (first | go_big_quiet_step (fail) | quiet_step (fail) | (refine wpQuiet_step (fun K hK => ?_); go_simp; split <;> (refine hK _ ?_; clear hK K))))
         all_goals (refine wpQuiet_nil ?_; intro _ hw'; obtain ⟨nq, hw''⟩ := hw'; subst hw'')
         go_wp2_with fail
         go_ret
         exact ver_yes e.out (below_drewN HBW.out _)
        ·have e : Hid (rv = false) := Lib.hid (by rw [HF.out, decide_eq_false hfin])
         have e1 : ((n9 : Int) != (T.codes.length : Int)) = true := by rw [bne_iff_ne]; omega
         clear hfin
         go_upto_region 22 with fail
         refine wp_region_quiet_lit (by kernel_rfl) (by kernel_rfl) ?_
         repeat (any_goals (first | go_big_quiet_step (fail) | quiet_step (fail) | (refine wpQuiet_step (fun K hK => ?_); go_simp; split <;> (refine hK _ ?_; clear hK K))))
         all_goals (refine wpQuiet_nil ?_; intro _ hw'; obtain ⟨nq, hw''⟩ := hw'; subst hw'')
         go_wp2_with fail
         go_ret
         exact ver_no e.out (below_drewN HBW.out _)
end Go.Proofs.Ytioocaicmiggoaa
namespace Go.Proofs.Ytioocaicmiggoaa
set_option linter.unusedVariables false
set_option linter.unusedSimpArgs false
open Go.RowKit Go.Deep
theorem info_stop : (Try.prog.info? 98).map (fun i => (i.zero, i.size, i.bytes)) = some (some (.agg #[.int .i64 0, .int .i64 0]), 2, 16) := by kernel_rfl
theorem info_ints : (Try.prog.info? 22).map (fun i => (i.zero, i.size, i.bytes)) = some (some (.slice none 0 0), 1, 24) := by kernel_rfl
theorem info_tail : (Try.prog.info? 56).map (fun i => (i.zero, i.size, i.bytes)) = some (some (.agg #[.int .i64 0, .int .i64 0, .slice none 0 0]), 3, 40) := by kernel_rfl
theorem info_row : (Try.prog.info? 46).map (fun i => (i.zero, i.size, i.bytes)) = some (some (.agg #[.int .i64 0, .int .i64 0, .bool false, .int .i64 0, .slice none 0 0, .int .i64 0, .int .i64 0, .slice none 0 0]), 8, 96) := by kernel_rfl
theorem info_code : (Try.prog.info? 40).map (fun i => (i.zero, i.size, i.bytes)) = some (some (.agg #[.int .i64 0, .int .i64 0, .slice none 0 0, .slice none 0 0, .slice none 0 0]), 5, 88) := by kernel_rfl
def QB (B : Nat) (vs vc : Value) (w : World) (b : Nat) : Prop := B ≤ b ∧ b < w.heap.size ∧ some b ≠ vs.ownBlock ∧ some b ≠ vc.ownBlock
structure TwinM (B : Nat) (w : World) (T : TTab) (vk vkk vs vc : Value) : Prop where
 keys : SlQ (QB B vs vc w) 1 IntC w vk T.keys
 kinds : SlQ (QB B vs vc w) 1 (IntsQ (QB B vs vc w)) w vkk T.kinds
 rows : ∃ css, w.ownsRow B 46 8 vs T.states.length css.flatten ∧ FlatR 8 (RowQ (QB B vs vc w)) w css T.states
 codes : ∃ css, w.ownsRow B 40 5 vc T.codes.length css.flatten ∧ FlatR 5 (CodeQ (QB B vs vc w)) w css T.codes
 apart : ∀ g, vs.ownBlock = some g → vc.ownBlock ≠ some g
 ok : wfi T.strategy ∧ wfi T.syms ∧ wfi T.runs ∧ wfi T.cells
theorem TwinM.tab {B : Nat} {w : World} {T : TTab} {vk vkk vs vc : Value} (h : TwinM B w T vk vkk vs vc) : TabX w T vk vkk vs vc := by
 obtain ⟨cr, ho, hf⟩ := h.rows
 obtain ⟨cc, ho2, hf2⟩ := h.codes
 exact ⟨h.keys.out fun _ _ h => h, h.kinds.out fun _ _ h => h.out, (slq_of_own (Q := fun _ => True) hf ho (fun _ _ _ _ => trivial) (.inr trivial)).out fun _ _ h => h.out, (slq_of_own (Q := fun _ => True) hf2 ho2 (fun _ _ _ _ => trivial) (.inr trivial)).out fun _ _ h => h.out, h.ok⟩
theorem TwinM.below {B : Nat} {w w' : World} {T : TTab} {vk vkk vs vc : Value} (h : TwinM B w T vk vkk vs vc) (hb : Below w.heap.size w w') : TwinM B w' T vk vkk vs vc := by
 obtain ⟨cr, ho, hf⟩ := h.rows
 obtain ⟨cc, ho2, hf2⟩ := h.codes
 have hk : KeepQ (QB B vs vc w) w w' := KeepQ.of_below hb fun b hb => hb.2.1
 have hq : ∀ b, QB B vs vc w b → QB B vs vc w' b := fun b hq => ⟨hq.1, Nat.lt_of_lt_of_le hq.2.1 hb.size, hq.2.2⟩
 exact ⟨h.keys.keep hk hq fun _ _ h => h, h.kinds.keep hk hq fun _ _ h => h.keep hk hq, ⟨cr, own_below ho hb, hf.keep fun _ _ h => h.keep hk hq⟩, ⟨cc, own_below ho2 hb, hf2.keep fun _ _ h => h.keep hk hq⟩, h.apart, h.ok⟩
end Go.Proofs.Ytioocaicmiggoaa
namespace Go.Proofs.Ytioocaicmiggoaa
set_option linter.unusedVariables false
set_option linter.unusedSimpArgs false
open Go.RowKit Go.Deep
theorem pflat_le {α : Type} {f : α → List UInt8} {sz : α → Nat} (hf : ∀ x, (f x).length ≤ 100 * (sz x + 1)) (l : List α) : ((l.map f).flatten).length ≤ 100 * szL sz l := by
 induction l with
 | nil => simp [szL]
 | cons x l ih =>
  have h1 := hf x
  unfold szL at ih ⊢
  rw [List.map_cons, List.flatten_cons, List.length_append, List.map_cons, List.sum_cons]
  omega
theorem plist_le {α : Type} {f : α → List UInt8} {sz : α → Nat} (hf : ∀ x, (f x).length ≤ 100 * (sz x + 1)) (l : List α) : (listBy f l).length ≤ 10 + 100 * szL sz l := by
 unfold listBy
 rw [List.length_append]
 have h1 := numsB_len [(l.length : Int)]
 have h2 := pflat_le hf l
 simp only [List.length_cons, List.length_nil] at h1
 omega
theorem pstop_le (x : TStop) : (stopBy x).length ≤ 100 * (0 + 1) := by have h := numsB_len [x.ty, x.gd]; unfold stopBy; simp only [List.length_cons, List.length_nil] at h; omega
theorem ptail_le (x : TTail) : (tailBy x).length ≤ 100 * (szTail x + 1) := by
 have h := numsB_len [x.br, x.cl]
 have h2 := plist_le (sz := fun _ => 0) pstop_le x.bars
 unfold tailBy szTail
 rw [List.length_append]
 simp only [List.length_cons, List.length_nil] at h
 omega
theorem prow_le (x : TRow) : (rowBy x).length ≤ 100 * (szRow x + 1) := by
 have h := numsB_len [x.par, x.ty, mInt x.many, x.win]
 have h1 := numsB_len [x.leave, x.guard]
 have h2 := plist_le (sz := fun _ => 0) pstop_le x.bars
 have h3 := plist_le (sz := szTail) ptail_le x.ends
 unfold rowBy szRow
 simp only [List.length_append]
 simp only [List.length_cons, List.length_nil] at h h1
 omega
end Go.Proofs.Ytioocaicmiggoaa
namespace Go.Proofs.Ytioocaicmiggoaa
set_option linter.unusedVariables false
set_option linter.unusedSimpArgs false
open Go.RowKit Go.Deep
theorem tabf_zero (B : Nat) (w : World) : TabF B w zTab (.slice none 0 0) (.slice none 0 0) (.slice none 0 0) (.slice none 0 0) :=
 ⟨_, _, _, _, rfl, ⟨none, 0, rfl, Nat.le_refl _, by decide, fun h => by simp [zTab] at h⟩, ⟨none, 0, rfl, Nat.le_refl _, by decide, fun h => by simp [zTab] at h⟩, ⟨none, 0, rfl, Nat.le_refl _, by decide, fun h => by simp [zTab] at h⟩, ⟨none, 0, rfl, Nat.le_refl _, by decide, fun h => by simp [zTab] at h⟩, rfl, rfl, rfl, rfl⟩
theorem TabF.keep {B B' : Nat} {w w' : World} {y : TTab} {vk vkk vs vc : Value} (h : TabF B w y vk vkk vs vc) (hk : KeepQ (fun b => B ≤ b) w w') (hB : B' ≤ B) : TabF B' w' y vk vkk vs vc := TabQ.keep h hk fun b hb => Nat.le_trans hB hb
theorem TabF.below {B : Nat} {w w' : World} {y : TTab} {vk vkk vs vc : Value} (h : TabF B w y vk vkk vs vc) (hb : Below w.heap.size w w') : TabF B w' y vk vkk vs vc := TabQ.keep h (fun p u _ hp => KeepC.of_below hb p u hp) fun _ h => h
theorem decp_tab {l : List UInt8} {w w' : World} {e : Ending} (h : DecP l w e w') : ∃ (T : TTab) (vk vkk vs vc : Value) (ec : Int), e = .returned (.tuple #[.agg #[.int .i64 T.strategy, vk, vkk, .int .i64 T.syms, .int .i64 T.runs, .int .i64 T.cells, vs, vc], .int .i64 ec]) ∧ TabF w.heap.size w' T vk vkk vs vc ∧ Below w.heap.size w w' ∧ ((IsImg T l ∧ ec = 0) ∨ ((∀ y, ¬ IsImg y l) ∧ T = zTab ∧ ec = decErr l)) := by
 obtain ⟨hb, ⟨y, vk, vkk, vs, vc, h1, rfl, h3⟩ | ⟨h1, rfl⟩⟩ := h
 ·exact ⟨y, vk, vkk, vs, vc, 0, rfl, h3, hb, .inl ⟨h1, rfl⟩⟩
 ·exact ⟨zTab, _, _, _, _, decErr l, rfl, tabf_zero _ w', hb, .inr ⟨h1, rfl, rfl⟩⟩
theorem decErr_ne (l : List UInt8) : decErr l ≠ 0 := by
 unfold decErr
 (repeat' split) <;> decide
def LoadR (l : List UInt8) (T : TTab) (ec : Int) : Prop := (IsImg T l ∧ verT T = true ∧ ec = 0) ∨ (T = zTab ∧ ((∃ y, IsImg y l ∧ verT y = false ∧ ec = 32) ∨ ((∀ y, ¬ IsImg y l) ∧ ec = decErr l)))
def LoadP (l : List UInt8) (w : World) (e : Ending) (w' : World) : Prop := ∃ (T : TTab) (vk vkk vs vc : Value) (ec : Int), e = .returned (.tuple #[.agg #[.int .i64 T.strategy, vk, vkk, .int .i64 T.syms, .int .i64 T.runs, .int .i64 T.cells, vs, vc], .int .i64 ec]) ∧ TabF w.heap.size w' T vk vkk vs vc ∧ Below w.heap.size w w' ∧ LoadR l T ec
theorem loadr_same {l : List UInt8} {T U : TTab} {a b : Int} (h : LoadR l T a) (k : LoadR l U b) : U = T ∧ b = a ∧ (plainBy T).length ≤ 1000000000 := by
 rcases h with ⟨h1, h2, rfl⟩ | ⟨rfl, ⟨y, h1, h2, rfl⟩ | ⟨h1, rfl⟩⟩ <;> rcases k with ⟨k1, k2, rfl⟩ | ⟨rfl, ⟨z, k1, k2, rfl⟩ | ⟨k1, rfl⟩⟩
 ·exact ⟨img_one k1 h1, rfl, h1.plain⟩
 ·rw [img_one k1 h1, h2] at k2; cases k2
 ·exact absurd h1 (k1 T)
 ·rw [img_one k1 h1, h2] at k2; cases k2
 ·exact ⟨rfl, rfl, by decide⟩
 ·exact absurd h1 (k1 y)
 ·exact absurd k1 (h1 U)
 ·exact absurd k1 (h1 z)
 ·exact ⟨rfl, rfl, by decide⟩
theorem numsB_ge (l : List Int) : l.length ≤ (numsB l).length := by
 induction l with
 | nil => simp
 | cons x l ih =>
  rw [numsB_cons x l, List.length_append, List.length_cons]
  have h : 1 ≤ (numsB [x]).length := by
   unfold numsB
   have := (vb_len (zig x)).1
   simpa using this
  omega
theorem gflat {α : Type} {f : α → List UInt8} {sz : α → Nat} (hf : ∀ x, sz x + 1 ≤ (f x).length) (l : List α) : szL sz l ≤ ((l.map f).flatten).length := by
 induction l with
 | nil => simp [szL]
 | cons x l ih =>
  have h1 := hf x
  unfold szL at ih ⊢
  rw [List.map_cons (f := f), List.flatten_cons, List.length_append, List.map_cons, List.sum_cons]
  omega
theorem glist {α : Type} {f : α → List UInt8} {sz : α → Nat} (hf : ∀ x, sz x + 1 ≤ (f x).length) (l : List α) : szL sz l + 1 ≤ (listBy f l).length := by
 unfold listBy
 rw [List.length_append]
 have h1 := numsB_ge [(l.length : Int)]
 have h2 := gflat hf l
 simp only [List.length_cons, List.length_nil] at h1
 omega
theorem gint (x : Int) : 0 + 1 ≤ (intBy x).length := numsB_ge [x]
theorem gstop (x : TStop) : 0 + 1 ≤ (stopBy x).length := by have h := numsB_ge [x.ty, x.gd]; unfold stopBy; simp only [List.length_cons, List.length_nil] at h; omega
theorem gtail (x : TTail) : szTail x + 1 ≤ (tailBy x).length := by
 have h2 := glist (sz := fun _ => 0) gstop x.bars
 unfold tailBy szTail
 rw [List.length_append]
 omega
theorem grow_ (x : TRow) : szRow x + 1 ≤ (rowBy x).length := by
 have h2 := glist (sz := fun _ => 0) gstop x.bars
 have h3 := glist (sz := szTail) gtail x.ends
 unfold rowBy szRow
 simp only [List.length_append]
 omega
theorem ginp (x : TInp) : 0 + 1 ≤ (inpBy x).length := by have h := numsB_ge [x.op, x.kind, x.pos, x.attr]; unfold inpBy; simp only [List.length_cons, List.length_nil] at h; omega
theorem gins (x : TIns) : 0 + 1 ≤ (insBy x).length := by have h := numsB_ge [x.op, x.dst, x.a, x.b]; unfold insBy; simp only [List.length_cons, List.length_nil] at h; omega
theorem gval (x : TVal) : 0 + 1 ≤ (valBy x).length := by
 have h := numsB_ge [x.kind]
 unfold valBy
 rw [List.length_append]
 simp only [List.length_cons, List.length_nil] at h
 omega
theorem gcode (x : TCode) : szCode x + 1 ≤ (codeBy x).length := by
 have h2 := glist (sz := fun _ => 0) ginp x.inputs
 have h3 := glist (sz := fun _ => 0) gval x.consts
 have h4 := glist (sz := fun _ => 0) gins x.list
 unfold codeBy szCode
 simp only [List.length_append]
 omega
theorem gtab (T : TTab) : szTab T ≤ (tabBy T).length := by
 have h3 := glist (sz := fun _ => 0) gint T.keys
 have h4 := glist (sz := fun l : List Int => szL (fun _ => 0) l) (fun l => glist (sz := fun _ => 0) gint l) T.kinds
 have h5 := glist (sz := szRow) grow_ T.states
 have h6 := glist (sz := szCode) gcode T.codes
 unfold tabBy szTab
 simp only [List.length_append]
 omega
theorem IsImg.small {y : TTab} {b : List UInt8} (h : IsImg y b) : szTab y ≤ 1048576 := by
 obtain ⟨m, h1, h2, h3⟩ := h
 have h4 := (h1.by_).2
 have h5 := gtab y
 rw [h2, List.length_append, List.length_append] at h3
 rw [h4] at h3
 omega
end Go.Proofs.Ytioocaicmiggoaa
namespace Go.Proofs.Ytioocaicmiggoaa
set_option linter.unusedVariables false
set_option linter.unusedSimpArgs false
open Go.RowKit Go.Deep
theorem own_low {w : World} {B B' : Nat} {e : TypeId} {s n : Nat} {v : Value} {xs : List Value} (h : w.ownsRow B e s v n xs) (hB : B' ≤ B) : w.ownsRow B' e s v n xs := by
 refine ⟨h.1, ?_⟩
 rcases h.2 with h1 | ⟨g, cap, cur, hv, hb, hr⟩
 ·exact .inl h1
 ·exact .inr ⟨g, cap, cur, hv, Nat.le_trans hB hb, hr⟩
def RPathO (w1 : World) (rs : List TRow) (E : List Int) (k : Nat) (j : Int) (vl : Value) (wr : World) : Prop :=
 ∃ (l : List Int) (A : Option Addr) (c : Nat), vl = .slice A l.length c ∧ wr.ownsRow w1.heap.size 3 1 vl l.length (iv l) ∧ pathL rs k j ++ l = E ∧ Below w1.heap.size w1 wr ∧ (j < k ∨ rowAt rs j = none) ∧ l.length + k ≤ rs.length ∧ l.length ≤ c ∧ c ≤ maxLen
def PathO (w : World) (E : List Int) (e : Ending) (w' : World) : Prop := ∃ A c, e = .returned (.slice A E.length c) ∧ w'.ownsRow w.heap.size 3 1 (.slice A E.length c) E.length (iv E) ∧ Below w.heap.size w w'
theorem RPathO.done {w1 wr : World} {rs : List TRow} {E : List Int} {k : Nat} {j : Int} {vl : Value} (h : RPathO w1 rs E k j vl wr) (hj : rowAt rs j = none) : ∃ A c, vl = .slice A E.length c ∧ wr.ownsRow w1.heap.size 3 1 (.slice A E.length c) E.length (iv E) ∧ Below w1.heap.size w1 wr := by
 obtain ⟨l, A, c, rfl, h1, h2, h3, _⟩ := h
 rw [pathL_none hj] at h2
 have h2 : l = E := h2
 subst h2
 exact ⟨A, c, rfl, h1, h3⟩
theorem RPathO.step {w1 wr : World} {rs : List TRow} {E : List Int} {k q : Nat} {x : TRow} {vl : Value} (h : RPathO w1 rs E k q vl wr) (hx : rs[q]? = some x) :
  ∃ (l : List Int) (A : Option Addr) (c : Nat), vl = .slice A l.length c ∧ wr.ownsRow w1.heap.size 3 1 (.slice A l.length c) l.length (iv l) ∧ l.length + 1 ≤ rs.length ∧ 0 < k ∧ Below w1.heap.size w1 wr ∧
   ∀ (w4 : World) (v4 : Value), Below wr.heap.size wr w4 → w4.ownsRow wr.heap.size 3 1 v4 (1 + l.length) ([.int .i64 q] ++ iv l) →
    ((q : Int) ≤ x.par → ∃ A c, v4 = .slice A E.length c ∧ w4.ownsRow w1.heap.size 3 1 (.slice A E.length c) E.length (iv E) ∧ Below w1.heap.size w1 w4) ∧ (x.par < q → RPathO w1 rs E (k - 1) x.par v4 w4) := by
 obtain ⟨l, A, c, rfl, h1, h2, h3, h4, h5, h6, h7⟩ := h
 have hr : rowAt rs (q : Int) = some x := by rw [rowAt_nat]; exact hx
 have h4 : (q : Int) < k := h4.resolve_right (by rw [hr]; simp)
 refine ⟨l, A, c, rfl, h1, by omega, by omega, h3, fun w4 v4 hb ho => ?_⟩
 obtain ⟨k, rfl⟩ : ∃ k', k = k' + 1 := ⟨k - 1, by omega⟩
 have e : pathL rs (k + 1) q = if 0 ≤ x.par ∧ x.par < q then pathL rs k x.par ++ [(q : Int)] else [(q : Int)] := by simp only [pathL, hr]
 obtain ⟨A4, c4, rfl⟩ := own_slice ho
 obtain ⟨hc4, hm4⟩ := own_caps ho
 have hr4 := own_low ho h3.size
 have hbw := h3.trans (hb.mono h3.size)
 refine ⟨fun hp => ?_, fun hp => ?_⟩
 ·rw [e, if_neg (by omega)] at h2
  have h2 : (q : Int) :: l = E := h2
  have hl : E.length = 1 + l.length := by rw [← h2]; simp; omega
  refine ⟨A4, c4, by rw [hl], ?_, hbw⟩
  rw [hl, ← h2]; exact hr4
 ·have h9 : pathL rs k x.par ++ ((q : Int) :: l) = E := by
   by_cases h0 : 0 ≤ x.par
   ·rw [e, if_pos ⟨h0, hp⟩] at h2
    rw [← h2]; simp
   ·rw [e, if_neg (by omega)] at h2
    have hn : rowAt rs x.par = none := by unfold rowAt; rw [if_neg h0]
    rw [pathL_none hn]; exact h2
  have hl : ((q : Int) :: l).length = 1 + l.length := by simp; omega
  exact ⟨(q : Int) :: l, A4, c4, by rw [hl], by rw [hl]; exact hr4, h9, hbw, .inl (by simp; omega), by simp; omega, by rw [hl]; exact hc4, hm4⟩
set_option maxRecDepth 100000 in
set_option maxHeartbeats 4000000 in
theorem rpath_own (T : TTab) (vk vkk vs vc : Value) (hn : T.states.length ≤ 1500000000000) (i : Int) (w : World) (h : TabX w T vk vkk vs vc) :
  Calls Try.prog 14 #[.agg #[.int .i64 T.strategy, vk, vkk, .int .i64 T.syms, .int .i64 T.runs, .int .i64 T.cells, vs, vc], .int .i64 i] w (PathO w (pathT T.states i)) := by
 obtain ⟨A, c, rfl, hc1, hc2⟩ := h.states.slice
 obtain ⟨E, hE⟩ : ∃ E, pathT T.states i = E := ⟨_, rfl⟩
 rw [hE]
 have HX := Lib.hid h
 have BX := Lib.hid (Blk.new w 27 #[.int .i64 T.strategy, vk, vkk, .int .i64 T.syms, .int .i64 T.runs, .int .i64 T.cells, .slice A T.states.length c, vc])
 have B0 := Lib.hid ((Below.refl w.heap.size w).alloc (Nat.le_refl _) (.cells #[.int .i64 T.strategy, vk, vkk, .int .i64 T.syms, .int .i64 T.runs, .int .i64 T.cells, .slice A T.states.length c, vc] 27))
 have R0 : Hid (RPathO (w.alloc (.cells #[.int .i64 T.strategy, vk, vkk, .int .i64 T.syms, .int .i64 T.runs, .int .i64 T.cells, .slice A T.states.length c, vc] 27)) T.states E T.states.length i (.slice none 0 0) (w.alloc (.cells #[.int .i64 T.strategy, vk, vkk, .int .i64 T.syms, .int .i64 T.runs, .int .i64 T.cells, .slice A T.states.length c, vc] 27))) := Lib.hid
  ⟨[], none, 0, rfl, World.ownsRow_nil _ _ _ _, by rw [List.append_nil]; exact hE, Below.refl _ _, by
   by_cases hi : i < T.states.length
   ·exact .inl hi
   ·refine .inr ?_
    unfold rowAt
    rw [if_pos (by omega)]
    exact List.getElem?_eq_none (by omega), by simp, by simp, by decide⟩
 unfold maxLen at hc2
 obtain ⟨i2, hi2, hz2, hs2, hb2⟩ := info_parts info_int
 clear h hE
 go_enter Try.func14, Try.ntmps14
 go_wp2_with fail
 go_loopg [1, 5] T.states.length (fun k i l wr => ∃ j, i = .int .i64 j ∧ RPathO (w.alloc (.cells #[.int .i64 T.strategy, vk, vkk, .int .i64 T.syms, .int .i64 T.runs, .int .i64 T.cells, .slice A T.states.length c, vc] 27)) T.states E k j l wr)
 case atStart => exact ⟨_, rfl, R0.out⟩
 case round =>
  clear R0
  obtain ⟨j, rfl, hR⟩ := hrel
  have hbw : Below (w.heap.size + 1) (w.alloc (.cells #[.int .i64 T.strategy, vk, vkk, .int .i64 T.syms, .int .i64 T.runs, .int .i64 T.cells, .slice A T.states.length c, vc] 27)) wr := by
   obtain ⟨_, _, _, _, _, _, hb, _⟩ := hR
   rw [World.size_alloc] at hb; exact hb
  have k6 := (BX.out.below hbw (by omega)).cell 6
  have X := HX.out.below (B0.out.trans (hbw.mono (by omega)))
  cases hj : rowAt T.states j with
  | none =>
   obtain ⟨A9, c9, rfl, h91, h92⟩ := hR.done hj
   have H9 := Lib.hid (And.intro (own_low h91 (show w.heap.size ≤ _ by simp)) (B0.out.trans (h92.mono (by simp))))
   clear hR X hbw h91 h92
   rcases rowAt_none hj with i0 | i0
   ·clear hj
    go_wp2_with fail
    go_ret
    exact ⟨_, _, rfl, H9.out⟩
   ·have i1 : (0 : Int) ≤ j := by omega
    clear hj
    go_wp2_with fail
    go_ret
    exact ⟨_, _, rfl, H9.out⟩
  | some x =>
   obtain ⟨q, rfl, hq, hx⟩ := rowAt_some hj
   obtain ⟨l, A2, c2, rfl, hL, hll, hk0, _, hst⟩ := hR.step hx
   obtain ⟨b, off, c5, vb, ve, hv, _, _, q0, _⟩ := rows_get X.states hx
   injection hv with hv1 hv2 hv3
   subst hv1
   have b1 : (0 : Int) ≤ (q : Int) := by omega
   have b2 : (q : Int) < (T.states.length : Int) := by omega
   obtain ⟨p, hp⟩ : ∃ p, x.par = p := ⟨_, rfl⟩
   rw [hp] at q0 hst
   obtain ⟨nl, hnl⟩ : ∃ nl, l.length = nl := ⟨_, rfl⟩
   rw [hnl] at hst hL hll ⊢
   have hle : nl ≤ 1500000000000 := by omega
   have ST := Lib.hid hst
   have HL := Lib.hid (Reads.of_own hL)
   have HBW := Lib.hid hbw
   have HXX := Lib.hid X
   have OL := Lib.hid (World.ownsRow_lit (base := wr.heap.size) (e := 3) (size := 1) wr #[.int .i64 q] 1 (Nat.le_refl _) (by decide) rfl)
   have BL := Lib.hid (fun o => (Below.refl wr.heap.size wr).alloc (Nat.le_refl _) o)
   have HQ0 := Lib.hid q0
   have HB9 := Lib.hid (fun w4 (hb4 : Below wr.heap.size wr w4) => And.intro ((BX.out.below hbw (by omega)).below hb4 (by have := hbw.size; rw [World.size_alloc] at this; omega)) ((KeepC.of_below hb4) _ _ q0))
   clear hR hj hx hst hL hbw X hv2 hv3 hp hnl q0
   go_wp2_with (at_builtin; refine wpList_append_any _ rfl (.tmp 17) (.tmp 18) 22 rfl wr.heap.size 3 i2 _ 1 8 Try.underlying22 hi2 hz2 hs2 hb2 rfl (by omega) (.slice (some ⟨wr.heap.size, 0, none⟩) 1 1) 1 [.int .i64 q] rfl OL.out wr.heap.size A2 nl c2 (iv l) rfl (HL.out.alloc (Nat.le_refl _) _) (iv_one l) ?c1 ?c2 ?c3 ?_; rotate_left 3; intro v4 w4 ho hg hat; have hb4 := Lib.hid ((BL.out (.cells #[.int .i64 q] 3)).grown hg (by simp) (fun g9 e9 => by simp [Value.ownBlock] at e9; omega)); have HO4 := Lib.hid ho; clear ho hg hat; have q0 := (HB9.out w4 hb4.out).2; have k6 := (HB9.out w4 hb4.out).1.cell 6)
   case c1 => unfold maxLen; omega
   case c2 => omega
   ·have hpq : (q : Int) ≤ p := by assumption
    obtain ⟨A9, c9, rfl, h91, h92⟩ := (ST.out w4 v4 hb4.out HO4.out).1 hpq
    go_ret
    exact ⟨_, _, rfl, own_low h91 (by simp), B0.out.trans (h92.mono (by simp))⟩
   ·have hpq : p < (q : Int) := by first | assumption | omega
    have HH := Lib.hid ((ST.out w4 v4 hb4.out HO4.out).2 hpq)
    go_roundg (gk - 1)
    case measure => omega
    case rel => exact ⟨_, rfl, HH.out⟩
end Go.Proofs.Ytioocaicmiggoaa

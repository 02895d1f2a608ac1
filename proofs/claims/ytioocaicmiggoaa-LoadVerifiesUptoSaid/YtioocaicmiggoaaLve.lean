/-
  The walk of load.Verify.
-/
import Derived.Test.YtioocaicmiggoaaLst
import Derived.Test.YtioocaicmiggoaaLcc
namespace Go.Proofs.Ytioocaicmiggoaa
set_option linter.unusedVariables false
set_option linter.unusedSimpArgs false
open Go.RowKit Go.Deep Go.Maps

def VerP (w : World) (b : Bool) (e : Ending) (w' : World) : Prop := e = .returned (.int .i64 (if b then 0 else 32)) ∧ Below w.heap.size w w'
theorem ver_no {w w' : World} {b : Bool} (h : b = false) (hb : Below w.heap.size w w') : VerP w b (.returned (.int .i64 32)) w' := ⟨by rw [h]; rfl, hb⟩
theorem ver_yes {w w' : World} {b : Bool} (h : b = true) (hb : Below w.heap.size w w') : VerP w b (.returned (.int .i64 0)) w' := ⟨by rw [h]; rfl, hb⟩
set_option maxRecDepth 100000 in
set_option maxHeartbeats 4000000 in
theorem verify_any (T : TTab) (vk vkk vs vc : Value) (w : World) (h : TabX w T vk vkk vs vc) :
    Calls Try.prog 10 #[.agg #[.int .i64 T.strategy, vk, vkk, .int .i64 T.syms, .int .i64 T.runs, .int .i64 T.cells, vs, vc]] w (VerP w (verT T)) := by
  obtain ⟨A, c, rfl, hc1, hc2⟩ := h.states.slice
  obtain ⟨A2, c2, rfl, hc3, hc4⟩ := h.codes.slice
  obtain ⟨A3, c3, rfl, hc5, hc6⟩ := h.kinds.slice
  obtain ⟨A4, c4, rfl, hc7, hc8⟩ := h.keys.slice
  unfold maxLen at hc2 hc4 hc6 hc8
  have HX := Lib.hid (fun W (hb : Below w.heap.size w W) => h.below hb)
  obtain ⟨w1, hw1⟩ : ∃ w1, w1 = w.alloc (.cells #[.int .i64 T.strategy, .slice A4 T.keys.length c4, .slice A3 T.kinds.length c3, .int .i64 T.syms, .int .i64 T.runs, .int .i64 T.cells, .slice A T.states.length c, .slice A2 T.codes.length c2] 27) := ⟨_, rfl⟩
  have B0 : Below w.heap.size w w1 := by rw [hw1]; exact (Below.refl w.heap.size w).alloc (Nat.le_refl _) _
  have hs1 : w1.heap.size = w.heap.size + 1 := by rw [hw1]; simp
  have BT : Blk w1 w.heap.size 27 #[.int .i64 T.strategy, .slice A4 T.keys.length c4, .slice A3 T.kinds.length c3, .int .i64 T.syms, .int .i64 T.runs, .int .i64 T.cells, .slice A T.states.length c, .slice A2 T.codes.length c2] := by rw [hw1]; exact Blk.new w _ _
  have HB0 := Lib.hid B0
  have HBT := Lib.hid BT
  have HS1 := Lib.hid hs1
  obtain ⟨k0, k1, k2, k3, k4, k5, k6, k7⟩ := blk8 BT
  obtain ⟨rv, hrv⟩ : ∃ rv, verT T = rv := ⟨_, rfl⟩
  have HRV := Lib.hid hrv
  rw [hrv]
  have CH := Lib.hid (head_any T _ _ _ _ w1 (HX.out w1 B0))
  obtain ⟨hb1, hhb1⟩ : ∃ hb1, headT T = hb1 := ⟨_, rfl⟩
  rw [hhb1] at CH
  have HH := Lib.hid hhb1
  clear h B0 BT hs1 hrv hhb1
  go_enter Try.func10, Try.ntmps10
  go_upto_region 1 with fail
  rw [← hw1]
  clear hw1
  go_wp2_with fail
  refine CH.out.mono ?_
  rintro e w2 ⟨rfl, hb2⟩
  have HB2 := Lib.hid hb2
  clear k0 k1 k2 k3 k4 k5 k6 k7 CH hb2
  cases hb1 with
  | false =>
    have e : Hid (rv = false) := Lib.hid (by rw [← HRV.out]; unfold verT; rw [HH.out]; rfl)
    go_wp2_with fail
    go_ret
    exact ver_no e.out (HB0.out.trans (HB2.out.mono HB0.out.size))
  | true =>
    have hsc := states_cap HH.out
    have hcdc := codes_cap HH.out
    obtain ⟨k0, k1, k2, k3, k4, k5, k6, k7⟩ := blk8 (HBT.out.below HB2.out HBT.out.lt)
    have ns : (0 : Int) ≤ (T.states.length : Int) := by omega
    go_wp2_with fail
    clear k0 k1 k2 k3 k4 k5 k6 k7
    go_loopw [14] (fun s wr => ∃ r : Nat, r ≤ T.states.length ∧ s = .int .i64 r ∧ Hid (Below w1.heap.size w1 wr) ∧ Hid (rowsB T r = true)) (fun s _ => T.states.length - (intOf s).toNat)
    case atStart => exact ⟨0, Nat.zero_le _, rfl, HB2, Lib.hid (by simp [rowsB])⟩
    case round =>
      obtain ⟨r, hr, rfl, hb, hal⟩ := hrel
      have HW := Lib.hid (HB0.out.trans (hb.out.mono HB0.out.size))
      obtain ⟨k0, k1, k2, k3, k4, k5, k6, k7⟩ := blk8 (HBT.out.below hb.out HBT.out.lt)
      by_cases hlt : r < T.states.length
      · obtain ⟨x, hx⟩ : ∃ x, T.states[r]? = some x := ⟨_, List.getElem?_eq_getElem hlt⟩
        have b1 : (0 : Int) ≤ (r : Int) := by omega
        have b2 : (r : Int) < (T.states.length : Int) := by omega
        have CT := Lib.hid (row_any T _ _ _ _ wr (HX.out wr HW.out) (by omega) r x hx)
        have HST := Lib.hid (rows_step hx hal.out)
        have HBD : Hid (rowT T r x = false → rv = false) := Lib.hid (fun h => by rw [← HRV.out]; unfold verT; rw [rows_bad hx h]; simp)
        obtain ⟨tb, htb⟩ : ∃ tb, rowT T r x = tb := ⟨_, rfl⟩
        rw [htb] at CT HST HBD
        clear hx htb hal
        go_wp2_with fail
        refine CT.out.mono ?_
        rintro e w3 ⟨rfl, hb3⟩
        have HB3 := Lib.hid (hb.out.trans (hb3.mono hb.out.size))
        clear hb3 CT k0 k1 k2 k3 k4 k5 k6 k7 hb
        cases tb with
        | true =>
          clear HBD
          go_wp2_with fail
          go_roundw
          case rel => first | exact ⟨r + 1, by omega, by go_num, HB3, HST⟩ | ((repeat apply Exists.intro); exact ⟨⟨r + 1, by omega, by go_num, HB3, HST⟩, rfl⟩)
          case measure => simp [intOf]; omega
        | false =>
          have e := Lib.hid (HBD.out rfl)
          clear HST HBD
          go_wp2_with fail
          go_ret
          exact ver_no e.out (HB0.out.trans (HB3.out.mono HB0.out.size))
      · have hge : (T.states.length : Int) ≤ (r : Int) := by omega
        have HROWS : Hid (rowsB T T.states.length = true) := Lib.hid (by have h9 := hal.out; rw [show r = T.states.length by omega] at h9; exact h9)
        have ncd : (0 : Int) ≤ (T.codes.length : Int) := by omega
        clear hal
        go_wp2_with fail
        clear k0 k1 k2 k3 k4 k5 k6 k7
        go_loopw [25] (fun s wr => ∃ r : Nat, r ≤ T.codes.length ∧ s = .int .i64 r ∧ Hid (Below w1.heap.size w1 wr) ∧ Hid ((T.codes.take r).all codeB = true)) (fun s _ => T.codes.length - (intOf s).toNat)
        case atStart => exact ⟨0, Nat.zero_le _, rfl, hb, Lib.hid (by simp)⟩
        case round =>
          clear hb HW
          obtain ⟨r2, hr2, rfl, hb, hal⟩ := hrel
          have HW := Lib.hid (HB0.out.trans (hb.out.mono HB0.out.size))
          by_cases hlt2 : r2 < T.codes.length
          · obtain ⟨x, hx⟩ : ∃ x, T.codes[r2]? = some x := ⟨_, List.getElem?_eq_getElem hlt2⟩
            obtain ⟨b5, off5, c5, vi, vcc, vl, hvv, _, _, q0, q1, q2, q3, q4, hi, hv, hl, _⟩ := codes_get (HX.out wr HW.out).codes hx
            injection hvv with hv1 hv2 hv3
            subst hv1
            obtain ⟨A6, c6, rfl, _, _⟩ := hi.slice
            obtain ⟨A7, c7, rfl, _, _⟩ := hv.slice
            obtain ⟨A8, c8, rfl, _, _⟩ := hl.slice
            have b1 : (0 : Int) ≤ (r2 : Int) := by omega
            have b2 : (r2 : Int) < (T.codes.length : Int) := by omega
            obtain ⟨w5, hw5⟩ : ∃ w5, w5 = wr.alloc (.cells #[.int .i64 x.regs, .int .i64 x.slots, .slice A6 x.inputs.length c6, .slice A7 x.consts.length c7, .slice A8 x.list.length c8] 40) := ⟨_, rfl⟩
            have hb5 : Below wr.heap.size wr w5 := by rw [hw5]; exact (Below.refl _ _).alloc (Nat.le_refl _) _
            have BX := Lib.hid (show Blk w5 wr.heap.size 40 #[.int .i64 x.regs, .int .i64 x.slots, .slice A6 x.inputs.length c6, .slice A7 x.consts.length c7, .slice A8 x.list.length c8] by rw [hw5]; exact Blk.new wr _ _)
            have CT := Lib.hid (good_any x w5 _ _ _ (keep_inps (KeepC.of_below hb5) hi) (keep_vals (KeepC.of_below hb5) hv) (keep_inss (KeepC.of_below hb5) hl))
            have HB5 := Lib.hid (hb.out.trans (hb5.mono hb.out.size))
            have HST := Lib.hid (all_step (f := codeB) hx hal.out)
            have HBD : Hid (codeB x = false → rv = false) := Lib.hid (fun h => by rw [← HRV.out]; unfold verT; rw [all_bad hx h]; simp)
            obtain ⟨tb, htb⟩ : ∃ tb, goodB x = tb := ⟨_, rfl⟩
            have HCB : Hid (codeB x = (decide (x.regs ≤ 16) && tb)) := Lib.hid (by unfold codeB; rw [htb])
            rw [htb] at CT
            clear hx hv2 hv3 htb hal hb5 hi hv hl
            go_upto_region 12 with fail
            rw [← hw5]
            clear hw5 q0 q1 q2 q3 q4
            obtain ⟨z0, z1, z2, z3, z4⟩ := blk5 BX.out
            by_cases hreg : 16 < x.regs
            · have e : Hid (rv = false) := Lib.hid (HBD.out (by rw [HCB.out, decide_eq_false (by omega)]; rfl))
              clear HST HBD hb
              go_wp2_with fail
              go_ret
              exact ver_no e.out (HB0.out.trans (HB5.out.mono HB0.out.size))
            · have HC2 : Hid (codeB x = tb) := Lib.hid (by rw [HCB.out, decide_eq_true (by omega)]; rfl)
              go_wp2_with fail
              refine CT.out.mono ?_
              rintro e w6 ⟨rfl, hb6⟩
              have HB6 := Lib.hid (HB5.out.trans (hb6.mono HB5.out.size))
              clear hb6 CT z0 z1 z2 z3 z4 hb
              cases tb with
              | true =>
                have e := Lib.hid (HST.out HC2.out)
                clear HST HBD
                go_wp2_with fail
                go_roundw
                case rel => first | exact ⟨r2 + 1, by omega, by go_num, HB6, e⟩ | ((repeat apply Exists.intro); exact ⟨⟨r2 + 1, by omega, by go_num, HB6, e⟩, rfl⟩)
                case measure => simp [intOf]; omega
              | false =>
                have e := Lib.hid (HBD.out HC2.out)
                clear HST HBD
                go_wp2_with fail
                go_ret
                exact ver_no e.out (HB0.out.trans (HB6.out.mono HB0.out.size))
          · have hge2 : (T.codes.length : Int) ≤ (r2 : Int) := by omega
            have HCODES : Hid (T.codes.all codeB = true) := Lib.hid (by have h9 := hal.out; rw [List.take_of_length_le (by omega)] at h9; exact h9)
            obtain ⟨k0, k1, k2, k3, k4, k5, k6, k7⟩ := blk8 (HBT.out.below hb.out HBT.out.lt)
            have hmm := fun t w => @run_makeMap Try.prog t w
            clear hal
            go_upto_region 16 with fail
            clear hmm k0 k1 k2 k3 k4 k5 k6 k7
            obtain ⟨H, hH⟩ : ∃ H, wr.heap.size = H := ⟨_, rfl⟩
            obtain ⟨w4, hw4⟩ : ∃ w4, w4 = (wr.alloc (.map #[] 0)).alloc (.cells #[.int .i64 T.strategy, .slice A4 T.keys.length c4, .slice A3 T.kinds.length c3, .int .i64 T.syms, .int .i64 T.runs, .int .i64 T.cells, .slice A T.states.length c, .slice A2 T.codes.length c2, .map (some wr.heap.size)] 62) := ⟨_, rfl⟩
            have SR : SetX w4 H 0 [] := by rw [hw4, ← hH]; exact (SetX.made wr).alloc _
            have SK : Blk w4 (H + 1) 62 #[.int .i64 T.strategy, .slice A4 T.keys.length c4, .slice A3 T.kinds.length c3, .int .i64 T.syms, .int .i64 T.runs, .int .i64 T.cells, .slice A T.states.length c, .slice A2 T.codes.length c2, .map (some H)] := by
              rw [hw4, ← hH]
              have := Blk.new (wr.alloc (.map #[] 0)) 62 #[.int .i64 T.strategy, .slice A4 T.keys.length c4, .slice A3 T.kinds.length c3, .int .i64 T.syms, .int .i64 T.runs, .int .i64 T.cells, .slice A T.states.length c, .slice A2 T.codes.length c2, .map (some wr.heap.size)]
              rw [World.size_alloc] at this
              exact this
            have SB : Below H wr w4 := by rw [hw4, ← hH]; exact ((Below.refl _ wr).alloc (Nat.le_refl _) _).alloc (by simp) _
            have hs4 : w4.heap.size = H + 2 := by rw [hw4]; simp [hH]
            have hbH : w1.heap.size ≤ H := by rw [← hH]; exact hb.out.size
            have HW4 := Lib.hid (HW.out.trans (SB.mono (by have := HS1.out; omega)))
            have SM : Hid (AskM w4 T (.slice A4 T.keys.length c4) (.slice A3 T.kinds.length c3) (.slice A T.states.length c) (.slice A2 T.codes.length c2) (H + 1) H (toldU (usesUp T 0) []).length (toldU (usesUp T 0) []) ∧ w4.grownBy w4 (some H)) := Lib.hid ⟨⟨SK, SR, HX.out w4 HW4.out⟩, World.grownBy.refl _ _⟩
            have BT4 := Lib.hid ((HBT.out.below hb.out HBT.out.lt).below SB (by have := HBT.out.lt; omega))
            try rw [← hw4]
            rw [hH]
            have HS4 := Lib.hid hs4
            have HHS := Lib.hid hbH
            have HPOS := Lib.hid (pos_of_good HCODES.out)
            clear hw4 SR SK SB hs4 hH hbH hb HW
            obtain ⟨k0, k1, k2, k3, k4, k5, k6, k7⟩ := blk8 BT4.out
            go_wp2_with fail
            clear k0 k1 k2 k3 k4 k5 k6 k7
            go_loopw [45] (fun s wx => ∃ r : Nat, r ≤ T.states.length ∧ s = .int .i64 r ∧ Hid (AskM wx T (.slice A4 T.keys.length c4) (.slice A3 T.kinds.length c3) (.slice A T.states.length c) (.slice A2 T.codes.length c2) (H + 1) H (toldU (usesUp T r) []).length (toldU (usesUp T r) []) ∧ w4.grownBy wx (some H)) ∧ Hid ((usesUp T r).all (useOk T) = true)) (fun s _ => T.states.length - (intOf s).toNat)
            case atStart => exact ⟨0, Nat.zero_le _, rfl, SM, Lib.hid (by simp [usesUp])⟩
            case round =>
              clear SM
              obtain ⟨r3, hr3, rfl, hM, hal⟩ := hrel
              have HBW : Hid (Below w.heap.size w wr) := Lib.hid (HW4.out.trans ⟨hM.out.2.os, hM.out.2.tape, hM.out.2.output, hM.out.2.size, fun k hk => hM.out.2.block k (by have := HS4.out; have := HHS.out; have := HS1.out; omega) (fun e => by injection e with e; have := HHS.out; have := HS1.out; omega)⟩)
              by_cases hlt3 : r3 < T.states.length
              · obtain ⟨x, hx⟩ : ∃ x, T.states[r3]? = some x := ⟨_, List.getElem?_eq_getElem hlt3⟩
                have b1 : (0 : Int) ≤ (r3 : Int) := by omega
                have b2 : (r3 : Int) < (T.states.length : Int) := by omega
                have CT := Lib.hid (state_any T _ _ _ _ wr (H + 1) H _ hM.out.1 r3 x hx (by omega) HPOS.out (capU (S := []) ⟨List.nodup_nil, fun j hj => by cases hj⟩ _ hal.out) hcdc)
                have HST := Lib.hid (uses_step hx)
                have HTU : Hid (toldU (usesUp T (r3 + 1)) [] = toldU (usesRow T r3 x) (toldU (usesUp T r3) [])) := Lib.hid (by rw [uses_step hx, toldU_app])
                have HBD : Hid (stateT T r3 x = false → rv = false) := Lib.hid (fun h => by rw [← HRV.out]; unfold verT; rw [uses_bad hx h]; simp)
                have HAL := Lib.hid hal.out
                have HGM := Lib.hid hM.out.2
                obtain ⟨tb, htb⟩ : ∃ tb, stateT T r3 x = tb := ⟨_, rfl⟩
                have HTB : Hid ((usesRow T r3 x).all (useOk T) = tb) := Lib.hid htb
                rw [htb] at CT HBD
                clear hx htb hal hM
                go_wp2_with fail
                refine CT.out.mono ?_
                rintro e w6 ⟨rfl, hg6, hb6⟩
                have HG6 := Lib.hid (HGM.out.trans hg6)
                have HB6 : Hid (Below w.heap.size w w6) := Lib.hid (HW4.out.trans ⟨HG6.out.os, HG6.out.tape, HG6.out.output, HG6.out.size, fun k hk => HG6.out.block k (by have := HS4.out; have := HHS.out; have := HS1.out; omega) (fun e => by injection e with e; have := HHS.out; have := HS1.out; omega)⟩)
                clear CT hg6
                cases tb with
                | true =>
                  have HM7 := Lib.hid (show AskM w6 T (.slice A4 T.keys.length c4) (.slice A3 T.kinds.length c3) (.slice A T.states.length c) (.slice A2 T.codes.length c2) (H + 1) H (toldU (usesUp T (r3 + 1)) []).length (toldU (usesUp T (r3 + 1)) []) ∧ w4.grownBy w6 (some H) by rw [HTU.out]; exact ⟨hb6 rfl, HG6.out⟩)
                  have HA7 : Hid ((usesUp T (r3 + 1)).all (useOk T) = true) := Lib.hid (by rw [HST.out, List.all_append, HAL.out, HTB.out]; rfl)
                  clear hb6
                  go_wp2_with fail
                  go_roundw
                  case rel => first | exact ⟨r3 + 1, by omega, by go_num, HM7, HA7⟩ | ((repeat apply Exists.intro); exact ⟨⟨r3 + 1, by omega, by go_num, HM7, HA7⟩, rfl⟩)
                  case measure => simp [intOf]; omega
                | false =>
                  have e := Lib.hid (HBD.out rfl)
                  clear hb6
                  go_wp2_with fail
                  go_ret
                  exact ver_no e.out HB6.out
              · have hge3 : (T.states.length : Int) ≤ (r3 : Int) := by omega
                obtain ⟨n9, hn9⟩ : ∃ n9, (toldU (usesT T) []).length = n9 := ⟨_, rfl⟩
                have HF : Hid (rv = decide (n9 = T.codes.length)) := Lib.hid (by
                  have h9 := hal.out
                  rw [show r3 = T.states.length by omega] at h9
                  rw [← HRV.out, ← hn9]
                  unfold verT
                  rw [HH.out, HROWS.out, HCODES.out, show (usesT T).all (useOk T) = true from h9]
                  rfl)
                have hM1 := hM.out.1
                rw [show r3 = T.states.length by omega] at hM1
                have HLN : ∀ n : Nat, (Builtin.len_ #[60] 3 #[.map (some H)]).run Try.prog (wr.drewN n) = .ok (.int .i64 (n9 : Int)) (wr.drewN n) := fun n => by
                  have := (hM1.2.1.drewN n).len 3
                  rw [show (toldU (usesUp T T.states.length) []).length = n9 from hn9] at this
                  exact this
                obtain ⟨a0, a1, a2, a3, a4, a5, a6, a7, a8⟩ := blk9 hM1.1
                obtain ⟨k0, k1, k2, k3, k4, k5, k6, k7⟩ := blk8 (BT4.out.grown hM.out.2 (fun e => by injection e with e; have := HHS.out; have := HS1.out; omega))
                clear hM1 hM hal hn9
                by_cases hfin : n9 = T.codes.length
                · have e : Hid (rv = true) := Lib.hid (by rw [HF.out, decide_eq_true hfin])
                  have e1 : ((n9 : Int) != (T.codes.length : Int)) = false := by simp [hfin]
                  clear hfin
                  go_upto_region 22 with fail
                  refine wp_region_quiet_lit (by kernel_rfl) (by kernel_rfl) ?_
                  repeat (any_goals (first | go_big_quiet_step (fail) | quiet_step (fail) | (refine wpQuiet_step (fun K hK => ?_); go_simp; split <;> (refine hK _ ?_; clear hK K))))
                  all_goals (refine wpQuiet_nil ?_; intro _ hw'; obtain ⟨nq, hw''⟩ := hw'; subst hw'')
                  go_wp2_with fail
                  go_ret
                  exact ver_yes e.out (below_drewN HBW.out _)
                · have e : Hid (rv = false) := Lib.hid (by rw [HF.out, decide_eq_false hfin])
                  have e1 : ((n9 : Int) != (T.codes.length : Int)) = true := by rw [bne_iff_ne]; omega
                  clear hfin
                  go_upto_region 22 with fail
                  refine wp_region_quiet_lit (by kernel_rfl) (by kernel_rfl) ?_
                  repeat (any_goals (first | go_big_quiet_step (fail) | quiet_step (fail) | (refine wpQuiet_step (fun K hK => ?_); go_simp; split <;> (refine hK _ ?_; clear hK K))))
                  all_goals (refine wpQuiet_nil ?_; intro _ hw'; obtain ⟨nq, hw''⟩ := hw'; subst hw'')
                  go_wp2_with fail
                  go_ret
                  exact ver_no e.out (below_drewN HBW.out _)
end Go.Proofs.Ytioocaicmiggoaa

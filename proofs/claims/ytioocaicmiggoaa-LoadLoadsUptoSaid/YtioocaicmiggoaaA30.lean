/- Mus: texts merged for a claim by a program of mine. -/
import Derived.Deep.DeepCutAuto
import Derived.Test.YtioocaicmiggoaaA27
import Derived.Test.YtioocaicmiggoaaA08
namespace Go.Proofs.Ytioocaicmiggoaa
set_option linter.unusedVariables false
set_option linter.unusedSimpArgs false
open Go.RowKit Go.Deep Go.Maps
attribute [local go_sem ↓] Go.wp_at_zero Go.wp_at_succ
def UsesP (w : World) (us : List TUse) (e : Ending) (w' : World) : Prop := ∃ v css, e = .returned v ∧ UAcc w.heap.size w' v us css ∧ Below w.heap.size w w'
set_option maxRecDepth 100000 in
set_option maxHeartbeats 16000000 in
theorem uses_may (T : TTab) (vk vkk vs vc : Value) (w : World) (h : TabX w T vk vkk vs vc) (hsz : szTab T ≤ 1048576) :
  Calls Try.prog 27 #[.agg #[.int .i64 T.strategy, vk, vkk, .int .i64 T.syms, .int .i64 T.runs, .int .i64 T.cells, vs, vc]] w (UsesP w (usesT T)) := by
 have hn : T.states.length ≤ 1500000000000 := by
  have := szL_len szRow T.states
  unfold szTab at hsz
  omega
 obtain ⟨A, c, rfl, hc1, hc2⟩ := h.states.slice
 obtain ⟨A2, c2, rfl, hc3, hc4⟩ := h.codes.slice
 obtain ⟨A3, c3, rfl, hc5, hc6⟩ := h.kinds.slice
 obtain ⟨A1, c1, rfl, hc7, hc8⟩ := h.keys.slice
 unfold maxLen at hc2 hc4 hc6 hc8
 obtain ⟨iu, hiu, hzu, hszu, hbu⟩ := info_parts info_use
 obtain ⟨W0, hW0⟩ : ∃ W, W = w.alloc (.cells #[.int .i64 T.strategy, .slice A1 T.keys.length c1, .slice A3 T.kinds.length c3, .int .i64 T.syms, .int .i64 T.runs, .int .i64 T.cells, .slice A T.states.length c, .slice A2 T.codes.length c2] 27) := ⟨_, rfl⟩
 have B0 : Below w.heap.size w W0 := by rw [hW0]; exact (Below.refl _ _).alloc (Nat.le_refl _) _
 have HX := Lib.hid (h.below B0)
 have HB0 := Lib.hid B0
 have HSZ := Lib.hid hsz
 have BX : Hid (Blk W0 w.heap.size 27 #[.int .i64 T.strategy, .slice A1 T.keys.length c1, .slice A3 T.kinds.length c3, .int .i64 T.syms, .int .i64 T.runs, .int .i64 T.cells, .slice A T.states.length c, .slice A2 T.codes.length c2]) := Lib.hid (by rw [hW0]; exact Blk.new _ _ _)
 have CP := Lib.hid (fun (i : Int) W (hb : Below W0.heap.size W0 W) => rpath_own T _ _ _ _ hn i W (HX.out.below hb))
 obtain ⟨k0, k1, k2, k3, k4, k5, k6, k7⟩ := blk8 BX.out
 have hns : (0 : Int) ≤ (T.states.length : Int) := by omega
 clear h B0 hsz
 go_enter Try.func27, Try.ntmps27
 go_upto_region 2 with fail
 rw [← hW0]
 clear hW0
 go_wp2_with fail
 clear k0 k1 k2 k3 k4 k5 k6 k7
 go_loopw [3, 19] (fun v i wr => ∃ (r : Nat) (css : List (List Value)), r ≤ T.states.length ∧ i = .int .i64 r ∧ Hid (UAcc W0.heap.size wr v (usesUp T r) css) ∧ Hid (Below W0.heap.size W0 wr)) (fun _ i _ => T.states.length - (intOf i).toNat)
 case atStart => exact ⟨0, [], Nat.zero_le _, rfl, Lib.hid (UAcc.nil _ _), Lib.hid (Below.refl _ _)⟩
 case round =>
  obtain ⟨r, css, hr, rfl, hac, hbr⟩ := hrel
  by_cases hlt : r < T.states.length
  ·obtain ⟨x, hx⟩ : ∃ x, T.states[r]? = some x := ⟨_, List.getElem?_eq_getElem hlt⟩
   obtain ⟨b5, off5, c5, vb, ve, hvv, _, _, q0, q1, q2, q3, q4, q5, q6, q7, hbars, hends, wx0, wx1, wx2, wx3, wx4⟩ := rows_get HX.out.states hx
   injection hvv with hv1 hv2 hv3
   subst hv1
   have kc := KeepC.of_below hbr.out
   replace q0 := kc _ _ q0
   replace q1 := kc _ _ q1
   replace q2 := kc _ _ q2
   replace q3 := kc _ _ q3
   replace q4 := kc _ _ q4
   replace q5 := kc _ _ q5
   replace q6 := kc _ _ q6
   replace q7 := kc _ _ q7
   obtain ⟨A6, c6, rfl, hc9, hc10⟩ := hbars.slice
   obtain ⟨A7, c7, rfl, hc11, hc12⟩ := hends.slice
   unfold maxLen at hc10 hc12
   have b1 : (0 : Int) ≤ (r : Int) := by omega
   have b2 : (r : Int) < (T.states.length : Int) := by omega
   have HRX := Lib.hid hx
   have HBA0 := Lib.hid hbars
   have HEN0 := Lib.hid hends
   obtain ⟨W, hW⟩ : ∃ W, W = wr.alloc (.cells #[.int .i64 x.par, .int .i64 x.ty, .bool x.many, .int .i64 x.win, .slice A6 x.bars.length c6, .int .i64 x.leave, .int .i64 x.guard, .slice A7 x.ends.length c7] 46) := ⟨_, rfl⟩
   have haW : Below wr.heap.size wr W := by rw [hW]; exact (Below.refl _ _).alloc (Nat.le_refl _) _
   have HBX : Hid (Blk W wr.heap.size 46 #[.int .i64 x.par, .int .i64 x.ty, .bool x.many, .int .i64 x.win, .slice A6 x.bars.length c6, .int .i64 x.leave, .int .i64 x.guard, .slice A7 x.ends.length c7]) := Lib.hid (by rw [hW]; exact Blk.new _ _ _)
   have HBW := Lib.hid (hbr.out.trans (haW.mono hbr.out.size))
   have HBA := Lib.hid (keep_stops (kc.trans (KeepC.of_below haW)) hbars)
   have HEN := Lib.hid (keep_tails (kc.trans (KeepC.of_below haW)) hends)
   have HTB := Lib.hid (BX.out.below HBW.out BX.out.lt)
   have HAC := Lib.hid (hac.out.below haW)
   obtain ⟨X, hX⟩ : ∃ X, X = wr.heap.size := ⟨_, rfl⟩
   rw [← hX] at HBX
   clear hv2 hv3 hbars hends hx kc haW hac hbr
   go_upto_region 5 with fail
   rw [← hW, ← hX]
   clear hW hX q0 q1 q2 q3 q4 q5 q6 q7
   obtain ⟨E1, hE1⟩ : ∃ E, pathT T.states (r : Int) = E := ⟨_, rfl⟩
   obtain ⟨E2, hE2⟩ : ∃ E, pathT T.states x.par = E := ⟨_, rfl⟩
   have HE1 := Lib.hid hE1
   have HE2 := Lib.hid hE2
   have hl1 := pathT_len T.states (r : Int)
   have hl2 := pathT_len T.states x.par
   rw [hE1] at hl1
   rw [hE2] at hl2
   clear hE1 hE2
   go_cut [6, 7] (fun u1 u2 wx => PathU wx u1 E1 ∧ PathU wx u2 E2 ∧ Below W.heap.size W wx)
   case first =>
    obtain ⟨yo, hyo⟩ : ∃ yo, yo = World.drew W := ⟨_, rfl⟩
    have HBO : Hid (Below W.heap.size W yo) := Lib.hid (by rw [hyo]; exact ⟨rfl, rfl, rfl, Nat.le_refl _, fun _ _ => rfl⟩)
    have HS : Hid (TabS w.heap.size (.int .i64 T.strategy) (.slice A1 T.keys.length c1) (.slice A3 T.kinds.length c3) (.int .i64 T.syms) (.int .i64 T.runs) (.int .i64 T.cells) (.slice (some ⟨b5, off5, none⟩) T.states.length c) (.slice A2 T.codes.length c2) yo ∧ yo.cell? ⟨X, 0, none⟩ = some (.int .i64 x.par)) := Lib.hid ⟨tabS (HTB.out.below HBO.out (Nat.lt_of_lt_of_le BX.out.lt HBW.out.size)), (HBX.out.below HBO.out HBX.out.lt).cell 0⟩
    refine region_till (fun W => TabS w.heap.size (.int .i64 T.strategy) (.slice A1 T.keys.length c1) (.slice A3 T.kinds.length c3) (.int .i64 T.syms) (.int .i64 T.runs) (.int .i64 T.cells) (.slice (some ⟨b5, off5, none⟩) T.states.length c) (.slice A2 T.codes.length c2) W ∧ W.cell? ⟨X, 0, none⟩ = some (.int .i64 x.par)) (fun j => !([0, 1, 2, 3, 4, 5, 6, 7, 8] : List Nat).contains j) (by kernel_rfl) ?_
    rw [← hyo]
    clear hyo
    refine till_take (i := 0) (v := ?_) rfl (by kernel_rfl) (by kernel_rfl) (by kernel_rfl) (by kernel_rfl) (fun _ _ _ h => h) (Or.inl ⟨by kernel_rfl, ?_⟩) HS.out ?_
    rotate_left
    ·(intro w' hSw; obtain ⟨⟨k0, k1, k2, k3, k4, k5, k6, k7⟩, s0⟩ := hSw; go_simp; try with_reducible rfl)
    refine till_take (i := 1) (v := ?_) rfl (by kernel_rfl) (by kernel_rfl) (by kernel_rfl) (by kernel_rfl) (fun _ _ _ h => h) (Or.inl ⟨by kernel_rfl, ?_⟩) HS.out ?_
    rotate_left
    ·(intro w' hSw; obtain ⟨⟨k0, k1, k2, k3, k4, k5, k6, k7⟩, s0⟩ := hSw; go_simp; try with_reducible rfl)
    refine till_take (i := 3) (v := ?_) rfl (by kernel_rfl) (by kernel_rfl) (by kernel_rfl) (by kernel_rfl) (fun _ _ _ h => h) (Or.inl ⟨by kernel_rfl, ?_⟩) HS.out ?_
    rotate_left
    ·(intro w' hSw; obtain ⟨⟨k0, k1, k2, k3, k4, k5, k6, k7⟩, s0⟩ := hSw; go_simp; try with_reducible rfl)
    refine till_take (i := 4) (v := ?_) rfl (by kernel_rfl) (by kernel_rfl) (by kernel_rfl) (by kernel_rfl) (fun _ _ _ h => h) (Or.inl ⟨by kernel_rfl, ?_⟩) HS.out ?_
    rotate_left
    ·(intro w' hSw; obtain ⟨⟨k0, k1, k2, k3, k4, k5, k6, k7⟩, s0⟩ := hSw; go_simp; try with_reducible rfl)
    refine till_take (i := 5) (v := ?_) rfl (by kernel_rfl) (by kernel_rfl) (by kernel_rfl) (by kernel_rfl) (fun _ _ _ h => h) (Or.inl ⟨by kernel_rfl, ?_⟩) HS.out ?_
    rotate_left
    ·(intro w' hSw; obtain ⟨⟨k0, k1, k2, k3, k4, k5, k6, k7⟩, s0⟩ := hSw; go_simp; try with_reducible rfl)
    refine till_ready (rs := [2]) (by kernel_rfl) (by simp) ?_
    refine TillAll.cons rfl (fun K hK => ?_) TillAll.nil
    go_simp
    go_wp2_with (go_at_call 14; refine (CP.out (r : Int) yo (HBW.out.trans (HBO.out.mono HBW.out.size))).mono ?_; rintro e z1 ⟨P1, pc1, rfl, hop, hbp⟩)
    have HZ1 := Lib.hid (HBO.out.trans (hbp.mono HBO.out.size))
    have HP1 := Lib.hid (PathU.of hop)
    rw [HE1.out] at HP1 ⊢
    have HS : Hid (TabS w.heap.size (.int .i64 T.strategy) (.slice A1 T.keys.length c1) (.slice A3 T.kinds.length c3) (.int .i64 T.syms) (.int .i64 T.runs) (.int .i64 T.cells) (.slice (some ⟨b5, off5, none⟩) T.states.length c) (.slice A2 T.codes.length c2) z1 ∧ z1.cell? ⟨X, 0, none⟩ = some (.int .i64 x.par)) := Lib.hid ⟨tabS (HTB.out.below HZ1.out (Nat.lt_of_lt_of_le BX.out.lt HBW.out.size)), (HBX.out.below HZ1.out HBX.out.lt).cell 0⟩
    clear hop hbp
    (refine hK.out _ _ (fun _ => HS.out) ?_; clear hK K)
    refine till_ready (rs := [6]) (by kernel_rfl) (by simp) ?_
    refine TillAll.cons rfl (fun K hK => ?_) TillAll.nil
    go_simp
    go_wp2_with (go_at_call 14; refine (CP.out x.par z1 (HBW.out.trans (HZ1.out.mono HBW.out.size))).mono ?_; rintro e z2 ⟨P2, pc2, rfl, hop, hbp⟩)
    have HZ2 := Lib.hid (HZ1.out.trans (hbp.mono HZ1.out.size))
    have HP2 := Lib.hid (PathU.of hop)
    rw [HE2.out] at HP2 ⊢
    have HP1 := Lib.hid (HP1.out.below hbp)
    have HS : Hid (TabS w.heap.size (.int .i64 T.strategy) (.slice A1 T.keys.length c1) (.slice A3 T.kinds.length c3) (.int .i64 T.syms) (.int .i64 T.runs) (.int .i64 T.cells) (.slice (some ⟨b5, off5, none⟩) T.states.length c) (.slice A2 T.codes.length c2) z2 ∧ z2.cell? ⟨X, 0, none⟩ = some (.int .i64 x.par)) := Lib.hid ⟨tabS (HTB.out.below HZ2.out (Nat.lt_of_lt_of_le BX.out.lt HBW.out.size)), (HBX.out.below HZ2.out HBX.out.lt).cell 0⟩
    clear hop hbp
    (refine hK.out _ _ (fun _ => HS.out) ?_; clear hK K)
    refine till_take (i := 7) (v := ?_) rfl (by kernel_rfl) (by kernel_rfl) (by kernel_rfl) (by kernel_rfl) (fun _ _ _ h => h) (Or.inl ⟨by kernel_rfl, ?_⟩) HS.out ?_
    rotate_left
    ·(intro w' hSw; obtain ⟨⟨k0, k1, k2, k3, k4, k5, k6, k7⟩, s0⟩ := hSw; go_simp; try with_reducible rfl)
    refine till_take (i := 8) (v := ?_) rfl (by kernel_rfl) (by kernel_rfl) (by kernel_rfl) (by kernel_rfl) (fun _ _ _ h => h) (Or.inl ⟨by kernel_rfl, ?_⟩) HS.out ?_
    rotate_left
    ·(intro w' hSw; obtain ⟨⟨k0, k1, k2, k3, k4, k5, k6, k7⟩, s0⟩ := hSw; go_simp; try with_reducible rfl)
    refine till_done (by kernel_rfl) ?_ _
    go_wp2_with fail
    go_meet
    exact ⟨HP1.out, HP2.out, HZ2.out⟩
   case rest =>
    obtain ⟨hp1, hp2, hb5⟩ := hcut
    obtain ⟨V, hV⟩ : ∃ V, V = wc := ⟨wc, rfl⟩
    subst hV
    obtain ⟨P1, d1, rfl, _⟩ := id hp1
    obtain ⟨P2, d2, rfl, _⟩ := id hp2
    have HP1 := Lib.hid hp1
    have HP2 := Lib.hid hp2
    have HBV := Lib.hid (HBW.out.trans (hb5.mono HBW.out.size))
    have HBX5 := Lib.hid (HBX.out.below hb5 HBX.out.lt)
    have HAC5 := Lib.hid (HAC.out.below hb5)
    have n1 : (0 : Int) ≤ (E1.length : Int) := by omega
    have n2 : (0 : Int) ≤ (E2.length : Int) := by omega
    obtain ⟨Av, cv, hv⟩ := own_slice HAC5.out.1
    subst hv
    obtain ⟨us, hus⟩ : ∃ us, us = usesUp T r := ⟨_, rfl⟩
    rw [← hus] at HAC5 ⊢
    have HUS := Lib.hid hus
    obtain ⟨RC, hRC⟩ : ∃ RC : Array Value, RC = #[.int .i64 x.par, .int .i64 x.ty, .bool x.many, .int .i64 x.win, .slice A6 x.bars.length c6, .int .i64 x.leave, .int .i64 x.guard, .slice A7 x.ends.length c7] := ⟨_, rfl⟩
    have HRC := Lib.hid hRC
    rw [← hRC] at HBX5
    have HINV : Hid (UInv W0 X RC (.slice P1 E1.length d1) (.slice P2 E2.length d2) E1 E2 V (.slice Av us.length cv) us) := Lib.hid ⟨HBV.out, HBX5.out, hp1, hp2, css, HAC5.out⟩
    have HTOT : Hid (us.length + (2 + x.bars.length + (x.ends.flatMap (useEnd E1)).length) ≤ 2097152) := Lib.hid (by
     have h1 := uses_cap HSZ.out (r + 1)
     rw [uses_step HRX.out, ← HUS.out, List.length_append] at h1
     unfold usesRow at h1
     rw [HE1.out, HE2.out] at h1
     simp only [useTwo, List.length_append, List.length_cons, List.length_nil, List.length_map] at h1
     omega)
    obtain ⟨x0, x1, x2, x3, x4, x5, x6, x7⟩ := blk8 (by have h := HBX5.out; rw [hRC] at h; exact h)
    clear hRC hp1 hp2 hb5 HBX HBA HEN HAC HAC5 hus HBX5 HBV
    go_upto_region 7 with fail
    obtain ⟨W7, hW9⟩ : ∃ Wn, Wn = V.alloc (.cells #[.int .i64 x.guard, .slice P1 E1.length d1, .int .i64 ((E1.length : Int) - 1), .int .i64 E1.length, .int .i64 x.ty, .int .i64 x.leave, .slice P2 E2.length d2, .int .i64 E2.length, .int .i64 E2.length, .int .i64 (-1)] 67) := ⟨_, rfl⟩
    have HA9 : Hid (Below V.heap.size V W7) := Lib.hid (by rw [hW9]; exact (Below.refl _ _).alloc (Nat.le_refl _) _)
    have HI9 := Lib.hid (HINV.out.below HA9.out)
    obtain ⟨cs9, ho9, hz9, hm9⟩ := HI9.out.more
    have HOA := Lib.hid ho9
    have HZA := Lib.hid hz9
    have HMORE := Lib.hid hm9
    have HW9 := Lib.hid hW9
    clear ho9 hz9 hm9 hW9
    have HCAP : Hid (us.length + 2 ≤ 2097152) := Lib.hid (by have := HTOT.out; omega)
    go_upto_region 8 with (at_builtin; rw [← HW9.out]; refine wpList_append_any _ rfl (.tmp 35) (.tmp 51) 64 rfl W0.heap.size 67 iu _ 5 56 Try.underlying64 hiu hzu hszu hbu rfl (by omega) (.slice Av us.length cv) us.length _ rfl HOA.out (V.heap.size + 1) (some ⟨V.heap.size, 0, none⟩) 2 2 [.int .i64 x.guard, .slice P1 E1.length d1, .int .i64 ((E1.length : Int) - 1), .int .i64 E1.length, .int .i64 x.ty, .int .i64 x.leave, .slice P2 E2.length d2, .int .i64 E2.length, .int .i64 E2.length, .int .i64 (-1)] rfl (by rw [HW9.out]; exact reads_cells _ _ 5 2 rfl _ _) (by intro u hu; simp at hu; rcases hu with rfl | rfl | rfl | rfl | rfl | rfl | rfl | rfl | rfl | rfl <;> rfl) (by unfold maxLen; have := HCAP.out; omega) (by have := HCAP.out; omega) HZA.out ?_; intro v9 w9 ho hg hat; obtain ⟨A9, c9, rfl⟩ := own_slice ho; have HO9 := Lib.hid ho; have HG9 := Lib.hid hg; clear ho hg hat)
    have HI8 : Hid (UInv W0 X RC (.slice P1 E1.length d1) (.slice P2 E2.length d2) E1 E2 w9 (.slice A9 (us.length + 2) c9) (us ++ useTwo T r x)) := Lib.hid (by
     refine HMORE.out w9 _ _ [[.int .i64 x.guard, .slice P1 E1.length d1, .int .i64 ((E1.length : Int) - 1), .int .i64 E1.length, .int .i64 x.ty], [.int .i64 x.leave, .slice P2 E2.length d2, .int .i64 E2.length, .int .i64 E2.length, .int .i64 (-1)]] ?_ HO9.out HG9.out
     unfold useTwo
     rw [HE1.out, HE2.out]
     exact flat_app (use_one (u := ⟨x.guard, E1, (E1.length : Int) - 1, E1.length, x.ty⟩) HI9.out.pa wx4) (use_one (u := ⟨x.leave, E2, E2.length, E2.length, -1⟩) HI9.out.pb wx3))
    clear HMORE HOA HZA HW9 HA9 HI9 HO9 HG9 HINV x0 x1 x2 x3 x4 x5 x6 x7
    obtain ⟨x0, x1, x2, x3, x4, x5, x6, x7⟩ := blk8 (by have h := HI8.out.blk; rw [HRC.out] at h; exact h)
    have nb : (0 : Int) ≤ (x.bars.length : Int) := by omega
    go_wp2_with fail
    clear x0 x1 x2 x3 x4 x5 x6 x7
    obtain ⟨us2, hus2⟩ : ∃ u, u = us ++ useTwo T r x := ⟨_, rfl⟩
    have hul2 : us2.length = us.length + 2 := by rw [hus2]; simp [useTwo]
    rw [← hus2, ← hul2] at HI8
    rw [← hul2]
    have HUS2 := Lib.hid hus2
    have HUL2 := Lib.hid hul2
    clear hus2 hul2
    go_loopw [3, 56] (fun v i wr => ∃ k : Nat, k ≤ x.bars.length ∧ i = .int .i64 k ∧ Hid (UInv W0 X RC (.slice P1 E1.length d1) (.slice P2 E2.length d2) E1 E2 wr v (us2 ++ (x.bars.take k).map (useBar E2)))) (fun _ i _ => x.bars.length - (intOf i).toNat)
    case atStart => exact ⟨0, Nat.zero_le _, rfl, Lib.hid (by simpa using HI8.out)⟩
    case round =>
     obtain ⟨k, hk, rfl, hui⟩ := hrel
     obtain ⟨l3, hu3⟩ : ∃ u, us2 ++ (x.bars.take k).map (useBar E2) = u := ⟨_, rfl⟩
     rw [hu3] at hui
     have HU3 := Lib.hid hu3
     obtain ⟨Av3, cv3, hv⟩ := hui.out.slice
     subst hv
     clear hu3
     by_cases hlt2 : k < x.bars.length
     ·obtain ⟨b, hb⟩ : ∃ b, x.bars[k]? = some b := ⟨_, List.getElem?_eq_getElem hlt2⟩
      obtain ⟨b9, o9, n9, hv, _, _, m0, m1, wb0, wb1⟩ := stops_get HBA0.out hb
      injection hv with hv4 hv5 hv6
      subst hv4
      have kc := KeepC.of_below hui.out.bel
      replace m0 := kc _ _ m0
      replace m1 := kc _ _ m1
      have HU4 : Hid (l3 ++ [useBar E2 b] = us2 ++ (x.bars.take (k + 1)).map (useBar E2)) := Lib.hid (by rw [take_one hb, List.map_append, ← List.append_assoc, HU3.out]; rfl)
      have HCAP : Hid (l3.length + 1 ≤ 2097152) := Lib.hid (by
       have h1 := congrArg List.length HU3.out
       have h2 := HUL2.out
       have h3 := HTOT.out
       rw [List.length_append, List.length_map, List.length_take] at h1
       omega)
      obtain ⟨W, hW⟩ : ∃ W, W = wr.alloc (.cells #[.int .i64 b.ty, .int .i64 b.gd] 98) := ⟨_, rfl⟩
      have haW : Below wr.heap.size wr W := by rw [hW]; exact (Below.refl _ _).alloc (Nat.le_refl _) _
      have hbb : Blk W wr.heap.size 98 #[.int .i64 b.ty, .int .i64 b.gd] := by rw [hW]; exact Blk.new _ _ _
      have HIW := Lib.hid (hui.out.below haW)
      have x0 := hbb.cell 0
      have x1 := hbb.cell 1
      clear kc haW hb hv5 hv6 hui hbb
      go_upto_region 11 with fail
      rw [← hW]
      clear hW m0 m1
      obtain ⟨W11, hW9⟩ : ∃ Wn, Wn = W.alloc (.cells #[.int .i64 b.gd, .slice P2 E2.length d2, .int .i64 E2.length, .int .i64 E2.length, .int .i64 b.ty] 67) := ⟨_, rfl⟩
      have HA9 : Hid (Below W.heap.size W W11) := Lib.hid (by rw [hW9]; exact (Below.refl _ _).alloc (Nat.le_refl _) _)
      have HI9 := Lib.hid (HIW.out.below HA9.out)
      obtain ⟨cs9, ho9, hz9, hm9⟩ := HI9.out.more
      have HOA := Lib.hid ho9
      have HZA := Lib.hid hz9
      have HMORE := Lib.hid hm9
      have HW9 := Lib.hid hW9
      clear ho9 hz9 hm9 hW9
      go_wp2_with (at_builtin; rw [← HW9.out]; refine wpList_append_any _ rfl (.tmp 60) (.tmp 69) 64 rfl W0.heap.size 67 iu _ 5 56 Try.underlying64 hiu hzu hszu hbu rfl (by omega) (.slice Av3 l3.length cv3) l3.length _ rfl HOA.out (W.heap.size + 1) (some ⟨W.heap.size, 0, none⟩) 1 1 [.int .i64 b.gd, .slice P2 E2.length d2, .int .i64 E2.length, .int .i64 E2.length, .int .i64 b.ty] rfl (by rw [HW9.out]; exact reads_cells _ _ 5 1 rfl _ _) (by intro u hu; simp at hu; rcases hu with rfl | rfl | rfl | rfl | rfl <;> rfl) (by unfold maxLen; have := HCAP.out; omega) (by have := HCAP.out; omega) HZA.out ?_; intro v9 w9 ho hg hat; obtain ⟨A9, c9, rfl⟩ := own_slice ho; have HO9 := Lib.hid ho; have HG9 := Lib.hid hg; clear ho hg hat)
      have HI10 : Hid (UInv W0 X RC (.slice P1 E1.length d1) (.slice P2 E2.length d2) E1 E2 w9 (.slice A9 (l3.length + 1) c9) (us2 ++ (x.bars.take (k + 1)).map (useBar E2))) := Lib.hid (by
       rw [← HU4.out]
       exact HMORE.out w9 _ [useBar E2 b] [[.int .i64 b.gd, .slice P2 E2.length d2, .int .i64 E2.length, .int .i64 E2.length, .int .i64 b.ty]] (use_one (u := useBar E2 b) HI9.out.pb wb1) HO9.out HG9.out)
      clear HMORE HOA HZA HW9 HA9 HI9 HO9 HG9 x0 x1
      go_roundw
      case rel => first | exact ⟨k + 1, by omega, by go_num, HI10⟩ | ((repeat apply Exists.intro); exact ⟨⟨k + 1, by omega, by go_num, HI10⟩, rfl⟩)
      case measure => simp [intOf]; omega
     ·have hge2 : (x.bars.length : Int) ≤ (k : Int) := by omega
      have HU5 : Hid (us2 ++ x.bars.map (useBar E2) = l3) := Lib.hid (by rw [← HU3.out, show k = x.bars.length by omega, List.take_length])
      have HI11 := hui
      clear hui
      obtain ⟨x0, x1, x2, x3, x4, x5, x6, x7⟩ := blk8 (by have h := HI11.out.blk; rw [HRC.out] at h; exact h)
      have ne_ : (0 : Int) ≤ (x.ends.length : Int) := by omega
      go_wp2_with fail
      clear x0 x1 x2 x3 x4 x5 x6 x7
      have HL3 : Hid (l3.length = us.length + 2 + x.bars.length) := Lib.hid (by
       have h1 := congrArg List.length HU5.out
       rw [List.length_append, List.length_map, HUL2.out] at h1
       omega)
      go_loopw [3, 75] (fun v i wr => ∃ q : Nat, q ≤ x.ends.length ∧ i = .int .i64 q ∧ Hid (UInv W0 X RC (.slice P1 E1.length d1) (.slice P2 E2.length d2) E1 E2 wr v (l3 ++ (x.ends.take q).flatMap (useEnd E1)))) (fun _ i _ => x.ends.length - (intOf i).toNat)
      case atStart => exact ⟨0, Nat.zero_le _, rfl, Lib.hid (by simpa using HI11.out)⟩
      case round =>
       obtain ⟨q, hq, rfl, hui⟩ := hrel
       obtain ⟨l4, hu4⟩ : ∃ u, l3 ++ (x.ends.take q).flatMap (useEnd E1) = u := ⟨_, rfl⟩
       rw [hu4] at hui
       have HU6 := Lib.hid hu4
       obtain ⟨Av4, cv4, hv⟩ := hui.out.slice
       subst hv
       clear hu4
       by_cases hlt3 : q < x.ends.length
       ·obtain ⟨e, he⟩ : ∃ e, x.ends[q]? = some e := ⟨_, List.getElem?_eq_getElem hlt3⟩
        obtain ⟨b9, o9, n9, vb9, hv, _, _, m0, m1, m2, hbb, wb0, wb1⟩ := tails_get HEN0.out he
        injection hv with hv4 hv5 hv6
        subst hv4
        obtain ⟨Ae, ce, rfl, _, hce⟩ := hbb.slice
        unfold maxLen at hce
        have kc := KeepC.of_below hui.out.bel
        replace m0 := kc _ _ m0
        replace m1 := kc _ _ m1
        replace m2 := kc _ _ m2
        have HBB := Lib.hid hbb
        have HEP : Hid (l4.length + (1 + e.bars.length) ≤ 2097152) := Lib.hid (by
         have h1 := congrArg List.length HU6.out
         have h2 := ends_part (p := E1) he
         have h3 := HTOT.out
         have h4 := HL3.out
         rw [List.length_append] at h1
         simp only [useEnd, List.length_cons, List.length_map] at h2
         omega)
        have HU7 : Hid (l4 ++ useEnd E1 e = l3 ++ (x.ends.take (q + 1)).flatMap (useEnd E1)) := Lib.hid (by
         rw [take_one he, List.flatMap_append, ← List.append_assoc, HU6.out]
         simp)
        have HCAP : Hid (l4.length + 1 ≤ 2097152) := Lib.hid (by have := HEP.out; omega)
        obtain ⟨W, hW⟩ : ∃ W, W = wr.alloc (.cells #[.int .i64 e.br, .int .i64 e.cl, .slice Ae e.bars.length ce] 56) := ⟨_, rfl⟩
        have haW : Below wr.heap.size wr W := by rw [hW]; exact (Below.refl _ _).alloc (Nat.le_refl _) _
        have hbx : Blk W wr.heap.size 56 #[.int .i64 e.br, .int .i64 e.cl, .slice Ae e.bars.length ce] := by rw [hW]; exact Blk.new _ _ _
        have HIW := Lib.hid (hui.out.below haW)
        have HBT := Lib.hid hbx
        obtain ⟨Y, hY⟩ : ∃ Y, Y = wr.heap.size := ⟨_, rfl⟩
        rw [← hY] at HBT
        have x0 := HBT.out.cell 0
        have x1 := HBT.out.cell 1
        have x2 := HBT.out.cell 2
        clear kc haW he hv5 hv6 hui hbb hbx
        go_upto_region 16 with fail
        rw [← hW, ← hY]
        clear hW hY m0 m1 m2
        obtain ⟨W16, hW9⟩ : ∃ Wn, Wn = W.alloc (.cells #[.int .i64 e.cl, .slice P1 E1.length d1, .int .i64 E1.length, .int .i64 E1.length, .int .i64 (-1)] 67) := ⟨_, rfl⟩
        have HA9 : Hid (Below W.heap.size W W16) := Lib.hid (by rw [hW9]; exact (Below.refl _ _).alloc (Nat.le_refl _) _)
        have HI9 := Lib.hid (HIW.out.below HA9.out)
        obtain ⟨cs9, ho9, hz9, hm9⟩ := HI9.out.more
        have HOA := Lib.hid ho9
        have HZA := Lib.hid hz9
        have HMORE := Lib.hid hm9
        have HW9 := Lib.hid hW9
        clear ho9 hz9 hm9 hW9
        go_upto_region 17 with (at_builtin; rw [← HW9.out]; refine wpList_append_any _ rfl (.tmp 79) (.tmp 86) 64 rfl W0.heap.size 67 iu _ 5 56 Try.underlying64 hiu hzu hszu hbu rfl (by omega) (.slice Av4 l4.length cv4) l4.length _ rfl HOA.out (W.heap.size + 1) (some ⟨W.heap.size, 0, none⟩) 1 1 [.int .i64 e.cl, .slice P1 E1.length d1, .int .i64 E1.length, .int .i64 E1.length, .int .i64 (-1)] rfl (by rw [HW9.out]; exact reads_cells _ _ 5 1 rfl _ _) (by intro u hu; simp at hu; rcases hu with rfl | rfl | rfl | rfl | rfl <;> rfl) (by unfold maxLen; have := HCAP.out; omega) (by have := HCAP.out; omega) HZA.out ?_; intro v9 w9 ho hg hat; obtain ⟨A9, c9, rfl⟩ := own_slice ho; have HO9 := Lib.hid ho; have HG9 := Lib.hid hg; clear ho hg hat)
        have HI12 : Hid (UInv W0 X RC (.slice P1 E1.length d1) (.slice P2 E2.length d2) E1 E2 w9 (.slice A9 (l4.length + 1) c9) (l4 ++ [⟨e.cl, E1, E1.length, E1.length, -1⟩])) := Lib.hid (HMORE.out w9 _ [⟨e.cl, E1, E1.length, E1.length, -1⟩] [[.int .i64 e.cl, .slice P1 E1.length d1, .int .i64 E1.length, .int .i64 E1.length, .int .i64 (-1)]] (use_one (u := ⟨e.cl, E1, E1.length, E1.length, -1⟩) HI9.out.pa wb1) HO9.out HG9.out)
        have y2 : w9.cell? ⟨Y, 2, none⟩ = some (.slice Ae e.bars.length ce) := ((HBT.out.below HA9.out HBT.out.lt).grown HG9.out (fun e => own_blk_ne HOA.out (HBT.out.below HA9.out HBT.out.lt) (by decide) e.symm)).cell 2
        obtain ⟨l6, hu6⟩ : ∃ u, l4 ++ [(⟨e.cl, E1, E1.length, E1.length, -1⟩ : TUse)] = u := ⟨_, rfl⟩
        have hul6 : l4.length + 1 = l6.length := by rw [← hu6]; simp
        rw [hu6, hul6] at HI12
        rw [hul6]
        have HU8 := Lib.hid hu6
        have HUL6 := Lib.hid hul6
        have nbe : (0 : Int) ≤ (e.bars.length : Int) := by omega
        clear HMORE HOA HZA HW9 HA9 HI9 HO9 HG9 x0 x1 x2 hu6 hul6 HCAP
        go_wp2_with fail
        clear y2
        go_loopw [3, 91] (fun v i wr => ∃ k : Nat, k ≤ e.bars.length ∧ i = .int .i64 k ∧ Hid (UInv W0 X RC (.slice P1 E1.length d1) (.slice P2 E2.length d2) E1 E2 wr v (l6 ++ (e.bars.take k).map (useBar E1)))) (fun _ i _ => e.bars.length - (intOf i).toNat)
        case atStart => exact ⟨0, Nat.zero_le _, rfl, Lib.hid (by simpa using HI12.out)⟩
        case round =>
         obtain ⟨k, hk, rfl, hui⟩ := hrel
         obtain ⟨l7, hu7⟩ : ∃ u, l6 ++ (e.bars.take k).map (useBar E1) = u := ⟨_, rfl⟩
         rw [hu7] at hui
         have HU9 := Lib.hid hu7
         obtain ⟨Av5, cv5, hv⟩ := hui.out.slice
         subst hv
         clear hu7
         by_cases hlt4 : k < e.bars.length
         ·obtain ⟨b, hb⟩ : ∃ b, e.bars[k]? = some b := ⟨_, List.getElem?_eq_getElem hlt4⟩
          obtain ⟨bb9, oo9, nn9, hv, _, _, m0, m1, wc0, wc1⟩ := stops_get HBB.out hb
          injection hv with hv4 hv5 hv6
          subst hv4
          have kc := KeepC.of_below hui.out.bel
          replace m0 := kc _ _ m0
          replace m1 := kc _ _ m1
          have HUA : Hid (l7 ++ [useBar E1 b] = l6 ++ (e.bars.take (k + 1)).map (useBar E1)) := Lib.hid (by rw [take_one hb, List.map_append, ← List.append_assoc, HU9.out]; rfl)
          have HCAP : Hid (l7.length + 1 ≤ 2097152) := Lib.hid (by
           have h1 := congrArg List.length HU9.out
           have h2 := HUL6.out
           have h3 := HEP.out
           rw [List.length_append, List.length_map, List.length_take] at h1
           omega)
          obtain ⟨W, hW⟩ : ∃ W, W = wr.alloc (.cells #[.int .i64 b.ty, .int .i64 b.gd] 98) := ⟨_, rfl⟩
          have haW : Below wr.heap.size wr W := by rw [hW]; exact (Below.refl _ _).alloc (Nat.le_refl _) _
          have hbb : Blk W wr.heap.size 98 #[.int .i64 b.ty, .int .i64 b.gd] := by rw [hW]; exact Blk.new _ _ _
          have HIW := Lib.hid (hui.out.below haW)
          have x0 := hbb.cell 0
          have x1 := hbb.cell 1
          clear kc haW hb hv5 hv6 hui hbb
          go_upto_region 20 with fail
          rw [← hW]
          clear hW m0 m1
          obtain ⟨W20, hW9⟩ : ∃ Wn, Wn = W.alloc (.cells #[.int .i64 b.gd, .slice P1 E1.length d1, .int .i64 E1.length, .int .i64 E1.length, .int .i64 b.ty] 67) := ⟨_, rfl⟩
          have HA9 : Hid (Below W.heap.size W W20) := Lib.hid (by rw [hW9]; exact (Below.refl _ _).alloc (Nat.le_refl _) _)
          have HI9 := Lib.hid (HIW.out.below HA9.out)
          obtain ⟨cs9, ho9, hz9, hm9⟩ := HI9.out.more
          have HOA := Lib.hid ho9
          have HZA := Lib.hid hz9
          have HMORE := Lib.hid hm9
          have HW9 := Lib.hid hW9
          clear ho9 hz9 hm9 hW9
          go_wp2_with (at_builtin; rw [← HW9.out]; refine wpList_append_any _ rfl (.tmp 95) (.tmp 104) 64 rfl W0.heap.size 67 iu _ 5 56 Try.underlying64 hiu hzu hszu hbu rfl (by omega) (.slice Av5 l7.length cv5) l7.length _ rfl HOA.out (W.heap.size + 1) (some ⟨W.heap.size, 0, none⟩) 1 1 [.int .i64 b.gd, .slice P1 E1.length d1, .int .i64 E1.length, .int .i64 E1.length, .int .i64 b.ty] rfl (by rw [HW9.out]; exact reads_cells _ _ 5 1 rfl _ _) (by intro u hu; simp at hu; rcases hu with rfl | rfl | rfl | rfl | rfl <;> rfl) (by unfold maxLen; have := HCAP.out; omega) (by have := HCAP.out; omega) HZA.out ?_; intro v9 w9 ho hg hat; obtain ⟨A9, c9, rfl⟩ := own_slice ho; have HO9 := Lib.hid ho; have HG9 := Lib.hid hg; clear ho hg hat)
          have HI10 : Hid (UInv W0 X RC (.slice P1 E1.length d1) (.slice P2 E2.length d2) E1 E2 w9 (.slice A9 (l7.length + 1) c9) (l6 ++ (e.bars.take (k + 1)).map (useBar E1))) := Lib.hid (by
           rw [← HUA.out]
           exact HMORE.out w9 _ [useBar E1 b] [[.int .i64 b.gd, .slice P1 E1.length d1, .int .i64 E1.length, .int .i64 E1.length, .int .i64 b.ty]] (use_one (u := useBar E1 b) HI9.out.pa wc1) HO9.out HG9.out)
          clear HMORE HOA HZA HW9 HA9 HI9 HO9 HG9 x0 x1
          go_roundw
          case rel => first | exact ⟨k + 1, by omega, by go_num, HI10⟩ | ((repeat apply Exists.intro); exact ⟨⟨k + 1, by omega, by go_num, HI10⟩, rfl⟩)
          case measure => simp [intOf]; omega
         ·have hge5 : (e.bars.length : Int) ≤ (k : Int) := by omega
          have HI13 : Hid (UInv W0 X RC (.slice P1 E1.length d1) (.slice P2 E2.length d2) E1 E2 wr (.slice Av5 l7.length cv5) (l3 ++ (x.ends.take (q + 1)).flatMap (useEnd E1))) := Lib.hid (by
           have h1 := hui.out
           have e1 : l7 = l4 ++ useEnd E1 e := by
            rw [← HU9.out, ← HU8.out, show k = e.bars.length by omega, List.take_length]
            simp [useEnd]
           rw [← HU7.out, ← e1]
           exact h1)
          clear hui
          go_wp2_with fail
          go_roundw
          case rel => first | exact ⟨q + 1, by omega, by go_num, HI13⟩ | ((repeat apply Exists.intro); exact ⟨⟨q + 1, by omega, by go_num, HI13⟩, rfl⟩)
          case measure => simp [intOf]; omega
       ·have hge4 : (x.ends.length : Int) ≤ (q : Int) := by omega
        have hfin : l4 = usesUp T (r + 1) := by
         rw [uses_step HRX.out, ← HU6.out, show q = x.ends.length by omega, List.take_length, ← HU5.out, HUS2.out, HUS.out]
         unfold usesRow
         rw [HE1.out, HE2.out]
         simp only [List.append_assoc]
        obtain ⟨hb14, _, _, _, css14, ha14⟩ := hui.out
        have HA14 : Hid (UAcc W0.heap.size wr (.slice Av4 l4.length cv4) (usesUp T (r + 1)) css14) := Lib.hid (hfin ▸ ha14)
        have HB14 := Lib.hid hb14
        clear hui hb14 ha14 hfin
        go_wp2_with fail
        go_roundw
        case rel => first | exact ⟨r + 1, css14, by omega, by go_num, HA14, HB14⟩ | ((repeat apply Exists.intro); exact ⟨⟨r + 1, css14, by omega, by go_num, HA14, HB14⟩, rfl⟩)
        case measure => simp [intOf]; omega
  ·have hge : (T.states.length : Int) ≤ (r : Int) := by omega
   have hre : r = T.states.length := by omega
   obtain ⟨Av, cv, hv⟩ := own_slice hac.out.1
   subst hv
   have HFU : Hid (UAcc w.heap.size wr (.slice Av (usesUp T r).length cv) (usesT T) css) := Lib.hid (by
    have h1 := hac.out
    rw [hre] at h1 ⊢
    exact ⟨own_low h1.1 HB0.out.size, h1.2⟩)
   have HFB := Lib.hid (HB0.out.trans (hbr.out.mono HB0.out.size))
   clear hre hac hbr
   go_wp2_with fail
   go_ret
   exact ⟨_, css, rfl, HFU.out, HFB.out⟩
end Go.Proofs.Ytioocaicmiggoaa

/-
  The walk of the document's Add, behind a cell. Printed by XRefa.py.
-/
import Derived.Deep.DrawnRows
import Derived.Test.YtcgapjicbgfpjaaRefa
namespace Go.Proofs.Ytcgapjicbgfpjaa
set_option linter.unusedVariables false
set_option linter.unusedSimpArgs false
open Go.RowKit Go.Maps

attribute [local go_sem ↓] Go.wp_at_zero Go.wp_at_succ
section
variable {w : World} {base B : Nat} {S : St} {m : Int} {v : Value}
set_option maxRecDepth 100000 in
set_option maxHeartbeats 4000000 in
theorem ref_add_behind_false (h : RefX w base B S m v) (hS : S.length ≤ 1000000) (hu : Uniq S) (hbd : Bnd S) (pn : Nat) (b : Cl) (hb : at? S pn = some b) (e : Int) (he : 0 ≤ e) :
    Calls Try.prog 17 #[.pointer (some ⟨B, 0, none⟩), .int .i64 pn, .int .i64 e, .bool false] w (RefAddPost w base B v m (addS S m pn e false).1 (addS S m pn e false).2.1 (addS S m pn e false).2.2) := by
  have hh : ¬ (((pn : Int)) ≠ -1 ∧ hasB S pn = false) := by rw [has_nat, hb]; simp
  have ek : keyF pn false = false := by unfold keyF; rw [show ((pn : Int) == -1) = false by rw [beq_eq_false_iff_ne]; omega]; rfl
  have C := Lib.hid (ref_has h pn hS)
  rw [has_nat, hb] at C
  have hp1 : ((pn : Int) == -1) = false := by rw [beq_eq_false_iff_ne]; omega
  have hp2 : ((pn : Int) != -1) = true := by rw [bne_iff_ne]; omega
  have k0 := h.k0
  obtain ⟨A, c, rfl, hc1, hc2⟩ := h.slice
  unfold maxLen at hc2
  obtain ⟨n, hn⟩ : ∃ n, S.length = n := ⟨_, rfl⟩
  have HX := Lib.hid (fun W (hb : Below w.heap.size w W) => h.stay hb)
  rw [hn] at HX k0 hc1 ⊢
  have HN := Lib.hid hn
  have HU := Lib.hid hu
  have HBD := Lib.hid hbd
  have HH := Lib.hid hh
  have EK := Lib.hid ek
  have G0 := Lib.hid (Below.refl w.heap.size w)
  have N0 := Lib.hid (noKey_end S pn e false)
  have F0 := Lib.hid (free_end S)
  rw [hn] at N0 F0 hS
  have hnn : (0 : Int) ≤ (n : Int) := by omega
  have s0 : IntKind.i64.wrap ((n : Int) - 1) = (n : Int) - 1 := by rw [IntKind.wrap_i64]; omega
  have HAB := Lib.hid hb
  clear h hn hu hbd hh ek hb
  go_enter Try.func17, Try.ntmps17
  go_wp2_with fail
  refine C.out.mono ?_
  rintro e0 w' ⟨rfl, rfl⟩
  clear C
  go_wp2_with fail
  go_loopw [10, 11] (fun fr i wr => ∃ j : Nat, j ≤ n ∧ i = .int .i64 ((j : Int) - 1) ∧ fr = .int .i64 (freeFrom S j : Nat) ∧ Hid (NoKey S pn e false j) ∧ Hid (Below w.heap.size w wr)) (fun _ i _ => (intOf i + 1).toNat)
  case atStart => exact ⟨n, Nat.le_refl _, rfl, by rw [F0.out], N0, G0⟩
  case round =>
    clear G0 N0 F0 k0
    obtain ⟨j, hj, rfl, rfl, hk, hb⟩ := hrel
    have X := Lib.hid (HX.out wr hb.out)
    have k0 := X.out.k0
    rcases Nat.eq_zero_or_pos j with h0 | h0
    · rw [h0] at hk ⊢
      rw [show ((0 : Nat) : Int) - 1 = -1 by decide]
      have hfl := free_le S 0 (Nat.zero_le _)
      rw [HN.out] at hfl
      have HFP := Lib.hid (free_put S ⟨pn, e, false, 1, 0⟩)
      obtain ⟨fr, hfr⟩ : ∃ fr, freeFrom S 0 = fr := ⟨_, rfl⟩
      rw [hfr] at HFP hfl ⊢
      have HI := Lib.hid (noKey_zero hk.out)
      have k1 := X.out.k1
      clear hj h0 hk hfr
      go_wp2_with fail
      refine wp_region_any (by kernel_rfl) ?_
      change wpAny _ _ _ _ _ _ _ (World.drew _)
      refine wpAny_take (i := 0) (v := ?_) rfl (by kernel_rfl) (by kernel_rfl) (by kernel_rfl) (fun _ _ _ h => h) (Or.inl ⟨by kernel_rfl, ?_⟩) ?_
      rotate_left
      · (intro w'; go_simp; try with_reducible rfl)
      refine wpAny_take (i := 2) (v := ?_) rfl (by kernel_rfl) (by kernel_rfl) (by kernel_rfl) (fun _ _ _ h => h) (Or.inl ⟨by kernel_rfl, ?_⟩) ?_
      rotate_left
      · (intro w'; go_simp; try with_reducible rfl)
      refine wpAny_take (i := 3) (v := ?_) rfl (by kernel_rfl) (by kernel_rfl) (by kernel_rfl) (fun _ _ _ h => h) (Or.inl ⟨by kernel_rfl, ?_⟩) ?_
      rotate_left
      · (intro w'; go_simp; try with_reducible rfl)
      refine wpAny_take (i := 4) (v := ?_) rfl (by kernel_rfl) (by kernel_rfl) (by kernel_rfl) (fun _ _ _ h => h) (Or.inl ⟨by kernel_rfl, ?_⟩) ?_
      rotate_left
      · (intro w'; go_simp; try with_reducible rfl)
      refine wpAny_ready (rs := [1, 5]) (by kernel_rfl) (by simp) ?_
      refine AllReady.cons rfl (fun K hK => ?_) ?_
      · skip
        go_simp
        go_wp2_with (go_at_call 21; refine (ref_used (HX.out _ (below_drewN hb.out _)) (by rw [HN.out]; exact hS)).mono ?_; rintro ee w5 ⟨rfl, hb5⟩)
        have hb6 := Lib.hid ((below_drewN hb.out 1).trans (hb5.mono hb.out.size))
        have k1' := (HX.out _ hb6.out).k1
        have HNW := Lib.hid (HX.out _ hb6.out)
        refine wpAny_ready (rs := [5]) (by kernel_rfl) (by simp) ?_
        refine AllReady.cons rfl (fun K hK => ?_) AllReady.nil
        go_simp
        (refine hK _ _ ?_; clear hK K)
        refine wpAny_take (i := 6) (v := ?_) rfl (by kernel_rfl) (by kernel_rfl) (by kernel_rfl) (fun _ _ _ h => h) (Or.inl ⟨by kernel_rfl, ?_⟩) ?_
        rotate_left
        · (intro w'; go_simp; try with_reducible rfl)
        refine wpAny_done (by kernel_rfl) ?_ _
        go_simp
        clear k1 k1'
        have hcn := cnt_le S
        rw [HN.out] at hcn
        by_cases hm : m ≤ (cnt S : Int)
        · have HA := Lib.hid (addG_full he HH.out (by rw [EK.out]; exact HI.out) hm)
          go_wp2_with fail
          go_ret2
          rw [HA.out]
          exact ⟨rfl, _, HNW.out, Moved.of_below hb6.out _ _⟩
        · have hm' : (cnt S : Int) < m := by omega
          have k0' := HNW.out.k0
          have HA := Lib.hid (addG_behind (f := false) he HAB.out HI.out hm)
          have hfree : pn ≠ fr := fun eq9 => by
            have h1 := (put_facts S ⟨pn, e, false, 1, 0⟩).2.1
            rw [HFP.out.1, ← eq9, HAB.out] at h1; cases h1
          have HNE := Lib.hid hfree
          have hbo := HBD.out pn b HAB.out
          have s7 : IntKind.i64.wrap (b.behind + 1) = b.behind + 1 := by rw [IntKind.wrap_i64]; omega
          have hpn := at_lt HAB.out
          rw [HN.out] at hpn
          have b3 : (0 : Int) ≤ (pn : Int) := by omega
          have b4 : (pn : Int) < (n : Int) := by omega
          have b5 : (pn : Int) < ((n + 1 : Nat) : Int) := by omega
          clear hbo hpn hfree
          by_cases hfn : fr = n
          · have e1 : ((fr : Int) == (n : Int)) = true := by rw [hfn]; simp
            have hPU := Lib.hid (HNW.out.push (.cells #[.bool false, .int .i64 0, .int .i64 0, .bool false, .int .i64 0, .int .i64 0] 47))
            rw [HN.out] at hPU
            have HP1 := Lib.hid (HFP.out.2.2 (by rw [HN.out]; exact hfn))
            have HEQN := Lib.hid hfn
            obtain ⟨i6, hi6', hz6'⟩ : ∃ i6, Try.prog.info? 47 = some i6 ∧ i6.zero = some (.agg #[.bool false, .int .i64 0, .int .i64 0, .bool false, .int .i64 0, .int .i64 0]) ∧ i6.size = 6 ∧ i6.bytes = 48 := by
              obtain ⟨i6, h1, h2⟩ := Option.map_eq_some_iff.1 info6
              simp only [Prod.mk.injEq] at h2
              exact ⟨i6, h1, h2⟩
            obtain ⟨hz6, hs6, hb6'⟩ := hz6'
            have hz0 := zero6
            clear hfn hcn
            go_upto_region 20 with (at_builtin; refine wpList_append_any _ rfl (.tmp 106) (.tmp 108) 48 rfl base 47 i6 _ 6 48 Try.underlying48 hi6' hz6 hs6 hb6' rfl (by omega) _ n (S.flatMap refL) rfl hPU.out.1 (w5.heap.size + 1) (some ⟨w5.heap.size, 0, none⟩) 1 1 (refL none) rfl (src6 (Blk.new _ _ _)) one6 ?c1 ?c2 hPU.out.2.1 ?_; rotate_left 2; intro v4 w4 ho hg hat; obtain ⟨g4, c4, rfl, hc41, hc42, kB, fB, hR4, hM4, hgB, hz4, q0, q1, q2, q3, q4, q5, hbb⟩ := hPU.out.2.2 v4 w4 ho hg hat; rw [← HEQN.out] at q0 q1 q2 q3 q4 q5; have hgB' := hgB.symm; have f0 := hz4 (fr * 6); have f1 := hz4 (fr * 6 + 1); have f2 := hz4 (fr * 6 + 2); have f3 := hz4 (fr * 6 + 3); have f4 := hz4 (fr * 6 + 4); have f5 := hz4 (fr * 6 + 5); have HR4 := Lib.hid hR4; have HM4 := Lib.hid hM4; have b1 : (0 : Int) ≤ (fr : Int) := (by omega); have b2 : (fr : Int) < ((n + 1 : Nat) : Int) := (by rw [HEQN.out]; omega); unfold maxLen at hc42; clear ho hg hat hR4 hM4 hz4 hbb)
            case c1 => unfold maxLen; omega
            case c2 => omega
            have hl : (S ++ [none]).length = n + 1 := by simp [HN.out]
            have h5 := HR4.out
            rw [← hl] at h5
            obtain ⟨y1, y2⟩ := h5.setAll (i := fr) (by rw [hl, HEQN.out]; omega) (o := some ⟨pn, e, false, 1, 0⟩) rfl
            have hfs : fr = S.length := by rw [HN.out]; exact HEQN.out
            have hP := HP1.out
            rw [← hfs] at hP
            have hP := Lib.hid hP
            have y2 := Lib.hid (HM4.out.trans (hl ▸ y2))
            have hl2 : ((S ++ [none]).set fr (some ⟨pn, e, false, 1, 0⟩)).length = n + 1 := by rw [List.length_set, hl]
            rw [hl] at y1
            have y1 := Lib.hid y1
            clear h5 hfs
            change Code.wp _ _ _ _ (set6 (w4.setCell ⟨B, 0, none⟩ (.slice (some ⟨g4, 0, none⟩) (n + 1) c4)) g4 fr (.bool true) (.int .i64 (pn : Int)) (.int .i64 e) (.bool false) (.int .i64 1) (.int .i64 0))
            revert y1 y2
            generalize (set6 (w4.setCell ⟨B, 0, none⟩ (.slice (some ⟨g4, 0, none⟩) (n + 1) c4)) g4 fr (.bool true) (.int .i64 (pn : Int)) (.int .i64 e) (.bool false) (.int .i64 1) (.int .i64 0)) = W6
            intro y2 y1
            have hat : at? ((S ++ [none]).set fr (some ⟨pn, e, false, 1, 0⟩)) pn = some b := by
              rw [at_set_other (fun eq9 => HNE.out eq9.symm), at_app_lt (at_lt HAB.out)]; exact HAB.out
            have h5 := y1.out
            rw [← hl2] at h5
            obtain ⟨g7, c7, hv7, _, _, _, _, hz7, _, _, _, _, _, q6⟩ := h5.six (at_some.1 hat) rfl
            injection hv7 with hv71 hv72 hv73
            injection hv71 with hv71
            injection hv71 with hv71
            subst hv71
            have f9 := hz7 (pn * 6 + 5)
            have k6 := y1.out.k0
            have y3 := Lib.hid (h5.set1 (i := pn) (o' := some { b with behind := b.behind + 1 }) (at_some.1 hat) 5 (.int .i64 (b.behind + 1)) (by omega) rfl)
            rw [hl2] at y3
            clear h5 hat hl2 hz7 hv72 hv73 q0 q1 q2 q3 q4 q5 f0 f1 f2 f3 f4 f5 hl
            go_wp2_with fail
            go_ret2
            rw [HA.out, HFP.out.1, hP.out]
            exact ⟨rfl, _, y3.out, (Moved.of_below hb6.out _ _).trans (y2.out.trans (Moved.setRow rfl _ _))⟩
          · have e1 : ((fr : Int) == (n : Int)) = false := by rw [beq_eq_false_iff_ne]; omega
            have hfl' : fr < S.length := by rw [HN.out]; omega
            have HP1 := Lib.hid (HFP.out.2.1 hfl')
            obtain ⟨g6, cp, hv, hcp1, hcp2, hfz, ⟨a0, a1, a2, a3, a4, a5, q0, q1, q2, q3, q4, q5⟩, hR, hM⟩ := HNW.out.new_ (at_cases S hfl') ⟨pn, e, false, 1, 0⟩
            injection hv with hv1 hv2 hv3
            subst hv1
            have f0 := hfz (fr * 6)
            have f1 := hfz (fr * 6 + 1)
            have f2 := hfz (fr * 6 + 2)
            have f3 := hfz (fr * 6 + 3)
            have f4 := hfz (fr * 6 + 4)
            have f5 := hfz (fr * 6 + 5)
            have b1 : (0 : Int) ≤ (fr : Int) := by omega
            have b2 : (fr : Int) < (n : Int) := by omega
            have HR := Lib.hid hR
            have HM := Lib.hid ((Moved.of_below hb6.out _ _).trans hM)
            clear hfz hR hM hv2 hv3 hfn hfl'
            go_upto_region 20 with fail
            change Code.wp _ _ _ _ (set6 w5 g6 fr (.bool true) (.int .i64 (pn : Int)) (.int .i64 e) (.bool false) (.int .i64 1) (.int .i64 0))
            revert HR HM
            generalize set6 w5 g6 fr (.bool true) (.int .i64 (pn : Int)) (.int .i64 e) (.bool false) (.int .i64 1) (.int .i64 0) = W6
            intro HR HM
            have hl2 : (S.set fr (some ⟨pn, e, false, 1, 0⟩)).length = n := by rw [List.length_set, HN.out]
            have hat : at? (S.set fr (some ⟨pn, e, false, 1, 0⟩)) pn = some b := by
              rw [at_set_other (fun eq9 => HNE.out eq9.symm)]; exact HAB.out
            have h5 := HR.out
            rw [← hl2] at h5
            obtain ⟨g7, c7, hv7, _, _, _, _, hz7, _, _, _, _, _, q6⟩ := h5.six (at_some.1 hat) rfl
            injection hv7 with hv71 hv72 hv73
            injection hv71 with hv71
            injection hv71 with hv71
            subst hv71
            have f9 := hz7 (pn * 6 + 5)
            have k6 := HR.out.k0
            have y3 := Lib.hid (h5.set1 (i := pn) (o' := some { b with behind := b.behind + 1 }) (at_some.1 hat) 5 (.int .i64 (b.behind + 1)) (by omega) rfl)
            rw [hl2] at y3
            clear h5 hat hl2 hz7 hv72 hv73 q0 q1 q2 q3 q4 q5 f0 f1 f2 f3 f4 f5
            go_wp2_with fail
            go_ret2
            rw [HA.out, HP1.out, HFP.out.1]
            exact ⟨rfl, _, y3.out, HM.out.trans (Moved.setRow rfl _ _)⟩
      refine AllReady.cons rfl (fun K hK => ?_) AllReady.nil
      go_simp
      (refine hK _ _ ?_; clear hK K)
      refine wpAny_ready (rs := [1]) (by kernel_rfl) (by simp) ?_
      refine AllReady.cons rfl (fun K hK => ?_) AllReady.nil
      go_simp
      go_wp2_with (go_at_call 21; refine (ref_used (HX.out _ (below_drewN hb.out _)) (by rw [HN.out]; exact hS)).mono ?_; rintro ee w5 ⟨rfl, hb5⟩)
      have hb6 := Lib.hid ((below_drewN hb.out 1).trans (hb5.mono hb.out.size))
      have k1' := (HX.out _ hb6.out).k1
      have HNW := Lib.hid (HX.out _ hb6.out)
      refine wpAny_take (i := 6) (v := ?_) rfl (by kernel_rfl) (by kernel_rfl) (by kernel_rfl) (fun _ _ _ h => h) (Or.inl ⟨by kernel_rfl, ?_⟩) ?_
      rotate_left
      · (intro w'; go_simp; try with_reducible rfl)
      refine wpAny_done (by kernel_rfl) ?_ _
      go_simp
      clear k1 k1'
      have hcn := cnt_le S
      rw [HN.out] at hcn
      by_cases hm : m ≤ (cnt S : Int)
      · have HA := Lib.hid (addG_full he HH.out (by rw [EK.out]; exact HI.out) hm)
        go_wp2_with fail
        go_ret2
        rw [HA.out]
        exact ⟨rfl, _, HNW.out, Moved.of_below hb6.out _ _⟩
      · have hm' : (cnt S : Int) < m := by omega
        have k0' := HNW.out.k0
        have HA := Lib.hid (addG_behind (f := false) he HAB.out HI.out hm)
        have hfree : pn ≠ fr := fun eq9 => by
          have h1 := (put_facts S ⟨pn, e, false, 1, 0⟩).2.1
          rw [HFP.out.1, ← eq9, HAB.out] at h1; cases h1
        have HNE := Lib.hid hfree
        have hbo := HBD.out pn b HAB.out
        have s7 : IntKind.i64.wrap (b.behind + 1) = b.behind + 1 := by rw [IntKind.wrap_i64]; omega
        have hpn := at_lt HAB.out
        rw [HN.out] at hpn
        have b3 : (0 : Int) ≤ (pn : Int) := by omega
        have b4 : (pn : Int) < (n : Int) := by omega
        have b5 : (pn : Int) < ((n + 1 : Nat) : Int) := by omega
        clear hbo hpn hfree
        by_cases hfn : fr = n
        · have e1 : ((fr : Int) == (n : Int)) = true := by rw [hfn]; simp
          have hPU := Lib.hid (HNW.out.push (.cells #[.bool false, .int .i64 0, .int .i64 0, .bool false, .int .i64 0, .int .i64 0] 47))
          rw [HN.out] at hPU
          have HP1 := Lib.hid (HFP.out.2.2 (by rw [HN.out]; exact hfn))
          have HEQN := Lib.hid hfn
          obtain ⟨i6, hi6', hz6'⟩ : ∃ i6, Try.prog.info? 47 = some i6 ∧ i6.zero = some (.agg #[.bool false, .int .i64 0, .int .i64 0, .bool false, .int .i64 0, .int .i64 0]) ∧ i6.size = 6 ∧ i6.bytes = 48 := by
            obtain ⟨i6, h1, h2⟩ := Option.map_eq_some_iff.1 info6
            simp only [Prod.mk.injEq] at h2
            exact ⟨i6, h1, h2⟩
          obtain ⟨hz6, hs6, hb6'⟩ := hz6'
          have hz0 := zero6
          clear hfn hcn
          go_upto_region 20 with (at_builtin; refine wpList_append_any _ rfl (.tmp 106) (.tmp 108) 48 rfl base 47 i6 _ 6 48 Try.underlying48 hi6' hz6 hs6 hb6' rfl (by omega) _ n (S.flatMap refL) rfl hPU.out.1 (w5.heap.size + 1) (some ⟨w5.heap.size, 0, none⟩) 1 1 (refL none) rfl (src6 (Blk.new _ _ _)) one6 ?c1 ?c2 hPU.out.2.1 ?_; rotate_left 2; intro v4 w4 ho hg hat; obtain ⟨g4, c4, rfl, hc41, hc42, kB, fB, hR4, hM4, hgB, hz4, q0, q1, q2, q3, q4, q5, hbb⟩ := hPU.out.2.2 v4 w4 ho hg hat; rw [← HEQN.out] at q0 q1 q2 q3 q4 q5; have hgB' := hgB.symm; have f0 := hz4 (fr * 6); have f1 := hz4 (fr * 6 + 1); have f2 := hz4 (fr * 6 + 2); have f3 := hz4 (fr * 6 + 3); have f4 := hz4 (fr * 6 + 4); have f5 := hz4 (fr * 6 + 5); have HR4 := Lib.hid hR4; have HM4 := Lib.hid hM4; have b1 : (0 : Int) ≤ (fr : Int) := (by omega); have b2 : (fr : Int) < ((n + 1 : Nat) : Int) := (by rw [HEQN.out]; omega); unfold maxLen at hc42; clear ho hg hat hR4 hM4 hz4 hbb)
          case c1 => unfold maxLen; omega
          case c2 => omega
          have hl : (S ++ [none]).length = n + 1 := by simp [HN.out]
          have h5 := HR4.out
          rw [← hl] at h5
          obtain ⟨y1, y2⟩ := h5.setAll (i := fr) (by rw [hl, HEQN.out]; omega) (o := some ⟨pn, e, false, 1, 0⟩) rfl
          have hfs : fr = S.length := by rw [HN.out]; exact HEQN.out
          have hP := HP1.out
          rw [← hfs] at hP
          have hP := Lib.hid hP
          have y2 := Lib.hid (HM4.out.trans (hl ▸ y2))
          have hl2 : ((S ++ [none]).set fr (some ⟨pn, e, false, 1, 0⟩)).length = n + 1 := by rw [List.length_set, hl]
          rw [hl] at y1
          have y1 := Lib.hid y1
          clear h5 hfs
          change Code.wp _ _ _ _ (set6 (w4.setCell ⟨B, 0, none⟩ (.slice (some ⟨g4, 0, none⟩) (n + 1) c4)) g4 fr (.bool true) (.int .i64 (pn : Int)) (.int .i64 e) (.bool false) (.int .i64 1) (.int .i64 0))
          revert y1 y2
          generalize (set6 (w4.setCell ⟨B, 0, none⟩ (.slice (some ⟨g4, 0, none⟩) (n + 1) c4)) g4 fr (.bool true) (.int .i64 (pn : Int)) (.int .i64 e) (.bool false) (.int .i64 1) (.int .i64 0)) = W6
          intro y2 y1
          have hat : at? ((S ++ [none]).set fr (some ⟨pn, e, false, 1, 0⟩)) pn = some b := by
            rw [at_set_other (fun eq9 => HNE.out eq9.symm), at_app_lt (at_lt HAB.out)]; exact HAB.out
          have h5 := y1.out
          rw [← hl2] at h5
          obtain ⟨g7, c7, hv7, _, _, _, _, hz7, _, _, _, _, _, q6⟩ := h5.six (at_some.1 hat) rfl
          injection hv7 with hv71 hv72 hv73
          injection hv71 with hv71
          injection hv71 with hv71
          subst hv71
          have f9 := hz7 (pn * 6 + 5)
          have k6 := y1.out.k0
          have y3 := Lib.hid (h5.set1 (i := pn) (o' := some { b with behind := b.behind + 1 }) (at_some.1 hat) 5 (.int .i64 (b.behind + 1)) (by omega) rfl)
          rw [hl2] at y3
          clear h5 hat hl2 hz7 hv72 hv73 q0 q1 q2 q3 q4 q5 f0 f1 f2 f3 f4 f5 hl
          go_wp2_with fail
          go_ret2
          rw [HA.out, HFP.out.1, hP.out]
          exact ⟨rfl, _, y3.out, (Moved.of_below hb6.out _ _).trans (y2.out.trans (Moved.setRow rfl _ _))⟩
        · have e1 : ((fr : Int) == (n : Int)) = false := by rw [beq_eq_false_iff_ne]; omega
          have hfl' : fr < S.length := by rw [HN.out]; omega
          have HP1 := Lib.hid (HFP.out.2.1 hfl')
          obtain ⟨g6, cp, hv, hcp1, hcp2, hfz, ⟨a0, a1, a2, a3, a4, a5, q0, q1, q2, q3, q4, q5⟩, hR, hM⟩ := HNW.out.new_ (at_cases S hfl') ⟨pn, e, false, 1, 0⟩
          injection hv with hv1 hv2 hv3
          subst hv1
          have f0 := hfz (fr * 6)
          have f1 := hfz (fr * 6 + 1)
          have f2 := hfz (fr * 6 + 2)
          have f3 := hfz (fr * 6 + 3)
          have f4 := hfz (fr * 6 + 4)
          have f5 := hfz (fr * 6 + 5)
          have b1 : (0 : Int) ≤ (fr : Int) := by omega
          have b2 : (fr : Int) < (n : Int) := by omega
          have HR := Lib.hid hR
          have HM := Lib.hid ((Moved.of_below hb6.out _ _).trans hM)
          clear hfz hR hM hv2 hv3 hfn hfl'
          go_upto_region 20 with fail
          change Code.wp _ _ _ _ (set6 w5 g6 fr (.bool true) (.int .i64 (pn : Int)) (.int .i64 e) (.bool false) (.int .i64 1) (.int .i64 0))
          revert HR HM
          generalize set6 w5 g6 fr (.bool true) (.int .i64 (pn : Int)) (.int .i64 e) (.bool false) (.int .i64 1) (.int .i64 0) = W6
          intro HR HM
          have hl2 : (S.set fr (some ⟨pn, e, false, 1, 0⟩)).length = n := by rw [List.length_set, HN.out]
          have hat : at? (S.set fr (some ⟨pn, e, false, 1, 0⟩)) pn = some b := by
            rw [at_set_other (fun eq9 => HNE.out eq9.symm)]; exact HAB.out
          have h5 := HR.out
          rw [← hl2] at h5
          obtain ⟨g7, c7, hv7, _, _, _, _, hz7, _, _, _, _, _, q6⟩ := h5.six (at_some.1 hat) rfl
          injection hv7 with hv71 hv72 hv73
          injection hv71 with hv71
          injection hv71 with hv71
          subst hv71
          have f9 := hz7 (pn * 6 + 5)
          have k6 := HR.out.k0
          have y3 := Lib.hid (h5.set1 (i := pn) (o' := some { b with behind := b.behind + 1 }) (at_some.1 hat) 5 (.int .i64 (b.behind + 1)) (by omega) rfl)
          rw [hl2] at y3
          clear h5 hat hl2 hz7 hv72 hv73 q0 q1 q2 q3 q4 q5 f0 f1 f2 f3 f4 f5
          go_wp2_with fail
          go_ret2
          rw [HA.out, HP1.out, HFP.out.1]
          exact ⟨rfl, _, y3.out, HM.out.trans (Moved.setRow rfl _ _)⟩
    · obtain ⟨k, rfl⟩ : ∃ k, j = k + 1 := ⟨j - 1, by omega⟩
      rw [show ((k + 1 : Nat) : Int) - 1 = (k : Int) by omega]
      have hkn : k < S.length := by rw [HN.out]; omega
      have hcc := at_cases S hkn
      have b1 : (0 : Int) ≤ (k : Int) := by omega
      have b2 : (k : Int) < (n : Int) := by omega
      have s1 : IntKind.i64.wrap ((k : Int) - 1) = (k : Int) - 1 := by rw [IntKind.wrap_i64]; omega
      have HB1 := Lib.hid (fun o => hb.out.alloc hb.out.size o)
      cases ho : at? S k with
      | none =>
        rw [ho] at hcc
        obtain ⟨g, c', hv, _, _, _, _, _, q0, q1, q2, q3, q4, q5⟩ := X.out.six hcc rfl
        injection hv with hv1 hv2 hv3
        subst hv1
        have hK := Lib.hid (noKey_none hk.out ho)
        have hF := Lib.hid (free_here hkn ho)
        clear hcc hv2 hv3 X hk ho hkn hb
        go_wp2_with fail
        go_roundw
        case rel => first | exact ⟨k, by omega, rfl, by rw [hF.out], hK, Lib.hid (HB1.out _)⟩ | ((repeat apply Exists.intro); exact ⟨⟨k, by omega, rfl, by rw [hF.out], hK, Lib.hid (HB1.out _)⟩, rfl⟩)
        case measure => simp [intOf]
      | some d =>
        rw [ho] at hcc
        obtain ⟨g, c', hv, hg1, hg2, _, _, hfz, q0, q1, q2, q3, q4, q5⟩ := X.out.six hcc rfl
        injection hv with hv1 hv2 hv3
        subst hv1
        have f4 := hfz (k * 6 + 4)
        have hF := Lib.hid (free_next ho)
        clear hv2 hv3 hfz
        by_cases e1 : d.prev = pn
        · rw [e1] at q1
          by_cases e2 : d.event = e
          · rw [e2] at q2
            by_cases e3 : d.fresh = false
            · rw [e3] at q3
              have hid := idx_of HU.out ho
              rw [e1, e2, e3] at hid
              have HA : Hid (addS S m pn e false = (S.set k (some { d with own := d.own + 1 }), (k : Int), true)) := Lib.hid (addG_found he HH.out (by rw [EK.out]; exact hid) ho)
              have hbo := HBD.out k d ho
              have s2 : IntKind.i64.wrap (d.own + 1) = d.own + 1 := by rw [IntKind.wrap_i64]; omega
              have HE : Hid (∀ o, RefX ((wr.setCell ⟨g, k * 6 + 4, none⟩ (.int .i64 (d.own + 1))).alloc o) base B (S.set k (some { d with own := d.own + 1 })) m (.slice (some ⟨g, 0, none⟩) n c) ∧ Moved w ((wr.setCell ⟨g, k * 6 + 4, none⟩ (.int .i64 (d.own + 1))).alloc o) B (.slice (some ⟨g, 0, none⟩) n c) (.slice (some ⟨g, 0, none⟩) n c)) := Lib.hid fun o => by
                have h1 := X.out
                rw [← HN.out] at h1 ⊢
                have hb9 := fun W : World => (Below.refl W.heap.size W).alloc (Nat.le_refl _) o
                exact ⟨(h1.set1 (o' := some { d with own := d.own + 1 }) hcc 4 (.int .i64 (d.own + 1)) (by omega) rfl).stay (hb9 _), ((Moved.of_below hb.out _ _).trans (Moved.setRow rfl _ _)).trans (Moved.of_below (hb9 _) _ _)⟩
              have hBl := X.out.blk.lt
              clear hcc X hk ho hkn hb hid e1 e2 e3 hbo
              go_wp2_with fail
              go_ret2
              rw [HA.out]
              exact ⟨rfl, _, HE.out _⟩
            · have x3 : (d.fresh == false) = false := by rw [beq_eq_false_iff_ne]; exact e3
              have hnk : ¬ (d.prev = pn ∧ d.event = e ∧ d.fresh = false) := fun hx => e3 hx.2.2
              obtain ⟨df, hdf⟩ : ∃ df, d.fresh = df := ⟨_, rfl⟩
              rw [hdf] at q3 x3
              clear e1 e2 e3 hdf
              have hK := Lib.hid (noKey_some hk.out ho hnk)
              clear hnk hcc X hk ho hkn hb
              go_wp2_with fail
              go_roundw
              case rel => first | exact ⟨k, by omega, rfl, by rw [hF.out], hK, Lib.hid (HB1.out _)⟩ | ((repeat apply Exists.intro); exact ⟨⟨k, by omega, rfl, by rw [hF.out], hK, Lib.hid (HB1.out _)⟩, rfl⟩)
              case measure => simp [intOf]
          · have x2 : (d.event == e) = false := by rw [beq_eq_false_iff_ne]; exact e2
            have hnk : ¬ (d.prev = pn ∧ d.event = e ∧ d.fresh = false) := fun hx => e2 hx.2.1
            obtain ⟨de, hde⟩ : ∃ de, d.event = de := ⟨_, rfl⟩
            rw [hde] at q2 x2
            clear e1 e2 hde
            have hK := Lib.hid (noKey_some hk.out ho hnk)
            clear hnk hcc X hk ho hkn hb
            go_wp2_with fail
            go_roundw
            case rel => first | exact ⟨k, by omega, rfl, by rw [hF.out], hK, Lib.hid (HB1.out _)⟩ | ((repeat apply Exists.intro); exact ⟨⟨k, by omega, rfl, by rw [hF.out], hK, Lib.hid (HB1.out _)⟩, rfl⟩)
            case measure => simp [intOf]
        · have x1 : (d.prev == pn) = false := by rw [beq_eq_false_iff_ne]; exact e1
          have hnk : ¬ (d.prev = pn ∧ d.event = e ∧ d.fresh = false) := fun hx => e1 hx.1
          obtain ⟨dp, hdp⟩ : ∃ dp, d.prev = dp := ⟨_, rfl⟩
          rw [hdp] at q1 x1
          clear e1 hdp
          have hK := Lib.hid (noKey_some hk.out ho hnk)
          clear hnk hcc X hk ho hkn hb
          go_wp2_with fail
          go_roundw
          case rel => first | exact ⟨k, by omega, rfl, by rw [hF.out], hK, Lib.hid (HB1.out _)⟩ | ((repeat apply Exists.intro); exact ⟨⟨k, by omega, rfl, by rw [hF.out], hK, Lib.hid (HB1.out _)⟩, rfl⟩)
          case measure => simp [intOf]
set_option maxRecDepth 100000 in
set_option maxHeartbeats 4000000 in
theorem ref_add_behind_true (h : RefX w base B S m v) (hS : S.length ≤ 1000000) (hu : Uniq S) (hbd : Bnd S) (pn : Nat) (b : Cl) (hb : at? S pn = some b) (e : Int) (he : 0 ≤ e) :
    Calls Try.prog 17 #[.pointer (some ⟨B, 0, none⟩), .int .i64 pn, .int .i64 e, .bool true] w (RefAddPost w base B v m (addS S m pn e true).1 (addS S m pn e true).2.1 (addS S m pn e true).2.2) := by
  have hh : ¬ (((pn : Int)) ≠ -1 ∧ hasB S pn = false) := by rw [has_nat, hb]; simp
  have ek : keyF pn true = true := by unfold keyF; rw [show ((pn : Int) == -1) = false by rw [beq_eq_false_iff_ne]; omega]; rfl
  have C := Lib.hid (ref_has h pn hS)
  rw [has_nat, hb] at C
  have hp1 : ((pn : Int) == -1) = false := by rw [beq_eq_false_iff_ne]; omega
  have hp2 : ((pn : Int) != -1) = true := by rw [bne_iff_ne]; omega
  have k0 := h.k0
  obtain ⟨A, c, rfl, hc1, hc2⟩ := h.slice
  unfold maxLen at hc2
  obtain ⟨n, hn⟩ : ∃ n, S.length = n := ⟨_, rfl⟩
  have HX := Lib.hid (fun W (hb : Below w.heap.size w W) => h.stay hb)
  rw [hn] at HX k0 hc1 ⊢
  have HN := Lib.hid hn
  have HU := Lib.hid hu
  have HBD := Lib.hid hbd
  have HH := Lib.hid hh
  have EK := Lib.hid ek
  have G0 := Lib.hid (Below.refl w.heap.size w)
  have N0 := Lib.hid (noKey_end S pn e true)
  have F0 := Lib.hid (free_end S)
  rw [hn] at N0 F0 hS
  have hnn : (0 : Int) ≤ (n : Int) := by omega
  have s0 : IntKind.i64.wrap ((n : Int) - 1) = (n : Int) - 1 := by rw [IntKind.wrap_i64]; omega
  have HAB := Lib.hid hb
  clear h hn hu hbd hh ek hb
  go_enter Try.func17, Try.ntmps17
  go_wp2_with fail
  refine C.out.mono ?_
  rintro e0 w' ⟨rfl, rfl⟩
  clear C
  go_wp2_with fail
  go_loopw [10, 11] (fun fr i wr => ∃ j : Nat, j ≤ n ∧ i = .int .i64 ((j : Int) - 1) ∧ fr = .int .i64 (freeFrom S j : Nat) ∧ Hid (NoKey S pn e true j) ∧ Hid (Below w.heap.size w wr)) (fun _ i _ => (intOf i + 1).toNat)
  case atStart => exact ⟨n, Nat.le_refl _, rfl, by rw [F0.out], N0, G0⟩
  case round =>
    clear G0 N0 F0 k0
    obtain ⟨j, hj, rfl, rfl, hk, hb⟩ := hrel
    have X := Lib.hid (HX.out wr hb.out)
    have k0 := X.out.k0
    rcases Nat.eq_zero_or_pos j with h0 | h0
    · rw [h0] at hk ⊢
      rw [show ((0 : Nat) : Int) - 1 = -1 by decide]
      have hfl := free_le S 0 (Nat.zero_le _)
      rw [HN.out] at hfl
      have HFP := Lib.hid (free_put S ⟨pn, e, true, 1, 0⟩)
      obtain ⟨fr, hfr⟩ : ∃ fr, freeFrom S 0 = fr := ⟨_, rfl⟩
      rw [hfr] at HFP hfl ⊢
      have HI := Lib.hid (noKey_zero hk.out)
      have k1 := X.out.k1
      clear hj h0 hk hfr
      go_wp2_with fail
      refine wp_region_any (by kernel_rfl) ?_
      change wpAny _ _ _ _ _ _ _ (World.drew _)
      refine wpAny_take (i := 0) (v := ?_) rfl (by kernel_rfl) (by kernel_rfl) (by kernel_rfl) (fun _ _ _ h => h) (Or.inl ⟨by kernel_rfl, ?_⟩) ?_
      rotate_left
      · (intro w'; go_simp; try with_reducible rfl)
      refine wpAny_take (i := 2) (v := ?_) rfl (by kernel_rfl) (by kernel_rfl) (by kernel_rfl) (fun _ _ _ h => h) (Or.inl ⟨by kernel_rfl, ?_⟩) ?_
      rotate_left
      · (intro w'; go_simp; try with_reducible rfl)
      refine wpAny_take (i := 3) (v := ?_) rfl (by kernel_rfl) (by kernel_rfl) (by kernel_rfl) (fun _ _ _ h => h) (Or.inl ⟨by kernel_rfl, ?_⟩) ?_
      rotate_left
      · (intro w'; go_simp; try with_reducible rfl)
      refine wpAny_take (i := 4) (v := ?_) rfl (by kernel_rfl) (by kernel_rfl) (by kernel_rfl) (fun _ _ _ h => h) (Or.inl ⟨by kernel_rfl, ?_⟩) ?_
      rotate_left
      · (intro w'; go_simp; try with_reducible rfl)
      refine wpAny_ready (rs := [1, 5]) (by kernel_rfl) (by simp) ?_
      refine AllReady.cons rfl (fun K hK => ?_) ?_
      · skip
        go_simp
        go_wp2_with (go_at_call 21; refine (ref_used (HX.out _ (below_drewN hb.out _)) (by rw [HN.out]; exact hS)).mono ?_; rintro ee w5 ⟨rfl, hb5⟩)
        have hb6 := Lib.hid ((below_drewN hb.out 1).trans (hb5.mono hb.out.size))
        have k1' := (HX.out _ hb6.out).k1
        have HNW := Lib.hid (HX.out _ hb6.out)
        refine wpAny_ready (rs := [5]) (by kernel_rfl) (by simp) ?_
        refine AllReady.cons rfl (fun K hK => ?_) AllReady.nil
        go_simp
        (refine hK _ _ ?_; clear hK K)
        refine wpAny_take (i := 6) (v := ?_) rfl (by kernel_rfl) (by kernel_rfl) (by kernel_rfl) (fun _ _ _ h => h) (Or.inl ⟨by kernel_rfl, ?_⟩) ?_
        rotate_left
        · (intro w'; go_simp; try with_reducible rfl)
        refine wpAny_done (by kernel_rfl) ?_ _
        go_simp
        clear k1 k1'
        have hcn := cnt_le S
        rw [HN.out] at hcn
        by_cases hm : m ≤ (cnt S : Int)
        · have HA := Lib.hid (addG_full he HH.out (by rw [EK.out]; exact HI.out) hm)
          go_wp2_with fail
          go_ret2
          rw [HA.out]
          exact ⟨rfl, _, HNW.out, Moved.of_below hb6.out _ _⟩
        · have hm' : (cnt S : Int) < m := by omega
          have k0' := HNW.out.k0
          have HA := Lib.hid (addG_behind (f := true) he HAB.out HI.out hm)
          have hfree : pn ≠ fr := fun eq9 => by
            have h1 := (put_facts S ⟨pn, e, true, 1, 0⟩).2.1
            rw [HFP.out.1, ← eq9, HAB.out] at h1; cases h1
          have HNE := Lib.hid hfree
          have hbo := HBD.out pn b HAB.out
          have s7 : IntKind.i64.wrap (b.behind + 1) = b.behind + 1 := by rw [IntKind.wrap_i64]; omega
          have hpn := at_lt HAB.out
          rw [HN.out] at hpn
          have b3 : (0 : Int) ≤ (pn : Int) := by omega
          have b4 : (pn : Int) < (n : Int) := by omega
          have b5 : (pn : Int) < ((n + 1 : Nat) : Int) := by omega
          clear hbo hpn hfree
          by_cases hfn : fr = n
          · have e1 : ((fr : Int) == (n : Int)) = true := by rw [hfn]; simp
            have hPU := Lib.hid (HNW.out.push (.cells #[.bool false, .int .i64 0, .int .i64 0, .bool false, .int .i64 0, .int .i64 0] 47))
            rw [HN.out] at hPU
            have HP1 := Lib.hid (HFP.out.2.2 (by rw [HN.out]; exact hfn))
            have HEQN := Lib.hid hfn
            obtain ⟨i6, hi6', hz6'⟩ : ∃ i6, Try.prog.info? 47 = some i6 ∧ i6.zero = some (.agg #[.bool false, .int .i64 0, .int .i64 0, .bool false, .int .i64 0, .int .i64 0]) ∧ i6.size = 6 ∧ i6.bytes = 48 := by
              obtain ⟨i6, h1, h2⟩ := Option.map_eq_some_iff.1 info6
              simp only [Prod.mk.injEq] at h2
              exact ⟨i6, h1, h2⟩
            obtain ⟨hz6, hs6, hb6'⟩ := hz6'
            have hz0 := zero6
            clear hfn hcn
            go_upto_region 20 with (at_builtin; refine wpList_append_any _ rfl (.tmp 106) (.tmp 108) 48 rfl base 47 i6 _ 6 48 Try.underlying48 hi6' hz6 hs6 hb6' rfl (by omega) _ n (S.flatMap refL) rfl hPU.out.1 (w5.heap.size + 1) (some ⟨w5.heap.size, 0, none⟩) 1 1 (refL none) rfl (src6 (Blk.new _ _ _)) one6 ?c1 ?c2 hPU.out.2.1 ?_; rotate_left 2; intro v4 w4 ho hg hat; obtain ⟨g4, c4, rfl, hc41, hc42, kB, fB, hR4, hM4, hgB, hz4, q0, q1, q2, q3, q4, q5, hbb⟩ := hPU.out.2.2 v4 w4 ho hg hat; rw [← HEQN.out] at q0 q1 q2 q3 q4 q5; have hgB' := hgB.symm; have f0 := hz4 (fr * 6); have f1 := hz4 (fr * 6 + 1); have f2 := hz4 (fr * 6 + 2); have f3 := hz4 (fr * 6 + 3); have f4 := hz4 (fr * 6 + 4); have f5 := hz4 (fr * 6 + 5); have HR4 := Lib.hid hR4; have HM4 := Lib.hid hM4; have b1 : (0 : Int) ≤ (fr : Int) := (by omega); have b2 : (fr : Int) < ((n + 1 : Nat) : Int) := (by rw [HEQN.out]; omega); unfold maxLen at hc42; clear ho hg hat hR4 hM4 hz4 hbb)
            case c1 => unfold maxLen; omega
            case c2 => omega
            have hl : (S ++ [none]).length = n + 1 := by simp [HN.out]
            have h5 := HR4.out
            rw [← hl] at h5
            obtain ⟨y1, y2⟩ := h5.setAll (i := fr) (by rw [hl, HEQN.out]; omega) (o := some ⟨pn, e, true, 1, 0⟩) rfl
            have hfs : fr = S.length := by rw [HN.out]; exact HEQN.out
            have hP := HP1.out
            rw [← hfs] at hP
            have hP := Lib.hid hP
            have y2 := Lib.hid (HM4.out.trans (hl ▸ y2))
            have hl2 : ((S ++ [none]).set fr (some ⟨pn, e, true, 1, 0⟩)).length = n + 1 := by rw [List.length_set, hl]
            rw [hl] at y1
            have y1 := Lib.hid y1
            clear h5 hfs
            change Code.wp _ _ _ _ (set6 (w4.setCell ⟨B, 0, none⟩ (.slice (some ⟨g4, 0, none⟩) (n + 1) c4)) g4 fr (.bool true) (.int .i64 (pn : Int)) (.int .i64 e) (.bool true) (.int .i64 1) (.int .i64 0))
            revert y1 y2
            generalize (set6 (w4.setCell ⟨B, 0, none⟩ (.slice (some ⟨g4, 0, none⟩) (n + 1) c4)) g4 fr (.bool true) (.int .i64 (pn : Int)) (.int .i64 e) (.bool true) (.int .i64 1) (.int .i64 0)) = W6
            intro y2 y1
            have hat : at? ((S ++ [none]).set fr (some ⟨pn, e, true, 1, 0⟩)) pn = some b := by
              rw [at_set_other (fun eq9 => HNE.out eq9.symm), at_app_lt (at_lt HAB.out)]; exact HAB.out
            have h5 := y1.out
            rw [← hl2] at h5
            obtain ⟨g7, c7, hv7, _, _, _, _, hz7, _, _, _, _, _, q6⟩ := h5.six (at_some.1 hat) rfl
            injection hv7 with hv71 hv72 hv73
            injection hv71 with hv71
            injection hv71 with hv71
            subst hv71
            have f9 := hz7 (pn * 6 + 5)
            have k6 := y1.out.k0
            have y3 := Lib.hid (h5.set1 (i := pn) (o' := some { b with behind := b.behind + 1 }) (at_some.1 hat) 5 (.int .i64 (b.behind + 1)) (by omega) rfl)
            rw [hl2] at y3
            clear h5 hat hl2 hz7 hv72 hv73 q0 q1 q2 q3 q4 q5 f0 f1 f2 f3 f4 f5 hl
            go_wp2_with fail
            go_ret2
            rw [HA.out, HFP.out.1, hP.out]
            exact ⟨rfl, _, y3.out, (Moved.of_below hb6.out _ _).trans (y2.out.trans (Moved.setRow rfl _ _))⟩
          · have e1 : ((fr : Int) == (n : Int)) = false := by rw [beq_eq_false_iff_ne]; omega
            have hfl' : fr < S.length := by rw [HN.out]; omega
            have HP1 := Lib.hid (HFP.out.2.1 hfl')
            obtain ⟨g6, cp, hv, hcp1, hcp2, hfz, ⟨a0, a1, a2, a3, a4, a5, q0, q1, q2, q3, q4, q5⟩, hR, hM⟩ := HNW.out.new_ (at_cases S hfl') ⟨pn, e, true, 1, 0⟩
            injection hv with hv1 hv2 hv3
            subst hv1
            have f0 := hfz (fr * 6)
            have f1 := hfz (fr * 6 + 1)
            have f2 := hfz (fr * 6 + 2)
            have f3 := hfz (fr * 6 + 3)
            have f4 := hfz (fr * 6 + 4)
            have f5 := hfz (fr * 6 + 5)
            have b1 : (0 : Int) ≤ (fr : Int) := by omega
            have b2 : (fr : Int) < (n : Int) := by omega
            have HR := Lib.hid hR
            have HM := Lib.hid ((Moved.of_below hb6.out _ _).trans hM)
            clear hfz hR hM hv2 hv3 hfn hfl'
            go_upto_region 20 with fail
            change Code.wp _ _ _ _ (set6 w5 g6 fr (.bool true) (.int .i64 (pn : Int)) (.int .i64 e) (.bool true) (.int .i64 1) (.int .i64 0))
            revert HR HM
            generalize set6 w5 g6 fr (.bool true) (.int .i64 (pn : Int)) (.int .i64 e) (.bool true) (.int .i64 1) (.int .i64 0) = W6
            intro HR HM
            have hl2 : (S.set fr (some ⟨pn, e, true, 1, 0⟩)).length = n := by rw [List.length_set, HN.out]
            have hat : at? (S.set fr (some ⟨pn, e, true, 1, 0⟩)) pn = some b := by
              rw [at_set_other (fun eq9 => HNE.out eq9.symm)]; exact HAB.out
            have h5 := HR.out
            rw [← hl2] at h5
            obtain ⟨g7, c7, hv7, _, _, _, _, hz7, _, _, _, _, _, q6⟩ := h5.six (at_some.1 hat) rfl
            injection hv7 with hv71 hv72 hv73
            injection hv71 with hv71
            injection hv71 with hv71
            subst hv71
            have f9 := hz7 (pn * 6 + 5)
            have k6 := HR.out.k0
            have y3 := Lib.hid (h5.set1 (i := pn) (o' := some { b with behind := b.behind + 1 }) (at_some.1 hat) 5 (.int .i64 (b.behind + 1)) (by omega) rfl)
            rw [hl2] at y3
            clear h5 hat hl2 hz7 hv72 hv73 q0 q1 q2 q3 q4 q5 f0 f1 f2 f3 f4 f5
            go_wp2_with fail
            go_ret2
            rw [HA.out, HP1.out, HFP.out.1]
            exact ⟨rfl, _, y3.out, HM.out.trans (Moved.setRow rfl _ _)⟩
      refine AllReady.cons rfl (fun K hK => ?_) AllReady.nil
      go_simp
      (refine hK _ _ ?_; clear hK K)
      refine wpAny_ready (rs := [1]) (by kernel_rfl) (by simp) ?_
      refine AllReady.cons rfl (fun K hK => ?_) AllReady.nil
      go_simp
      go_wp2_with (go_at_call 21; refine (ref_used (HX.out _ (below_drewN hb.out _)) (by rw [HN.out]; exact hS)).mono ?_; rintro ee w5 ⟨rfl, hb5⟩)
      have hb6 := Lib.hid ((below_drewN hb.out 1).trans (hb5.mono hb.out.size))
      have k1' := (HX.out _ hb6.out).k1
      have HNW := Lib.hid (HX.out _ hb6.out)
      refine wpAny_take (i := 6) (v := ?_) rfl (by kernel_rfl) (by kernel_rfl) (by kernel_rfl) (fun _ _ _ h => h) (Or.inl ⟨by kernel_rfl, ?_⟩) ?_
      rotate_left
      · (intro w'; go_simp; try with_reducible rfl)
      refine wpAny_done (by kernel_rfl) ?_ _
      go_simp
      clear k1 k1'
      have hcn := cnt_le S
      rw [HN.out] at hcn
      by_cases hm : m ≤ (cnt S : Int)
      · have HA := Lib.hid (addG_full he HH.out (by rw [EK.out]; exact HI.out) hm)
        go_wp2_with fail
        go_ret2
        rw [HA.out]
        exact ⟨rfl, _, HNW.out, Moved.of_below hb6.out _ _⟩
      · have hm' : (cnt S : Int) < m := by omega
        have k0' := HNW.out.k0
        have HA := Lib.hid (addG_behind (f := true) he HAB.out HI.out hm)
        have hfree : pn ≠ fr := fun eq9 => by
          have h1 := (put_facts S ⟨pn, e, true, 1, 0⟩).2.1
          rw [HFP.out.1, ← eq9, HAB.out] at h1; cases h1
        have HNE := Lib.hid hfree
        have hbo := HBD.out pn b HAB.out
        have s7 : IntKind.i64.wrap (b.behind + 1) = b.behind + 1 := by rw [IntKind.wrap_i64]; omega
        have hpn := at_lt HAB.out
        rw [HN.out] at hpn
        have b3 : (0 : Int) ≤ (pn : Int) := by omega
        have b4 : (pn : Int) < (n : Int) := by omega
        have b5 : (pn : Int) < ((n + 1 : Nat) : Int) := by omega
        clear hbo hpn hfree
        by_cases hfn : fr = n
        · have e1 : ((fr : Int) == (n : Int)) = true := by rw [hfn]; simp
          have hPU := Lib.hid (HNW.out.push (.cells #[.bool false, .int .i64 0, .int .i64 0, .bool false, .int .i64 0, .int .i64 0] 47))
          rw [HN.out] at hPU
          have HP1 := Lib.hid (HFP.out.2.2 (by rw [HN.out]; exact hfn))
          have HEQN := Lib.hid hfn
          obtain ⟨i6, hi6', hz6'⟩ : ∃ i6, Try.prog.info? 47 = some i6 ∧ i6.zero = some (.agg #[.bool false, .int .i64 0, .int .i64 0, .bool false, .int .i64 0, .int .i64 0]) ∧ i6.size = 6 ∧ i6.bytes = 48 := by
            obtain ⟨i6, h1, h2⟩ := Option.map_eq_some_iff.1 info6
            simp only [Prod.mk.injEq] at h2
            exact ⟨i6, h1, h2⟩
          obtain ⟨hz6, hs6, hb6'⟩ := hz6'
          have hz0 := zero6
          clear hfn hcn
          go_upto_region 20 with (at_builtin; refine wpList_append_any _ rfl (.tmp 106) (.tmp 108) 48 rfl base 47 i6 _ 6 48 Try.underlying48 hi6' hz6 hs6 hb6' rfl (by omega) _ n (S.flatMap refL) rfl hPU.out.1 (w5.heap.size + 1) (some ⟨w5.heap.size, 0, none⟩) 1 1 (refL none) rfl (src6 (Blk.new _ _ _)) one6 ?c1 ?c2 hPU.out.2.1 ?_; rotate_left 2; intro v4 w4 ho hg hat; obtain ⟨g4, c4, rfl, hc41, hc42, kB, fB, hR4, hM4, hgB, hz4, q0, q1, q2, q3, q4, q5, hbb⟩ := hPU.out.2.2 v4 w4 ho hg hat; rw [← HEQN.out] at q0 q1 q2 q3 q4 q5; have hgB' := hgB.symm; have f0 := hz4 (fr * 6); have f1 := hz4 (fr * 6 + 1); have f2 := hz4 (fr * 6 + 2); have f3 := hz4 (fr * 6 + 3); have f4 := hz4 (fr * 6 + 4); have f5 := hz4 (fr * 6 + 5); have HR4 := Lib.hid hR4; have HM4 := Lib.hid hM4; have b1 : (0 : Int) ≤ (fr : Int) := (by omega); have b2 : (fr : Int) < ((n + 1 : Nat) : Int) := (by rw [HEQN.out]; omega); unfold maxLen at hc42; clear ho hg hat hR4 hM4 hz4 hbb)
          case c1 => unfold maxLen; omega
          case c2 => omega
          have hl : (S ++ [none]).length = n + 1 := by simp [HN.out]
          have h5 := HR4.out
          rw [← hl] at h5
          obtain ⟨y1, y2⟩ := h5.setAll (i := fr) (by rw [hl, HEQN.out]; omega) (o := some ⟨pn, e, true, 1, 0⟩) rfl
          have hfs : fr = S.length := by rw [HN.out]; exact HEQN.out
          have hP := HP1.out
          rw [← hfs] at hP
          have hP := Lib.hid hP
          have y2 := Lib.hid (HM4.out.trans (hl ▸ y2))
          have hl2 : ((S ++ [none]).set fr (some ⟨pn, e, true, 1, 0⟩)).length = n + 1 := by rw [List.length_set, hl]
          rw [hl] at y1
          have y1 := Lib.hid y1
          clear h5 hfs
          change Code.wp _ _ _ _ (set6 (w4.setCell ⟨B, 0, none⟩ (.slice (some ⟨g4, 0, none⟩) (n + 1) c4)) g4 fr (.bool true) (.int .i64 (pn : Int)) (.int .i64 e) (.bool true) (.int .i64 1) (.int .i64 0))
          revert y1 y2
          generalize (set6 (w4.setCell ⟨B, 0, none⟩ (.slice (some ⟨g4, 0, none⟩) (n + 1) c4)) g4 fr (.bool true) (.int .i64 (pn : Int)) (.int .i64 e) (.bool true) (.int .i64 1) (.int .i64 0)) = W6
          intro y2 y1
          have hat : at? ((S ++ [none]).set fr (some ⟨pn, e, true, 1, 0⟩)) pn = some b := by
            rw [at_set_other (fun eq9 => HNE.out eq9.symm), at_app_lt (at_lt HAB.out)]; exact HAB.out
          have h5 := y1.out
          rw [← hl2] at h5
          obtain ⟨g7, c7, hv7, _, _, _, _, hz7, _, _, _, _, _, q6⟩ := h5.six (at_some.1 hat) rfl
          injection hv7 with hv71 hv72 hv73
          injection hv71 with hv71
          injection hv71 with hv71
          subst hv71
          have f9 := hz7 (pn * 6 + 5)
          have k6 := y1.out.k0
          have y3 := Lib.hid (h5.set1 (i := pn) (o' := some { b with behind := b.behind + 1 }) (at_some.1 hat) 5 (.int .i64 (b.behind + 1)) (by omega) rfl)
          rw [hl2] at y3
          clear h5 hat hl2 hz7 hv72 hv73 q0 q1 q2 q3 q4 q5 f0 f1 f2 f3 f4 f5 hl
          go_wp2_with fail
          go_ret2
          rw [HA.out, HFP.out.1, hP.out]
          exact ⟨rfl, _, y3.out, (Moved.of_below hb6.out _ _).trans (y2.out.trans (Moved.setRow rfl _ _))⟩
        · have e1 : ((fr : Int) == (n : Int)) = false := by rw [beq_eq_false_iff_ne]; omega
          have hfl' : fr < S.length := by rw [HN.out]; omega
          have HP1 := Lib.hid (HFP.out.2.1 hfl')
          obtain ⟨g6, cp, hv, hcp1, hcp2, hfz, ⟨a0, a1, a2, a3, a4, a5, q0, q1, q2, q3, q4, q5⟩, hR, hM⟩ := HNW.out.new_ (at_cases S hfl') ⟨pn, e, true, 1, 0⟩
          injection hv with hv1 hv2 hv3
          subst hv1
          have f0 := hfz (fr * 6)
          have f1 := hfz (fr * 6 + 1)
          have f2 := hfz (fr * 6 + 2)
          have f3 := hfz (fr * 6 + 3)
          have f4 := hfz (fr * 6 + 4)
          have f5 := hfz (fr * 6 + 5)
          have b1 : (0 : Int) ≤ (fr : Int) := by omega
          have b2 : (fr : Int) < (n : Int) := by omega
          have HR := Lib.hid hR
          have HM := Lib.hid ((Moved.of_below hb6.out _ _).trans hM)
          clear hfz hR hM hv2 hv3 hfn hfl'
          go_upto_region 20 with fail
          change Code.wp _ _ _ _ (set6 w5 g6 fr (.bool true) (.int .i64 (pn : Int)) (.int .i64 e) (.bool true) (.int .i64 1) (.int .i64 0))
          revert HR HM
          generalize set6 w5 g6 fr (.bool true) (.int .i64 (pn : Int)) (.int .i64 e) (.bool true) (.int .i64 1) (.int .i64 0) = W6
          intro HR HM
          have hl2 : (S.set fr (some ⟨pn, e, true, 1, 0⟩)).length = n := by rw [List.length_set, HN.out]
          have hat : at? (S.set fr (some ⟨pn, e, true, 1, 0⟩)) pn = some b := by
            rw [at_set_other (fun eq9 => HNE.out eq9.symm)]; exact HAB.out
          have h5 := HR.out
          rw [← hl2] at h5
          obtain ⟨g7, c7, hv7, _, _, _, _, hz7, _, _, _, _, _, q6⟩ := h5.six (at_some.1 hat) rfl
          injection hv7 with hv71 hv72 hv73
          injection hv71 with hv71
          injection hv71 with hv71
          subst hv71
          have f9 := hz7 (pn * 6 + 5)
          have k6 := HR.out.k0
          have y3 := Lib.hid (h5.set1 (i := pn) (o' := some { b with behind := b.behind + 1 }) (at_some.1 hat) 5 (.int .i64 (b.behind + 1)) (by omega) rfl)
          rw [hl2] at y3
          clear h5 hat hl2 hz7 hv72 hv73 q0 q1 q2 q3 q4 q5 f0 f1 f2 f3 f4 f5
          go_wp2_with fail
          go_ret2
          rw [HA.out, HP1.out, HFP.out.1]
          exact ⟨rfl, _, y3.out, HM.out.trans (Moved.setRow rfl _ _)⟩
    · obtain ⟨k, rfl⟩ : ∃ k, j = k + 1 := ⟨j - 1, by omega⟩
      rw [show ((k + 1 : Nat) : Int) - 1 = (k : Int) by omega]
      have hkn : k < S.length := by rw [HN.out]; omega
      have hcc := at_cases S hkn
      have b1 : (0 : Int) ≤ (k : Int) := by omega
      have b2 : (k : Int) < (n : Int) := by omega
      have s1 : IntKind.i64.wrap ((k : Int) - 1) = (k : Int) - 1 := by rw [IntKind.wrap_i64]; omega
      have HB1 := Lib.hid (fun o => hb.out.alloc hb.out.size o)
      cases ho : at? S k with
      | none =>
        rw [ho] at hcc
        obtain ⟨g, c', hv, _, _, _, _, _, q0, q1, q2, q3, q4, q5⟩ := X.out.six hcc rfl
        injection hv with hv1 hv2 hv3
        subst hv1
        have hK := Lib.hid (noKey_none hk.out ho)
        have hF := Lib.hid (free_here hkn ho)
        clear hcc hv2 hv3 X hk ho hkn hb
        go_wp2_with fail
        go_roundw
        case rel => first | exact ⟨k, by omega, rfl, by rw [hF.out], hK, Lib.hid (HB1.out _)⟩ | ((repeat apply Exists.intro); exact ⟨⟨k, by omega, rfl, by rw [hF.out], hK, Lib.hid (HB1.out _)⟩, rfl⟩)
        case measure => simp [intOf]
      | some d =>
        rw [ho] at hcc
        obtain ⟨g, c', hv, hg1, hg2, _, _, hfz, q0, q1, q2, q3, q4, q5⟩ := X.out.six hcc rfl
        injection hv with hv1 hv2 hv3
        subst hv1
        have f4 := hfz (k * 6 + 4)
        have hF := Lib.hid (free_next ho)
        clear hv2 hv3 hfz
        by_cases e1 : d.prev = pn
        · rw [e1] at q1
          by_cases e2 : d.event = e
          · rw [e2] at q2
            by_cases e3 : d.fresh = true
            · rw [e3] at q3
              have hid := idx_of HU.out ho
              rw [e1, e2, e3] at hid
              have HA : Hid (addS S m pn e true = (S.set k (some { d with own := d.own + 1 }), (k : Int), true)) := Lib.hid (addG_found he HH.out (by rw [EK.out]; exact hid) ho)
              have hbo := HBD.out k d ho
              have s2 : IntKind.i64.wrap (d.own + 1) = d.own + 1 := by rw [IntKind.wrap_i64]; omega
              have HE : Hid (∀ o, RefX ((wr.setCell ⟨g, k * 6 + 4, none⟩ (.int .i64 (d.own + 1))).alloc o) base B (S.set k (some { d with own := d.own + 1 })) m (.slice (some ⟨g, 0, none⟩) n c) ∧ Moved w ((wr.setCell ⟨g, k * 6 + 4, none⟩ (.int .i64 (d.own + 1))).alloc o) B (.slice (some ⟨g, 0, none⟩) n c) (.slice (some ⟨g, 0, none⟩) n c)) := Lib.hid fun o => by
                have h1 := X.out
                rw [← HN.out] at h1 ⊢
                have hb9 := fun W : World => (Below.refl W.heap.size W).alloc (Nat.le_refl _) o
                exact ⟨(h1.set1 (o' := some { d with own := d.own + 1 }) hcc 4 (.int .i64 (d.own + 1)) (by omega) rfl).stay (hb9 _), ((Moved.of_below hb.out _ _).trans (Moved.setRow rfl _ _)).trans (Moved.of_below (hb9 _) _ _)⟩
              have hBl := X.out.blk.lt
              clear hcc X hk ho hkn hb hid e1 e2 e3 hbo
              go_wp2_with fail
              go_ret2
              rw [HA.out]
              exact ⟨rfl, _, HE.out _⟩
            · have x3 : (d.fresh == true) = false := by rw [beq_eq_false_iff_ne]; exact e3
              have hnk : ¬ (d.prev = pn ∧ d.event = e ∧ d.fresh = true) := fun hx => e3 hx.2.2
              obtain ⟨df, hdf⟩ : ∃ df, d.fresh = df := ⟨_, rfl⟩
              rw [hdf] at q3 x3
              clear e1 e2 e3 hdf
              have hK := Lib.hid (noKey_some hk.out ho hnk)
              clear hnk hcc X hk ho hkn hb
              go_wp2_with fail
              go_roundw
              case rel => first | exact ⟨k, by omega, rfl, by rw [hF.out], hK, Lib.hid (HB1.out _)⟩ | ((repeat apply Exists.intro); exact ⟨⟨k, by omega, rfl, by rw [hF.out], hK, Lib.hid (HB1.out _)⟩, rfl⟩)
              case measure => simp [intOf]
          · have x2 : (d.event == e) = false := by rw [beq_eq_false_iff_ne]; exact e2
            have hnk : ¬ (d.prev = pn ∧ d.event = e ∧ d.fresh = true) := fun hx => e2 hx.2.1
            obtain ⟨de, hde⟩ : ∃ de, d.event = de := ⟨_, rfl⟩
            rw [hde] at q2 x2
            clear e1 e2 hde
            have hK := Lib.hid (noKey_some hk.out ho hnk)
            clear hnk hcc X hk ho hkn hb
            go_wp2_with fail
            go_roundw
            case rel => first | exact ⟨k, by omega, rfl, by rw [hF.out], hK, Lib.hid (HB1.out _)⟩ | ((repeat apply Exists.intro); exact ⟨⟨k, by omega, rfl, by rw [hF.out], hK, Lib.hid (HB1.out _)⟩, rfl⟩)
            case measure => simp [intOf]
        · have x1 : (d.prev == pn) = false := by rw [beq_eq_false_iff_ne]; exact e1
          have hnk : ¬ (d.prev = pn ∧ d.event = e ∧ d.fresh = true) := fun hx => e1 hx.1
          obtain ⟨dp, hdp⟩ : ∃ dp, d.prev = dp := ⟨_, rfl⟩
          rw [hdp] at q1 x1
          clear e1 hdp
          have hK := Lib.hid (noKey_some hk.out ho hnk)
          clear hnk hcc X hk ho hkn hb
          go_wp2_with fail
          go_roundw
          case rel => first | exact ⟨k, by omega, rfl, by rw [hF.out], hK, Lib.hid (HB1.out _)⟩ | ((repeat apply Exists.intro); exact ⟨⟨k, by omega, rfl, by rw [hF.out], hK, Lib.hid (HB1.out _)⟩, rfl⟩)
          case measure => simp [intOf]
end
end Go.Proofs.Ytcgapjicbgfpjaa

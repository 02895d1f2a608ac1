/-
  The walk of the document's Add. Printed by XRefa.py.
-/
import Derived.Deep.DrawnRows
import Derived.Test.YtcgapjicbgfpjaaRefm
namespace Go.Proofs.Ytcgapjicbgfpjaa
set_option linter.unusedVariables false
set_option linter.unusedSimpArgs false
open Go.RowKit Go.Maps

attribute [local go_sem ↓] Go.wp_at_zero Go.wp_at_succ
theorem info6 : (Try.prog.info? 47).map (fun i => (i.zero, i.size, i.bytes)) = some (some (.agg #[.bool false, .int .i64 0, .int .i64 0, .bool false, .int .i64 0, .int .i64 0]), 6, 48) := by kernel_rfl
theorem zero6 (w : World) : (zeroValue 47).run Try.prog w = .ok (.agg #[.bool false, .int .i64 0, .int .i64 0, .bool false, .int .i64 0, .int .i64 0]) w := by kernel_rfl
theorem src6 {W : World} {b : Nat} (h : Blk W b 47 #[.bool false, .int .i64 0, .int .i64 0, .bool false, .int .i64 0, .int .i64 0]) : Reads W (b + 1) 6 (some ⟨b, 0, none⟩) 1 (refL none) := by
  refine ⟨rfl, fun _ => ⟨_, rfl, Nat.lt_succ_self _, fun j u hu => ?_⟩⟩
  rw [Go.WideShapes.add_plain, Nat.zero_add, h.cell j]
  rw [← hu]
  show ((refL none).toArray)[j]? = _
  rw [List.getElem?_toArray]
theorem one6 : ∀ u ∈ refL none, u.oneCell' = true := by
  intro u hu
  simp only [refL, List.mem_cons, List.not_mem_nil, or_false] at hu
  rcases hu with rfl | rfl | rfl | rfl | rfl | rfl <;> rfl
section
variable {w : World} {base B : Nat} {S : St} {m : Int} {v : Value}
theorem ref_add_neg (B : Nat) (w : World) (p e : Int) (f : Bool) (he : e < 0) :
    Calls Try.prog 17 #[.pointer (some ⟨B, 0, none⟩), .int .i64 p, .int .i64 e, .bool f] w fun e w' => e = .returned (.tuple #[.int .i64 (-1), .bool false]) ∧ w = w' := by
  go_enter Try.func17, Try.ntmps17
  go_wp2_with fail
  go_ret2
  exact ⟨rfl, rfl⟩
theorem ref_add_no (h : RefX w base B S m v) (hS : S.length ≤ 1000000) (p e : Int) (f : Bool) (he : 0 ≤ e) (hp : (p == -1) = false) (hh : hasB S p = false) :
    Calls Try.prog 17 #[.pointer (some ⟨B, 0, none⟩), .int .i64 p, .int .i64 e, .bool f] w fun e w' => e = .returned (.tuple #[.int .i64 (-1), .bool false]) ∧ w = w' := by
  have C := Lib.hid (ref_has h p hS)
  rw [hh] at C
  have hp2 : (p != -1) = true := by unfold bne; rw [hp]; rfl
  clear h hh
  go_enter Try.func17, Try.ntmps17
  go_wp2_with fail
  refine C.out.mono ?_
  rintro e w' ⟨rfl, rfl⟩
  go_wp2_with fail
  go_ret2
  exact ⟨rfl, rfl⟩
theorem addG_found {p e : Int} {f : Bool} {i : Nat} {c : Cl} (he : 0 ≤ e) (hh : ¬ (p ≠ -1 ∧ hasB S p = false)) (hi : idx S p e (keyF p f) = some i) (hc : at? S i = some c) : addS S m p e f = (S.set i (some { c with own := c.own + 1 }), (i : Int), true) := by
  unfold addS
  rw [if_neg (by omega), if_neg hh, hi]
  simp only [hc]
theorem addG_full {p e : Int} {f : Bool} (he : 0 ≤ e) (hh : ¬ (p ≠ -1 ∧ hasB S p = false)) (hi : idx S p e (keyF p f) = none) (hm : m ≤ (cnt S : Int)) : addS S m p e f = (S, -1, false) := by
  unfold addS
  rw [if_neg (by omega), if_neg hh, hi]
  simp only
  rw [if_pos hm]
theorem addG_root {e : Int} {f : Bool} (he : 0 ≤ e) (hi : idx S (-1) e true = none) (hm : ¬ m ≤ (cnt S : Int)) : addS S m (-1) e f = ((putS S ⟨-1, e, true, 1, 0⟩).1, ((putS S ⟨-1, e, true, 1, 0⟩).2 : Int), true) := by
  have ek : keyF (-1) f = true := by unfold keyF; simp
  unfold addS
  rw [if_neg (by omega), if_neg (by simp), ek, hi]
  simp only
  rw [if_neg hm, if_pos True.intro]
theorem addG_behind {e : Int} {f : Bool} {n : Nat} {b : Cl} (he : 0 ≤ e) (hb : at? S n = some b) (hi : idx S n e f = none) (hm : ¬ m ≤ (cnt S : Int)) : addS S m n e f = ((putS S ⟨n, e, f, 1, 0⟩).1.set n (some { b with behind := b.behind + 1 }), ((putS S ⟨n, e, f, 1, 0⟩).2 : Int), true) := by
  have ek : keyF (n : Int) f = f := by unfold keyF; rw [show ((n : Int) == -1) = false by rw [beq_eq_false_iff_ne]; omega]; simp
  unfold addS
  rw [if_neg (by omega), if_neg (by rw [has_nat, hb]; simp), ek, hi]
  simp only
  rw [if_neg hm, if_neg (by omega)]
  simp only [Int.toNat_natCast, hb]
set_option maxRecDepth 100000 in
set_option maxHeartbeats 4000000 in
theorem ref_add_root_false (h : RefX w base B S m v) (hS : S.length ≤ 1000000) (hu : Uniq S) (hbd : Bnd S) (e : Int) (he : 0 ≤ e) :
    Calls Try.prog 17 #[.pointer (some ⟨B, 0, none⟩), .int .i64 (-1), .int .i64 e, .bool false] w (RefAddPost w base B v m (addS S m (-1) e false).1 (addS S m (-1) e false).2.1 (addS S m (-1) e false).2.2) := by
  have hh : ¬ ((((-1) : Int)) ≠ -1 ∧ hasB S (-1) = false) := by simp
  have ek : keyF (-1) false = true := by unfold keyF; simp
  have k0 := h.k0
  obtain ⟨A, c, rfl, hc1, hc2⟩ := h.slice
  unfold maxLen at hc2
  obtain ⟨n, hn⟩ : ∃ n, S.length = n := ⟨_, rfl⟩
  have HX := Lib.hid (fun W (hb : Below w.heap.size w W) => h.stay hb)
  rw [hn] at HX k0 hc1 ⊢
  have HN := Lib.hid hn
  have HU := Lib.hid hu
  have HBD := Lib.hid hbd
  have HH := Lib.hid hh
  have EK := Lib.hid ek
  have G0 := Lib.hid (Below.refl w.heap.size w)
  have N0 := Lib.hid (noKey_end S (-1) e true)
  have F0 := Lib.hid (free_end S)
  rw [hn] at N0 F0 hS
  have hnn : (0 : Int) ≤ (n : Int) := by omega
  have s0 : IntKind.i64.wrap ((n : Int) - 1) = (n : Int) - 1 := by rw [IntKind.wrap_i64]; omega
  clear h hn hu hbd hh ek
  go_enter Try.func17, Try.ntmps17
  go_wp2_with fail
  go_loopw [10, 11] (fun fr i wr => ∃ j : Nat, j ≤ n ∧ i = .int .i64 ((j : Int) - 1) ∧ fr = .int .i64 (freeFrom S j : Nat) ∧ Hid (NoKey S (-1) e true j) ∧ Hid (Below w.heap.size w wr)) (fun _ i _ => (intOf i + 1).toNat)
  case atStart => exact ⟨n, Nat.le_refl _, rfl, by rw [F0.out], N0, G0⟩
  case round =>
    clear G0 N0 F0 k0
    obtain ⟨j, hj, rfl, rfl, hk, hb⟩ := hrel
    have X := Lib.hid (HX.out wr hb.out)
    have k0 := X.out.k0
    rcases Nat.eq_zero_or_pos j with h0 | h0
    · rw [h0] at hk ⊢
      rw [show ((0 : Nat) : Int) - 1 = -1 by decide]
      have hfl := free_le S 0 (Nat.zero_le _)
      rw [HN.out] at hfl
      have HFP := Lib.hid (free_put S ⟨(-1), e, true, 1, 0⟩)
      obtain ⟨fr, hfr⟩ : ∃ fr, freeFrom S 0 = fr := ⟨_, rfl⟩
      rw [hfr] at HFP hfl ⊢
      have HI := Lib.hid (noKey_zero hk.out)
      have k1 := X.out.k1
      clear hj h0 hk hfr
      go_wp2_with fail
      refine wp_region_any (by kernel_rfl) ?_
      change wpAny _ _ _ _ _ _ _ (World.drew _)
      refine wpAny_take (i := 0) (v := ?_) rfl (by kernel_rfl) (by kernel_rfl) (by kernel_rfl) (fun _ _ _ h => h) (Or.inl ⟨by kernel_rfl, ?_⟩) ?_
      rotate_left
      · (intro w'; go_simp; try with_reducible rfl)
      refine wpAny_take (i := 2) (v := ?_) rfl (by kernel_rfl) (by kernel_rfl) (by kernel_rfl) (fun _ _ _ h => h) (Or.inl ⟨by kernel_rfl, ?_⟩) ?_
      rotate_left
      · (intro w'; go_simp; try with_reducible rfl)
      refine wpAny_take (i := 3) (v := ?_) rfl (by kernel_rfl) (by kernel_rfl) (by kernel_rfl) (fun _ _ _ h => h) (Or.inl ⟨by kernel_rfl, ?_⟩) ?_
      rotate_left
      · (intro w'; go_simp; try with_reducible rfl)
      refine wpAny_take (i := 4) (v := ?_) rfl (by kernel_rfl) (by kernel_rfl) (by kernel_rfl) (fun _ _ _ h => h) (Or.inl ⟨by kernel_rfl, ?_⟩) ?_
      rotate_left
      · (intro w'; go_simp; try with_reducible rfl)
      refine wpAny_ready (rs := [1, 5]) (by kernel_rfl) (by simp) ?_
      refine AllReady.cons rfl (fun K hK => ?_) ?_
      · skip
        go_simp
        go_wp2_with (go_at_call 21; refine (ref_used (HX.out _ (below_drewN hb.out _)) (by rw [HN.out]; exact hS)).mono ?_; rintro ee w5 ⟨rfl, hb5⟩)
        have hb6 := Lib.hid ((below_drewN hb.out 1).trans (hb5.mono hb.out.size))
        have k1' := (HX.out _ hb6.out).k1
        have HNW := Lib.hid (HX.out _ hb6.out)
        refine wpAny_ready (rs := [5]) (by kernel_rfl) (by simp) ?_
        refine AllReady.cons rfl (fun K hK => ?_) AllReady.nil
        go_simp
        (refine hK _ _ ?_; clear hK K)
        refine wpAny_take (i := 6) (v := ?_) rfl (by kernel_rfl) (by kernel_rfl) (by kernel_rfl) (fun _ _ _ h => h) (Or.inl ⟨by kernel_rfl, ?_⟩) ?_
        rotate_left
        · (intro w'; go_simp; try with_reducible rfl)
        refine wpAny_done (by kernel_rfl) ?_ _
        go_simp
        clear k1 k1'
        have hcn := cnt_le S
        rw [HN.out] at hcn
        by_cases hm : m ≤ (cnt S : Int)
        · have HA := Lib.hid (addG_full he HH.out (by rw [EK.out]; exact HI.out) hm)
          go_wp2_with fail
          go_ret2
          rw [HA.out]
          exact ⟨rfl, _, HNW.out, Moved.of_below hb6.out _ _⟩
        · have hm' : (cnt S : Int) < m := by omega
          have k0' := HNW.out.k0
          have HA := Lib.hid (addG_root (f := false) he HI.out hm)
          by_cases hfn : fr = n
          · have e1 : ((fr : Int) == (n : Int)) = true := by rw [hfn]; simp
            have hPU := Lib.hid (HNW.out.push (.cells #[.bool false, .int .i64 0, .int .i64 0, .bool false, .int .i64 0, .int .i64 0] 47))
            rw [HN.out] at hPU
            have HP1 := Lib.hid (HFP.out.2.2 (by rw [HN.out]; exact hfn))
            have HEQN := Lib.hid hfn
            obtain ⟨i6, hi6', hz6'⟩ : ∃ i6, Try.prog.info? 47 = some i6 ∧ i6.zero = some (.agg #[.bool false, .int .i64 0, .int .i64 0, .bool false, .int .i64 0, .int .i64 0]) ∧ i6.size = 6 ∧ i6.bytes = 48 := by
              obtain ⟨i6, h1, h2⟩ := Option.map_eq_some_iff.1 info6
              simp only [Prod.mk.injEq] at h2
              exact ⟨i6, h1, h2⟩
            obtain ⟨hz6, hs6, hb6'⟩ := hz6'
            have hz0 := zero6
            clear hfn hcn
            go_wp2_with (at_builtin; refine wpList_append_any _ rfl (.tmp 106) (.tmp 108) 48 rfl base 47 i6 _ 6 48 Try.underlying48 hi6' hz6 hs6 hb6' rfl (by omega) _ n (S.flatMap refL) rfl hPU.out.1 (w5.heap.size + 1) (some ⟨w5.heap.size, 0, none⟩) 1 1 (refL none) rfl (src6 (Blk.new _ _ _)) one6 ?c1 ?c2 hPU.out.2.1 ?_; rotate_left 2; intro v4 w4 ho hg hat; obtain ⟨g4, c4, rfl, hc41, hc42, kB, fB, hR4, hM4, hgB, hz4, q0, q1, q2, q3, q4, q5, hbb⟩ := hPU.out.2.2 v4 w4 ho hg hat; rw [← HEQN.out] at q0 q1 q2 q3 q4 q5; have hgB' := hgB.symm; have f0 := hz4 (fr * 6); have f1 := hz4 (fr * 6 + 1); have f2 := hz4 (fr * 6 + 2); have f3 := hz4 (fr * 6 + 3); have f4 := hz4 (fr * 6 + 4); have f5 := hz4 (fr * 6 + 5); have HR4 := Lib.hid hR4; have HM4 := Lib.hid hM4; have b1 : (0 : Int) ≤ (fr : Int) := (by omega); have b2 : (fr : Int) < ((n + 1 : Nat) : Int) := (by rw [HEQN.out]; omega); unfold maxLen at hc42; clear ho hg hat hR4 hM4 hz4 hbb)
            case c1 => unfold maxLen; omega
            case c2 => omega
            go_ret2
            have hl : (S ++ [none]).length = n + 1 := by simp [HN.out]
            have h5 := HR4.out
            rw [← hl] at h5
            obtain ⟨y1, y2⟩ := h5.setAll (i := fr) (by rw [hl, HEQN.out]; omega) (o := some ⟨(-1), e, true, 1, 0⟩) rfl
            have hfs : fr = S.length := by rw [HN.out]; exact HEQN.out
            have hP := HP1.out
            rw [← hfs] at hP
            rw [HA.out, HFP.out.1, hP]
            rw [hl] at y1 y2
            exact ⟨rfl, _, y1, (Moved.of_below hb6.out _ _).trans (HM4.out.trans y2)⟩
          · have e1 : ((fr : Int) == (n : Int)) = false := by rw [beq_eq_false_iff_ne]; omega
            have hfl' : fr < S.length := by rw [HN.out]; omega
            have HP1 := Lib.hid (HFP.out.2.1 hfl')
            obtain ⟨g6, cp, hv, hcp1, hcp2, hfz, ⟨a0, a1, a2, a3, a4, a5, q0, q1, q2, q3, q4, q5⟩, hR, hM⟩ := HNW.out.new_ (at_cases S hfl') ⟨(-1), e, true, 1, 0⟩
            injection hv with hv1 hv2 hv3
            subst hv1
            have f0 := hfz (fr * 6)
            have f1 := hfz (fr * 6 + 1)
            have f2 := hfz (fr * 6 + 2)
            have f3 := hfz (fr * 6 + 3)
            have f4 := hfz (fr * 6 + 4)
            have f5 := hfz (fr * 6 + 5)
            have b1 : (0 : Int) ≤ (fr : Int) := by omega
            have b2 : (fr : Int) < (n : Int) := by omega
            have HR := Lib.hid hR
            have HM := Lib.hid ((Moved.of_below hb6.out _ _).trans hM)
            clear hfz hR hM hv2 hv3 hfn hfl'
            go_wp2_with fail
            go_ret2
            rw [HA.out, HP1.out, HFP.out.1]
            exact ⟨rfl, _, HR.out, HM.out⟩
      refine AllReady.cons rfl (fun K hK => ?_) AllReady.nil
      go_simp
      (refine hK _ _ ?_; clear hK K)
      refine wpAny_ready (rs := [1]) (by kernel_rfl) (by simp) ?_
      refine AllReady.cons rfl (fun K hK => ?_) AllReady.nil
      go_simp
      go_wp2_with (go_at_call 21; refine (ref_used (HX.out _ (below_drewN hb.out _)) (by rw [HN.out]; exact hS)).mono ?_; rintro ee w5 ⟨rfl, hb5⟩)
      have hb6 := Lib.hid ((below_drewN hb.out 1).trans (hb5.mono hb.out.size))
      have k1' := (HX.out _ hb6.out).k1
      have HNW := Lib.hid (HX.out _ hb6.out)
      refine wpAny_take (i := 6) (v := ?_) rfl (by kernel_rfl) (by kernel_rfl) (by kernel_rfl) (fun _ _ _ h => h) (Or.inl ⟨by kernel_rfl, ?_⟩) ?_
      rotate_left
      · (intro w'; go_simp; try with_reducible rfl)
      refine wpAny_done (by kernel_rfl) ?_ _
      go_simp
      clear k1 k1'
      have hcn := cnt_le S
      rw [HN.out] at hcn
      by_cases hm : m ≤ (cnt S : Int)
      · have HA := Lib.hid (addG_full he HH.out (by rw [EK.out]; exact HI.out) hm)
        go_wp2_with fail
        go_ret2
        rw [HA.out]
        exact ⟨rfl, _, HNW.out, Moved.of_below hb6.out _ _⟩
      · have hm' : (cnt S : Int) < m := by omega
        have k0' := HNW.out.k0
        have HA := Lib.hid (addG_root (f := false) he HI.out hm)
        by_cases hfn : fr = n
        · have e1 : ((fr : Int) == (n : Int)) = true := by rw [hfn]; simp
          have hPU := Lib.hid (HNW.out.push (.cells #[.bool false, .int .i64 0, .int .i64 0, .bool false, .int .i64 0, .int .i64 0] 47))
          rw [HN.out] at hPU
          have HP1 := Lib.hid (HFP.out.2.2 (by rw [HN.out]; exact hfn))
          have HEQN := Lib.hid hfn
          obtain ⟨i6, hi6', hz6'⟩ : ∃ i6, Try.prog.info? 47 = some i6 ∧ i6.zero = some (.agg #[.bool false, .int .i64 0, .int .i64 0, .bool false, .int .i64 0, .int .i64 0]) ∧ i6.size = 6 ∧ i6.bytes = 48 := by
            obtain ⟨i6, h1, h2⟩ := Option.map_eq_some_iff.1 info6
            simp only [Prod.mk.injEq] at h2
            exact ⟨i6, h1, h2⟩
          obtain ⟨hz6, hs6, hb6'⟩ := hz6'
          have hz0 := zero6
          clear hfn hcn
          go_wp2_with (at_builtin; refine wpList_append_any _ rfl (.tmp 106) (.tmp 108) 48 rfl base 47 i6 _ 6 48 Try.underlying48 hi6' hz6 hs6 hb6' rfl (by omega) _ n (S.flatMap refL) rfl hPU.out.1 (w5.heap.size + 1) (some ⟨w5.heap.size, 0, none⟩) 1 1 (refL none) rfl (src6 (Blk.new _ _ _)) one6 ?c1 ?c2 hPU.out.2.1 ?_; rotate_left 2; intro v4 w4 ho hg hat; obtain ⟨g4, c4, rfl, hc41, hc42, kB, fB, hR4, hM4, hgB, hz4, q0, q1, q2, q3, q4, q5, hbb⟩ := hPU.out.2.2 v4 w4 ho hg hat; rw [← HEQN.out] at q0 q1 q2 q3 q4 q5; have hgB' := hgB.symm; have f0 := hz4 (fr * 6); have f1 := hz4 (fr * 6 + 1); have f2 := hz4 (fr * 6 + 2); have f3 := hz4 (fr * 6 + 3); have f4 := hz4 (fr * 6 + 4); have f5 := hz4 (fr * 6 + 5); have HR4 := Lib.hid hR4; have HM4 := Lib.hid hM4; have b1 : (0 : Int) ≤ (fr : Int) := (by omega); have b2 : (fr : Int) < ((n + 1 : Nat) : Int) := (by rw [HEQN.out]; omega); unfold maxLen at hc42; clear ho hg hat hR4 hM4 hz4 hbb)
          case c1 => unfold maxLen; omega
          case c2 => omega
          go_ret2
          have hl : (S ++ [none]).length = n + 1 := by simp [HN.out]
          have h5 := HR4.out
          rw [← hl] at h5
          obtain ⟨y1, y2⟩ := h5.setAll (i := fr) (by rw [hl, HEQN.out]; omega) (o := some ⟨(-1), e, true, 1, 0⟩) rfl
          have hfs : fr = S.length := by rw [HN.out]; exact HEQN.out
          have hP := HP1.out
          rw [← hfs] at hP
          rw [HA.out, HFP.out.1, hP]
          rw [hl] at y1 y2
          exact ⟨rfl, _, y1, (Moved.of_below hb6.out _ _).trans (HM4.out.trans y2)⟩
        · have e1 : ((fr : Int) == (n : Int)) = false := by rw [beq_eq_false_iff_ne]; omega
          have hfl' : fr < S.length := by rw [HN.out]; omega
          have HP1 := Lib.hid (HFP.out.2.1 hfl')
          obtain ⟨g6, cp, hv, hcp1, hcp2, hfz, ⟨a0, a1, a2, a3, a4, a5, q0, q1, q2, q3, q4, q5⟩, hR, hM⟩ := HNW.out.new_ (at_cases S hfl') ⟨(-1), e, true, 1, 0⟩
          injection hv with hv1 hv2 hv3
          subst hv1
          have f0 := hfz (fr * 6)
          have f1 := hfz (fr * 6 + 1)
          have f2 := hfz (fr * 6 + 2)
          have f3 := hfz (fr * 6 + 3)
          have f4 := hfz (fr * 6 + 4)
          have f5 := hfz (fr * 6 + 5)
          have b1 : (0 : Int) ≤ (fr : Int) := by omega
          have b2 : (fr : Int) < (n : Int) := by omega
          have HR := Lib.hid hR
          have HM := Lib.hid ((Moved.of_below hb6.out _ _).trans hM)
          clear hfz hR hM hv2 hv3 hfn hfl'
          go_wp2_with fail
          go_ret2
          rw [HA.out, HP1.out, HFP.out.1]
          exact ⟨rfl, _, HR.out, HM.out⟩
    · obtain ⟨k, rfl⟩ : ∃ k, j = k + 1 := ⟨j - 1, by omega⟩
      rw [show ((k + 1 : Nat) : Int) - 1 = (k : Int) by omega]
      have hkn : k < S.length := by rw [HN.out]; omega
      have hcc := at_cases S hkn
      have b1 : (0 : Int) ≤ (k : Int) := by omega
      have b2 : (k : Int) < (n : Int) := by omega
      have s1 : IntKind.i64.wrap ((k : Int) - 1) = (k : Int) - 1 := by rw [IntKind.wrap_i64]; omega
      have HB1 := Lib.hid (fun o => hb.out.alloc hb.out.size o)
      cases ho : at? S k with
      | none =>
        rw [ho] at hcc
        obtain ⟨g, c', hv, _, _, _, _, _, q0, q1, q2, q3, q4, q5⟩ := X.out.six hcc rfl
        injection hv with hv1 hv2 hv3
        subst hv1
        have hK := Lib.hid (noKey_none hk.out ho)
        have hF := Lib.hid (free_here hkn ho)
        clear hcc hv2 hv3 X hk ho hkn hb
        go_wp2_with fail
        go_roundw
        case rel => first | exact ⟨k, by omega, rfl, by rw [hF.out], hK, Lib.hid (HB1.out _)⟩ | ((repeat apply Exists.intro); exact ⟨⟨k, by omega, rfl, by rw [hF.out], hK, Lib.hid (HB1.out _)⟩, rfl⟩)
        case measure => simp [intOf]
      | some d =>
        rw [ho] at hcc
        obtain ⟨g, c', hv, hg1, hg2, _, _, hfz, q0, q1, q2, q3, q4, q5⟩ := X.out.six hcc rfl
        injection hv with hv1 hv2 hv3
        subst hv1
        have f4 := hfz (k * 6 + 4)
        have hF := Lib.hid (free_next ho)
        clear hv2 hv3 hfz
        by_cases e1 : d.prev = (-1)
        · rw [e1] at q1
          by_cases e2 : d.event = e
          · rw [e2] at q2
            by_cases e3 : d.fresh = true
            · rw [e3] at q3
              have hid := idx_of HU.out ho
              rw [e1, e2, e3] at hid
              have HA : Hid (addS S m (-1) e false = (S.set k (some { d with own := d.own + 1 }), (k : Int), true)) := Lib.hid (addG_found he HH.out (by rw [EK.out]; exact hid) ho)
              have hbo := HBD.out k d ho
              have s2 : IntKind.i64.wrap (d.own + 1) = d.own + 1 := by rw [IntKind.wrap_i64]; omega
              have HE : Hid (∀ o, RefX ((wr.setCell ⟨g, k * 6 + 4, none⟩ (.int .i64 (d.own + 1))).alloc o) base B (S.set k (some { d with own := d.own + 1 })) m (.slice (some ⟨g, 0, none⟩) n c) ∧ Moved w ((wr.setCell ⟨g, k * 6 + 4, none⟩ (.int .i64 (d.own + 1))).alloc o) B (.slice (some ⟨g, 0, none⟩) n c) (.slice (some ⟨g, 0, none⟩) n c)) := Lib.hid fun o => by
                have h1 := X.out
                rw [← HN.out] at h1 ⊢
                have hb9 := fun W : World => (Below.refl W.heap.size W).alloc (Nat.le_refl _) o
                exact ⟨(h1.set1 (o' := some { d with own := d.own + 1 }) hcc 4 (.int .i64 (d.own + 1)) (by omega) rfl).stay (hb9 _), ((Moved.of_below hb.out _ _).trans (Moved.setRow rfl _ _)).trans (Moved.of_below (hb9 _) _ _)⟩
              have hBl := X.out.blk.lt
              clear hcc X hk ho hkn hb hid e1 e2 e3 hbo
              go_wp2_with fail
              go_ret2
              rw [HA.out]
              exact ⟨rfl, _, HE.out _⟩
            · have x3 : (d.fresh == true) = false := by rw [beq_eq_false_iff_ne]; exact e3
              have hnk : ¬ (d.prev = (-1) ∧ d.event = e ∧ d.fresh = true) := fun hx => e3 hx.2.2
              obtain ⟨df, hdf⟩ : ∃ df, d.fresh = df := ⟨_, rfl⟩
              rw [hdf] at q3 x3
              clear e1 e2 e3 hdf
              have hK := Lib.hid (noKey_some hk.out ho hnk)
              clear hnk hcc X hk ho hkn hb
              go_wp2_with fail
              go_roundw
              case rel => first | exact ⟨k, by omega, rfl, by rw [hF.out], hK, Lib.hid (HB1.out _)⟩ | ((repeat apply Exists.intro); exact ⟨⟨k, by omega, rfl, by rw [hF.out], hK, Lib.hid (HB1.out _)⟩, rfl⟩)
              case measure => simp [intOf]
          · have x2 : (d.event == e) = false := by rw [beq_eq_false_iff_ne]; exact e2
            have hnk : ¬ (d.prev = (-1) ∧ d.event = e ∧ d.fresh = true) := fun hx => e2 hx.2.1
            obtain ⟨de, hde⟩ : ∃ de, d.event = de := ⟨_, rfl⟩
            rw [hde] at q2 x2
            clear e1 e2 hde
            have hK := Lib.hid (noKey_some hk.out ho hnk)
            clear hnk hcc X hk ho hkn hb
            go_wp2_with fail
            go_roundw
            case rel => first | exact ⟨k, by omega, rfl, by rw [hF.out], hK, Lib.hid (HB1.out _)⟩ | ((repeat apply Exists.intro); exact ⟨⟨k, by omega, rfl, by rw [hF.out], hK, Lib.hid (HB1.out _)⟩, rfl⟩)
            case measure => simp [intOf]
        · have x1 : (d.prev == (-1)) = false := by rw [beq_eq_false_iff_ne]; exact e1
          have hnk : ¬ (d.prev = (-1) ∧ d.event = e ∧ d.fresh = true) := fun hx => e1 hx.1
          obtain ⟨dp, hdp⟩ : ∃ dp, d.prev = dp := ⟨_, rfl⟩
          rw [hdp] at q1 x1
          clear e1 hdp
          have hK := Lib.hid (noKey_some hk.out ho hnk)
          clear hnk hcc X hk ho hkn hb
          go_wp2_with fail
          go_roundw
          case rel => first | exact ⟨k, by omega, rfl, by rw [hF.out], hK, Lib.hid (HB1.out _)⟩ | ((repeat apply Exists.intro); exact ⟨⟨k, by omega, rfl, by rw [hF.out], hK, Lib.hid (HB1.out _)⟩, rfl⟩)
          case measure => simp [intOf]
set_option maxRecDepth 100000 in
set_option maxHeartbeats 4000000 in
theorem ref_add_root_true (h : RefX w base B S m v) (hS : S.length ≤ 1000000) (hu : Uniq S) (hbd : Bnd S) (e : Int) (he : 0 ≤ e) :
    Calls Try.prog 17 #[.pointer (some ⟨B, 0, none⟩), .int .i64 (-1), .int .i64 e, .bool true] w (RefAddPost w base B v m (addS S m (-1) e true).1 (addS S m (-1) e true).2.1 (addS S m (-1) e true).2.2) := by
  have hh : ¬ ((((-1) : Int)) ≠ -1 ∧ hasB S (-1) = false) := by simp
  have ek : keyF (-1) true = true := by unfold keyF; simp
  have k0 := h.k0
  obtain ⟨A, c, rfl, hc1, hc2⟩ := h.slice
  unfold maxLen at hc2
  obtain ⟨n, hn⟩ : ∃ n, S.length = n := ⟨_, rfl⟩
  have HX := Lib.hid (fun W (hb : Below w.heap.size w W) => h.stay hb)
  rw [hn] at HX k0 hc1 ⊢
  have HN := Lib.hid hn
  have HU := Lib.hid hu
  have HBD := Lib.hid hbd
  have HH := Lib.hid hh
  have EK := Lib.hid ek
  have G0 := Lib.hid (Below.refl w.heap.size w)
  have N0 := Lib.hid (noKey_end S (-1) e true)
  have F0 := Lib.hid (free_end S)
  rw [hn] at N0 F0 hS
  have hnn : (0 : Int) ≤ (n : Int) := by omega
  have s0 : IntKind.i64.wrap ((n : Int) - 1) = (n : Int) - 1 := by rw [IntKind.wrap_i64]; omega
  clear h hn hu hbd hh ek
  go_enter Try.func17, Try.ntmps17
  go_wp2_with fail
  go_loopw [10, 11] (fun fr i wr => ∃ j : Nat, j ≤ n ∧ i = .int .i64 ((j : Int) - 1) ∧ fr = .int .i64 (freeFrom S j : Nat) ∧ Hid (NoKey S (-1) e true j) ∧ Hid (Below w.heap.size w wr)) (fun _ i _ => (intOf i + 1).toNat)
  case atStart => exact ⟨n, Nat.le_refl _, rfl, by rw [F0.out], N0, G0⟩
  case round =>
    clear G0 N0 F0 k0
    obtain ⟨j, hj, rfl, rfl, hk, hb⟩ := hrel
    have X := Lib.hid (HX.out wr hb.out)
    have k0 := X.out.k0
    rcases Nat.eq_zero_or_pos j with h0 | h0
    · rw [h0] at hk ⊢
      rw [show ((0 : Nat) : Int) - 1 = -1 by decide]
      have hfl := free_le S 0 (Nat.zero_le _)
      rw [HN.out] at hfl
      have HFP := Lib.hid (free_put S ⟨(-1), e, true, 1, 0⟩)
      obtain ⟨fr, hfr⟩ : ∃ fr, freeFrom S 0 = fr := ⟨_, rfl⟩
      rw [hfr] at HFP hfl ⊢
      have HI := Lib.hid (noKey_zero hk.out)
      have k1 := X.out.k1
      clear hj h0 hk hfr
      go_wp2_with fail
      refine wp_region_any (by kernel_rfl) ?_
      change wpAny _ _ _ _ _ _ _ (World.drew _)
      refine wpAny_take (i := 0) (v := ?_) rfl (by kernel_rfl) (by kernel_rfl) (by kernel_rfl) (fun _ _ _ h => h) (Or.inl ⟨by kernel_rfl, ?_⟩) ?_
      rotate_left
      · (intro w'; go_simp; try with_reducible rfl)
      refine wpAny_take (i := 2) (v := ?_) rfl (by kernel_rfl) (by kernel_rfl) (by kernel_rfl) (fun _ _ _ h => h) (Or.inl ⟨by kernel_rfl, ?_⟩) ?_
      rotate_left
      · (intro w'; go_simp; try with_reducible rfl)
      refine wpAny_take (i := 3) (v := ?_) rfl (by kernel_rfl) (by kernel_rfl) (by kernel_rfl) (fun _ _ _ h => h) (Or.inl ⟨by kernel_rfl, ?_⟩) ?_
      rotate_left
      · (intro w'; go_simp; try with_reducible rfl)
      refine wpAny_take (i := 4) (v := ?_) rfl (by kernel_rfl) (by kernel_rfl) (by kernel_rfl) (fun _ _ _ h => h) (Or.inl ⟨by kernel_rfl, ?_⟩) ?_
      rotate_left
      · (intro w'; go_simp; try with_reducible rfl)
      refine wpAny_ready (rs := [1, 5]) (by kernel_rfl) (by simp) ?_
      refine AllReady.cons rfl (fun K hK => ?_) ?_
      · skip
        go_simp
        go_wp2_with (go_at_call 21; refine (ref_used (HX.out _ (below_drewN hb.out _)) (by rw [HN.out]; exact hS)).mono ?_; rintro ee w5 ⟨rfl, hb5⟩)
        have hb6 := Lib.hid ((below_drewN hb.out 1).trans (hb5.mono hb.out.size))
        have k1' := (HX.out _ hb6.out).k1
        have HNW := Lib.hid (HX.out _ hb6.out)
        refine wpAny_ready (rs := [5]) (by kernel_rfl) (by simp) ?_
        refine AllReady.cons rfl (fun K hK => ?_) AllReady.nil
        go_simp
        (refine hK _ _ ?_; clear hK K)
        refine wpAny_take (i := 6) (v := ?_) rfl (by kernel_rfl) (by kernel_rfl) (by kernel_rfl) (fun _ _ _ h => h) (Or.inl ⟨by kernel_rfl, ?_⟩) ?_
        rotate_left
        · (intro w'; go_simp; try with_reducible rfl)
        refine wpAny_done (by kernel_rfl) ?_ _
        go_simp
        clear k1 k1'
        have hcn := cnt_le S
        rw [HN.out] at hcn
        by_cases hm : m ≤ (cnt S : Int)
        · have HA := Lib.hid (addG_full he HH.out (by rw [EK.out]; exact HI.out) hm)
          go_wp2_with fail
          go_ret2
          rw [HA.out]
          exact ⟨rfl, _, HNW.out, Moved.of_below hb6.out _ _⟩
        · have hm' : (cnt S : Int) < m := by omega
          have k0' := HNW.out.k0
          have HA := Lib.hid (addG_root (f := true) he HI.out hm)
          by_cases hfn : fr = n
          · have e1 : ((fr : Int) == (n : Int)) = true := by rw [hfn]; simp
            have hPU := Lib.hid (HNW.out.push (.cells #[.bool false, .int .i64 0, .int .i64 0, .bool false, .int .i64 0, .int .i64 0] 47))
            rw [HN.out] at hPU
            have HP1 := Lib.hid (HFP.out.2.2 (by rw [HN.out]; exact hfn))
            have HEQN := Lib.hid hfn
            obtain ⟨i6, hi6', hz6'⟩ : ∃ i6, Try.prog.info? 47 = some i6 ∧ i6.zero = some (.agg #[.bool false, .int .i64 0, .int .i64 0, .bool false, .int .i64 0, .int .i64 0]) ∧ i6.size = 6 ∧ i6.bytes = 48 := by
              obtain ⟨i6, h1, h2⟩ := Option.map_eq_some_iff.1 info6
              simp only [Prod.mk.injEq] at h2
              exact ⟨i6, h1, h2⟩
            obtain ⟨hz6, hs6, hb6'⟩ := hz6'
            have hz0 := zero6
            clear hfn hcn
            go_wp2_with (at_builtin; refine wpList_append_any _ rfl (.tmp 106) (.tmp 108) 48 rfl base 47 i6 _ 6 48 Try.underlying48 hi6' hz6 hs6 hb6' rfl (by omega) _ n (S.flatMap refL) rfl hPU.out.1 (w5.heap.size + 1) (some ⟨w5.heap.size, 0, none⟩) 1 1 (refL none) rfl (src6 (Blk.new _ _ _)) one6 ?c1 ?c2 hPU.out.2.1 ?_; rotate_left 2; intro v4 w4 ho hg hat; obtain ⟨g4, c4, rfl, hc41, hc42, kB, fB, hR4, hM4, hgB, hz4, q0, q1, q2, q3, q4, q5, hbb⟩ := hPU.out.2.2 v4 w4 ho hg hat; rw [← HEQN.out] at q0 q1 q2 q3 q4 q5; have hgB' := hgB.symm; have f0 := hz4 (fr * 6); have f1 := hz4 (fr * 6 + 1); have f2 := hz4 (fr * 6 + 2); have f3 := hz4 (fr * 6 + 3); have f4 := hz4 (fr * 6 + 4); have f5 := hz4 (fr * 6 + 5); have HR4 := Lib.hid hR4; have HM4 := Lib.hid hM4; have b1 : (0 : Int) ≤ (fr : Int) := (by omega); have b2 : (fr : Int) < ((n + 1 : Nat) : Int) := (by rw [HEQN.out]; omega); unfold maxLen at hc42; clear ho hg hat hR4 hM4 hz4 hbb)
            case c1 => unfold maxLen; omega
            case c2 => omega
            go_ret2
            have hl : (S ++ [none]).length = n + 1 := by simp [HN.out]
            have h5 := HR4.out
            rw [← hl] at h5
            obtain ⟨y1, y2⟩ := h5.setAll (i := fr) (by rw [hl, HEQN.out]; omega) (o := some ⟨(-1), e, true, 1, 0⟩) rfl
            have hfs : fr = S.length := by rw [HN.out]; exact HEQN.out
            have hP := HP1.out
            rw [← hfs] at hP
            rw [HA.out, HFP.out.1, hP]
            rw [hl] at y1 y2
            exact ⟨rfl, _, y1, (Moved.of_below hb6.out _ _).trans (HM4.out.trans y2)⟩
          · have e1 : ((fr : Int) == (n : Int)) = false := by rw [beq_eq_false_iff_ne]; omega
            have hfl' : fr < S.length := by rw [HN.out]; omega
            have HP1 := Lib.hid (HFP.out.2.1 hfl')
            obtain ⟨g6, cp, hv, hcp1, hcp2, hfz, ⟨a0, a1, a2, a3, a4, a5, q0, q1, q2, q3, q4, q5⟩, hR, hM⟩ := HNW.out.new_ (at_cases S hfl') ⟨(-1), e, true, 1, 0⟩
            injection hv with hv1 hv2 hv3
            subst hv1
            have f0 := hfz (fr * 6)
            have f1 := hfz (fr * 6 + 1)
            have f2 := hfz (fr * 6 + 2)
            have f3 := hfz (fr * 6 + 3)
            have f4 := hfz (fr * 6 + 4)
            have f5 := hfz (fr * 6 + 5)
            have b1 : (0 : Int) ≤ (fr : Int) := by omega
            have b2 : (fr : Int) < (n : Int) := by omega
            have HR := Lib.hid hR
            have HM := Lib.hid ((Moved.of_below hb6.out _ _).trans hM)
            clear hfz hR hM hv2 hv3 hfn hfl'
            go_wp2_with fail
            go_ret2
            rw [HA.out, HP1.out, HFP.out.1]
            exact ⟨rfl, _, HR.out, HM.out⟩
      refine AllReady.cons rfl (fun K hK => ?_) AllReady.nil
      go_simp
      (refine hK _ _ ?_; clear hK K)
      refine wpAny_ready (rs := [1]) (by kernel_rfl) (by simp) ?_
      refine AllReady.cons rfl (fun K hK => ?_) AllReady.nil
      go_simp
      go_wp2_with (go_at_call 21; refine (ref_used (HX.out _ (below_drewN hb.out _)) (by rw [HN.out]; exact hS)).mono ?_; rintro ee w5 ⟨rfl, hb5⟩)
      have hb6 := Lib.hid ((below_drewN hb.out 1).trans (hb5.mono hb.out.size))
      have k1' := (HX.out _ hb6.out).k1
      have HNW := Lib.hid (HX.out _ hb6.out)
      refine wpAny_take (i := 6) (v := ?_) rfl (by kernel_rfl) (by kernel_rfl) (by kernel_rfl) (fun _ _ _ h => h) (Or.inl ⟨by kernel_rfl, ?_⟩) ?_
      rotate_left
      · (intro w'; go_simp; try with_reducible rfl)
      refine wpAny_done (by kernel_rfl) ?_ _
      go_simp
      clear k1 k1'
      have hcn := cnt_le S
      rw [HN.out] at hcn
      by_cases hm : m ≤ (cnt S : Int)
      · have HA := Lib.hid (addG_full he HH.out (by rw [EK.out]; exact HI.out) hm)
        go_wp2_with fail
        go_ret2
        rw [HA.out]
        exact ⟨rfl, _, HNW.out, Moved.of_below hb6.out _ _⟩
      · have hm' : (cnt S : Int) < m := by omega
        have k0' := HNW.out.k0
        have HA := Lib.hid (addG_root (f := true) he HI.out hm)
        by_cases hfn : fr = n
        · have e1 : ((fr : Int) == (n : Int)) = true := by rw [hfn]; simp
          have hPU := Lib.hid (HNW.out.push (.cells #[.bool false, .int .i64 0, .int .i64 0, .bool false, .int .i64 0, .int .i64 0] 47))
          rw [HN.out] at hPU
          have HP1 := Lib.hid (HFP.out.2.2 (by rw [HN.out]; exact hfn))
          have HEQN := Lib.hid hfn
          obtain ⟨i6, hi6', hz6'⟩ : ∃ i6, Try.prog.info? 47 = some i6 ∧ i6.zero = some (.agg #[.bool false, .int .i64 0, .int .i64 0, .bool false, .int .i64 0, .int .i64 0]) ∧ i6.size = 6 ∧ i6.bytes = 48 := by
            obtain ⟨i6, h1, h2⟩ := Option.map_eq_some_iff.1 info6
            simp only [Prod.mk.injEq] at h2
            exact ⟨i6, h1, h2⟩
          obtain ⟨hz6, hs6, hb6'⟩ := hz6'
          have hz0 := zero6
          clear hfn hcn
          go_wp2_with (at_builtin; refine wpList_append_any _ rfl (.tmp 106) (.tmp 108) 48 rfl base 47 i6 _ 6 48 Try.underlying48 hi6' hz6 hs6 hb6' rfl (by omega) _ n (S.flatMap refL) rfl hPU.out.1 (w5.heap.size + 1) (some ⟨w5.heap.size, 0, none⟩) 1 1 (refL none) rfl (src6 (Blk.new _ _ _)) one6 ?c1 ?c2 hPU.out.2.1 ?_; rotate_left 2; intro v4 w4 ho hg hat; obtain ⟨g4, c4, rfl, hc41, hc42, kB, fB, hR4, hM4, hgB, hz4, q0, q1, q2, q3, q4, q5, hbb⟩ := hPU.out.2.2 v4 w4 ho hg hat; rw [← HEQN.out] at q0 q1 q2 q3 q4 q5; have hgB' := hgB.symm; have f0 := hz4 (fr * 6); have f1 := hz4 (fr * 6 + 1); have f2 := hz4 (fr * 6 + 2); have f3 := hz4 (fr * 6 + 3); have f4 := hz4 (fr * 6 + 4); have f5 := hz4 (fr * 6 + 5); have HR4 := Lib.hid hR4; have HM4 := Lib.hid hM4; have b1 : (0 : Int) ≤ (fr : Int) := (by omega); have b2 : (fr : Int) < ((n + 1 : Nat) : Int) := (by rw [HEQN.out]; omega); unfold maxLen at hc42; clear ho hg hat hR4 hM4 hz4 hbb)
          case c1 => unfold maxLen; omega
          case c2 => omega
          go_ret2
          have hl : (S ++ [none]).length = n + 1 := by simp [HN.out]
          have h5 := HR4.out
          rw [← hl] at h5
          obtain ⟨y1, y2⟩ := h5.setAll (i := fr) (by rw [hl, HEQN.out]; omega) (o := some ⟨(-1), e, true, 1, 0⟩) rfl
          have hfs : fr = S.length := by rw [HN.out]; exact HEQN.out
          have hP := HP1.out
          rw [← hfs] at hP
          rw [HA.out, HFP.out.1, hP]
          rw [hl] at y1 y2
          exact ⟨rfl, _, y1, (Moved.of_below hb6.out _ _).trans (HM4.out.trans y2)⟩
        · have e1 : ((fr : Int) == (n : Int)) = false := by rw [beq_eq_false_iff_ne]; omega
          have hfl' : fr < S.length := by rw [HN.out]; omega
          have HP1 := Lib.hid (HFP.out.2.1 hfl')
          obtain ⟨g6, cp, hv, hcp1, hcp2, hfz, ⟨a0, a1, a2, a3, a4, a5, q0, q1, q2, q3, q4, q5⟩, hR, hM⟩ := HNW.out.new_ (at_cases S hfl') ⟨(-1), e, true, 1, 0⟩
          injection hv with hv1 hv2 hv3
          subst hv1
          have f0 := hfz (fr * 6)
          have f1 := hfz (fr * 6 + 1)
          have f2 := hfz (fr * 6 + 2)
          have f3 := hfz (fr * 6 + 3)
          have f4 := hfz (fr * 6 + 4)
          have f5 := hfz (fr * 6 + 5)
          have b1 : (0 : Int) ≤ (fr : Int) := by omega
          have b2 : (fr : Int) < (n : Int) := by omega
          have HR := Lib.hid hR
          have HM := Lib.hid ((Moved.of_below hb6.out _ _).trans hM)
          clear hfz hR hM hv2 hv3 hfn hfl'
          go_wp2_with fail
          go_ret2
          rw [HA.out, HP1.out, HFP.out.1]
          exact ⟨rfl, _, HR.out, HM.out⟩
    · obtain ⟨k, rfl⟩ : ∃ k, j = k + 1 := ⟨j - 1, by omega⟩
      rw [show ((k + 1 : Nat) : Int) - 1 = (k : Int) by omega]
      have hkn : k < S.length := by rw [HN.out]; omega
      have hcc := at_cases S hkn
      have b1 : (0 : Int) ≤ (k : Int) := by omega
      have b2 : (k : Int) < (n : Int) := by omega
      have s1 : IntKind.i64.wrap ((k : Int) - 1) = (k : Int) - 1 := by rw [IntKind.wrap_i64]; omega
      have HB1 := Lib.hid (fun o => hb.out.alloc hb.out.size o)
      cases ho : at? S k with
      | none =>
        rw [ho] at hcc
        obtain ⟨g, c', hv, _, _, _, _, _, q0, q1, q2, q3, q4, q5⟩ := X.out.six hcc rfl
        injection hv with hv1 hv2 hv3
        subst hv1
        have hK := Lib.hid (noKey_none hk.out ho)
        have hF := Lib.hid (free_here hkn ho)
        clear hcc hv2 hv3 X hk ho hkn hb
        go_wp2_with fail
        go_roundw
        case rel => first | exact ⟨k, by omega, rfl, by rw [hF.out], hK, Lib.hid (HB1.out _)⟩ | ((repeat apply Exists.intro); exact ⟨⟨k, by omega, rfl, by rw [hF.out], hK, Lib.hid (HB1.out _)⟩, rfl⟩)
        case measure => simp [intOf]
      | some d =>
        rw [ho] at hcc
        obtain ⟨g, c', hv, hg1, hg2, _, _, hfz, q0, q1, q2, q3, q4, q5⟩ := X.out.six hcc rfl
        injection hv with hv1 hv2 hv3
        subst hv1
        have f4 := hfz (k * 6 + 4)
        have hF := Lib.hid (free_next ho)
        clear hv2 hv3 hfz
        by_cases e1 : d.prev = (-1)
        · rw [e1] at q1
          by_cases e2 : d.event = e
          · rw [e2] at q2
            by_cases e3 : d.fresh = true
            · rw [e3] at q3
              have hid := idx_of HU.out ho
              rw [e1, e2, e3] at hid
              have HA : Hid (addS S m (-1) e true = (S.set k (some { d with own := d.own + 1 }), (k : Int), true)) := Lib.hid (addG_found he HH.out (by rw [EK.out]; exact hid) ho)
              have hbo := HBD.out k d ho
              have s2 : IntKind.i64.wrap (d.own + 1) = d.own + 1 := by rw [IntKind.wrap_i64]; omega
              have HE : Hid (∀ o, RefX ((wr.setCell ⟨g, k * 6 + 4, none⟩ (.int .i64 (d.own + 1))).alloc o) base B (S.set k (some { d with own := d.own + 1 })) m (.slice (some ⟨g, 0, none⟩) n c) ∧ Moved w ((wr.setCell ⟨g, k * 6 + 4, none⟩ (.int .i64 (d.own + 1))).alloc o) B (.slice (some ⟨g, 0, none⟩) n c) (.slice (some ⟨g, 0, none⟩) n c)) := Lib.hid fun o => by
                have h1 := X.out
                rw [← HN.out] at h1 ⊢
                have hb9 := fun W : World => (Below.refl W.heap.size W).alloc (Nat.le_refl _) o
                exact ⟨(h1.set1 (o' := some { d with own := d.own + 1 }) hcc 4 (.int .i64 (d.own + 1)) (by omega) rfl).stay (hb9 _), ((Moved.of_below hb.out _ _).trans (Moved.setRow rfl _ _)).trans (Moved.of_below (hb9 _) _ _)⟩
              have hBl := X.out.blk.lt
              clear hcc X hk ho hkn hb hid e1 e2 e3 hbo
              go_wp2_with fail
              go_ret2
              rw [HA.out]
              exact ⟨rfl, _, HE.out _⟩
            · have x3 : (d.fresh == true) = false := by rw [beq_eq_false_iff_ne]; exact e3
              have hnk : ¬ (d.prev = (-1) ∧ d.event = e ∧ d.fresh = true) := fun hx => e3 hx.2.2
              obtain ⟨df, hdf⟩ : ∃ df, d.fresh = df := ⟨_, rfl⟩
              rw [hdf] at q3 x3
              clear e1 e2 e3 hdf
              have hK := Lib.hid (noKey_some hk.out ho hnk)
              clear hnk hcc X hk ho hkn hb
              go_wp2_with fail
              go_roundw
              case rel => first | exact ⟨k, by omega, rfl, by rw [hF.out], hK, Lib.hid (HB1.out _)⟩ | ((repeat apply Exists.intro); exact ⟨⟨k, by omega, rfl, by rw [hF.out], hK, Lib.hid (HB1.out _)⟩, rfl⟩)
              case measure => simp [intOf]
          · have x2 : (d.event == e) = false := by rw [beq_eq_false_iff_ne]; exact e2
            have hnk : ¬ (d.prev = (-1) ∧ d.event = e ∧ d.fresh = true) := fun hx => e2 hx.2.1
            obtain ⟨de, hde⟩ : ∃ de, d.event = de := ⟨_, rfl⟩
            rw [hde] at q2 x2
            clear e1 e2 hde
            have hK := Lib.hid (noKey_some hk.out ho hnk)
            clear hnk hcc X hk ho hkn hb
            go_wp2_with fail
            go_roundw
            case rel => first | exact ⟨k, by omega, rfl, by rw [hF.out], hK, Lib.hid (HB1.out _)⟩ | ((repeat apply Exists.intro); exact ⟨⟨k, by omega, rfl, by rw [hF.out], hK, Lib.hid (HB1.out _)⟩, rfl⟩)
            case measure => simp [intOf]
        · have x1 : (d.prev == (-1)) = false := by rw [beq_eq_false_iff_ne]; exact e1
          have hnk : ¬ (d.prev = (-1) ∧ d.event = e ∧ d.fresh = true) := fun hx => e1 hx.1
          obtain ⟨dp, hdp⟩ : ∃ dp, d.prev = dp := ⟨_, rfl⟩
          rw [hdp] at q1 x1
          clear e1 hdp
          have hK := Lib.hid (noKey_some hk.out ho hnk)
          clear hnk hcc X hk ho hkn hb
          go_wp2_with fail
          go_roundw
          case rel => first | exact ⟨k, by omega, rfl, by rw [hF.out], hK, Lib.hid (HB1.out _)⟩ | ((repeat apply Exists.intro); exact ⟨⟨k, by omega, rfl, by rw [hF.out], hK, Lib.hid (HB1.out _)⟩, rfl⟩)
          case measure => simp [intOf]
end
end Go.Proofs.Ytcgapjicbgfpjaa

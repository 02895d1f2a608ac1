/- FlG, FlE: texts merged for a claim by a program of mine. -/
import Derived.Test.YtioocaicmiggoaaA07
namespace Go.Proofs.Ytioocaicmiggoaa
set_option linter.unusedVariables false
set_option linter.unusedSimpArgs false
open Go.RowKit Go.Deep
theorem info_G : (Try.prog.info? 22).map (fun i => (i.zero, i.size, i.bytes)) = some (some (.slice none 0 0), 1, 24) := by kernel_rfl
set_option maxRecDepth 100000 in
set_option maxHeartbeats 8000000 in
theorem list_G {α : Type} (B F tb : Nat) (t : TypeId) (L1 L2 : List Value) (off : Nat) (st : FSt) (xs : List α) (v : Value) (w : World) (gB : Nat) (R : (Nat → Prop) → World → List Value → α → Prop) (Cap : Nat → World → Prop) (one : FSt → α → Option (FSt × α)) (zero : α) (C : Nat)
  (hR : KeepsQ R) (h1 : ∀ Q w cs x, R Q w cs x → ∀ u ∈ cs, u.oneCell' = true) (hz : ∀ Q w, R Q w [Value.slice none 0 0] zero) (hone : OneC B F 22 1 R Cap one C (fun p w Q => Calls Try.prog 78 #[p, .pointer (some ⟨gB, 0, none⟩)] w Q)) (hfine : Fine one C)
  (hcap : ∀ b w1 w2, b = tb ∨ w.heap.size ≤ b → Fr B b w1 w2 → (∀ g, g = tb ∨ w.heap.size ≤ g → Cap g w1 → Cap g w2)) (hcap0 : ∀ g, w.heap.size ≤ g → Cap g w)
  (hf : FlX B w F st) (ht : ¬ hot t) (hv : SlQ (· < B) 1 (R (· < B)) w v xs) (hc : Blk w tb t (L1 ++ ([v] ++ L2)).toArray) (ho : L1.length = off) (hB : B ≤ tb) (hBw : B ≤ w.heap.size) (hup : st.rdUp tb) (hroom : st.room + (10 + C * 1024) ≤ 1000000000000) :
  Calls Try.prog 77 #[.pointer (some ⟨F, 0, none⟩), .pointer (some ⟨tb, off, none⟩), .func (.func 78) #[] #[.pointer (some ⟨gB, 0, none⟩)]] w (FlP B F tb t L1 L2 (fun w' vs ys => ∃ v', vs = [v'] ∧ SlQ (FreshQ w.heap.size w') 1 (R (FreshQ w.heap.size w')) w' v' ys) st (listF one zero st xs) w) := by
 obtain ⟨css, A, c, rfl, hn1, hn2, hfl, hrd⟩ := flat_of_slqB hv (by decide)
 unfold maxLen at hn2
 obtain ⟨i0, hi, hi0, hi1, hi2⟩ := info_parts info_G
 have c0 : w.cell? ⟨tb, off, none⟩ = some (.slice A xs.length c) := (hc.cell off).trans (list_at ho)
 have HV := Lib.hid hv
 have HFL := Lib.hid hfl
 have HRD := Lib.hid hrd
 have HF := Lib.hid hf
 have HT := Lib.hid ht
 have HC := Lib.hid hc
 have HO := Lib.hid ho
 have HB := Lib.hid hB
 have HBW := Lib.hid hBw
 have HUP := Lib.hid hup
 have HRM := Lib.hid hroom
 have HCAP := Lib.hid hcap
 have HCAP0 := Lib.hid hcap0
 have HR := Lib.hid hR
 have HONE := Lib.hid hone
 have HFI := Lib.hid hfine
 have H1 := Lib.hid h1
 have HZ := Lib.hid hz
 have htb := hc.lt
 have nn : (0 : Int) ≤ (xs.length : Int) := by omega
 have hote : ¬ hot 22 := by unfold hot; decide
 have HE := Lib.hid hote
 clear hv hfl hrd hf ht hc ho hB hBw hup hroom hcap hcap0 hR hone hfine h1 hz hote
 by_cases hlong : 1024 < xs.length
 ·have hno : listF one zero st xs = none := by unfold listF; rw [if_pos hlong]
  have HNO := Lib.hid hno
  have hl2 : (1024 : Int) < (xs.length : Int) := by omega
  have BA := Lib.hid (Fr.below (tb := tb) HBW.out ((Below.refl w.heap.size w).alloc (Nat.le_refl _) (.cells #[.int .i64 xs.length] 3)))
  clear hno hlong
  go_enter Try.func77, Try.ntmps77
  go_wp2_with fail
  exact ⟨rfl, .inr ⟨HNO.out, 3, rfl, ⟨.inl rfl, fun _ _ => rfl⟩, BA.out⟩⟩
 ·have hl2 : (xs.length : Int) ≤ 1024 := by omega
  have HLG := Lib.hid hlong
  obtain ⟨W, hW⟩ : ∃ W, W = w.alloc (.cells #[.int .i64 xs.length] 3) := ⟨_, rfl⟩
  have ha : Below w.heap.size w W := by rw [hW]; exact (Below.refl _ _).alloc (Nat.le_refl _) _
  have hsz : W.heap.size = w.heap.size + 1 := by rw [hW]; simp
  have hbn : Blk W w.heap.size 3 #[.int .i64 xs.length] := by rw [hW]; exact Blk.new _ _ _
  have CM := Lib.hid (ints_box B F tb t _ st xs.length w W HF.out HT.out (HC.out.below ha HC.out.lt) htb (wfi_nat (by omega)) HBW.out (by have := HRM.out; omega) (Fr.below HBW.out ha) hsz hbn (HF.out.below ha))
  clear ha hsz hbn hlong
  go_enter Try.func77, Try.ntmps77
  have HWW := Lib.hid hW
  clear hW
  go_upto_region 3 with fail
  rw [← HWW.out]
  clear HWW c0
  go_wp2_with fail
  refine CM.out.mono ?_
  rintro e w3 (⟨s, y, hn, rfl, hf3, hb3, hc3, hr3⟩ | ⟨hn, ec, rfl, he, hbe⟩)
  ·have y0 : w3.cell? ⟨w.heap.size, 0, none⟩ = some (.int .i64 y) := hb3.cell 0
   have c3 : w3.cell? ⟨tb, off, none⟩ = some (.slice A xs.length c) := (hc3.cell off).trans (list_at HO.out)
   have z3 := hc3.frozen off
   obtain ⟨fn1, fn2⟩ := fine_num _ _ _ _ hn
   have HN := Lib.hid hn
   have H3 := Lib.hid hf3
   have HC3 := Lib.hid hc3
   have HR3 := Lib.hid hr3
   have HK := Lib.hid fn2
   have HRO := Lib.hid fn1
   have HB3 : Hid (B ≤ w3.heap.size) := Lib.hid (Nat.le_trans HBW.out hr3.size)
   have HS3 : Hid (w.heap.size ≤ w3.heap.size) := Lib.hid hr3.size
   have hkt : tb < w3.heap.size := hc3.lt
   have HBN := Lib.hid hb3
   clear hn hf3 hb3 hc3 hr3 fn1 fn2 CM
   cases s with
   | rd RR RA n cc l q =>
    obtain ⟨g1, g2, g3, g4, g5, g6, g7, g8⟩ := H3.out
    have f0 := g3.cell 0
    have f2 := g3.cell 2
    have CL0 := Lib.hid (fun m => (left_any RA n cc q RR (w3.drewN m) g7 (by omega) g4).mono (fun e w' (h : e = .returned (.int .i64 ((n - q : Nat) : Int)) ∧ ∃ k, w' = (w3.drewN m).drewN k) => (⟨h.1, by obtain ⟨k, hk⟩ := h.2; exact ⟨m + k, by rw [hk, World.drewN_drewN]⟩⟩ : e = .returned (.int .i64 ((n - q : Nat) : Int)) ∧ ∃ k, w' = w3.drewN k)))
    have HLF : Hid (listF one zero st xs = if 0 ≤ y ∧ y ≤ 1024 ∧ y ≤ ((n - q : Nat) : Int) then runL one (.rd RR RA n cc l q) (List.replicate y.toNat zero) else none) := Lib.hid (by unfold listF; rw [if_neg HLG.out, HN.out])
    have NRD : Hid (∀ bs, st = .wr bs → False) := Lib.hid (by
     rintro bs rfl
     exact HK.out)
    clear g1 g2 g3 g4 g5 g6 g7 g8
    by_cases q0 : y < 0
    ·have HNO : Hid (listF one zero st xs = none) := Lib.hid (by rw [HLF.out, if_neg (by omega)])
     go_upto_region 5 with fail
     refine wp_region_quiet_lit (by kernel_rfl) (by kernel_rfl) ?_
     repeat (any_goals (first | go_big_quiet_step ((go_at_call 52; exact CL0.out _)) | go_big_quiet_step (fail) | quiet_step (fail) | (refine wpQuiet_step (fun K hK => ?_); go_simp; split <;> (refine hK _ ?_; clear hK K))))
     all_goals (refine wpQuiet_nil ?_; intro _ hw'; obtain ⟨nq, hw''⟩ := hw'; subst hw'')
     go_wp2_with fail
     exact ⟨rfl, .inr ⟨HNO.out, 32, rfl, ⟨.inr rfl, fun bs h => (NRD.out bs h).elim⟩, ⟨below_drewN HR3.out.1 _, HR3.out.2⟩⟩⟩
    ·have t0 : decide (y < 0) = false := decide_eq_false q0
     have q0 : 0 ≤ y := by omega
     by_cases q1 : 1024 < y
     ·have HNO : Hid (listF one zero st xs = none) := Lib.hid (by rw [HLF.out, if_neg (by omega)])
      go_upto_region 5 with fail
      refine wp_region_quiet_lit (by kernel_rfl) (by kernel_rfl) ?_
      repeat (any_goals (first | go_big_quiet_step ((go_at_call 52; exact CL0.out _)) | go_big_quiet_step (fail) | quiet_step (fail) | (refine wpQuiet_step (fun K hK => ?_); go_simp; split <;> (refine hK _ ?_; clear hK K))))
      all_goals (refine wpQuiet_nil ?_; intro _ hw'; obtain ⟨nq, hw''⟩ := hw'; subst hw'')
      go_wp2_with fail
      exact ⟨rfl, .inr ⟨HNO.out, 32, rfl, ⟨.inr rfl, fun bs h => (NRD.out bs h).elim⟩, ⟨below_drewN HR3.out.1 _, HR3.out.2⟩⟩⟩
     ·have t1 : decide (1024 < y) = false := decide_eq_false q1
      have q1 : y ≤ 1024 := by omega
      by_cases q2 : ((n - q : Nat) : Int) < y
      ·have HNO : Hid (listF one zero st xs = none) := Lib.hid (by rw [HLF.out, if_neg (by omega)])
       go_upto_region 5 with fail
       refine wp_region_quiet_lit (by kernel_rfl) (by kernel_rfl) ?_
       repeat (any_goals (first | go_big_quiet_step ((go_at_call 52; exact CL0.out _)) | go_big_quiet_step (fail) | quiet_step (fail) | (refine wpQuiet_step (fun K hK => ?_); go_simp; split <;> (refine hK _ ?_; clear hK K))))
       all_goals (refine wpQuiet_nil ?_; intro _ hw'; obtain ⟨nq, hw''⟩ := hw'; subst hw'')
       go_wp2_with fail
       exact ⟨rfl, .inr ⟨HNO.out, 32, rfl, ⟨.inr rfl, fun bs h => (NRD.out bs h).elim⟩, ⟨below_drewN HR3.out.1 _, HR3.out.2⟩⟩⟩
      ·have t2 : decide (((n - q : Nat) : Int) < y) = false := decide_eq_false q2
       have q2 : y ≤ ((n - q : Nat) : Int) := by omega
       obtain ⟨m, hm⟩ : ∃ m : Nat, y = (m : Int) := ⟨y.toNat, by omega⟩
       subst hm
       have HLF2 : Hid (listF one zero st xs = runL one (.rd RR RA n cc l q) (List.replicate m zero)) := Lib.hid (by rw [HLF.out, if_pos ⟨q0, q1, q2⟩, Int.toNat_natCast])
       go_upto_region 5 with fail
       refine wp_region_quiet_lit (by kernel_rfl) (by kernel_rfl) ?_
       repeat (any_goals (first | go_big_quiet_step ((go_at_call 52; exact CL0.out _)) | go_big_quiet_step (fail) | quiet_step (fail) | (refine wpQuiet_step (fun K hK => ?_); go_simp; split <;> (refine hK _ ?_; clear hK K))))
       all_goals (refine wpQuiet_nil ?_; intro _ hw'; obtain ⟨nq, hw''⟩ := hw'; subst hw'')
       obtain ⟨w4, hw4⟩ : ∃ w4, w4 = w3.drewN nq := ⟨_, rfl⟩
       rw [← hw4]
       have H4 : Hid (FlX B w4 F (.rd RR RA n cc l q)) := Lib.hid (by rw [hw4]; exact H3.out)
       have HC4 : Hid (Blk w4 tb t (L1 ++ ([Value.slice A xs.length c] ++ L2)).toArray) := Lib.hid (by rw [hw4]; exact HC3.out)
       have HB4 : Hid (Blk w4 w.heap.size 3 #[.int .i64 m]) := Lib.hid (by rw [hw4]; exact HBN.out)
       have HR4 : Hid (Fr B tb w w4) := Lib.hid (by rw [hw4]; exact ⟨below_drewN HR3.out.1 _, fun b t cs h1 h2 h3 => HR3.out.2 b t cs h1 h2 h3⟩)
       have HS4 : Hid (w.heap.size ≤ w4.heap.size ∧ B ≤ w4.heap.size) := Lib.hid (by rw [hw4]; exact ⟨HS3.out, HB3.out⟩)
       clear hw4 y0 c3 z3 f0 f2
       have y0 := HB4.out.cell 0
       have hm1 : m ≤ 1024 := by omega
       go_wp2_with (at_make; refine wpList_make_full _ rfl (.tmp 41) (.tmp 41) 23 rfl w.heap.size 22 i0 _ 1 Try.underlying23 hi hi0 hi1 .i64 .i64 (m : Int) (m : Int) m rfl rfl rfl rfl ?b2 ?b3 ?b4 ?_; rotate_left 3; intro w5 hown5 hg5; have hb45 := below_of_grown hg5; have H5C := HC4.out.below hb45 HC4.out.lt; have c5 : w5.cell? ⟨tb, off, none⟩ = some (.slice A xs.length c) := (H5C.cell off).trans (list_at HO.out); have z5 := H5C.frozen off; have HOW := Lib.hid hown5; have HB45 := Lib.hid hb45; have H5CC := Lib.hid H5C; clear hown5 hg5 hb45 H5C)
       case b2 => rw [hi2]; omega
       case b3 => unfold maxLen; omega
       case b4 => exact HS4.out.1
       have LS : ∀ W, W = w5.setCell ⟨tb, off, none⟩ (.slice (some ⟨w4.heap.size, 0, none⟩) m m) → LoopS B F tb t L1 L2 22 1 R one st (listF one zero st xs) w m W := fun W hW => by
        subst hW
        have hmade : w5.ownsRow w.heap.size 22 1 (.slice (some ⟨w4.heap.size, 0, none⟩) m m) m (List.replicate m [Value.slice none 0 0]).flatten := by
         have h := HOW.out
         have e := made_zero (sz := 1) [Value.slice none 0 0] rfl (by decide) m
         rw [← e]; exact h
        refine ⟨_, List.replicate m zero, .slice (some ⟨w4.heap.size, 0, none⟩) m m, List.replicate m [Value.slice none 0 0], HLF2.out, ⟨by simpa using hm1, by simp⟩, HK.out, HRO.out, (H4.out.below HB45.out).set_ HT.out H5CC.out (kin_up HK.out HUP.out) _ _, ?_, ?_, ?_, (HR4.out.trans (Fr.below HS4.out.2 HB45.out)).set_ HB.out _ _⟩
        ·have h := H5CC.out.set_ off (.slice (some ⟨w4.heap.size, 0, none⟩) m m)
         rw [list_set HO.out] at h
         exact h
        ·rw [List.length_replicate]
         exact own_far2 hmade (fun e => by injection e with e; simp only at e; have := HC4.out.lt; omega) _
        ·exact flat_zero [Value.slice none 0 0] zero rfl (HZ.out _ _) m
       have HLS := Lib.hid LS
       clear LS y0
       go_upto_region 9 with fail
       obtain ⟨w9, hw9⟩ : ∃ w9, w9 = w5.setCell ⟨tb, off, none⟩ (.slice (some ⟨w4.heap.size, 0, none⟩) m m) := ⟨_, rfl⟩
       rw [← hw9]
       have hls := HLS.out w9 hw9
       clear hw9 c5 z5 HLS
       obtain ⟨s0, xs0, v2, css0, e1, ⟨e2, hNL⟩, e3, e4, e5, e6, e7, e8, e9⟩ := hls
       obtain ⟨A2, c2, rfl⟩ := own_slice e7
       have HNL := Lib.hid hNL
       obtain ⟨cp1, cp2⟩ := own_caps e7
       unfold maxLen at cp2
       have HE1 := Lib.hid e1
       have HKK := Lib.hid e3
       obtain ⟨g, hgA, hgB, tail, hgT⟩ : ∃ g, (0 < xs0.length → A2 = some ⟨g, 0, none⟩) ∧ w.heap.size ≤ g ∧ ∃ tail, (0 < xs0.length → Blk w9 g 22 (css0.flatten ++ tail).toArray) := by
        rcases Nat.eq_zero_or_pos xs0.length with h0 | h0
        ·exact ⟨w.heap.size, fun h => by omega, Nat.le_refl _, [], fun h => by omega⟩
        ·rcases e7.2 with ⟨_, h⟩ | ⟨g, cap, cur, h1, h2, h3, h4, h5, h6, h7⟩
         ·omega
         ·injection h1 with h1 _ _
          refine ⟨g, fun _ => h1, h2, cur.toList.drop (xs0.length * 1), fun _ => ?_⟩
          rw [← h7, List.take_append_drop]
          exact h3
       have HLR : Hid (LoopR B F tb g t L1 L2 tail (.slice A2 xs0.length c2) 22 1 R Cap one s0 xs0 w 0 w9) := Lib.hid ⟨s0, [], [], css0, by simp [runL], e5, e6, e9, fun h => by simpa using hgT h, FlatR.nil _ _ _, by simpa using e8, HCAP.out tb w w9 (.inl rfl) e9 g (.inr hgB) (HCAP0.out g hgB)⟩
       have HST := Lib.hid (fun r wr (h : LoopR B F tb g t L1 L2 tail (.slice A2 xs0.length c2) 22 1 R Cap one s0 xs0 w r wr) (hr : r < xs0.length) => h.step HR.out HT.out HE.out hgB HBW.out htb HONE.out HFI.out (fun w1 w2 h1 h2 => HCAP.out g w1 w2 (.inr hgB) h1 g (.inr hgB) h2) (by have := HRM.out; omega) e2 (kin_up e3 (HF.out.rdUp hgB)) hr (fun p w Q Q' h hc => Calls.mono hc h))
       have HDN := Lib.hid (fun wr (h : LoopR B F tb g t L1 L2 tail (.slice A2 xs0.length c2) 22 1 R Cap one s0 xs0 w xs0.length wr) => h.done HR.out HE.out hgB HFI.out hgA cp1 (by unfold maxLen; exact cp2) st)
       have HGA := Lib.hid hgA
       have ne0 : (0 : Int) ≤ (m : Int) := by omega
       have cp3 : m ≤ c2 := by omega
       clear e1 e2 e3 e4 e5 e6 e7 e8 e9 hgA hgT hNL cp1
       go_loopw [54] (fun i wr => ∃ r : Nat, r ≤ m ∧ i = .int .i64 r ∧ Hid (LoopR B F tb g t L1 L2 tail (.slice A2 xs0.length c2) 22 1 R Cap one s0 xs0 w r wr)) (fun i _ => m - (intOf i).toNat)
       case atStart => exact ⟨0, Nat.zero_le _, rfl, HLR⟩
       case round =>
        obtain ⟨r, hr, rfl, hX⟩ := hrel
        by_cases hlt : r < m
        ·have hst := HST.out r wr hX.out (by have := HNL.out; omega)
         obtain ⟨_, _, _, _, _, _, k3, _⟩ := hX.out
         have c9 : wr.cell? ⟨tb, off, none⟩ = some (.slice A2 m c2) := (k3.cell off).trans ((list_at HO.out).trans (by rw [HNL.out]))
         obtain rfl := HGA.out (by have := HNL.out; omega)
         have b1 : (0 : Int) ≤ (r : Int) := by omega
         have b2 : (r : Int) < (m : Int) := by omega
         rw [Nat.mul_one] at hst
         have HS := Lib.hid hst
         clear k3 hX hst
         go_wp2_with fail
         refine HS.out.mono ?_
         rintro e w8 (⟨rfl, hn⟩ | ⟨hn, ec, rfl, he, hbe⟩)
         ·have HN8 := Lib.hid hn
          clear hn c9
          go_wp2_with fail
          go_roundw
          case rel => first | exact ⟨r + 1, by omega, by go_num, HN8⟩ | ((repeat apply Exists.intro); exact ⟨⟨r + 1, by omega, by go_num, HN8⟩, rfl⟩)
          case measure => simp [intOf]; omega
         ·have HNO := Lib.hid (HE1.out.trans hn)
          have HEE := Lib.hid (kin_err HKK.out he)
          have HBE := Lib.hid hbe
          clear hn he hbe c9
          go_wp2_with fail
          exact ⟨rfl, .inr ⟨HNO.out, ec, rfl, HEE.out, HBE.out⟩⟩
        ·have hge : (m : Int) ≤ (r : Int) := by omega
         have hre : Hid (r = xs0.length) := Lib.hid (by have := HNL.out; omega)
         have HD := Lib.hid (HDN.out wr (by have h := hX.out; rw [hre.out] at h; exact h))
         clear hX
         go_wp2_with fail
         go_end0
         rw [HE1.out]
         exact HD.out
   | wr bs => exact H3.out.elim
  ·have hno : listF one zero st xs = none := by unfold listF; rw [if_neg HLG.out, hn]
   have HNO := Lib.hid hno
   have HEE := Lib.hid he
   have HBE := Lib.hid hbe
   clear hn he hbe hno CM
   go_wp2_with fail
   exact ⟨rfl, .inr ⟨HNO.out, ec, rfl, HEE.out, HBE.out⟩⟩
end Go.Proofs.Ytioocaicmiggoaa
namespace Go.Proofs.Ytioocaicmiggoaa
set_option linter.unusedVariables false
set_option linter.unusedSimpArgs false
open Go.RowKit Go.Deep
theorem info_E : (Try.prog.info? 56).map (fun i => (i.zero, i.size, i.bytes)) = some (some (.agg #[.int .i64 0, .int .i64 0, .slice none 0 0]), 3, 40) := by kernel_rfl
set_option maxRecDepth 100000 in
set_option maxHeartbeats 8000000 in
theorem list_E {α : Type} (B F tb : Nat) (t : TypeId) (L1 L2 : List Value) (off : Nat) (st : FSt) (xs : List α) (v : Value) (w : World) (gB : Nat) (R : (Nat → Prop) → World → List Value → α → Prop) (Cap : Nat → World → Prop) (one : FSt → α → Option (FSt × α)) (zero : α) (C : Nat)
  (hR : KeepsQ R) (h1 : ∀ Q w cs x, R Q w cs x → ∀ u ∈ cs, u.oneCell' = true) (hz : ∀ Q w, R Q w [Value.int .i64 0, Value.int .i64 0, Value.slice none 0 0] zero) (hone : OneC B F 56 3 R Cap one C (fun p w Q => Calls Try.prog 89 #[p, .pointer (some ⟨gB, 0, none⟩)] w Q)) (hfine : Fine one C)
  (hcap : ∀ b w1 w2, b = tb ∨ w.heap.size ≤ b → Fr B b w1 w2 → (∀ g, g = tb ∨ w.heap.size ≤ g → Cap g w1 → Cap g w2)) (hcap0 : ∀ g, w.heap.size ≤ g → Cap g w)
  (hf : FlX B w F st) (ht : ¬ hot t) (hv : SlQ (· < B) 3 (R (· < B)) w v xs) (hc : Blk w tb t (L1 ++ ([v] ++ L2)).toArray) (ho : L1.length = off) (hB : B ≤ tb) (hBw : B ≤ w.heap.size) (hup : st.rdUp tb) (hroom : st.room + (10 + C * 1024) ≤ 1000000000000) :
  Calls Try.prog 88 #[.pointer (some ⟨F, 0, none⟩), .pointer (some ⟨tb, off, none⟩), .func (.func 89) #[] #[.pointer (some ⟨gB, 0, none⟩)]] w (FlP B F tb t L1 L2 (fun w' vs ys => ∃ v', vs = [v'] ∧ SlQ (FreshQ w.heap.size w') 3 (R (FreshQ w.heap.size w')) w' v' ys) st (listF one zero st xs) w) := by
 obtain ⟨css, A, c, rfl, hn1, hn2, hfl, hrd⟩ := flat_of_slqB hv (by decide)
 unfold maxLen at hn2
 obtain ⟨i0, hi, hi0, hi1, hi2⟩ := info_parts info_E
 have c0 : w.cell? ⟨tb, off, none⟩ = some (.slice A xs.length c) := (hc.cell off).trans (list_at ho)
 have HV := Lib.hid hv
 have HFL := Lib.hid hfl
 have HRD := Lib.hid hrd
 have HF := Lib.hid hf
 have HT := Lib.hid ht
 have HC := Lib.hid hc
 have HO := Lib.hid ho
 have HB := Lib.hid hB
 have HBW := Lib.hid hBw
 have HUP := Lib.hid hup
 have HRM := Lib.hid hroom
 have HCAP := Lib.hid hcap
 have HCAP0 := Lib.hid hcap0
 have HR := Lib.hid hR
 have HONE := Lib.hid hone
 have HFI := Lib.hid hfine
 have H1 := Lib.hid h1
 have HZ := Lib.hid hz
 have htb := hc.lt
 have nn : (0 : Int) ≤ (xs.length : Int) := by omega
 have hote : ¬ hot 56 := by unfold hot; decide
 have HE := Lib.hid hote
 clear hv hfl hrd hf ht hc ho hB hBw hup hroom hcap hcap0 hR hone hfine h1 hz hote
 by_cases hlong : 1024 < xs.length
 ·have hno : listF one zero st xs = none := by unfold listF; rw [if_pos hlong]
  have HNO := Lib.hid hno
  have hl2 : (1024 : Int) < (xs.length : Int) := by omega
  have BA := Lib.hid (Fr.below (tb := tb) HBW.out ((Below.refl w.heap.size w).alloc (Nat.le_refl _) (.cells #[.int .i64 xs.length] 3)))
  clear hno hlong
  go_enter Try.func88, Try.ntmps88
  go_wp2_with fail
  exact ⟨rfl, .inr ⟨HNO.out, 3, rfl, ⟨.inl rfl, fun _ _ => rfl⟩, BA.out⟩⟩
 ·have hl2 : (xs.length : Int) ≤ 1024 := by omega
  have HLG := Lib.hid hlong
  obtain ⟨W, hW⟩ : ∃ W, W = w.alloc (.cells #[.int .i64 xs.length] 3) := ⟨_, rfl⟩
  have ha : Below w.heap.size w W := by rw [hW]; exact (Below.refl _ _).alloc (Nat.le_refl _) _
  have hsz : W.heap.size = w.heap.size + 1 := by rw [hW]; simp
  have hbn : Blk W w.heap.size 3 #[.int .i64 xs.length] := by rw [hW]; exact Blk.new _ _ _
  have CM := Lib.hid (ints_box B F tb t _ st xs.length w W HF.out HT.out (HC.out.below ha HC.out.lt) htb (wfi_nat (by omega)) HBW.out (by have := HRM.out; omega) (Fr.below HBW.out ha) hsz hbn (HF.out.below ha))
  clear ha hsz hbn hlong
  go_enter Try.func88, Try.ntmps88
  have HWW := Lib.hid hW
  clear hW
  go_upto_region 3 with fail
  rw [← HWW.out]
  clear HWW c0
  go_wp2_with fail
  refine CM.out.mono ?_
  rintro e w3 (⟨s, y, hn, rfl, hf3, hb3, hc3, hr3⟩ | ⟨hn, ec, rfl, he, hbe⟩)
  ·have y0 : w3.cell? ⟨w.heap.size, 0, none⟩ = some (.int .i64 y) := hb3.cell 0
   have c3 : w3.cell? ⟨tb, off, none⟩ = some (.slice A xs.length c) := (hc3.cell off).trans (list_at HO.out)
   have z3 := hc3.frozen off
   obtain ⟨fn1, fn2⟩ := fine_num _ _ _ _ hn
   have HN := Lib.hid hn
   have H3 := Lib.hid hf3
   have HC3 := Lib.hid hc3
   have HR3 := Lib.hid hr3
   have HK := Lib.hid fn2
   have HRO := Lib.hid fn1
   have HB3 : Hid (B ≤ w3.heap.size) := Lib.hid (Nat.le_trans HBW.out hr3.size)
   have HS3 : Hid (w.heap.size ≤ w3.heap.size) := Lib.hid hr3.size
   have hkt : tb < w3.heap.size := hc3.lt
   have HBN := Lib.hid hb3
   clear hn hf3 hb3 hc3 hr3 fn1 fn2 CM
   cases s with
   | rd RR RA n cc l q =>
    obtain ⟨g1, g2, g3, g4, g5, g6, g7, g8⟩ := H3.out
    have f0 := g3.cell 0
    have f2 := g3.cell 2
    have CL0 := Lib.hid (fun m => (left_any RA n cc q RR (w3.drewN m) g7 (by omega) g4).mono (fun e w' (h : e = .returned (.int .i64 ((n - q : Nat) : Int)) ∧ ∃ k, w' = (w3.drewN m).drewN k) => (⟨h.1, by obtain ⟨k, hk⟩ := h.2; exact ⟨m + k, by rw [hk, World.drewN_drewN]⟩⟩ : e = .returned (.int .i64 ((n - q : Nat) : Int)) ∧ ∃ k, w' = w3.drewN k)))
    have HLF : Hid (listF one zero st xs = if 0 ≤ y ∧ y ≤ 1024 ∧ y ≤ ((n - q : Nat) : Int) then runL one (.rd RR RA n cc l q) (List.replicate y.toNat zero) else none) := Lib.hid (by unfold listF; rw [if_neg HLG.out, HN.out])
    have NRD : Hid (∀ bs, st = .wr bs → False) := Lib.hid (by
     rintro bs rfl
     exact HK.out)
    clear g1 g2 g3 g4 g5 g6 g7 g8
    by_cases q0 : y < 0
    ·have HNO : Hid (listF one zero st xs = none) := Lib.hid (by rw [HLF.out, if_neg (by omega)])
     go_upto_region 5 with fail
     refine wp_region_quiet_lit (by kernel_rfl) (by kernel_rfl) ?_
     repeat (any_goals (first | go_big_quiet_step ((go_at_call 52; exact CL0.out _)) | go_big_quiet_step (fail) | quiet_step (fail) | (refine wpQuiet_step (fun K hK => ?_); go_simp; split <;> (refine hK _ ?_; clear hK K))))
     all_goals (refine wpQuiet_nil ?_; intro _ hw'; obtain ⟨nq, hw''⟩ := hw'; subst hw'')
     go_wp2_with fail
     exact ⟨rfl, .inr ⟨HNO.out, 32, rfl, ⟨.inr rfl, fun bs h => (NRD.out bs h).elim⟩, ⟨below_drewN HR3.out.1 _, HR3.out.2⟩⟩⟩
    ·have t0 : decide (y < 0) = false := decide_eq_false q0
     have q0 : 0 ≤ y := by omega
     by_cases q1 : 1024 < y
     ·have HNO : Hid (listF one zero st xs = none) := Lib.hid (by rw [HLF.out, if_neg (by omega)])
      go_upto_region 5 with fail
      refine wp_region_quiet_lit (by kernel_rfl) (by kernel_rfl) ?_
      repeat (any_goals (first | go_big_quiet_step ((go_at_call 52; exact CL0.out _)) | go_big_quiet_step (fail) | quiet_step (fail) | (refine wpQuiet_step (fun K hK => ?_); go_simp; split <;> (refine hK _ ?_; clear hK K))))
      all_goals (refine wpQuiet_nil ?_; intro _ hw'; obtain ⟨nq, hw''⟩ := hw'; subst hw'')
      go_wp2_with fail
      exact ⟨rfl, .inr ⟨HNO.out, 32, rfl, ⟨.inr rfl, fun bs h => (NRD.out bs h).elim⟩, ⟨below_drewN HR3.out.1 _, HR3.out.2⟩⟩⟩
     ·have t1 : decide (1024 < y) = false := decide_eq_false q1
      have q1 : y ≤ 1024 := by omega
      by_cases q2 : ((n - q : Nat) : Int) < y
      ·have HNO : Hid (listF one zero st xs = none) := Lib.hid (by rw [HLF.out, if_neg (by omega)])
       go_upto_region 5 with fail
       refine wp_region_quiet_lit (by kernel_rfl) (by kernel_rfl) ?_
       repeat (any_goals (first | go_big_quiet_step ((go_at_call 52; exact CL0.out _)) | go_big_quiet_step (fail) | quiet_step (fail) | (refine wpQuiet_step (fun K hK => ?_); go_simp; split <;> (refine hK _ ?_; clear hK K))))
       all_goals (refine wpQuiet_nil ?_; intro _ hw'; obtain ⟨nq, hw''⟩ := hw'; subst hw'')
       go_wp2_with fail
       exact ⟨rfl, .inr ⟨HNO.out, 32, rfl, ⟨.inr rfl, fun bs h => (NRD.out bs h).elim⟩, ⟨below_drewN HR3.out.1 _, HR3.out.2⟩⟩⟩
      ·have t2 : decide (((n - q : Nat) : Int) < y) = false := decide_eq_false q2
       have q2 : y ≤ ((n - q : Nat) : Int) := by omega
       obtain ⟨m, hm⟩ : ∃ m : Nat, y = (m : Int) := ⟨y.toNat, by omega⟩
       subst hm
       have HLF2 : Hid (listF one zero st xs = runL one (.rd RR RA n cc l q) (List.replicate m zero)) := Lib.hid (by rw [HLF.out, if_pos ⟨q0, q1, q2⟩, Int.toNat_natCast])
       go_upto_region 5 with fail
       refine wp_region_quiet_lit (by kernel_rfl) (by kernel_rfl) ?_
       repeat (any_goals (first | go_big_quiet_step ((go_at_call 52; exact CL0.out _)) | go_big_quiet_step (fail) | quiet_step (fail) | (refine wpQuiet_step (fun K hK => ?_); go_simp; split <;> (refine hK _ ?_; clear hK K))))
       all_goals (refine wpQuiet_nil ?_; intro _ hw'; obtain ⟨nq, hw''⟩ := hw'; subst hw'')
       obtain ⟨w4, hw4⟩ : ∃ w4, w4 = w3.drewN nq := ⟨_, rfl⟩
       rw [← hw4]
       have H4 : Hid (FlX B w4 F (.rd RR RA n cc l q)) := Lib.hid (by rw [hw4]; exact H3.out)
       have HC4 : Hid (Blk w4 tb t (L1 ++ ([Value.slice A xs.length c] ++ L2)).toArray) := Lib.hid (by rw [hw4]; exact HC3.out)
       have HB4 : Hid (Blk w4 w.heap.size 3 #[.int .i64 m]) := Lib.hid (by rw [hw4]; exact HBN.out)
       have HR4 : Hid (Fr B tb w w4) := Lib.hid (by rw [hw4]; exact ⟨below_drewN HR3.out.1 _, fun b t cs h1 h2 h3 => HR3.out.2 b t cs h1 h2 h3⟩)
       have HS4 : Hid (w.heap.size ≤ w4.heap.size ∧ B ≤ w4.heap.size) := Lib.hid (by rw [hw4]; exact ⟨HS3.out, HB3.out⟩)
       clear hw4 y0 c3 z3 f0 f2
       have y0 := HB4.out.cell 0
       have hm1 : m ≤ 1024 := by omega
       go_wp2_with (at_make; refine wpList_make_full _ rfl (.tmp 41) (.tmp 41) 44 rfl w.heap.size 56 i0 _ 3 Try.underlying44 hi hi0 hi1 .i64 .i64 (m : Int) (m : Int) m rfl rfl rfl rfl ?b2 ?b3 ?b4 ?_; rotate_left 3; intro w5 hown5 hg5; have hb45 := below_of_grown hg5; have H5C := HC4.out.below hb45 HC4.out.lt; have c5 : w5.cell? ⟨tb, off, none⟩ = some (.slice A xs.length c) := (H5C.cell off).trans (list_at HO.out); have z5 := H5C.frozen off; have HOW := Lib.hid hown5; have HB45 := Lib.hid hb45; have H5CC := Lib.hid H5C; clear hown5 hg5 hb45 H5C)
       case b2 => rw [hi2]; omega
       case b3 => unfold maxLen; omega
       case b4 => exact HS4.out.1
       have LS : ∀ W, W = w5.setCell ⟨tb, off, none⟩ (.slice (some ⟨w4.heap.size, 0, none⟩) m m) → LoopS B F tb t L1 L2 56 3 R one st (listF one zero st xs) w m W := fun W hW => by
        subst hW
        have hmade : w5.ownsRow w.heap.size 56 3 (.slice (some ⟨w4.heap.size, 0, none⟩) m m) m (List.replicate m [Value.int .i64 0, Value.int .i64 0, Value.slice none 0 0]).flatten := by
         have h := HOW.out
         have e := made_zero (sz := 3) [Value.int .i64 0, Value.int .i64 0, Value.slice none 0 0] rfl (by decide) m
         rw [← e]; exact h
        refine ⟨_, List.replicate m zero, .slice (some ⟨w4.heap.size, 0, none⟩) m m, List.replicate m [Value.int .i64 0, Value.int .i64 0, Value.slice none 0 0], HLF2.out, ⟨by simpa using hm1, by simp⟩, HK.out, HRO.out, (H4.out.below HB45.out).set_ HT.out H5CC.out (kin_up HK.out HUP.out) _ _, ?_, ?_, ?_, (HR4.out.trans (Fr.below HS4.out.2 HB45.out)).set_ HB.out _ _⟩
        ·have h := H5CC.out.set_ off (.slice (some ⟨w4.heap.size, 0, none⟩) m m)
         rw [list_set HO.out] at h
         exact h
        ·rw [List.length_replicate]
         exact own_far2 hmade (fun e => by injection e with e; simp only at e; have := HC4.out.lt; omega) _
        ·exact flat_zero [Value.int .i64 0, Value.int .i64 0, Value.slice none 0 0] zero rfl (HZ.out _ _) m
       have HLS := Lib.hid LS
       clear LS y0
       go_upto_region 9 with fail
       obtain ⟨w9, hw9⟩ : ∃ w9, w9 = w5.setCell ⟨tb, off, none⟩ (.slice (some ⟨w4.heap.size, 0, none⟩) m m) := ⟨_, rfl⟩
       rw [← hw9]
       have hls := HLS.out w9 hw9
       clear hw9 c5 z5 HLS
       obtain ⟨s0, xs0, v2, css0, e1, ⟨e2, hNL⟩, e3, e4, e5, e6, e7, e8, e9⟩ := hls
       obtain ⟨A2, c2, rfl⟩ := own_slice e7
       have HNL := Lib.hid hNL
       obtain ⟨cp1, cp2⟩ := own_caps e7
       unfold maxLen at cp2
       have HE1 := Lib.hid e1
       have HKK := Lib.hid e3
       obtain ⟨g, hgA, hgB, tail, hgT⟩ : ∃ g, (0 < xs0.length → A2 = some ⟨g, 0, none⟩) ∧ w.heap.size ≤ g ∧ ∃ tail, (0 < xs0.length → Blk w9 g 56 (css0.flatten ++ tail).toArray) := by
        rcases Nat.eq_zero_or_pos xs0.length with h0 | h0
        ·exact ⟨w.heap.size, fun h => by omega, Nat.le_refl _, [], fun h => by omega⟩
        ·rcases e7.2 with ⟨_, h⟩ | ⟨g, cap, cur, h1, h2, h3, h4, h5, h6, h7⟩
         ·omega
         ·injection h1 with h1 _ _
          refine ⟨g, fun _ => h1, h2, cur.toList.drop (xs0.length * 3), fun _ => ?_⟩
          rw [← h7, List.take_append_drop]
          exact h3
       have HLR : Hid (LoopR B F tb g t L1 L2 tail (.slice A2 xs0.length c2) 56 3 R Cap one s0 xs0 w 0 w9) := Lib.hid ⟨s0, [], [], css0, by simp [runL], e5, e6, e9, fun h => by simpa using hgT h, FlatR.nil _ _ _, by simpa using e8, HCAP.out tb w w9 (.inl rfl) e9 g (.inr hgB) (HCAP0.out g hgB)⟩
       have HST := Lib.hid (fun r wr (h : LoopR B F tb g t L1 L2 tail (.slice A2 xs0.length c2) 56 3 R Cap one s0 xs0 w r wr) (hr : r < xs0.length) => h.step HR.out HT.out HE.out hgB HBW.out htb HONE.out HFI.out (fun w1 w2 h1 h2 => HCAP.out g w1 w2 (.inr hgB) h1 g (.inr hgB) h2) (by have := HRM.out; omega) e2 (kin_up e3 (HF.out.rdUp hgB)) hr (fun p w Q Q' h hc => Calls.mono hc h))
       have HDN := Lib.hid (fun wr (h : LoopR B F tb g t L1 L2 tail (.slice A2 xs0.length c2) 56 3 R Cap one s0 xs0 w xs0.length wr) => h.done HR.out HE.out hgB HFI.out hgA cp1 (by unfold maxLen; exact cp2) st)
       have HGA := Lib.hid hgA
       have ne0 : (0 : Int) ≤ (m : Int) := by omega
       have cp3 : m ≤ c2 := by omega
       clear e1 e2 e3 e4 e5 e6 e7 e8 e9 hgA hgT hNL cp1
       go_loopw [54] (fun i wr => ∃ r : Nat, r ≤ m ∧ i = .int .i64 r ∧ Hid (LoopR B F tb g t L1 L2 tail (.slice A2 xs0.length c2) 56 3 R Cap one s0 xs0 w r wr)) (fun i _ => m - (intOf i).toNat)
       case atStart => exact ⟨0, Nat.zero_le _, rfl, HLR⟩
       case round =>
        obtain ⟨r, hr, rfl, hX⟩ := hrel
        by_cases hlt : r < m
        ·have hst := HST.out r wr hX.out (by have := HNL.out; omega)
         obtain ⟨_, _, _, _, _, _, k3, _⟩ := hX.out
         have c9 : wr.cell? ⟨tb, off, none⟩ = some (.slice A2 m c2) := (k3.cell off).trans ((list_at HO.out).trans (by rw [HNL.out]))
         obtain rfl := HGA.out (by have := HNL.out; omega)
         have b1 : (0 : Int) ≤ (r : Int) := by omega
         have b2 : (r : Int) < (m : Int) := by omega
         skip
         have HS := Lib.hid hst
         clear k3 hX hst
         go_wp2_with fail
         refine HS.out.mono ?_
         rintro e w8 (⟨rfl, hn⟩ | ⟨hn, ec, rfl, he, hbe⟩)
         ·have HN8 := Lib.hid hn
          clear hn c9
          go_wp2_with fail
          go_roundw
          case rel => first | exact ⟨r + 1, by omega, by go_num, HN8⟩ | ((repeat apply Exists.intro); exact ⟨⟨r + 1, by omega, by go_num, HN8⟩, rfl⟩)
          case measure => simp [intOf]; omega
         ·have HNO := Lib.hid (HE1.out.trans hn)
          have HEE := Lib.hid (kin_err HKK.out he)
          have HBE := Lib.hid hbe
          clear hn he hbe c9
          go_wp2_with fail
          exact ⟨rfl, .inr ⟨HNO.out, ec, rfl, HEE.out, HBE.out⟩⟩
        ·have hge : (m : Int) ≤ (r : Int) := by omega
         have hre : Hid (r = xs0.length) := Lib.hid (by have := HNL.out; omega)
         have HD := Lib.hid (HDN.out wr (by have h := hX.out; rw [hre.out] at h; exact h))
         clear hX
         go_wp2_with fail
         go_end0
         rw [HE1.out]
         exact HD.out
   | wr bs => exact H3.out.elim
  ·have hno : listF one zero st xs = none := by unfold listF; rw [if_neg HLG.out, hn]
   have HNO := Lib.hid hno
   have HEE := Lib.hid he
   have HBE := Lib.hid hbe
   clear hn he hbe hno CM
   go_wp2_with fail
   exact ⟨rfl, .inr ⟨HNO.out, ec, rfl, HEE.out, HBE.out⟩⟩
end Go.Proofs.Ytioocaicmiggoaa

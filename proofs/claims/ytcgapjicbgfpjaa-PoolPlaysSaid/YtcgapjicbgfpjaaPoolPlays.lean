/-
  PoolPlays: for every input the Go function answers true, and the input reads as it did. No condition.
-/
import Derived.Test.YtcgapjicbgfpjaaRows
import Derived.Test.YtcgapjicbgfpjaaRow
import Derived.Test.YtcgapjicbgfpjaaPlay
import Derived.Test.YtcgapjicbgfpjaaSeen
import Derived.Test.YtcgapjicbgfpjaaTill
import Derived.WalkSpells
namespace Go.Proofs.Ytcgapjicbgfpjaa.poolPlays
open Go.ChangeShapes Go.WideShapes Go.ChangeAt Go.RowKit
open Go.ChangeMaps (open_string shut_string)
set_option linter.unusedVariables false
set_option linter.unusedSimpArgs false

theorem own : ownKnob Try.prog.godebug = none := by kernel_rfl
theorem laidOut : laidOutB Try.prog = true := by kernel_rfl

theorem bd_i {a : Int} (h : (Lit.int .i64 a).wf = true) : -9223372036854775808 ≤ a ∧ a ≤ 9223372036854775807 := by
  simpa [Lit.wf, IntKind.min, IntKind.max, IntKind.bits, IntKind.signed] using h
set_option maxRecDepth 100000 in
set_option maxHeartbeats 8000000 in
set_option maxHeartbeats 8000000 in
/-- the walk: the Go text answers true and writes nothing that was there -/
theorem walk (w : World) (a0 : Int) (w0 : (Lit.int .i64 a0).wf = true) (a1 : Option Addr) (n1 c1 : Nat) (z1_0 : Nat → Int) (z1_1 : Nat → Int) (z1_2 : Nat → Int) (z1_3 : Nat → Bool) (w1 : InCells 4 32 w a1 n1 c1 (fun i j => match j with | 0 => Value.int .i64 (z1_0 i) | 1 => Value.int .i64 (z1_1 i) | 2 => Value.int .i64 (z1_2 i) | _ => Value.bool (z1_3 i))) (x1_0 : ∀ i, i < n1 → (Lit.int .i64 (z1_0 i)).wf = true) (x1_1 : ∀ i, i < n1 → (Lit.int .i64 (z1_1 i)).wf = true) (x1_2 : ∀ i, i < n1 → (Lit.int .i64 (z1_2 i)).wf = true) :
    Calls Try.prog 6 #[.int .i64 a0, .slice a1 n1 c1] w fun e w' => e = .returned (.bool true) ∧ Below w.heap.size w w' := by
  have hlen := w1.len
  have hcap := w1.cap
  have HR := Lib.hid w1.at_
  have hrc := w1.reach
  have HW1 := Lib.hid x1_1
  have HW2 := Lib.hid x1_2
  unfold maxLen at hcap
  clear w1 x1_0 x1_1 x1_2
  have N := Lib.hid (new_any (fun g => g < w.heap.size) w (fun g h => h) a0)
  have N2 := Lib.hid (fun wa => ref_new wa a0)
  go_enter Try.func6, Try.ntmps6
  go_wp2_with fail
  refine N.out.mono ?_
  rintro e wa ⟨P, rfl, hW, hK1, hB1⟩
  have PW := Lib.hid (And.intro hW hB1)
  clear N hW hK1 hB1
  go_wp2_with fail
  refine (N2.out wa).mono ?_
  rintro e wb ⟨rfl, hX, hB2⟩
  have PL := Lib.hid (PlayL.start PW.out.1 PW.out.2 hX hB2)
  obtain ⟨B, hB⟩ : ∃ B, wa.heap.size = B := ⟨_, rfl⟩
  obtain ⟨m, hm⟩ : ∃ m, max 0 a0 = m := ⟨_, rfl⟩
  rw [hB, hm] at PL
  rw [hB]
  clear N2 hX hB2 PW hB hm
  go_wp2_with fail
  refine (awake_any _).mono ?_
  rintro e wc ⟨rfl, hb⟩
  have PL2 := Lib.hid (PL.out.stay hb)
  clear PL hb
  go_wp2_with fail
  go_loopw [26] (fun i wr => ∃ r : Nat, r ≤ n1 ∧ r ≤ 200 ∧ i = .int .i64 r ∧ Hid (PlayL w P B m r wr)) (fun i _ => n1 - (intOf i).toNat)
  case atStart => exact ⟨0, Nat.zero_le _, Nat.zero_le _, rfl, PL2⟩
  case round =>
    clear PL2
    obtain ⟨r, hr, hr2, rfl, hL⟩ := hrel
    by_cases hlt : r < n1
    · obtain ⟨b, off, rfl, hbw, hc⟩ := HR.out (by omega)
      have bel := hL.out.below
      have c0 : wr.cell? ⟨b, off + r * 4, none⟩ = some (.int .i64 (z1_0 r)) := (bel.cell (p := ⟨b, off + r * 4, none⟩) hbw).trans (hc r 0 hlt (by omega))
      have c1' : wr.cell? ⟨b, off + r * 4 + 1, none⟩ = some (.int .i64 (z1_1 r)) := (bel.cell (p := ⟨b, off + r * 4 + 1, none⟩) hbw).trans (hc r 1 hlt (by omega))
      have c2 : wr.cell? ⟨b, off + r * 4 + 2, none⟩ = some (.int .i64 (z1_2 r)) := (bel.cell (p := ⟨b, off + r * 4 + 2, none⟩) hbw).trans (hc r 2 hlt (by omega))
      have c3 : wr.cell? ⟨b, off + r * 4 + 3, none⟩ = some (.bool (z1_3 r)) := (bel.cell (p := ⟨b, off + r * 4 + 3, none⟩) hbw).trans (hc r 3 hlt (by omega))
      have hwa := HW1.out r hlt
      have hwb := HW2.out r hlt
      obtain ⟨kd, hkd⟩ : ∃ kd, z1_0 r = kd := ⟨_, rfl⟩
      obtain ⟨sa, hsa⟩ : ∃ sa, z1_1 r = sa := ⟨_, rfl⟩
      obtain ⟨sb, hsb⟩ : ∃ sb, z1_2 r = sb := ⟨_, rfl⟩
      obtain ⟨sf, hsf⟩ : ∃ sf, z1_3 r = sf := ⟨_, rfl⟩
      rw [hkd] at c0
      rw [hsa] at c1' hwa
      rw [hsb] at c2 hwb
      rw [hsf] at c3
      have d0 : (0 : Int) ≤ (r : Int) := by omega
      have d1 : (r : Int) < (n1 : Int) := by omega
      clear hc hkd hsa hsb hsf hbw
      by_cases h200 : r = 200
      · have hd : ((r : Int) == 200) = true := by rw [h200]; rfl
        have G := Lib.hid (fun o => bel.alloc bel.size o)
        clear hL bel h200
        go_wp2_with fail
        go_ret
        exact ⟨rfl, G.out _⟩
      · have hd : ((r : Int) == 200) = false := by rw [beq_eq_false_iff_ne]; omega
        have hr3 : r < 200 := by omega
        obtain ⟨S, v, hI, hP⟩ := hL.out
        have PX := Lib.hid (hP.begin #[.int .i64 kd, .int .i64 sa, .int .i64 sb, .bool sf])
        have hI := Lib.hid hI
        have hwa : wfi sa := hwa
        have hwb : wfi sb := hwb
        clear hL hP bel h200
        have k0' : kd = 0 ∨ kd = 1 ∨ ((kd == 0) = false ∧ (kd == 1) = false) := by
          by_cases h0 : kd = 0
          · exact .inl h0
          · by_cases h1 : kd = 1
            · exact .inr (.inl h1)
            · exact .inr (.inr ⟨by rw [beq_eq_false_iff_ne]; exact h0, by rw [beq_eq_false_iff_ne]; exact h1⟩)
        rcases k0' with h0 | h0 | ⟨h0, h1⟩
        · rw [h0] at c0 PX
          go_wp2_with fail
          refine (PX.out.addP hI.out (by omega) sa sb sf hwa hwb).mono ?_
          rintro e wx ⟨rfl, hX1⟩
          have HX1 := Lib.hid hX1
          clear hX1 PX
          have s0 := HX1.out.stp.cell 0
          have s1 := HX1.out.stp.cell 1
          have s2 := HX1.out.stp.cell 2
          have s3 := HX1.out.stp.cell 3
          go_wp2_with fail
          refine (HX1.out.addR hI.out (by omega) sa sb sf).mono ?_
          rintro e wy ⟨rfl, v1, hX2⟩
          have HI1 := Lib.hid (pinv_add hI.out m sa sb sf hwa hwb)
          have HRR := Lib.hid hX2.finish
          clear hX2 HX1 s0 s1 s2 s3
          obtain ⟨i1, hi1⟩ : ∃ i1, (addS S m sa sb sf).2.1 = i1 := ⟨_, rfl⟩
          obtain ⟨i2, hi2⟩ : ∃ i2, (addS S m sa sb sf).2.2 = i2 := ⟨_, rfl⟩
          rw [hi1, hi2]
          clear hi1 hi2
          go_wp2_with fail
          refine (HRR.out.usedP HI1.out (by omega)).mono ?_
          rintro e wu ⟨rfl, rfl⟩
          go_wp2_with fail
          refine (HRR.out.usedR HI1.out (by omega)).mono ?_
          rintro e wu ⟨rfl, hRu⟩
          have HR2 := Lib.hid hRu
          clear hRu HRR
          go_wp2_with fail
          go_loopw [13] (fun i wr2 => ∃ j : Nat, j ≤ ((addS S m sa sb sf).1).length + 2 ∧ i = .int .i64 ((j : Int) - 1) ∧ Hid (PlayR w P B ((addS S m sa sb sf).1) m v1 wr2)) (fun i _ => ((addS S m sa sb sf).1).length + 2 - (intOf i + 1).toNat)
          case atStart => exact ⟨0, by omega, by rfl, HR2⟩
          case round =>
            clear HR2
            obtain ⟨j, hj, rfl, hQ⟩ := hrel
            have hl1 := HI1.out.2.2.2.2
            have k0 := hQ.out.ref.k0
            obtain ⟨A8, c8, hv8, hc81, hc82⟩ := hQ.out.ref.slice
            rw [hv8] at k0
            clear hv8
            unfold maxLen at hc82
            obtain ⟨nl, hnl⟩ : ∃ nl, ((addS S m sa sb sf).1).length = nl := ⟨_, rfl⟩
            rw [hnl] at hj k0 hc81 hl1 ⊢
            by_cases hlj : j < nl + 2
            · have t1 : (j : Int) - 1 ≤ (nl : Int) := by omega
              have s9 : IntKind.i64.wrap ((j : Int) - 1 + 1) = (j : Int) := by rw [IntKind.wrap_i64]; omega
              obtain ⟨kk, hkk⟩ : ∃ kk, (j : Int) - 1 = kk := ⟨_, rfl⟩
              rw [hkk] at t1 s9 ⊢
              have HK := Lib.hid hkk
              clear hkk hnl
              go_wp2_with fail
              refine (hQ.out.heldP HI1.out (by omega) kk).mono ?_
              rintro e wy ⟨rfl, hQ2⟩
              have HQ2 := Lib.hid hQ2
              clear hQ hQ2 k0
              go_wp2_with fail
              refine (HQ2.out.heldR HI1.out (by omega) kk).mono ?_
              rintro e wz ⟨rfl, hQ3⟩
              have HQ3 := Lib.hid hQ3
              clear HQ2 hQ3
              go_wp2_with fail
              refine (HQ3.out.paths HI1.out (by omega) kk).mono ?_
              rintro e w6 ⟨x6, rfl, h6⟩
              have H6 := Lib.hid h6
              clear HQ3 h6
              go_wp2_with fail
              refine H6.out.mono ?_
              rintro e w7 ⟨x7, rfl, h7⟩
              have H7 := Lib.hid h7
              clear H6 h7
              go_wp2_with fail
              refine H7.out.mono ?_
              rintro e w8 ⟨rfl, h8⟩
              have H8 := Lib.hid h8
              clear H7 h8
              go_wp2_with fail
              go_roundw
              case rel => exact ⟨j + 1, by omega, by congr 1; omega, H8⟩
              case measure => have := HK.out; simp [intOf]; omega
            · have t1 : (nl : Int) < (j : Int) - 1 := by omega
              obtain ⟨kk, hkk⟩ : ∃ kk, (j : Int) - 1 = kk := ⟨_, rfl⟩
              rw [hkk] at t1 ⊢
              have HEND : Hid (PlayL w P B m (r + 1) wr) := Lib.hid ⟨_, _, HI1.out, hQ.out⟩
              clear hkk hnl hQ
              go_wp2_with fail
              go_roundw
              case rel => first | exact ⟨r + 1, by omega, by omega, by go_num, HEND⟩ | ((repeat apply Exists.intro); exact ⟨⟨r + 1, by omega, by omega, by go_num, HEND⟩, rfl⟩)
              case measure => simp [intOf]; omega
        · rw [h0] at c0 PX
          have s1 := PX.out.stp.cell 1
          go_wp2_with fail
          have HS := Lib.hid (show (fun W : World => W.cell? ⟨wr.heap.size, 1, none⟩ = some (.int .i64 sa)) ((wr.alloc (.cells #[.int .i64 1, .int .i64 sa, .int .i64 sb, .bool sf] 45)).drewN 1) from (PX.out.drewN 1).stp.cell 1)
          refine region_till (fun W : World => W.cell? ⟨wr.heap.size, 1, none⟩ = some (.int .i64 sa)) (fun j => !([2, 3, 6, 7, 8] : List Nat).contains j) (by kernel_rfl) ?_
          refine till_pure (i := 0) (v := ?_) rfl (by kernel_rfl) (by kernel_rfl) (by kernel_rfl) (by kernel_rfl) (fun _ _ _ h => h) (Or.inl ⟨by kernel_rfl, ?_⟩) ?_
          rotate_left
          · (intro w' _; go_simp; try with_reducible rfl)
          refine till_pure (i := 1) (v := ?_) rfl (by kernel_rfl) (by kernel_rfl) (by kernel_rfl) (by kernel_rfl) (fun _ _ _ h => h) (Or.inl ⟨by kernel_rfl, ?_⟩) ?_
          rotate_left
          · (intro w' _; go_simp; try with_reducible rfl)
          refine till_pure (i := 4) (v := ?_) rfl (by kernel_rfl) (by kernel_rfl) (by kernel_rfl) (by kernel_rfl) (fun _ _ _ h => h) (Or.inl ⟨by kernel_rfl, ?_⟩) ?_
          rotate_left
          · (intro w' _; go_simp; try with_reducible rfl)
          refine till_pure (i := 5) (v := ?_) rfl (by kernel_rfl) (by kernel_rfl) (by kernel_rfl) (by kernel_rfl) (fun _ _ _ h => h) (Or.inl ⟨by kernel_rfl, ?_⟩) ?_
          rotate_left
          · (intro w' _; go_simp; try with_reducible rfl)
          refine till_take (i := 2) (v := ?_) rfl (by kernel_rfl) (by kernel_rfl) (by kernel_rfl) (by kernel_rfl) (fun _ _ _ h => h) (Or.inl ⟨by kernel_rfl, ?_⟩) HS.out ?_
          rotate_left
          · (intro w' hSw; obtain z1 := hSw; go_simp; try with_reducible rfl)
          refine till_take (i := 6) (v := ?_) rfl (by kernel_rfl) (by kernel_rfl) (by kernel_rfl) (by kernel_rfl) (fun _ _ _ h => h) (Or.inl ⟨by kernel_rfl, ?_⟩) HS.out ?_
          rotate_left
          · (intro w' hSw; obtain z1 := hSw; go_simp; try with_reducible rfl)
          refine till_ready (rs := [3]) (by kernel_rfl) (by simp) ?_
          refine TillAll.cons rfl (fun K hK => ?_) TillAll.nil
          go_simp
          go_wp2_with (go_at_call 18; refine ((PX.out.drewN 1).holdP hI.out (by omega) sa).mono ?_; rintro ee w1 ⟨rfl, hw1⟩)
          (refine hK.out _ _ (fun _ => hw1.stp.cell 1) ?_; clear hK K)
          refine till_ready (rs := [7]) (by kernel_rfl) (by simp) ?_
          refine TillAll.cons rfl (fun K hK => ?_) TillAll.nil
          go_simp
          go_wp2_with (go_at_call 19; refine (hw1.hasR hI.out (by omega) sa).mono ?_; rintro ee w2 ⟨rfl, rfl⟩)
          (refine hK.out _ _ (fun _ => hw1.stp.cell 1) ?_; clear hK K)
          refine till_ready (rs := [8]) (by kernel_rfl) (by simp) ?_
          refine TillAll.cons rfl (fun K hK => ?_) TillAll.nil
          go_simp
          (refine hK.out _ _ (fun _ => hw1.stp.cell 1) ?_; clear hK K)
          refine till_done (by kernel_rfl) ?_ _
          go_simp
          have HX1 := Lib.hid hw1
          clear hw1 PX
          obtain ⟨hb, hhb⟩ : ∃ hb, hasB S sa = hb := ⟨_, rfl⟩
          rw [hhb]
          have HH := Lib.hid hhb
          have CH := Lib.hid (HX1.out.hasR hI.out (by omega) sa)
          rw [hhb] at CH
          have HI1 := Lib.hid (pinv_hold hI.out sa)
          have s1 := HX1.out.stp.cell 1
          clear hhb
          cases hb with
          | false =>
            go_wp2_with fail
            refine CH.out.mono ?_
            rintro e wy ⟨rfl, rfl⟩
            have hX2 := HX1.out
            rw [holdS_none HH.out] at hX2
            have HRR := Lib.hid hX2.finish
            rw [holdS_none HH.out] at HI1
            obtain ⟨v1, hv1⟩ : ∃ v1, v = v1 := ⟨_, rfl⟩
            rw [hv1] at HRR
            clear HX1 CH s1 hX2 hv1
            go_wp2_with fail
            refine (HRR.out.usedP HI1.out (by omega)).mono ?_
            rintro e wu ⟨rfl, rfl⟩
            go_wp2_with fail
            refine (HRR.out.usedR HI1.out (by omega)).mono ?_
            rintro e wu ⟨rfl, hRu⟩
            have HR2 := Lib.hid hRu
            clear hRu HRR
            go_wp2_with fail
            go_loopw [13] (fun i wr2 => ∃ j : Nat, j ≤ (S).length + 2 ∧ i = .int .i64 ((j : Int) - 1) ∧ Hid (PlayR w P B (S) m v1 wr2)) (fun i _ => (S).length + 2 - (intOf i + 1).toNat)
            case atStart => exact ⟨0, by omega, by rfl, HR2⟩
            case round =>
              clear HR2
              obtain ⟨j, hj, rfl, hQ⟩ := hrel
              have hl1 := HI1.out.2.2.2.2
              have k0 := hQ.out.ref.k0
              obtain ⟨A8, c8, hv8, hc81, hc82⟩ := hQ.out.ref.slice
              rw [hv8] at k0
              clear hv8
              unfold maxLen at hc82
              obtain ⟨nl, hnl⟩ : ∃ nl, (S).length = nl := ⟨_, rfl⟩
              rw [hnl] at hj k0 hc81 hl1 ⊢
              by_cases hlj : j < nl + 2
              · have t1 : (j : Int) - 1 ≤ (nl : Int) := by omega
                have s9 : IntKind.i64.wrap ((j : Int) - 1 + 1) = (j : Int) := by rw [IntKind.wrap_i64]; omega
                obtain ⟨kk, hkk⟩ : ∃ kk, (j : Int) - 1 = kk := ⟨_, rfl⟩
                rw [hkk] at t1 s9 ⊢
                have HK := Lib.hid hkk
                clear hkk hnl
                go_wp2_with fail
                refine (hQ.out.heldP HI1.out (by omega) kk).mono ?_
                rintro e wy ⟨rfl, hQ2⟩
                have HQ2 := Lib.hid hQ2
                clear hQ hQ2 k0
                go_wp2_with fail
                refine (HQ2.out.heldR HI1.out (by omega) kk).mono ?_
                rintro e wz ⟨rfl, hQ3⟩
                have HQ3 := Lib.hid hQ3
                clear HQ2 hQ3
                go_wp2_with fail
                refine (HQ3.out.paths HI1.out (by omega) kk).mono ?_
                rintro e w6 ⟨x6, rfl, h6⟩
                have H6 := Lib.hid h6
                clear HQ3 h6
                go_wp2_with fail
                refine H6.out.mono ?_
                rintro e w7 ⟨x7, rfl, h7⟩
                have H7 := Lib.hid h7
                clear H6 h7
                go_wp2_with fail
                refine H7.out.mono ?_
                rintro e w8 ⟨rfl, h8⟩
                have H8 := Lib.hid h8
                clear H7 h8
                go_wp2_with fail
                go_roundw
                case rel => exact ⟨j + 1, by omega, by congr 1; omega, H8⟩
                case measure => have := HK.out; simp [intOf]; omega
              · have t1 : (nl : Int) < (j : Int) - 1 := by omega
                obtain ⟨kk, hkk⟩ : ∃ kk, (j : Int) - 1 = kk := ⟨_, rfl⟩
                rw [hkk] at t1 ⊢
                have HEND : Hid (PlayL w P B m (r + 1) wr) := Lib.hid ⟨_, _, HI1.out, hQ.out⟩
                clear hkk hnl hQ
                go_wp2_with fail
                go_roundw
                case rel => first | exact ⟨r + 1, by omega, by omega, by go_num, HEND⟩ | ((repeat apply Exists.intro); exact ⟨⟨r + 1, by omega, by omega, by go_num, HEND⟩, rfl⟩)
                case measure => simp [intOf]; omega
          | true =>
            obtain ⟨q, c, g, cp, hq, hql, hv, hl9, hcp, q4, f4, ho1, ho2, hX2⟩ := HX1.out.holdR hI.out (by omega) HH.out
            have k0 := HX1.out.ref.k0
            rw [hv] at k0
            subst hq
            have HX3 := Lib.hid hX2
            have b1 : (0 : Int) ≤ (q : Int) := by omega
            have b2 : (q : Int) < (S.length : Int) := by omega
            have s7 : IntKind.i64.wrap (c.own + 1) = c.own + 1 := by rw [IntKind.wrap_i64]; omega
            unfold maxLen at hcp
            clear hv hX2 hql HH
            go_wp2_with fail
            refine CH.out.mono ?_
            rintro e wy ⟨rfl, rfl⟩
            clear CH
            go_wp2_with fail
            have HS := Lib.hid (show (fun W : World => W.cell? ⟨B, 0, none⟩ = some (.slice (some ⟨g, 0, none⟩) S.length cp) ∧ W.cell? ⟨wr.heap.size, 1, none⟩ = some (.int .i64 (q : Int)) ∧ W.cell? ⟨g, q * 6 + 4, none⟩ = some (.int .i64 c.own)) (w1.drewN 1) from ⟨k0, s1, q4⟩)
            refine region_till (fun W : World => W.cell? ⟨B, 0, none⟩ = some (.slice (some ⟨g, 0, none⟩) S.length cp) ∧ W.cell? ⟨wr.heap.size, 1, none⟩ = some (.int .i64 (q : Int)) ∧ W.cell? ⟨g, q * 6 + 4, none⟩ = some (.int .i64 c.own)) (fun j => !([3, 5, 6, 7, 8, 9] : List Nat).contains j) (by kernel_rfl) ?_
            refine till_pure (i := 0) (v := ?_) rfl (by kernel_rfl) (by kernel_rfl) (by kernel_rfl) (by kernel_rfl) (fun _ _ _ h => h) (Or.inl ⟨by kernel_rfl, ?_⟩) ?_
            rotate_left
            · (intro w' _; go_simp; try with_reducible rfl)
            refine till_pure (i := 1) (v := ?_) rfl (by kernel_rfl) (by kernel_rfl) (by kernel_rfl) (by kernel_rfl) (fun _ _ _ h => h) (Or.inl ⟨by kernel_rfl, ?_⟩) ?_
            rotate_left
            · (intro w' _; go_simp; try with_reducible rfl)
            refine till_pure (i := 2) (v := ?_) rfl (by kernel_rfl) (by kernel_rfl) (by kernel_rfl) (by kernel_rfl) (fun _ _ _ h => h) (Or.inl ⟨by kernel_rfl, ?_⟩) ?_
            rotate_left
            · (intro w' _; go_simp; try with_reducible rfl)
            refine till_pure (i := 4) (v := ?_) rfl (by kernel_rfl) (by kernel_rfl) (by kernel_rfl) (by kernel_rfl) (fun _ _ _ h => h) (Or.inl ⟨by kernel_rfl, ?_⟩) ?_
            rotate_left
            · (intro w' _; go_simp; try with_reducible rfl)
            refine till_take (i := 3) (v := ?_) rfl (by kernel_rfl) (by kernel_rfl) (by kernel_rfl) (by kernel_rfl) (fun _ _ _ h => h) (Or.inl ⟨by kernel_rfl, ?_⟩) HS.out ?_
            rotate_left
            · (intro w' hSw; obtain ⟨z1, z2, z3⟩ := hSw; go_simp; try with_reducible rfl)
            refine till_take (i := 5) (v := ?_) rfl (by kernel_rfl) (by kernel_rfl) (by kernel_rfl) (by kernel_rfl) (fun _ _ _ h => h) (Or.inl ⟨by kernel_rfl, ?_⟩) HS.out ?_
            rotate_left
            · (intro w' hSw; obtain ⟨z1, z2, z3⟩ := hSw; go_simp; try with_reducible rfl)
            refine till_ready (rs := [6]) (by kernel_rfl) (by simp) ?_
            refine TillAll.cons rfl (fun K hK => ?_) TillAll.nil
            go_simp
            (refine hK.out _ _ (fun _ => HS.out) ?_; clear hK K)
            refine till_ready (rs := [7]) (by kernel_rfl) (by simp) ?_
            refine TillAll.cons rfl (fun K hK => ?_) TillAll.nil
            go_simp
            (refine hK.out _ _ (fun _ => HS.out) ?_; clear hK K)
            refine till_take (i := 8) (v := ?_) rfl (by kernel_rfl) (by kernel_rfl) (by kernel_rfl) (by kernel_rfl) (fun _ _ _ h => h) (Or.inl ⟨by kernel_rfl, ?_⟩) HS.out ?_
            rotate_left
            · (intro w' hSw; obtain ⟨z1, z2, z3⟩ := hSw; go_simp; try with_reducible rfl)
            refine till_ready (rs := [9]) (by kernel_rfl) (by simp) ?_
            refine TillAll.cons rfl (fun K hK => ?_) TillAll.nil
            go_simp
            (refine hK.out _ _ (fun _ => HS.out) ?_; clear hK K)
            refine till_pure (i := 10) (v := ?_) rfl (by kernel_rfl) (by kernel_rfl) (by kernel_rfl) (by kernel_rfl) (fun _ _ _ h => h) (Or.inl ⟨by kernel_rfl, ?_⟩) ?_
            rotate_left
            · (intro w' _; go_simp; try with_reducible rfl)
            refine till_pure (i := 11) (v := ?_) rfl (by kernel_rfl) (by kernel_rfl) (by kernel_rfl) (by kernel_rfl) (fun _ _ _ h => h) (Or.inl ⟨by kernel_rfl, ?_⟩) ?_
            rotate_left
            · (intro w' _; go_simp; try with_reducible rfl)
            refine till_ready (rs := [12]) (by kernel_rfl) (by simp) ?_
            refine TillAll.cons rfl (fun K hK => ?_) TillAll.nil
            go_simp
            (refine hK.out _ _ (fun h => absurd h (by decide)) ?_; clear hK K)
            refine till_done (by kernel_rfl) ?_ _
            go_simp
            have HRR := Lib.hid (HX3.out 1).finish
            clear HX3 HX1 k0 q4 f4 s1
            obtain ⟨v1, hv1⟩ : ∃ v1, v = v1 := ⟨_, rfl⟩
            rw [hv1] at HRR
            clear hv1
            go_wp2_with fail
            refine (HRR.out.usedP HI1.out (by omega)).mono ?_
            rintro e wu ⟨rfl, rfl⟩
            go_wp2_with fail
            refine (HRR.out.usedR HI1.out (by omega)).mono ?_
            rintro e wu ⟨rfl, hRu⟩
            have HR2 := Lib.hid hRu
            clear hRu HRR
            go_wp2_with fail
            go_loopw [13] (fun i wr2 => ∃ j : Nat, j ≤ ((holdS S (q : Int))).length + 2 ∧ i = .int .i64 ((j : Int) - 1) ∧ Hid (PlayR w P B ((holdS S (q : Int))) m v1 wr2)) (fun i _ => ((holdS S (q : Int))).length + 2 - (intOf i + 1).toNat)
            case atStart => exact ⟨0, by omega, by rfl, HR2⟩
            case round =>
              clear HR2
              obtain ⟨j, hj, rfl, hQ⟩ := hrel
              have hl1 := HI1.out.2.2.2.2
              have k0 := hQ.out.ref.k0
              obtain ⟨A8, c8, hv8, hc81, hc82⟩ := hQ.out.ref.slice
              rw [hv8] at k0
              clear hv8
              unfold maxLen at hc82
              obtain ⟨nl, hnl⟩ : ∃ nl, ((holdS S (q : Int))).length = nl := ⟨_, rfl⟩
              rw [hnl] at hj k0 hc81 hl1 ⊢
              by_cases hlj : j < nl + 2
              · have t1 : (j : Int) - 1 ≤ (nl : Int) := by omega
                have s9 : IntKind.i64.wrap ((j : Int) - 1 + 1) = (j : Int) := by rw [IntKind.wrap_i64]; omega
                obtain ⟨kk, hkk⟩ : ∃ kk, (j : Int) - 1 = kk := ⟨_, rfl⟩
                rw [hkk] at t1 s9 ⊢
                have HK := Lib.hid hkk
                clear hkk hnl
                go_wp2_with fail
                refine (hQ.out.heldP HI1.out (by omega) kk).mono ?_
                rintro e wy ⟨rfl, hQ2⟩
                have HQ2 := Lib.hid hQ2
                clear hQ hQ2 k0
                go_wp2_with fail
                refine (HQ2.out.heldR HI1.out (by omega) kk).mono ?_
                rintro e wz ⟨rfl, hQ3⟩
                have HQ3 := Lib.hid hQ3
                clear HQ2 hQ3
                go_wp2_with fail
                refine (HQ3.out.paths HI1.out (by omega) kk).mono ?_
                rintro e w6 ⟨x6, rfl, h6⟩
                have H6 := Lib.hid h6
                clear HQ3 h6
                go_wp2_with fail
                refine H6.out.mono ?_
                rintro e w7 ⟨x7, rfl, h7⟩
                have H7 := Lib.hid h7
                clear H6 h7
                go_wp2_with fail
                refine H7.out.mono ?_
                rintro e w8 ⟨rfl, h8⟩
                have H8 := Lib.hid h8
                clear H7 h8
                go_wp2_with fail
                go_roundw
                case rel => exact ⟨j + 1, by omega, by congr 1; omega, H8⟩
                case measure => have := HK.out; simp [intOf]; omega
              · have t1 : (nl : Int) < (j : Int) - 1 := by omega
                obtain ⟨kk, hkk⟩ : ∃ kk, (j : Int) - 1 = kk := ⟨_, rfl⟩
                rw [hkk] at t1 ⊢
                have HEND : Hid (PlayL w P B m (r + 1) wr) := Lib.hid ⟨_, _, HI1.out, hQ.out⟩
                clear hkk hnl hQ
                go_wp2_with fail
                go_roundw
                case rel => first | exact ⟨r + 1, by omega, by omega, by go_num, HEND⟩ | ((repeat apply Exists.intro); exact ⟨⟨r + 1, by omega, by omega, by go_num, HEND⟩, rfl⟩)
                case measure => simp [intOf]; omega
        · have s1 := PX.out.stp.cell 1
          go_wp2_with fail
          have HS := Lib.hid (show (fun W : World => W.cell? ⟨wr.heap.size, 1, none⟩ = some (.int .i64 sa)) ((wr.alloc (.cells #[.int .i64 kd, .int .i64 sa, .int .i64 sb, .bool sf] 45)).drewN 1) from (PX.out.drewN 1).stp.cell 1)
          refine region_till (fun W : World => W.cell? ⟨wr.heap.size, 1, none⟩ = some (.int .i64 sa)) (fun j => !([2, 3, 6, 7, 8] : List Nat).contains j) (by kernel_rfl) ?_
          refine till_pure (i := 0) (v := ?_) rfl (by kernel_rfl) (by kernel_rfl) (by kernel_rfl) (by kernel_rfl) (fun _ _ _ h => h) (Or.inl ⟨by kernel_rfl, ?_⟩) ?_
          rotate_left
          · (intro w' _; go_simp; try with_reducible rfl)
          refine till_pure (i := 1) (v := ?_) rfl (by kernel_rfl) (by kernel_rfl) (by kernel_rfl) (by kernel_rfl) (fun _ _ _ h => h) (Or.inl ⟨by kernel_rfl, ?_⟩) ?_
          rotate_left
          · (intro w' _; go_simp; try with_reducible rfl)
          refine till_pure (i := 4) (v := ?_) rfl (by kernel_rfl) (by kernel_rfl) (by kernel_rfl) (by kernel_rfl) (fun _ _ _ h => h) (Or.inl ⟨by kernel_rfl, ?_⟩) ?_
          rotate_left
          · (intro w' _; go_simp; try with_reducible rfl)
          refine till_pure (i := 5) (v := ?_) rfl (by kernel_rfl) (by kernel_rfl) (by kernel_rfl) (by kernel_rfl) (fun _ _ _ h => h) (Or.inl ⟨by kernel_rfl, ?_⟩) ?_
          rotate_left
          · (intro w' _; go_simp; try with_reducible rfl)
          refine till_take (i := 2) (v := ?_) rfl (by kernel_rfl) (by kernel_rfl) (by kernel_rfl) (by kernel_rfl) (fun _ _ _ h => h) (Or.inl ⟨by kernel_rfl, ?_⟩) HS.out ?_
          rotate_left
          · (intro w' hSw; obtain z1 := hSw; go_simp; try with_reducible rfl)
          refine till_take (i := 6) (v := ?_) rfl (by kernel_rfl) (by kernel_rfl) (by kernel_rfl) (by kernel_rfl) (fun _ _ _ h => h) (Or.inl ⟨by kernel_rfl, ?_⟩) HS.out ?_
          rotate_left
          · (intro w' hSw; obtain z1 := hSw; go_simp; try with_reducible rfl)
          refine till_ready (rs := [3]) (by kernel_rfl) (by simp) ?_
          refine TillAll.cons rfl (fun K hK => ?_) TillAll.nil
          go_simp
          go_wp2_with (go_at_call 15; refine ((PX.out.drewN 1).dropP hI.out (by omega) sa).mono ?_; rintro ee w1 ⟨rfl, hw1⟩)
          (refine hK.out _ _ (fun _ => hw1.stp.cell 1) ?_; clear hK K)
          refine till_ready (rs := [7]) (by kernel_rfl) (by simp) ?_
          refine TillAll.cons rfl (fun K hK => ?_) TillAll.nil
          go_simp
          go_wp2_with (go_at_call 20; refine (hw1.dropR hI.out (by omega) sa).mono ?_; rintro ee w2 ⟨rfl, hw2⟩)
          (refine hK.out _ _ (fun _ => hw2.stp.cell 1) ?_; clear hK K)
          refine till_ready (rs := [8]) (by kernel_rfl) (by simp) ?_
          refine TillAll.cons rfl (fun K hK => ?_) TillAll.nil
          go_simp
          (refine hK.out _ _ (fun _ => hw2.stp.cell 1) ?_; clear hK K)
          refine till_done (by kernel_rfl) ?_ _
          go_simp
          have HI1 := Lib.hid (pinv_up (pinv_drop hI.out sa))
          have HRR := Lib.hid hw2.finish
          clear hw1 hw2 PX
          obtain ⟨i2, hi2⟩ : ∃ i2, (dropS (cnt S) S sa).2 = i2 := ⟨_, rfl⟩
          rw [hi2]
          clear hi2
          obtain ⟨v1, hv1⟩ : ∃ v1, v = v1 := ⟨_, rfl⟩
          rw [hv1] at HRR
          clear hv1
          go_wp2_with fail
          refine (HRR.out.usedP HI1.out (by omega)).mono ?_
          rintro e wu ⟨rfl, rfl⟩
          go_wp2_with fail
          refine (HRR.out.usedR HI1.out (by omega)).mono ?_
          rintro e wu ⟨rfl, hRu⟩
          have HR2 := Lib.hid hRu
          clear hRu HRR
          go_wp2_with fail
          go_loopw [13] (fun i wr2 => ∃ j : Nat, j ≤ ((dropS (cnt S) S sa).1).length + 2 ∧ i = .int .i64 ((j : Int) - 1) ∧ Hid (PlayR w P B ((dropS (cnt S) S sa).1) m v1 wr2)) (fun i _ => ((dropS (cnt S) S sa).1).length + 2 - (intOf i + 1).toNat)
          case atStart => exact ⟨0, by omega, by rfl, HR2⟩
          case round =>
            clear HR2
            obtain ⟨j, hj, rfl, hQ⟩ := hrel
            have hl1 := HI1.out.2.2.2.2
            have k0 := hQ.out.ref.k0
            obtain ⟨A8, c8, hv8, hc81, hc82⟩ := hQ.out.ref.slice
            rw [hv8] at k0
            clear hv8
            unfold maxLen at hc82
            obtain ⟨nl, hnl⟩ : ∃ nl, ((dropS (cnt S) S sa).1).length = nl := ⟨_, rfl⟩
            rw [hnl] at hj k0 hc81 hl1 ⊢
            by_cases hlj : j < nl + 2
            · have t1 : (j : Int) - 1 ≤ (nl : Int) := by omega
              have s9 : IntKind.i64.wrap ((j : Int) - 1 + 1) = (j : Int) := by rw [IntKind.wrap_i64]; omega
              obtain ⟨kk, hkk⟩ : ∃ kk, (j : Int) - 1 = kk := ⟨_, rfl⟩
              rw [hkk] at t1 s9 ⊢
              have HK := Lib.hid hkk
              clear hkk hnl
              go_wp2_with fail
              refine (hQ.out.heldP HI1.out (by omega) kk).mono ?_
              rintro e wy ⟨rfl, hQ2⟩
              have HQ2 := Lib.hid hQ2
              clear hQ hQ2 k0
              go_wp2_with fail
              refine (HQ2.out.heldR HI1.out (by omega) kk).mono ?_
              rintro e wz ⟨rfl, hQ3⟩
              have HQ3 := Lib.hid hQ3
              clear HQ2 hQ3
              go_wp2_with fail
              refine (HQ3.out.paths HI1.out (by omega) kk).mono ?_
              rintro e w6 ⟨x6, rfl, h6⟩
              have H6 := Lib.hid h6
              clear HQ3 h6
              go_wp2_with fail
              refine H6.out.mono ?_
              rintro e w7 ⟨x7, rfl, h7⟩
              have H7 := Lib.hid h7
              clear H6 h7
              go_wp2_with fail
              refine H7.out.mono ?_
              rintro e w8 ⟨rfl, h8⟩
              have H8 := Lib.hid h8
              clear H7 h8
              go_wp2_with fail
              go_roundw
              case rel => exact ⟨j + 1, by omega, by congr 1; omega, H8⟩
              case measure => have := HK.out; simp [intOf]; omega
            · have t1 : (nl : Int) < (j : Int) - 1 := by omega
              obtain ⟨kk, hkk⟩ : ∃ kk, (j : Int) - 1 = kk := ⟨_, rfl⟩
              rw [hkk] at t1 ⊢
              have HEND : Hid (PlayL w P B m (r + 1) wr) := Lib.hid ⟨_, _, HI1.out, hQ.out⟩
              clear hkk hnl hQ
              go_wp2_with fail
              go_roundw
              case rel => first | exact ⟨r + 1, by omega, by omega, by go_num, HEND⟩ | ((repeat apply Exists.intro); exact ⟨⟨r + 1, by omega, by omega, by go_num, HEND⟩, rfl⟩)
              case measure => simp [intOf]; omega
    · have hge : (n1 : Int) ≤ (r : Int) := by omega
      have G := Lib.hid hL.out.below
      clear hL
      go_wp2_with fail
      go_ret
      exact ⟨rfl, G.out⟩

set_option maxRecDepth 100000 in
theorem lifted (os : Os) (started : os.Started) (H : Type) (enc : TypeId × Value → H) :
    ReturnsInHanded {} Try.checked os 6 .any (Rows.poolPlaysSpec.pre6 enc Try.prog Try.f6 Rows.poolPlaysRow.domain false) (Rows.poolPlaysSpec.post enc Try.prog Try.f6 false true false false) := by
  refine returnsInHanded_of_change_sized (C := Try.checked) own started (by kernel_rfl) Try.func6
    (ChangeSpec.witness6 (enc := enc) (C := Try.checked) false ⟨#[], #[.int .i64 0, .slice none 0 0], []⟩ 8 (by kernel_rfl) (by kernel_rfl) (by kernel_rfl) (by kernel_rfl)) ?_
  intro W base args ds gs before hval0 hW hcnd hsz0 _
  have hsz : (DataW.weightsEach Try.prog (Try.f6.params.toList ++ Rows.poolPlaysSpec.plain.varTypes Try.prog) (ds ++ gs)).all (· ≤ reachBytes) = true := hsz0
  clear hsz0
  have hval : ∀ (j : Nat) t v, Try.f6.params[j]? = some t → args[j]? = some v → Value.okWide Try.prog W .any base t v := hval0
  have hW' := hW
  obtain ⟨p, q, hA0, hV, rfl, hfz, hnd⟩ := hW
  have hA : DataW.TrodAll enc Try.prog W 0 (fun _ => true) true Try.f6.params.toList args.toList ds p := hA0
  rw [Try.params6] at hA hval hsz
  obtain ⟨v0, vs0, d0, ds0, p0, q0, hargs, rfl, rfl, h0, r0⟩ := trodAll_cons hA
  obtain ⟨v1, vs1, d1, ds1, p1, q1, rfl, rfl, rfl, h1, r1⟩ := trodAll_cons r0
  obtain ⟨rfl, rfl, rfl⟩ := trodAll_nil r1
  obtain rfl : args = #[v0, v1] := by cases args; simp_all
  obtain ⟨rfl, rfl⟩ := trodVars_none hV
  clear hA0 hval0
  obtain ⟨a0, rfl, rfl, rfl, w0⟩ := open_int Try.underlying3 (hval 0 3 v0 rfl rfl) h0
  obtain ⟨a1, n1, c1, rfl⟩ := okWide_slice Try.underlying41 (hval 1 41 v1 rfl rfl)
  have k1 := h1
  have lt1 : ∀ x ∈ p1, x.block < W.heap.size := by obtain ⟨m, hm⟩ := k1; exact DataW.trod_lt m _ _ _ hm
  obtain ⟨z1_0, z1_1, z1_2, z1_3, w1, x1_0, x1_1, x1_2⟩ : ∃ (z1_0 : Nat → Int) (z1_1 : Nat → Int) (z1_2 : Nat → Int) (z1_3 : Nat → Bool), InCells 4 32 W a1 n1 c1 (fun i j => match j with | 0 => Value.int .i64 (z1_0 i) | 1 => Value.int .i64 (z1_1 i) | 2 => Value.int .i64 (z1_2 i) | _ => Value.bool (z1_3 i)) ∧ (∀ i, i < n1 → (Lit.int .i64 (z1_0 i)).wf = true) ∧ (∀ i, i < n1 → (Lit.int .i64 (z1_1 i)).wf = true) ∧ (∀ i, i < n1 → (Lit.int .i64 (z1_2 i)).wf = true) := by
    obtain ⟨fuel, hf⟩ := h1
    rcases open_cells Try.underlying41 Try.underlying45 (by kernel_rfl) (by kernel_rfl) (by decide) hf lt1 with ⟨hcs, _⟩ | ⟨A', l, c, D, V, hcs, hl, hm, hx, hin, hfl⟩
    · simp [Value.cells] at hcs
      obtain ⟨rfl, rfl, rfl⟩ := hcs
      exact ⟨fun _ => 0, fun _ => 0, fun _ => 0, fun _ => false, InCells.nil _ _ _ _, fun i hi => absurd hi (by omega), fun i hi => absurd hi (by omega), fun i hi => absurd hi (by omega)⟩
    · simp [Value.cells] at hcs
      obtain ⟨rfl, rfl, rfl⟩ := hcs
      have hx : d1 = _ := hx
      subst hx
      have hs := sized_slice hsz (j := 1) (t := 41) (e := 45) rfl rfl Try.underlying41
      rw [show Try.prog.bytesOf 45 = 32 by kernel_rfl] at hs
      simp only [List.length_map, List.length_range, reachBytes] at hs
      obtain ⟨z1_0, g0⟩ := ints_of (V := fun i => V i 0) Try.underlying3 (fun i hi => hfl 0 _ rfl i hi)
      obtain ⟨z1_1, g1⟩ := ints_of (V := fun i => V i 1) Try.underlying3 (fun i hi => hfl 1 _ rfl i hi)
      obtain ⟨z1_2, g2⟩ := ints_of (V := fun i => V i 2) Try.underlying3 (fun i hi => hfl 2 _ rfl i hi)
      obtain ⟨z1_3, g3⟩ := bools_of (V := fun i => V i 3) Try.underlying4 (fun i hi => hfl 3 _ rfl i hi)
      have hin := hin 32 (by omega)
      refine ⟨z1_0, z1_1, z1_2, z1_3, ⟨hin.len, hin.cap, hin.reach, fun hn => ?_⟩, fun i hi => (g0 i hi).2, fun i hi => (g1 i hi).2, fun i hi => (g2 i hi).2⟩
      obtain ⟨b, off, hA, hb, hc⟩ := hin.at_ hn
      refine ⟨b, off, hA, hb, fun i j hi hj => ?_⟩
      refine (hc i j hi hj).trans (congrArg some (Eq.symm ?_))
      match j, hj with
        | 0, _ => exact ((g0 i hi).1).symm
        | 1, _ => exact ((g1 i hi).1).symm
        | 2, _ => exact ((g2 i hi).1).symm
        | 3, _ => exact (g3 i hi).symm
  simp only [List.append_nil] at hW'
  refine (walk W a0 w0 a1 n1 c1 z1_0 z1_1 z1_2 z1_3 w1 x1_0 x1_1 x1_2).mono fun e W' ⟨he, bel⟩ => ?_
  subst he
  exact ⟨_, rfl, _, _, _, [], _, [], hW', trodAll_mk1 (shut_bool Try.underlying4 _), (trodAll_cons_mk (shut_int Try.underlying3 w0) (trodAll_cons_mk (Below.trod laidOut (by kernel_rfl) (of_decide_eq_true (by kernel_rfl)) k1 bel lt1) trodAll_mk0)), rfl, bel.frame _, fun h => by cases h⟩

theorem proved : Rows.PoolPlaysSaid :=
  OpenClaim.holds_of_wide 6 Try.f6 rfl rfl rfl rfl rfl rfl rfl ⟨rfl, rfl, rfl, rfl, rfl⟩ rfl rfl rfl rfl rfl (by kernel_rfl) Try.func6 (by kernel_rfl)
    (of_decide_eq_true (by kernel_rfl)) (by unfold Func.isWrapper; rw [if_neg (of_decide_eq_false (by kernel_rfl))]; exact ⟨rfl, rfl⟩)
    (fun os started H enc _ => lifted os started H enc)
#print axioms proved
end Go.Proofs.Ytcgapjicbgfpjaa.poolPlays

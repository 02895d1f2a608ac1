/-
  PoolBalances: for every input the Go function answers true, and the input reads as it did. No condition.
-/
import Derived.Test.YtcgapjicbgfpjaaRows
import Derived.Test.YtcgapjicbgfpjaaRow
import Derived.Test.YtcgapjicbgfpjaaBalr
import Derived.Test.YtcgapjicbgfpjaaSeen
import Derived.Test.YtcgapjicbgfpjaaBool
import Derived.WalkSpells
namespace Go.Proofs.Ytcgapjicbgfpjaa.poolBalances
open Go.ChangeShapes Go.WideShapes Go.ChangeAt Go.RowKit
open Go.ChangeMaps (open_string shut_string)
set_option linter.unusedVariables false
set_option linter.unusedSimpArgs false

theorem own : ownKnob Try.prog.godebug = none := by kernel_rfl
theorem laidOut : laidOutB Try.prog = true := by kernel_rfl

theorem bd_i {a : Int} (h : (Lit.int .i64 a).wf = true) : -9223372036854775808 ≤ a ∧ a ≤ 9223372036854775807 := by
  simpa [Lit.wf, IntKind.min, IntKind.max, IntKind.bits, IntKind.signed] using h
set_option maxRecDepth 100000 in
set_option maxHeartbeats 8000000 in
/-- the walk: the Go text answers true and writes nothing that was there -/
theorem walk (w : World) (a0 : Option Addr) (n0 c0 : Nat) (z0 : List Int) (w0 : InRow .i64 8 w a0 n0 c0 z0) (a1 : Option Addr) (n1 c1 : Nat) (z1 : Nat → Bool) (w1 : InBools w a1 n1 c1 z1) :
    Calls Try.prog 5 #[.slice a0 n0 c0, .slice a1 n1 c1] w fun e w' => e = .returned (.bool true) ∧ Below w.heap.size w w' := by
  have hlen := w0.len
  have hcap := w0.cap
  have HZ := Lib.hid w0.num
  have HR := Lib.hid w0.reads
  have HW := Lib.hid w0.wf
  have hrc := w0.reach
  have hlen1 := w1.len
  have hcap1 := w1.cap
  have HB := Lib.hid w1.at_
  clear w0 w1
  unfold maxLen at hcap hcap1
  have N := Lib.hid (new_any (fun g => g < w.heap.size) w (fun g h => h) 400)
  rw [show max 0 (400 : Int) = 400 by decide] at N
  go_enter Try.func5, Try.ntmps5
  go_wp2_with fail
  refine N.out.mono ?_
  rintro e wa ⟨P, rfl, hW, hK1, hB1⟩
  have PW := Lib.hid hW
  have G1 := Lib.hid hB1
  clear hW hK1 hB1 N
  go_wp2_with fail
  refine (awake_any _).mono ?_
  rintro e wb ⟨rfl, hb⟩
  have PW2 := Lib.hid (PW.out.below hb)
  have G2 := Lib.hid (G1.out.trans (hb.mono G1.out.size))
  clear hb PW G1
  by_cases hbig : 150 < n0
  · go_wp2_with fail
    refine (awake_any _).mono ?_
    rintro e wc ⟨rfl, hb⟩
    have G3 := Lib.hid (G2.out.trans (hb.mono G2.out.size))
    clear hb
    go_wp2_with fail
    go_ret
    exact ⟨rfl, G3.out⟩
  · have hn60 : n0 ≤ 150 := by omega
    have hbd : decide ((150 : Int) < (n0 : Int)) = false := decide_eq_false (by omega)
    have hsz : w.heap.size ≤ wb.heap.size := G2.out.size
    clear hbig
    have F0 : Hid (BalA w P 0 (.slice none 0 0) wb) := Lib.hid (BalA.start PW2.out G2.out)
    clear PW2 G2
    go_wp2_with fail
    go_loopw [6, 32] (fun v i wr => ∃ r : Nat, r ≤ n0 ∧ i = .int .i64 r ∧ BalA w P r v wr) (fun _ i _ => n0 - (intOf i).toNat)
    case atStart => exact ⟨0, Nat.zero_le _, rfl, F0.out⟩
    case round =>
      clear F0
      obtain ⟨r, hr, rfl, hF⟩ := hrel
      have hF := Lib.hid hF
      obtain ⟨A, cap, hv, hc1, hc2⟩ := hF.out.slice
      subst hv
      unfold maxLen at hc2
      by_cases hlt : r < n0
      · obtain ⟨b, off, rfl, hbw, hc⟩ := HR.out.shape (by omega)
        have c1 := (hF.out.below.cell (p := ⟨b, off + r, none⟩) hbw).trans (hc r (.int .i64 (z0[r]'(by rw [HZ.out]; exact hlt))) (by rw [List.getElem?_map, List.getElem?_eq_getElem (by rw [HZ.out]; exact hlt)]; rfl))
        have hx := bd_i (HW.out _ (List.getElem_mem (by rw [HZ.out]; exact hlt)))
        obtain ⟨x, hxe⟩ : ∃ x, z0[r]'(by rw [HZ.out]; exact hlt) = x := ⟨_, rfl⟩
        rw [hxe] at c1 hx
        clear hxe hc
        have d0 : (0 : Int) ≤ (r : Int) := by omega
        have d1 : (r : Int) < (n0 : Int) := by omega
        obtain ⟨V, hV⟩ : ∃ V : Nat, IntKind.u64.wrap x = (V : Int) := ⟨(IntKind.u64.wrap x).toNat, by rw [IntKind.wrap_u64]; omega⟩
        obtain ⟨E, hE⟩ : ∃ E : Nat, (V : Int) % 5 = (E : Int) := ⟨V % 5, by omega⟩
        have hE5 : E < 5 := by omega
        by_cases hf : r < n1
        · obtain ⟨b1, off1, rfl, hbw1, hc1'⟩ := HB.out (by omega)
          have c2 := (hF.out.below.cell (p := ⟨b1, off1 + r, none⟩) hbw1).trans (hc1' r hf)
          obtain ⟨fr, hfr⟩ : ∃ fr, z1 r = fr := ⟨_, rfl⟩
          rw [hfr] at c2
          clear hfr hc1' hbw1
          have d2 : (r : Int) < (n1 : Int) := by omega
          have d3 : decide ((r : Int) < (n1 : Int)) = true := decide_eq_true d2
          by_cases hr0 : r = 0
          · have e0 : decide ((0 : Int) < (r : Int)) = false := decide_eq_false (by omega)
            have e1 : (r : Int) ≤ 0 := by omega
            clear hr0
            have AD := Lib.hid (hF.out.add (by omega) (show (0 : Int) ≤ (E : Int) by omega) (by omega) fr)
            go_wp2_with fail
            refine AD.out.mono ?_
            rintro e w' ⟨i, rfl, hN⟩
            obtain ⟨xs, ho, hs, hmore⟩ := hN.own (.cells #[.int .i64 i] 3)
            have HO := Lib.hid ho
            have HS := Lib.hid hs
            have HM := Lib.hid hmore
            obtain ⟨i2, hi2, hz2, hs2, hb2⟩ := info_parts info_int
            clear ho hs hmore hN hF AD
            go_wp2_with (at_builtin; refine wpList_append_any _ rfl (.tmp 76) (.tmp 78) _ rfl w.heap.size 3 i2 _ 1 8 Try.underlying25 hi2 hz2 hs2 hb2 rfl (by omega) _ r xs rfl HO.out (w'.heap.size + 1) (some ⟨w'.heap.size, 0, none⟩) 1 1 [.int .i64 i] rfl ?d0 oneI ?c1 ?c2 ?c3 ?_; rotate_left 4; intro v4 w4 ho hg hat)
            case d0 => exact reads_one _ _ _ _
            case c1 => unfold maxLen; omega
            case c2 => omega
            case c3 => exact HS.out
            have HB := Lib.hid (HM.out v4 w4 ho hg hat)
            clear ho hg hat HM HO HS
            go_wp2_with fail
            go_roundw
            case rel => first | exact ⟨r + 1, by omega, by go_num, HB.out⟩ | ((repeat apply Exists.intro); exact ⟨⟨r + 1, by omega, by go_num, HB.out⟩, rfl⟩)
            case measure => simp [intOf]; omega
          · have e0 : decide ((0 : Int) < (r : Int)) = true := decide_eq_true (by omega)
            by_cases ht : x.tmod 3 = 0
            · have ht' : (x.tmod 3 != 0) = false := by rw [ht]; rfl
              clear ht
              have AD := Lib.hid (hF.out.add (by omega) (show (0 : Int) ≤ (E : Int) by omega) (by omega) fr)
              go_wp2_with fail
              refine AD.out.mono ?_
              rintro e w' ⟨i, rfl, hN⟩
              obtain ⟨xs, ho, hs, hmore⟩ := hN.own (.cells #[.int .i64 i] 3)
              have HO := Lib.hid ho
              have HS := Lib.hid hs
              have HM := Lib.hid hmore
              obtain ⟨i2, hi2, hz2, hs2, hb2⟩ := info_parts info_int
              clear ho hs hmore hN hF AD
              go_wp2_with (at_builtin; refine wpList_append_any _ rfl (.tmp 76) (.tmp 78) _ rfl w.heap.size 3 i2 _ 1 8 Try.underlying25 hi2 hz2 hs2 hb2 rfl (by omega) _ r xs rfl HO.out (w'.heap.size + 1) (some ⟨w'.heap.size, 0, none⟩) 1 1 [.int .i64 i] rfl ?d0 oneI ?c1 ?c2 ?c3 ?_; rotate_left 4; intro v4 w4 ho hg hat)
              case d0 => exact reads_one _ _ _ _
              case c1 => unfold maxLen; omega
              case c2 => omega
              case c3 => exact HS.out
              have HB := Lib.hid (HM.out v4 w4 ho hg hat)
              clear ho hg hat HM HO HS
              go_wp2_with fail
              go_roundw
              case rel => first | exact ⟨r + 1, by omega, by go_num, HB.out⟩ | ((repeat apply Exists.intro); exact ⟨⟨r + 1, by omega, by go_num, HB.out⟩, rfl⟩)
              case measure => simp [intOf]; omega
            · have ht' : (x.tmod 3 != 0) = true := by rw [bne_iff_ne]; exact ht
              clear ht
              obtain ⟨K, hK⟩ : ∃ K : Nat, (V : Int) % (r : Int) = (K : Int) := ⟨V % r, by omega⟩
              have hKr : K < r := by
                have := Int.emod_lt_of_pos (V : Int) (show (0 : Int) < (r : Int) by omega)
                omega
              obtain ⟨g, cap', pn, hv, k1, hadd⟩ := hF.out.pick (by omega) hKr
              injection hv with hv1 hv2 hv3
              subst hv1
              clear hv2 hv3
              have f0 : (0 : Int) ≤ (K : Int) := by omega
              have f1 : (K : Int) < (r : Int) := by omega
              have f2 : ¬ (r : Int) = 0 := by omega
              have f3 : ((r : Int) == 0) = false := by rw [beq_eq_false_iff_ne]; exact f2
              have f4 : IntKind.u64.wrap (r : Int) = (r : Int) := by rw [IntKind.wrap_u64]; omega
              have f5 : IntKind.u64.wrap (K : Int) = (K : Int) := by rw [IntKind.wrap_u64]; omega
              have f6 : IntKind.i64.wrap (K : Int) = (K : Int) := by rw [IntKind.wrap_i64]; omega
              have AD := Lib.hid (hadd (E : Int) fr (by omega) (by omega))
              go_wp2_with fail
              refine AD.out.mono ?_
              rintro e w' ⟨i, rfl, hN⟩
              obtain ⟨xs, ho, hs, hmore⟩ := hN.own (.cells #[.int .i64 i] 3)
              have HO := Lib.hid ho
              have HS := Lib.hid hs
              have HM := Lib.hid hmore
              obtain ⟨i2, hi2, hz2, hs2, hb2⟩ := info_parts info_int
              clear ho hs hmore hN hF AD
              go_wp2_with (at_builtin; refine wpList_append_any _ rfl (.tmp 76) (.tmp 78) _ rfl w.heap.size 3 i2 _ 1 8 Try.underlying25 hi2 hz2 hs2 hb2 rfl (by omega) _ r xs rfl HO.out (w'.heap.size + 1) (some ⟨w'.heap.size, 0, none⟩) 1 1 [.int .i64 i] rfl ?d0 oneI ?c1 ?c2 ?c3 ?_; rotate_left 4; intro v4 w4 ho hg hat)
              case d0 => exact reads_one _ _ _ _
              case c1 => unfold maxLen; omega
              case c2 => omega
              case c3 => exact HS.out
              have HB := Lib.hid (HM.out v4 w4 ho hg hat)
              clear ho hg hat HM HO HS
              go_wp2_with fail
              go_roundw
              case rel => first | exact ⟨r + 1, by omega, by go_num, HB.out⟩ | ((repeat apply Exists.intro); exact ⟨⟨r + 1, by omega, by go_num, HB.out⟩, rfl⟩)
              case measure => simp [intOf]; omega
        · have d3 : decide ((r : Int) < (n1 : Int)) = false := decide_eq_false (by omega)
          have d2 : (n1 : Int) ≤ (r : Int) := by omega
          by_cases hr0 : r = 0
          · have e0 : decide ((0 : Int) < (r : Int)) = false := decide_eq_false (by omega)
            have e1 : (r : Int) ≤ 0 := by omega
            clear hr0
            have AD := Lib.hid (hF.out.add (by omega) (show (0 : Int) ≤ (E : Int) by omega) (by omega) false)
            go_wp2_with fail
            refine AD.out.mono ?_
            rintro e w' ⟨i, rfl, hN⟩
            obtain ⟨xs, ho, hs, hmore⟩ := hN.own (.cells #[.int .i64 i] 3)
            have HO := Lib.hid ho
            have HS := Lib.hid hs
            have HM := Lib.hid hmore
            obtain ⟨i2, hi2, hz2, hs2, hb2⟩ := info_parts info_int
            clear ho hs hmore hN hF AD
            go_wp2_with (at_builtin; refine wpList_append_any _ rfl (.tmp 76) (.tmp 78) _ rfl w.heap.size 3 i2 _ 1 8 Try.underlying25 hi2 hz2 hs2 hb2 rfl (by omega) _ r xs rfl HO.out (w'.heap.size + 1) (some ⟨w'.heap.size, 0, none⟩) 1 1 [.int .i64 i] rfl ?d0 oneI ?c1 ?c2 ?c3 ?_; rotate_left 4; intro v4 w4 ho hg hat)
            case d0 => exact reads_one _ _ _ _
            case c1 => unfold maxLen; omega
            case c2 => omega
            case c3 => exact HS.out
            have HB := Lib.hid (HM.out v4 w4 ho hg hat)
            clear ho hg hat HM HO HS
            go_wp2_with fail
            go_roundw
            case rel => first | exact ⟨r + 1, by omega, by go_num, HB.out⟩ | ((repeat apply Exists.intro); exact ⟨⟨r + 1, by omega, by go_num, HB.out⟩, rfl⟩)
            case measure => simp [intOf]; omega
          · have e0 : decide ((0 : Int) < (r : Int)) = true := decide_eq_true (by omega)
            by_cases ht : x.tmod 3 = 0
            · have ht' : (x.tmod 3 != 0) = false := by rw [ht]; rfl
              clear ht
              have AD := Lib.hid (hF.out.add (by omega) (show (0 : Int) ≤ (E : Int) by omega) (by omega) false)
              go_wp2_with fail
              refine AD.out.mono ?_
              rintro e w' ⟨i, rfl, hN⟩
              obtain ⟨xs, ho, hs, hmore⟩ := hN.own (.cells #[.int .i64 i] 3)
              have HO := Lib.hid ho
              have HS := Lib.hid hs
              have HM := Lib.hid hmore
              obtain ⟨i2, hi2, hz2, hs2, hb2⟩ := info_parts info_int
              clear ho hs hmore hN hF AD
              go_wp2_with (at_builtin; refine wpList_append_any _ rfl (.tmp 76) (.tmp 78) _ rfl w.heap.size 3 i2 _ 1 8 Try.underlying25 hi2 hz2 hs2 hb2 rfl (by omega) _ r xs rfl HO.out (w'.heap.size + 1) (some ⟨w'.heap.size, 0, none⟩) 1 1 [.int .i64 i] rfl ?d0 oneI ?c1 ?c2 ?c3 ?_; rotate_left 4; intro v4 w4 ho hg hat)
              case d0 => exact reads_one _ _ _ _
              case c1 => unfold maxLen; omega
              case c2 => omega
              case c3 => exact HS.out
              have HB := Lib.hid (HM.out v4 w4 ho hg hat)
              clear ho hg hat HM HO HS
              go_wp2_with fail
              go_roundw
              case rel => first | exact ⟨r + 1, by omega, by go_num, HB.out⟩ | ((repeat apply Exists.intro); exact ⟨⟨r + 1, by omega, by go_num, HB.out⟩, rfl⟩)
              case measure => simp [intOf]; omega
            · have ht' : (x.tmod 3 != 0) = true := by rw [bne_iff_ne]; exact ht
              clear ht
              obtain ⟨K, hK⟩ : ∃ K : Nat, (V : Int) % (r : Int) = (K : Int) := ⟨V % r, by omega⟩
              have hKr : K < r := by
                have := Int.emod_lt_of_pos (V : Int) (show (0 : Int) < (r : Int) by omega)
                omega
              obtain ⟨g, cap', pn, hv, k1, hadd⟩ := hF.out.pick (by omega) hKr
              injection hv with hv1 hv2 hv3
              subst hv1
              clear hv2 hv3
              have f0 : (0 : Int) ≤ (K : Int) := by omega
              have f1 : (K : Int) < (r : Int) := by omega
              have f2 : ¬ (r : Int) = 0 := by omega
              have f3 : ((r : Int) == 0) = false := by rw [beq_eq_false_iff_ne]; exact f2
              have f4 : IntKind.u64.wrap (r : Int) = (r : Int) := by rw [IntKind.wrap_u64]; omega
              have f5 : IntKind.u64.wrap (K : Int) = (K : Int) := by rw [IntKind.wrap_u64]; omega
              have f6 : IntKind.i64.wrap (K : Int) = (K : Int) := by rw [IntKind.wrap_i64]; omega
              have AD := Lib.hid (hadd (E : Int) false (by omega) (by omega))
              go_wp2_with fail
              refine AD.out.mono ?_
              rintro e w' ⟨i, rfl, hN⟩
              obtain ⟨xs, ho, hs, hmore⟩ := hN.own (.cells #[.int .i64 i] 3)
              have HO := Lib.hid ho
              have HS := Lib.hid hs
              have HM := Lib.hid hmore
              obtain ⟨i2, hi2, hz2, hs2, hb2⟩ := info_parts info_int
              clear ho hs hmore hN hF AD
              go_wp2_with (at_builtin; refine wpList_append_any _ rfl (.tmp 76) (.tmp 78) _ rfl w.heap.size 3 i2 _ 1 8 Try.underlying25 hi2 hz2 hs2 hb2 rfl (by omega) _ r xs rfl HO.out (w'.heap.size + 1) (some ⟨w'.heap.size, 0, none⟩) 1 1 [.int .i64 i] rfl ?d0 oneI ?c1 ?c2 ?c3 ?_; rotate_left 4; intro v4 w4 ho hg hat)
              case d0 => exact reads_one _ _ _ _
              case c1 => unfold maxLen; omega
              case c2 => omega
              case c3 => exact HS.out
              have HB := Lib.hid (HM.out v4 w4 ho hg hat)
              clear ho hg hat HM HO HS
              go_wp2_with fail
              go_roundw
              case rel => first | exact ⟨r + 1, by omega, by go_num, HB.out⟩ | ((repeat apply Exists.intro); exact ⟨⟨r + 1, by omega, by go_num, HB.out⟩, rfl⟩)
              case measure => simp [intOf]; omega
      · have hrn : r = n0 := by omega
        rw [hrn] at hF hc1 ⊢
        have HD := Lib.hid (hF.out.turn hn60)
        have hge : n0 ≤ n0 := Nat.le_refl _
        clear hrn hlt hF hr
        go_wp2_with fail
        go_loopw [83] (fun i wr => ∃ r : Nat, r ≤ n0 ∧ i = .int .i64 r ∧ BalD w P n0 r (.slice A n0 cap) wr) (fun i _ => n0 - (intOf i).toNat)
        case atStart => exact ⟨0, Nat.zero_le _, rfl, HD.out⟩
        case round =>
          clear HD
          obtain ⟨r, hr, rfl, hF⟩ := hrel
          have hF := Lib.hid hF
          by_cases hlt : r < n0
          · obtain ⟨g, cap', pn, hv, k1, hround⟩ := hF.out.round hlt
            injection hv with hv1 hv2 hv3
            subst hv1
            clear hv2 hv3
            have HR := Lib.hid hround
            have d0 : (0 : Int) ≤ (r : Int) := by omega
            have d1 : (r : Int) < (n0 : Int) := by omega
            clear hround hF
            go_wp2_with fail
            refine HR.out.mono ?_
            rintro e w1 ⟨A2, n2, cap2, rfl, hn2, hheld⟩
            have HH := Lib.hid hheld
            have e1 : ((n2 : Int) == 0) = false := by rw [beq_eq_false_iff_ne]; omega
            clear hheld HR k1
            go_wp2_with fail
            refine HH.out.mono ?_
            rintro e w2 ⟨m, k, rfl, hm0, hm1, rfl, hdrop⟩
            have HH2 := Lib.hid hdrop
            have e2 : decide ((m : Int) < 1) = false := decide_eq_false (by omega)
            have e3 : (1 : Int) ≤ (m : Int) := by omega
            clear hdrop HH
            go_wp2_with fail
            refine HH2.out.mono ?_
            rintro e w3 ⟨rfl, hD⟩
            have HD := Lib.hid hD
            clear hD HH2
            have g0 : (0 : Int) ≤ (r : Int) + 1 := by omega
            have g1 : (r : Int) + 1 ≤ (n0 : Int) := by omega
            by_cases hq : r + 1 < n0
            · have g2 : ¬ cap = r + 1 := by omega
              have g3 : (n0 : Int) - ((r : Int) + 1) = ((n0 - (r + 1) : Nat) : Int) := by omega
              go_wp2_with fail
              go_loopw [111] (fun i wr => ∃ j : Nat, j ≤ n0 - (r + 1) ∧ i = .int .i64 j ∧ BalD w P n0 (r + 1) (.slice (some ⟨g, 0, none⟩) n0 cap) wr) (fun i _ => n0 - (r + 1) - (intOf i).toNat)
              case atStart => exact ⟨0, Nat.zero_le _, rfl, HD.out⟩
              case round =>
                clear HD
                obtain ⟨j, hj, rfl, hF⟩ := hrel
                have hF := Lib.hid hF
                by_cases hlj : j < n0 - (r + 1)
                · obtain ⟨g', cap', pn', hv, k1, hheld⟩ := hF.out.held (j := r + 1 + j) (by omega) (by omega)
                  injection hv with hv1 hv2 hv3
                  injection hv1 with hv1
                  injection hv1 with hv1
                  subst hv1
                  clear hv2 hv3
                  have HH := Lib.hid hheld
                  have j0 : (0 : Int) ≤ (j : Int) := by omega
                  have j1 : (j : Int) < ((n0 - (r + 1) : Nat) : Int) := by omega
                  clear hheld
                  go_wp2_with fail
                  refine HH.out.mono ?_
                  rintro e w5 ⟨m5, k5, rfl, hm0', hm1', rfl⟩
                  have HN := Lib.hid (hF.out.drewN k5)
                  have e5 : decide ((m5 : Int) < 1) = false := decide_eq_false (by omega)
                  have e6 : (1 : Int) ≤ (m5 : Int) := by omega
                  clear HH k1 hF
                  go_wp2_with fail
                  go_roundw
                  case rel => first | exact ⟨j + 1, by omega, by go_num, HN.out⟩ | ((repeat apply Exists.intro); exact ⟨⟨j + 1, by omega, by go_num, HN.out⟩, rfl⟩)
                  case measure => simp [intOf]; omega
                · have hj0 : j = n0 - (r + 1) := by omega
                  have j1 : ((n0 - (r + 1) : Nat) : Int) ≤ (j : Int) := by omega
                  clear hj0
                  go_wp2_with fail
                  go_roundw
                  case rel => first | exact ⟨r + 1, by omega, by go_num, hF.out⟩ | ((repeat apply Exists.intro); exact ⟨⟨r + 1, by omega, by go_num, hF.out⟩, rfl⟩)
                  case measure => simp [intOf]; omega
            · have g2 : r + 1 = n0 := by omega
              have g3 : (n0 : Int) - ((r : Int) + 1) = 0 := by omega
              have G2 := Lib.hid g2
              clear hq g2
              have arms : (cap = r + 1) = True ∨ (cap = r + 1) = False := by
                by_cases hce : cap = r + 1
                · exact .inl (eq_true hce)
                · exact .inr (eq_false hce)
              rcases arms with g6 | g6
              · go_wp2_with fail
                go_loopw [111] (fun i wr => i = .int .i64 0 ∧ wr = w3) (fun i _ => 0)
                case atStart => exact ⟨rfl, rfl⟩
                case round =>
                  obtain ⟨rfl, rfl⟩ := hrel
                  go_wp2_with fail
                  go_roundw
                  case rel => first | exact ⟨r + 1, by have := G2.out; omega, by go_num, HD.out⟩ | ((repeat apply Exists.intro); exact ⟨⟨r + 1, by have := G2.out; omega, by go_num, HD.out⟩, rfl⟩)
                  case measure => simp [intOf]; omega
              · go_wp2_with fail
                go_loopw [111] (fun i wr => i = .int .i64 0 ∧ wr = w3) (fun i _ => 0)
                case atStart => exact ⟨rfl, rfl⟩
                case round =>
                  obtain ⟨rfl, rfl⟩ := hrel
                  go_wp2_with fail
                  go_roundw
                  case rel => first | exact ⟨r + 1, by have := G2.out; omega, by go_num, HD.out⟩ | ((repeat apply Exists.intro); exact ⟨⟨r + 1, by have := G2.out; omega, by go_num, HD.out⟩, rfl⟩)
                  case measure => simp [intOf]; omega
          · have hrn : r = n0 := by omega
            rw [hrn] at hF ⊢
            have HU := Lib.hid hF.out.used
            have HL := Lib.hid hF.out.last
            have G := Lib.hid hF.out.below
            have hge : n0 ≤ n0 := Nat.le_refl _
            clear hrn hlt hF hr
            go_wp2_with fail
            refine HU.out.mono ?_
            rintro e w8 ⟨rfl, rfl⟩
            clear HU
            go_wp2_with fail
            refine HL.out.mono ?_
            rintro e w9 ⟨rfl, rfl⟩
            clear HL
            go_wp2_with fail
            go_ret
            exact ⟨rfl, G.out⟩

set_option maxRecDepth 100000 in
theorem lifted (os : Os) (started : os.Started) (H : Type) (enc : TypeId × Value → H) :
    ReturnsInHanded {} Try.checked os 5 .any (Rows.poolBalancesSpec.pre6 enc Try.prog Try.f5 Rows.poolBalancesRow.domain false) (Rows.poolBalancesSpec.post enc Try.prog Try.f5 false true false false) := by
  refine returnsInHanded_of_change_sized (C := Try.checked) own started (by kernel_rfl) Try.func5
    (ChangeSpec.witness6 (enc := enc) (C := Try.checked) false ⟨#[], #[.slice none 0 0, .slice none 0 0], []⟩ 8 (by kernel_rfl) (by kernel_rfl) (by kernel_rfl) (by kernel_rfl)) ?_
  intro W base args ds gs before hval0 hW hcnd hsz0 _
  have hsz : (DataW.weightsEach Try.prog (Try.f5.params.toList ++ Rows.poolBalancesSpec.plain.varTypes Try.prog) (ds ++ gs)).all (· ≤ reachBytes) = true := hsz0
  clear hsz0
  have hval : ∀ (j : Nat) t v, Try.f5.params[j]? = some t → args[j]? = some v → Value.okWide Try.prog W .any base t v := hval0
  have hW' := hW
  obtain ⟨p, q, hA0, hV, rfl, hfz, hnd⟩ := hW
  have hA : DataW.TrodAll enc Try.prog W 0 (fun _ => true) true Try.f5.params.toList args.toList ds p := hA0
  rw [Try.params5] at hA hval hsz
  obtain ⟨v0, vs0, d0, ds0, p0, q0, hargs, rfl, rfl, h0, r0⟩ := trodAll_cons hA
  obtain ⟨v1, vs1, d1, ds1, p1, q1, rfl, rfl, rfl, h1, r1⟩ := trodAll_cons r0
  obtain ⟨rfl, rfl, rfl⟩ := trodAll_nil r1
  obtain rfl : args = #[v0, v1] := by cases args; simp_all
  obtain ⟨rfl, rfl⟩ := trodVars_none hV
  clear hA0 hval0
  obtain ⟨a0, n0, c0, rfl⟩ := okWide_slice Try.underlying25 (hval 0 25 v0 rfl rfl)
  have k0 := h0
  have lt0 : ∀ x ∈ p0, x.block < W.heap.size := by obtain ⟨m, hm⟩ := k0; exact DataW.trod_lt m _ _ _ hm
  obtain ⟨z0, w0⟩ : ∃ zs, InRow .i64 8 W a0 n0 c0 zs := by
    obtain ⟨fuel, hf⟩ := h0
    rcases open_ints Try.underlying25 Try.underlying3 (by kernel_rfl) hf with ⟨hcs, _⟩ | ⟨x, l, c, zs, hcs, _, hl, hm, hz, hx, hcell, hwz⟩
    · simp [Value.cells] at hcs
      obtain ⟨rfl, rfl, rfl⟩ := hcs
      exact ⟨[], InRow.nil _ _ _⟩
    · simp [Value.cells] at hcs
      obtain ⟨rfl, rfl, rfl⟩ := hcs
      simp only [Prod.mk.injEq] at hx
      obtain ⟨rfl, rfl⟩ := hx
      simp only [if_true] at hz
      have hs := sized_slice hsz (j := 0) (t := 25) (e := 3) rfl rfl Try.underlying25
      rw [show Try.prog.bytesOf 3 = 8 by kernel_rfl] at hs
      simp only [lits, List.length_map, List.length_take, List.length_drop, reachBytes] at hs
      exact ⟨zs.take _, InRow.of_open hl hm hz (by omega) hcell hwz (fun y hy => lt0 y hy)⟩
  obtain ⟨a1, n1, c1, rfl⟩ := okWide_slice Try.underlying37 (hval 1 37 v1 rfl rfl)
  have k1 := h1
  have lt1 : ∀ x ∈ p1, x.block < W.heap.size := by obtain ⟨m, hm⟩ := k1; exact DataW.trod_lt m _ _ _ hm
  obtain ⟨z1, w1⟩ : ∃ zs, InBools W a1 n1 c1 zs := by
    obtain ⟨fuel, hf⟩ := h1
    rcases open_inbools Try.underlying37 Try.underlying4 (by kernel_rfl) hf lt1 with hcs | ⟨A', l, c, B, hcs, hin⟩
    · simp [Value.cells] at hcs
      obtain ⟨rfl, rfl, rfl⟩ := hcs
      exact ⟨fun _ => false, InBools.nil _ _⟩
    · simp [Value.cells] at hcs
      obtain ⟨rfl, rfl, rfl⟩ := hcs
      exact ⟨B, hin⟩
  simp only [List.append_nil] at hW'
  refine (walk W a0 n0 c0 z0 w0 a1 n1 c1 z1 w1).mono fun e W' ⟨he, bel⟩ => ?_
  subst he
  exact ⟨_, rfl, _, _, _, [], _, [], hW', trodAll_mk1 (shut_bool Try.underlying4 _), (trodAll_cons_mk (Below.trod laidOut (by kernel_rfl) (of_decide_eq_true (by kernel_rfl)) k0 bel lt0) (trodAll_cons_mk (Below.trod laidOut (by kernel_rfl) (of_decide_eq_true (by kernel_rfl)) k1 bel lt1) trodAll_mk0)), rfl, bel.frame _, fun h => by cases h⟩

theorem proved : Rows.PoolBalancesSaid :=
  OpenClaim.holds_of_wide 5 Try.f5 rfl rfl rfl rfl rfl rfl rfl ⟨rfl, rfl, rfl, rfl, rfl⟩ rfl rfl rfl rfl rfl (by kernel_rfl) Try.func5 (by kernel_rfl)
    (of_decide_eq_true (by kernel_rfl)) (by unfold Func.isWrapper; rw [if_neg (of_decide_eq_false (by kernel_rfl))]; exact ⟨rfl, rfl⟩)
    (fun os started H enc _ => lifted os started H enc)
#print axioms proved
end Go.Proofs.Ytcgapjicbgfpjaa.poolBalances

/-
  PoolPaths: for every input the Go function answers true, and the input reads as it did. No condition.
-/
import Derived.Test.YtcgapjicbgfpjaaRows
import Derived.Test.YtcgapjicbgfpjaaRow
import Derived.Test.YtcgapjicbgfpjaaMat
import Derived.Test.YtcgapjicbgfpjaaTree
import Derived.WalkSpells
namespace Go.Proofs.Ytcgapjicbgfpjaa.poolPaths
open Go.ChangeShapes Go.WideShapes Go.ChangeAt Go.RowKit
open Go.ChangeMaps (open_string shut_string)
set_option linter.unusedVariables false
set_option linter.unusedSimpArgs false

theorem own : ownKnob Try.prog.godebug = none := by kernel_rfl
theorem laidOut : laidOutB Try.prog = true := by kernel_rfl

theorem bd_i {a : Int} (h : (Lit.int .i64 a).wf = true) : -9223372036854775808 ≤ a ∧ a ≤ 9223372036854775807 := by
  simpa [Lit.wf, IntKind.min, IntKind.max, IntKind.bits, IntKind.signed] using h
set_option maxRecDepth 100000 in
set_option maxHeartbeats 8000000 in
/-- the walk: the Go text answers true and writes nothing that was there -/
theorem walk (w : World) (a0 : Option Addr) (n0 c0 : Nat) (z0 : List (List Int)) (w0 : InMat .i64 8 w a0 n0 c0 z0) :
    Calls Try.prog 3 #[.slice a0 n0 c0] w fun e w' => e = .returned (.bool true) ∧ Below w.heap.size w w' := by
  have hlen := w0.len
  have hcap := w0.cap
  have HZ := Lib.hid w0.num
  have HM := Lib.hid w0
  have hrc := w0.reach
  clear w0
  unfold maxLen at hcap
  have N := Lib.hid (new_any (fun g => g < w.heap.size) w (fun g h => h) 1000)
  rw [show max 0 (1000 : Int) = 1000 by decide] at N
  go_enter Try.func3, Try.ntmps3
  go_wp2_with fail
  refine N.out.mono ?_
  rintro e wa ⟨P, rfl, hW, hK1, hB1⟩
  have PW := Lib.hid hW
  have G1 := Lib.hid hB1
  clear hW hK1 hB1 N
  go_wp2_with fail
  go_loopw [4, 20] (fun t i wr => ∃ r m : Nat, r ≤ n0 ∧ preN z0 r ≤ 300 ∧ Hid (Good z0 r) ∧ t = .int .i64 (preN z0 r) ∧ i = .int .i64 r ∧ wr = wa.drewN m) (fun _ i _ => n0 - (intOf i).toNat)
  case atStart => exact ⟨0, 0, Nat.zero_le _, Nat.zero_le _, Lib.hid (good_zero _), rfl, rfl, rfl⟩
  case round =>
    obtain ⟨r, m, hr, hp, hg, rfl, rfl, rfl⟩ := hrel
    have GM := Lib.hid (below_drewN G1.out m)
    by_cases hlt : r < n0
    · obtain ⟨b, off, rfl, hbw, hc⟩ := HM.out.at_ (by omega)
      obtain ⟨z, hz⟩ : ∃ z, z0[r]? = some z := ⟨_, List.getElem?_eq_getElem (by rw [HZ.out]; exact hlt)⟩
      obtain ⟨A', C', k0, hin⟩ := hc r z hz
      have k1 := (GM.out.cell (p := ⟨b, off + r, none⟩) hbw).trans k0
      have hps := pre_succ hz
      have hrx := hin.reach
      have hlx := hin.len
      have HR := Lib.hid hin.reads
      have HW := Lib.hid hin.wf
      have HZr := Lib.hid hz
      obtain ⟨nx, hnx⟩ : ∃ nx, z.length = nx := ⟨_, rfl⟩
      rw [hnx] at k1 hps hlx HR
      have HNX := Lib.hid hnx
      obtain ⟨pr, hpr⟩ : ∃ pr, preN z0 r = pr := ⟨_, rfl⟩
      rw [hpr] at hp hps ⊢
      have HPR := Lib.hid hpr
      have HPS := Lib.hid hps
      clear hc hin k0 hz hnx hpr hps
      have b0 : (0 : Int) ≤ (r : Int) := by omega
      have b1 : (r : Int) < (n0 : Int) := by omega
      by_cases hx0 : nx = 0
      · subst hx0
        go_wp2_with fail
        refine (awake_any _).mono ?_
        rintro e wb ⟨rfl, hb⟩
        have G2 := Lib.hid (GM.out.trans (hb.mono GM.out.size))
        clear hb
        go_wp2_with fail
        go_ret
        exact ⟨rfl, G2.out⟩
      · have hx1 : ((nx : Int) == 0) = false := by rw [beq_eq_false_iff_ne]; omega
        go_wp2_with fail
        go_loopw [30] (fun i wr => ∃ j m2 : Nat, j ≤ nx ∧ Hid (∀ q (h : q < z.length), q < j → 0 ≤ z[q]) ∧ i = .int .i64 j ∧ wr = wa.drewN m2) (fun i _ => nx - (intOf i).toNat)
        case atStart => exact ⟨0, _, Nat.zero_le _, Lib.hid (fun q h hq => absurd hq (by omega)), rfl, rfl⟩
        case round =>
          obtain ⟨j, m2, hj, hpos, rfl, rfl⟩ := hrel
          have GM2 := Lib.hid (below_drewN G1.out m2)
          by_cases hlj : j < nx
          · obtain ⟨b', off', rfl, hbw', hc'⟩ := HR.out.shape (by omega)
            have c1 := (GM2.out.cell (p := ⟨b', off' + j, none⟩) hbw').trans (hc' j (.int .i64 (z[j]'(by rw [HNX.out]; exact hlj))) (by rw [List.getElem?_map, List.getElem?_eq_getElem (by rw [HNX.out]; exact hlj)]; rfl))
            have hy := bd_i (HW.out _ (List.getElem_mem (by rw [HNX.out]; exact hlj)))
            obtain ⟨y, hye⟩ : ∃ y, z[j]'(by rw [HNX.out]; exact hlj) = y := ⟨_, rfl⟩
            rw [hye] at c1 hy
            have HY := Lib.hid hye
            clear hye hc'
            have d0 : (0 : Int) ≤ (j : Int) := by omega
            have d1 : (j : Int) < (nx : Int) := by omega
            by_cases hneg : y < 0
            · have hd : decide (y < 0) = true := decide_eq_true hneg
              go_wp2_with fail
              refine (awake_any _).mono ?_
              rintro e wb ⟨rfl, hb⟩
              have G2 := Lib.hid (GM2.out.trans (hb.mono GM2.out.size))
              clear hb
              go_wp2_with fail
              go_ret
              exact ⟨rfl, G2.out⟩
            · have hd : decide (y < 0) = false := decide_eq_false hneg
              have hpos2 : Hid (∀ q (h : q < z.length), q < j + 1 → 0 ≤ z[q]) := Lib.hid (fun q h hq => by
                by_cases hqj : q = j
                · subst hqj; rw [HY.out]; omega
                · exact hpos.out q h (by omega))
              clear hpos
              go_wp2_with fail
              go_roundw
              case rel => first | exact ⟨j + 1, _, by omega, hpos2, by go_num, rfl⟩ | ((repeat apply Exists.intro); exact ⟨⟨j + 1, _, by omega, hpos2, by go_num, rfl⟩, rfl⟩)
              case measure => simp [intOf]; omega
          · have hge : nx ≤ j := by omega
            have hgood : Hid (Good z0 (r + 1)) := Lib.hid (good_succ hg.out HZr.out (fun h => by have := HNX.out; rw [h] at this; simp at this; omega) (fun e he => by
              obtain ⟨q, hq, rfl⟩ := List.getElem_of_mem he
              exact hpos.out q hq (by have := HNX.out; omega)))
            clear hpos
            by_cases hbig : 300 < pr + nx
            · have hd : decide ((300 : Int) < (pr : Int) + (nx : Int)) = true := decide_eq_true (by omega)
              go_wp2_with fail
              refine (awake_any _).mono ?_
              rintro e wb ⟨rfl, hb⟩
              have G2 := Lib.hid (GM2.out.trans (hb.mono GM2.out.size))
              clear hb
              go_wp2_with fail
              go_ret
              exact ⟨rfl, G2.out⟩
            · have hd : decide ((300 : Int) < (pr : Int) + (nx : Int)) = false := decide_eq_false (by omega)
              go_wp2_with fail
              go_roundw
              case rel => first | exact ⟨r + 1, _, by omega, by rw [HPS.out]; omega, hgood, by rw [HPS.out]; go_num, by go_num, rfl⟩ | ((repeat apply Exists.intro); exact ⟨⟨r + 1, _, by omega, by rw [HPS.out]; omega, hgood, by rw [HPS.out]; go_num, by go_num, rfl⟩, rfl⟩)
              case measure => simp [intOf]; omega
    · have hge : n0 ≤ r := by omega
      have hrn : r = n0 := by omega
      obtain ⟨L, hLe⟩ : ∃ L, flatL z0 = L := ⟨_, rfl⟩
      have hpL : preN z0 n0 = L.length := by rw [← hLe]; exact pre_all HZ.out
      rw [hrn, hpL] at hp ⊢
      have hg' : Good z0 n0 := by rw [← hrn]; exact hg.out
      have HG := Lib.hid hg'
      have HL := Lib.hid hLe
      have HPL := Lib.hid hpL
      clear hg hg' hLe hpL hge hlt hr hrn GM
      have PW1 := Lib.hid (PW.out.drewN m)
      have GM1 := Lib.hid (below_drewN G1.out m)
      clear PW G1
      go_wp2_with fail
      refine (awake_any _).mono ?_
      rintro e wb ⟨rfl, hb⟩
      have PW2 := Lib.hid (PW1.out.below hb)
      have G2 := Lib.hid (GM1.out.trans (hb.mono GM1.out.size))
      clear hb PW1 GM1
      by_cases hN0 : L.length = 0
      · rw [hN0]
        go_wp2_with fail
        refine (awake_any _).mono ?_
        rintro e wc ⟨rfl, hb⟩
        have G3 := Lib.hid (G2.out.trans (hb.mono G2.out.size))
        clear hb
        go_wp2_with fail
        go_ret
        exact ⟨rfl, G3.out⟩
      · have hx1 : ((L.length : Int) == 0) = false := by rw [beq_eq_false_iff_ne]; omega
        have F0 := Lib.hid (PathR.start L PW2.out G2.out)
        go_wp2_with fail
        go_loopw [58] (fun i wr => ∃ k : Nat, k ≤ 2 ∧ i = .int .i64 k ∧ PathR w P wb.heap.size L k 0 wr) (fun i _ => 2 - (intOf i).toNat)
        case atStart => exact ⟨0, Nat.zero_le _, rfl, F0.out⟩
        case round =>
          clear F0 G2 PW2
          obtain ⟨k, hk, rfl, hP⟩ := hrel
          have HP := Lib.hid hP
          clear hP
          by_cases hk2 : k < 2
          · have hkd : decide ((k : Int) < 2) = true := decide_eq_true (by omega)
            have e1 : (k : Int) < 2 := by omega
            go_wp2_with fail
            go_loopw [63] (fun i wr => ∃ r : Nat, r ≤ n0 ∧ i = .int .i64 r ∧ PathR w P wb.heap.size L k (preN z0 r) wr) (fun i _ => n0 - (intOf i).toNat)
            case atStart => exact ⟨0, Nat.zero_le _, rfl, HP.out⟩
            case round =>
              clear HP
              obtain ⟨r, hr, rfl, hP⟩ := hrel
              have HP := Lib.hid hP
              clear hP
              by_cases hlt : r < n0
              · obtain ⟨b, off, rfl, hbw, hc⟩ := HM.out.at_ (by omega)
                obtain ⟨z, hz⟩ : ∃ z, z0[r]? = some z := ⟨_, List.getElem?_eq_getElem (by rw [HZ.out]; exact hlt)⟩
                obtain ⟨A', C', k0, hin⟩ := hc r z hz
                have k1 := (HP.out.2.2.2.cell (p := ⟨b, off + r, none⟩) hbw).trans k0
                have hps := pre_succ hz
                have hrx := hin.reach
                have hlx := hin.len
                have HR := Lib.hid hin.reads
                have HW := Lib.hid hin.wf
                have HZr := Lib.hid hz
                obtain ⟨nx, hnx⟩ : ∃ nx, z.length = nx := ⟨_, rfl⟩
                rw [hnx] at k1 hps hlx HR
                have HNX := Lib.hid hnx
                have HPS := Lib.hid hps
                clear hc hin k0 hz hnx hps
                have b0 : (0 : Int) ≤ (r : Int) := by omega
                have b1 : (r : Int) < (n0 : Int) := by omega
                go_wp2_with fail
                go_loopw [69] (fun i wr => ∃ j : Nat, j ≤ nx ∧ i = .int .i64 j ∧ PathR w P wb.heap.size L k (preN z0 r + j) wr) (fun i _ => nx - (intOf i).toNat)
                case atStart => exact ⟨0, Nat.zero_le _, rfl, HP.out⟩
                case round =>
                  clear HP k1
                  obtain ⟨j, hj, rfl, hP⟩ := hrel
                  have HP := Lib.hid hP
                  clear hP
                  by_cases hlj : j < nx
                  · obtain ⟨b', off', rfl, hbw', hc'⟩ := HR.out.shape (by omega)
                    have hjz : j < z.length := by rw [HNX.out]; exact hlj
                    have c1 := (HP.out.2.2.2.cell (p := ⟨b', off' + j, none⟩) hbw').trans (hc' j (.int .i64 (z[j]'hjz)) (by rw [List.getElem?_map, List.getElem?_eq_getElem hjz]; rfl))
                    have hfl := flat_at HZr.out hjz
                    rw [HL.out] at hfl
                    have hy0 := good_event HG.out hlt HZr.out hjz
                    have hwf := HW.out _ (List.getElem_mem hjz)
                    obtain ⟨y, hye⟩ : ∃ y, z[j]'hjz = y := ⟨_, rfl⟩
                    rw [hye] at c1 hfl hy0 hwf
                    obtain ⟨J, hJ⟩ : ∃ J, preN z0 r + j = J := ⟨_, rfl⟩
                    rw [hJ] at hfl HP
                    obtain ⟨fr, hfr⟩ : ∃ fr, decide (j = 0) = fr := ⟨_, rfl⟩
                    rw [hfr] at hfl
                    have lk := HP.out.last hk2
                    have AD := Lib.hid (HP.out.add hk2 hfl hy0 (fun h0 => by rw [← hfr]; exact decide_eq_true (by omega)) hp hwf)
                    have hd : ((j : Int) == 0) = fr := by
                      rw [← hfr]
                      by_cases h0 : j = 0
                      · subst h0; rfl
                      · rw [decide_eq_false h0, beq_eq_false_iff_ne]; omega
                    have HJ := Lib.hid hJ
                    clear hc' hye hfl hy0 hwf hJ hfr HP
                    have d0 : (0 : Int) ≤ (j : Int) := by omega
                    have d1 : (j : Int) < (nx : Int) := by omega
                    have e0 : (0 : Int) ≤ (k : Int) := by omega
                    go_wp2_with fail
                    refine AD.out.mono ?_
                    rintro e w5 ⟨rfl, hst, hcell, hfrz⟩
                    have HS := Lib.hid hst
                    have HN : Hid (∀ n, PathR w P wb.heap.size L k (preN z0 r + (j + 1)) ((w5.drewN n).setCell ⟨wb.heap.size, k, none⟩ (.int .i64 J))) := Lib.hid (fun n => by
                      rw [show preN z0 r + (j + 1) = J + 1 by have := HJ.out; omega]
                      exact HS.out n)
                    clear hst AD lk
                    go_wp2_with fail
                    go_roundw
                    case rel => first | exact ⟨j + 1, by omega, by go_num, HN.out 0⟩ | ((repeat apply Exists.intro); exact ⟨⟨j + 1, by omega, by go_num, HN.out 0⟩, rfl⟩)
                    case measure => simp [intOf]; omega
                  · have hge : nx ≤ j := by omega
                    have hjn : j = nx := by omega
                    rw [hjn, ← HPS.out] at HP
                    clear hjn
                    go_wp2_with fail
                    go_roundw
                    case rel => first | exact ⟨r + 1, by omega, by go_num, HP.out⟩ | ((repeat apply Exists.intro); exact ⟨⟨r + 1, by omega, by go_num, HP.out⟩, rfl⟩)
                    case measure => simp [intOf]; omega
              · have hge : n0 ≤ r := by omega
                have hrn : r = n0 := by omega
                rw [hrn, HPL.out] at HP
                have HU := Lib.hid (HP.out.used hk2)
                have HT := Lib.hid (HP.out.turn hk2)
                clear HP hrn
                have hne : ((L.length : Int) == (L.length : Int)) = true := by simp
                go_wp2_with fail
                refine HU.out.mono ?_
                rintro e w9 ⟨rfl, rfl⟩
                go_wp2_with fail
                go_roundw
                case rel => first | exact ⟨k + 1, by omega, by go_num, HT.out⟩ | ((repeat apply Exists.intro); exact ⟨⟨k + 1, by omega, by go_num, HT.out⟩, rfl⟩)
                case measure => simp [intOf]; omega
          · have hge : 2 ≤ k := by omega
            have hk' : k = 2 := by omega
            subst hk'
            have hfold : L.foldl grow [] = z0 := by rw [← HL.out]; exact good_fold HG.out HZ.out
            have hsm := flat_small z0 (good_all HG.out HZ.out)
            rw [HL.out] at hsm
            have h1 := HP.out.path hp (by rw [← HL.out]; exact good_first HG.out HZ.out)
            rw [hfold] at h1
            have H1 := Lib.hid h1
            obtain ⟨e0, e1⟩ := HP.out.ends
            have GP := Lib.hid HP.out.2.2.2
            have HSM := Lib.hid hsm
            have heq : ((L.length : Int) - 1 == (L.length : Int) - 1) = true := by simp
            clear h1 hfold hsm HP
            go_wp2_with fail
            refine H1.out.mono ?_
            rintro e w6 ⟨v, rfl, hR, hB⟩
            obtain ⟨A, c, rfl, _, _⟩ := hR.slice
            have G6 := Lib.hid (GP.out.trans (hB.mono GP.out.size))
            have H6 := Lib.hid (same_yes w6 A a0 c c0 z0 hR.reads (HM.out.rowsR G6.out) (by have := HSM.out.1; omega) (fun x hx => by have := HSM.out.2 x hx; omega))
            rw [HZ.out] at H6 ⊢
            clear hR hB H1 HSM
            go_wp2_with fail
            refine H6.out.mono ?_
            rintro e w7 ⟨rfl, n7, rfl⟩
            go_wp2_with fail
            go_ret
            exact ⟨rfl, below_drewN G6.out n7⟩

set_option maxRecDepth 100000 in
theorem lifted (os : Os) (started : os.Started) (H : Type) (enc : TypeId × Value → H) :
    ReturnsInHanded {} Try.checked os 3 .any (Rows.poolPathsSpec.pre6 enc Try.prog Try.f3 Rows.poolPathsRow.domain false) (Rows.poolPathsSpec.post enc Try.prog Try.f3 false true false false) := by
  refine returnsInHanded_of_change_sized (C := Try.checked) own started (by kernel_rfl) Try.func3
    (ChangeSpec.witness6 (enc := enc) (C := Try.checked) false ⟨#[], #[.slice none 0 0], []⟩ 8 (by kernel_rfl) (by kernel_rfl) (by kernel_rfl) (by kernel_rfl)) ?_
  intro W base args ds gs before hval0 hW hcnd hsz0 _
  have hsz : (DataW.weightsEach Try.prog (Try.f3.params.toList ++ Rows.poolPathsSpec.plain.varTypes Try.prog) (ds ++ gs)).all (· ≤ reachBytes) = true := hsz0
  clear hsz0
  have hval : ∀ (j : Nat) t v, Try.f3.params[j]? = some t → args[j]? = some v → Value.okWide Try.prog W .any base t v := hval0
  have hW' := hW
  obtain ⟨p, q, hA0, hV, rfl, hfz, hnd⟩ := hW
  have hA : DataW.TrodAll enc Try.prog W 0 (fun _ => true) true Try.f3.params.toList args.toList ds p := hA0
  rw [Try.params3] at hA hval hsz
  obtain ⟨v0, vs0, d0, ds0, p0, q0, hargs, rfl, rfl, h0, r0⟩ := trodAll_cons hA
  obtain ⟨rfl, rfl, rfl⟩ := trodAll_nil r0
  obtain rfl : args = #[v0] := by cases args; simp_all
  obtain ⟨rfl, rfl⟩ := trodVars_none hV
  clear hA0 hval0
  obtain ⟨a0, n0, c0, rfl⟩ := okWide_slice Try.underlying22 (hval 0 22 v0 rfl rfl)
  have k0 := h0
  have lt0 : ∀ x ∈ p0, x.block < W.heap.size := by obtain ⟨m, hm⟩ := k0; exact DataW.trod_lt m _ _ _ hm
  obtain ⟨z0, w0⟩ : ∃ zs, InMat .i64 8 W a0 n0 c0 zs := by
    obtain ⟨fuel, hf⟩ := h0
    rcases open_mat Try.underlying22 Try.underlying25 Try.underlying3 (by kernel_rfl) (by kernel_rfl) hf lt0 with ⟨hcs, _⟩ | ⟨A', l, c, zss, D, D', hcs, hx, hl, hin⟩
    · simp [Value.cells] at hcs
      obtain ⟨rfl, rfl, rfl⟩ := hcs
      exact ⟨[], InMat.nil _ _ _⟩
    · simp [Value.cells] at hcs
      obtain ⟨rfl, rfl, rfl⟩ := hcs
      have hx : d0 = _ := hx
      subst hx
      have hs := sized_slice hsz (j := 0) (t := 22) (e := 25) rfl rfl Try.underlying22
      rw [show Try.prog.bytesOf 25 = 24 by kernel_rfl, hl] at hs
      refine ⟨zss, hin 8 (fun e' s' he => ?_) hs⟩
      have hi := sized_inner hsz (j := 0) (t := 22) (e := 25) (q := 3) rfl rfl Try.underlying22 Try.underlying25 he
      rw [show Try.prog.bytesOf 3 = 8 by kernel_rfl] at hi
      exact hi
  simp only [List.append_nil] at hW'
  refine (walk W a0 n0 c0 z0 w0).mono fun e W' ⟨he, bel⟩ => ?_
  subst he
  exact ⟨_, rfl, _, _, _, [], _, [], hW', trodAll_mk1 (shut_bool Try.underlying4 _), (trodAll_cons_mk (Below.trod laidOut (by kernel_rfl) (of_decide_eq_true (by kernel_rfl)) k0 bel lt0) trodAll_mk0), rfl, bel.frame _, fun h => by cases h⟩

theorem proved : Rows.PoolPathsSaid :=
  OpenClaim.holds_of_wide 3 Try.f3 rfl rfl rfl rfl rfl rfl rfl ⟨rfl, rfl, rfl, rfl, rfl⟩ rfl rfl rfl rfl rfl (by kernel_rfl) Try.func3 (by kernel_rfl)
    (of_decide_eq_true (by kernel_rfl)) (by unfold Func.isWrapper; rw [if_neg (of_decide_eq_false (by kernel_rfl))]; exact ⟨rfl, rfl⟩)
    (fun os started H enc _ => lifted os started H enc)
#print axioms proved
end Go.Proofs.Ytcgapjicbgfpjaa.poolPaths

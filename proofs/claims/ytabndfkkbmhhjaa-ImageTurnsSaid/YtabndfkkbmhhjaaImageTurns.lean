/-
  ImageTurns: for every input the Go function answers true, and the input reads as it did. No condition.
-/
import Derived.Test.YtabndfkkbmhhjaaRows
import Derived.Test.YtabndfkkbmhhjaaRow
import Derived.Test.YtabndfkkbmhhjaaTrn
import Derived.Test.YtabndfkkbmhhjaaBytes
import Derived.Test.YtabndfkkbmhhjaaTabw
import Derived.Deep.DeepCutAuto
namespace Go.Proofs.Ytabndfkkbmhhjaa.imageTurns
open Go.ChangeShapes Go.WideShapes Go.ChangeAt Go.RowKit
open Go.ChangeMaps (open_string shut_string)
set_option linter.unusedVariables false
set_option linter.unusedSimpArgs false

theorem own : ownKnob Try.prog.godebug = none := by kernel_rfl
theorem laidOut : laidOutB Try.prog = true := by kernel_rfl

open Go.Deep
theorem bv_set (l : List UInt8) (k : Nat) (u : UInt8) : bv (l.set k u) = (bv l).set k (.int .u8 (u.toNat : Int)) := by
  unfold bv
  rw [List.map_set]
theorem byte_next (x : UInt8) : ((x.toNat : Int) + 1) % 256 = (((x + 1).toNat : Nat) : Int) := by
  have := UInt8.toNat_lt x
  rw [UInt8.toNat_add]
  simp
theorem byte_ne (x : UInt8) : x ≠ x + 1 := by
  intro e
  have h := congrArg UInt8.toNat e
  have := UInt8.toNat_lt x
  rw [UInt8.toNat_add] at h
  simp at h
  omega
theorem turn_at (a : Int) (N : Nat) (h0 : 0 < N) (h1 : N ≤ 65536) : ∃ k : Nat, wrap64 ((IntKind.u64.wrap a).tmod (N : Int)) = (k : Int) ∧ k < N := by
  obtain ⟨x, hx⟩ : ∃ x : Nat, IntKind.u64.wrap a = (x : Int) := ⟨(IntKind.u64.wrap a).toNat, (Int.toNat_of_nonneg (by simp [IntKind.wrap, IntKind.bits, IntKind.signed]; omega)).symm⟩
  rw [hx, ← Int.ofNat_tmod]
  have := Nat.mod_lt x h0
  exact ⟨x % N, by rw [IntWalk.wrap64_in _ ⟨by omega, by omega⟩], this⟩
set_option maxRecDepth 100000
set_option maxHeartbeats 8000000 in
/-- the walk: the Go text answers true and writes nothing that was there -/
theorem walk (w : World) (A0 : Array Value) (T0 : TTab) (w0 : TabC w A0.toList T0) (s0 : Wide.rcTab T0) (a1 : Int) (w1 : (Lit.int .i64 a1).wf = true) (a2 : Int) (w2 : (Lit.int .u8 a2).wf = true) :
    Calls Try.prog 7 #[.agg A0, .int .i64 a1, .int .u8 a2] w fun e w' => e = .returned (.bool true) ∧ Below w.heap.size w w' := by
  obtain ⟨vk, vkk, vs, vc, rfl, hx⟩ := TabX.of w0
  obtain ⟨i0, hi, hz0, hz1, hz2⟩ := info_parts infoU8
  obtain ⟨ub, rfl⟩ : ∃ u : UInt8, a2 = u.toNat := byte_of w2
  obtain ⟨W1, hW1⟩ : ∃ W1, W1 = w.alloc (.cells #[.int .i64 T0.strategy, vk, vkk, .int .i64 T0.syms, .int .i64 T0.runs, .int .i64 T0.cells, vs, vc] 27) := ⟨_, rfl⟩
  have B0 : Below w.heap.size w W1 := by rw [hW1]; exact (Below.refl w.heap.size w).alloc (Nat.le_refl _) _
  have BT : Blk W1 w.heap.size 27 #[.int .i64 T0.strategy, vk, vkk, .int .i64 T0.syms, .int .i64 T0.runs, .int .i64 T0.cells, vs, vc] := by rw [hW1]; exact Blk.new w _ _
  have X1 := hx.below B0
  have HD := Lib.hid hx.data
  have CF := Lib.hid (many_any T0 vk vkk vs vc W1 X1)
  have CA := Lib.hid (fun W => image_awake W)
  have HX := Lib.hid (fun W (hb : Below W1.heap.size W1 W) => X1.below hb)
  have CE := Lib.hid (fun W h => encode_any T0 vk vkk vs vc W h)
  have HB0 := Lib.hid B0
  have HBT := Lib.hid BT
  obtain ⟨k0, k1, k2, k3, k4, k5, k6, k7⟩ := blk8s BT
  have HW1 := Lib.hid hW1
  clear hx B0 BT X1 w0 s0 hW1
  go_enter Try.func7, Try.ntmps7
  go_upto_region 1 with fail
  rw [← HW1.out]
  clear HW1
  go_wp2_with fail
  refine CF.out.mono ?_
  rintro e W2 ⟨fb, rfl, hb2⟩
  have HB2 := Lib.hid hb2
  clear k0 k1 k2 k3 k4 k5 k6 k7 CF hb2
  cases fb with
  | true =>
    go_wp2_with fail
    refine (CA.out _).mono ?_
    rintro e W3 ⟨rfl, hb3⟩
    have HB3 := Lib.hid (HB0.out.trans ((HB2.out.trans (hb3.mono HB2.out.size)).mono HB0.out.size))
    clear hb3
    go_wp2_with fail
    go_ret
    exact ⟨rfl, HB3.out⟩
  | false =>
    obtain ⟨k0, k1, k2, k3, k4, k5, k6, k7⟩ := blk8s (HBT.out.below HB2.out HBT.out.lt)
    have C3 := Lib.hid (CE.out W2 (HX.out W2 HB2.out))
    have HB20 := Lib.hid (HB0.out.trans (HB2.out.mono HB0.out.size))
    clear CE HX
    go_wp2_with fail
    refine C3.out.mono ?_
    rintro e w3 ⟨hb3, hor⟩
    have HB3 := Lib.hid (HB20.out.trans (hb3.mono HB20.out.size))
    clear C3 k0 k1 k2 k3 k4 k5 k6 k7 hb3
    rcases hor with ⟨b, y, htab, ⟨hl65, A, c, rfl, hown⟩ | ⟨_, rfl⟩⟩ | ⟨_, rfl⟩
    · obtain ⟨N, hN⟩ : ∃ N, b.length + 4 = N := ⟨_, rfl⟩
      have him := img_made HD.out htab hl65
      obtain ⟨l, hl⟩ : ∃ l, b ++ sumBy b = l := ⟨_, rfl⟩
      have hlN : l.length = N := by rw [← hl, ← hN, List.length_append]; rfl
      rw [hl] at him hown
      rw [hN] at hown hl65 ⊢
      have h9 : 9 ≤ N := by rw [← hlN]; exact him.len
      obtain ⟨g, cap, hv, hgw, hgl, hgc, hgm, hcells, hfz⟩ := own_shape hown (by omega)
      injection hv with hv1 hv2 hv3
      subst hv1 hv3
      have HLN := Lib.hid hlN
      have HIM := Lib.hid him
      have HO := Lib.hid hown
      clear him hown htab hcells hfz hgw hgl hN hl HD hlN
      go_wp2_with fail
      refine (CA.out _).mono ?_
      rintro e w4 ⟨rfl, hb4⟩
      have HB4 := Lib.hid (HB3.out.trans (hb4.mono HB3.out.size))
      have HO4 := Lib.hid (own_below2 HO.out hb4)
      clear hb4 HB3 HO
      obtain ⟨k, hk, hkN⟩ := turn_at a1 N (by omega) (by omega)
      have hkl : k < l.length := by rw [HLN.out]; exact hkN
      have hck : w4.cell? ⟨g, k, none⟩ = some (.int .u8 ((l[k]'hkl).toNat : Int)) := by
        rw [HO4.out.cellAt k (by omega)]
        exact bv_get l k hkl
      have HKL := Lib.hid hkl
      obtain ⟨x, hx⟩ : ∃ x : UInt8, l[k]'hkl = x := ⟨_, rfl⟩
      rw [hx] at hck
      have HXB : Hid ((bv l)[k]? = some (.int .u8 (x.toNat : Int))) := Lib.hid (by rw [← hx]; exact bv_get l k hkl)
      have HX : Hid (l[k]? = some x) := Lib.hid (by rw [List.getElem?_eq_getElem hkl, hx])
      have hk0 : (0 : Int) ≤ (k : Int) := by omega
      have hk1 : (k : Int) < (N : Int) := by omega
      clear hx hkl
      go_upto_region 7 with fail
      rw [hk]
      clear hk
      go_upto_if 44 with fail
      go_cut [2] (fun b wx => (∃ u : UInt8, b = .int .u8 u.toNat ∧ l[k]? ≠ some u) ∧ wx = w4)
      case first =>
        by_cases hxu : x = ub
        · have HXU := Lib.hid hxu
          subst hxu
          have heq : (((x.toNat : Nat) : Int) == ((x.toNat : Nat) : Int)) = true := beq_self_eq_true _
          have hlt := UInt8.toNat_lt x
          go_wp2_with fail
          go_meet
          refine ⟨⟨(x + 1), ?_, ?_⟩, rfl⟩
          · rw [byte_next]
          · rw [HX.out]
            intro e
            injection e with e
            exact byte_ne x e
        · have hne : (((x.toNat : Nat) : Int) == ((ub.toNat : Nat) : Int)) = false := by
            rw [beq_eq_false_iff_ne]
            intro e
            exact hxu (UInt8.toNat_inj.1 (by omega))
          have hne2 : (((x.toNat : Nat) : Int) = ((ub.toNat : Nat) : Int)) = False := eq_false (fun e => hxu (UInt8.toNat_inj.1 (by omega)))
          have HXU := Lib.hid hxu
          clear hxu
          go_wp2_with fail
          go_meet
          refine ⟨⟨ub, rfl, ?_⟩, rfl⟩
          rw [HX.out]
          intro e
          injection e with e
          exact HXU.out e
      case rest =>
        obtain ⟨⟨u, rfl, hlu⟩, rfl⟩ := hcut
        have HLU := Lib.hid hlu
        clear hlu hck
        obtain ⟨W5, hW5⟩ : ∃ W, W = wc.alloc (.cells #[] 5) := ⟨_, rfl⟩
        have ha5 : Below wc.heap.size wc W5 := by rw [hW5]; exact (Below.refl _ _).alloc (Nat.le_refl _) _
        have HO5 : Hid (W5.ownsRow wc.heap.size 5 1 (.slice (some ⟨wc.heap.size, 0, none⟩) 0 0) 0 []) := Lib.hid (by rw [hW5]; exact World.ownsRow_lit wc #[] 0 (Nat.le_refl _) (by decide) rfl)
        have HR5 : Hid (Reads W5 wc.heap.size 1 (some ⟨g, 0, none⟩) N (bv l)) := Lib.hid ((Reads.of_own HO4.out).below ha5)
        have HA5 := Lib.hid ha5
        have HW5 := Lib.hid hW5
        have H1N : Hid (1 ≤ N) := Lib.hid (by omega)
        have hNM : Hid (0 + N ≤ 70368744177664) := Lib.hid (by omega)
        clear ha5 hW5
        go_wp2_with (at_builtin; rw [← HW5.out]; refine wpList_append_any _ rfl (.tmp 47) (.tmp 48) 31 rfl wc.heap.size 5 i0 _ 1 1 Try.underlying31 hi hz0 hz1 hz2 rfl (by omega) (.slice (some ⟨wc.heap.size, 0, none⟩) 0 0) 0 [] rfl HO5.out wc.heap.size (some ⟨g, 0, none⟩) N c (bv l) rfl HR5.out (bv_one l) (by unfold maxLen; exact (by have := H1N.out; omega)) (by omega) HA5.out.size ?_; intro v2 w2 ho2 hg2 hat2; simp only [Nat.zero_add, List.nil_append] at ho2; obtain ⟨g2, c2, hv2', hgw2, hgl2, hgc2, hgm2, hcells2, hfz2⟩ := own_shape ho2 H1N.out; subst hv2'; (try rw [Nat.zero_add]); have HO2 := Lib.hid ho2; have HA2 : Hid (Below wc.heap.size wc w2) := Lib.hid (HA5.out.grown hg2 HA5.out.size (fun q hq => (own_lt2 HO5.out hq).2)); have hfk := hfz2 k; have hck2 : w2.cell? ⟨g2, k, none⟩ = some (.int .u8 (x.toNat : Int)) := hcells2 k _ HXB.out; clear ho2 hg2 hat2 hfz2 hcells2)
        have hst := (HO2.out.stored k (.int .u8 (u.toNat : Int))).1
        obtain ⟨W6, hW6⟩ : ∃ W, W = w2.setCell ⟨g2, k, none⟩ (.int .u8 (u.toNat : Int)) := ⟨_, rfl⟩
        have HO6 : Hid (W6.ownsRow wc.heap.size 5 1 (.slice (some ⟨g2, 0, none⟩) N c2) N (bv (l.set k u))) := Lib.hid (by rw [hW6, bv_set]; exact hst)
        have HA6 : Hid (Below wc.heap.size wc W6) := Lib.hid (by rw [hW6]; exact HA2.out.setCell hgw2 _)
        rw [← hW6]
        clear hst hW6 HO2 HA2 hck2 hfk hgl2
        have CD1 := Lib.hid (decode_no (some ⟨g2, 0, none⟩) N c2 (l.set k u) W6 (by rw [List.length_set]; exact HLN.out) hgc2 (by unfold maxLen at hgm2; omega) (Reads.of_own HO6.out) (fun z => img_turned HIM.out HKL.out HLU.out))
        refine CD1.out.mono ?_
        rintro e w7 ⟨hb7, ec1, rfl, hn1, he1⟩
        have HA7 := Lib.hid (HA6.out.trans (hb7.mono HA6.out.size))
        clear hb7 CD1 HO6 HA6
        go_upto_region 12 with fail
        obtain ⟨W8, hW8⟩ : ∃ W, W = w7.alloc (.cells #[.int .i64 0, .slice none 0 0, .slice none 0 0, .int .i64 0, .int .i64 0, .int .i64 0, .slice none 0 0, .slice none 0 0] 27) := ⟨_, rfl⟩
        rw [← hW8]
        have HA8 : Hid (Below wc.heap.size wc W8) := Lib.hid (by rw [hW8]; exact HA7.out.alloc HA7.out.size _)
        have HO8 := Lib.hid (own_below2 HO4.out HA8.out)
        clear hW8 HA7
        have CD2 := Lib.hid (decode_no (some ⟨g, 0, none⟩) k c (l.take k) W8 (by rw [List.length_take]; have := HKL.out; omega) (by omega) (by unfold maxLen at hgm; omega) ((Reads.of_own HO8.out).take HLN.out k (by omega)) (fun z => img_cut HIM.out HKL.out))
        go_wp2_with fail
        refine CD2.out.mono ?_
        rintro e w9 ⟨hb9, ec2, rfl, hn2, he2⟩
        have HA9 := Lib.hid (HA8.out.trans (hb9.mono HA8.out.size))
        clear hb9 CD2 HO8 HA8
        go_upto_region 13 with fail
        obtain ⟨W10, hW10⟩ : ∃ W, W = w9.alloc (.cells #[.int .i64 0, .slice none 0 0, .slice none 0 0, .int .i64 0, .int .i64 0, .int .i64 0, .slice none 0 0, .slice none 0 0] 27) := ⟨_, rfl⟩
        rw [← hW10]
        have HA10 : Hid (Below wc.heap.size wc W10) := Lib.hid (by rw [hW10]; exact HA9.out.alloc HA9.out.size _)
        have HO10 := Lib.hid (own_below2 HO4.out HA10.out)
        clear hW10 HA9
        obtain ⟨W11, hW11⟩ : ∃ W, W = W10.alloc (.cells #[] 5) := ⟨_, rfl⟩
        have ha11 : Below W10.heap.size W10 W11 := by rw [hW11]; exact (Below.refl _ _).alloc (Nat.le_refl _) _
        have HO11 : Hid (W11.ownsRow W10.heap.size 5 1 (.slice (some ⟨W10.heap.size, 0, none⟩) 0 0) 0 []) := Lib.hid (by rw [hW11]; exact World.ownsRow_lit W10 #[] 0 (Nat.le_refl _) (by decide) rfl)
        have HR11 : Hid (Reads W11 W10.heap.size 1 (some ⟨g, 0, none⟩) N (bv l)) := Lib.hid ((Reads.of_own HO10.out).below ha11)
        have HA11 := Lib.hid ha11
        have HW11 := Lib.hid hW11
        clear ha11 hW11
        go_wp2_with (first
          | (at_builtin; rw [← HW11.out]; refine wpList_append_any _ rfl (.tmp 67) (.tmp 68) 31 rfl W10.heap.size 5 i0 _ 1 1 Try.underlying31 hi hz0 hz1 hz2 rfl (by omega) (.slice (some ⟨W10.heap.size, 0, none⟩) 0 0) 0 [] rfl HO11.out W10.heap.size (some ⟨g, 0, none⟩) N c (bv l) rfl HR11.out (bv_one l) (by unfold maxLen; exact (by have := H1N.out; omega)) (by omega) HA11.out.size ?_; intro v12 w12 ho12 hg12 hat12; simp only [Nat.zero_add, List.nil_append] at ho12; obtain ⟨A12, c12, rfl⟩ := own_slice ho12; (try rw [Nat.zero_add]); have HO12 := Lib.hid ho12; have HA12 : Hid (Below W10.heap.size W10 w12) := Lib.hid (HA11.out.grown hg12 HA11.out.size (fun q hq => (own_lt2 HO11.out hq).2)); clear ho12 hg12 hat12; obtain ⟨W13, hW13⟩ : ∃ W, W = w12.alloc (.cells #[.int .u8 (u.toNat : Int)] 5) := ⟨_, rfl⟩; have HR13 : Hid (Reads W13 (w12.heap.size + 1) 1 (some ⟨w12.heap.size, 0, none⟩) 1 (bv [u])) := Lib.hid (by rw [hW13]; exact reads_one w12 _ _ _); have ha13 : Below w12.heap.size w12 W13 := (by rw [hW13]; exact (Below.refl _ _).alloc (Nat.le_refl _) _); have HO13 := Lib.hid (own_below2 HO12.out ha13); have HA13 : Hid (Below W10.heap.size W10 W13) := Lib.hid (HA12.out.trans (ha13.mono HA12.out.size)); have HW13 := Lib.hid hW13; clear hW13 ha13)
          | (at_builtin; rw [← HW13.out]; refine wpList_append_any _ rfl (.tmp 69) (.tmp 71) 31 rfl W10.heap.size 5 i0 _ 1 1 Try.underlying31 hi hz0 hz1 hz2 rfl (by omega) (.slice A12 N c12) N (bv l) rfl HO13.out (w12.heap.size + 1) (some ⟨w12.heap.size, 0, none⟩) 1 1 (bv [u]) rfl HR13.out (bv_one [u]) (by unfold maxLen; omega) (by omega) HA13.out.size ?_; intro v14 w14 ho14 hg14 hat14; obtain ⟨A14, c14, rfl⟩ := own_slice ho14; have HO14 : Hid (w14.ownsRow W10.heap.size 5 1 (.slice A14 (N + 1) c14) (N + 1) (bv (l ++ [u]))) := Lib.hid (by rw [bv_app]; exact ho14); have HA14 : Hid (Below W10.heap.size W10 w14) := Lib.hid (HA13.out.grown hg14 HA13.out.size (fun q hq => (own_lt2 HO13.out hq).2)); have hcp14 := own_caps ho14; clear ho14 hg14 hat14))
        have CD3 := Lib.hid (decode_no A14 (N + 1) c14 (l ++ [u]) w14 (by rw [List.length_append, HLN.out]; rfl) hcp14.1 (by have := hcp14.2; unfold maxLen at this; omega) (Reads.of_own HO14.out) (fun z => img_more HIM.out))
        refine CD3.out.mono ?_
        rintro e w15 ⟨hb15, ec3, rfl, hn3, he3⟩
        have HA15 := Lib.hid (HB4.out.trans ((HA10.out.trans ((HA14.out.trans (hb15.mono HA14.out.size)).mono HA10.out.size)).mono HB4.out.size))
        clear hb15 CD3 HO14 HA14
        go_wp2_with fail
        go_ret
        exact ⟨rfl, HA15.out.alloc HA15.out.size _⟩
    · go_wp2_with fail
      refine (CA.out _).mono ?_
      rintro e w5 ⟨rfl, hb5⟩
      have HB5 := Lib.hid (HB3.out.trans (hb5.mono HB3.out.size))
      clear hb5
      go_wp2_with fail
      refine (CA.out _).mono ?_
      rintro e w6 ⟨rfl, hb6⟩
      have HB6 := Lib.hid (HB5.out.trans (hb6.mono HB5.out.size))
      clear hb6
      go_wp2_with fail
      go_ret
      exact ⟨rfl, HB6.out⟩
    · go_wp2_with fail
      refine (CA.out _).mono ?_
      rintro e w5 ⟨rfl, hb5⟩
      have HB5 := Lib.hid (HB3.out.trans (hb5.mono HB3.out.size))
      clear hb5
      go_wp2_with fail
      refine (CA.out _).mono ?_
      rintro e w6 ⟨rfl, hb6⟩
      have HB6 := Lib.hid (HB5.out.trans (hb6.mono HB5.out.size))
      clear hb6
      go_wp2_with fail
      go_ret
      exact ⟨rfl, HB6.out⟩

set_option maxRecDepth 100000 in
theorem lifted (os : Os) (started : os.Started) (H : Type) (enc : TypeId × Value → H) :
    ReturnsInHanded {} Try.checked os 7 .any (Rows.imageTurnsSpec.pre6 enc Try.prog Try.f7 Rows.imageTurnsRow.domain false) (Rows.imageTurnsSpec.post enc Try.prog Try.f7 false true false false) := by
  refine returnsInHanded_of_change_sized (C := Try.checked) own started (by kernel_rfl) Try.func7
    (ChangeSpec.witness6 (enc := enc) (C := Try.checked) false ⟨#[], #[.agg #[.int .i64 0, .slice none 0 0, .slice none 0 0, .int .i64 0, .int .i64 0, .int .i64 0, .slice none 0 0, .slice none 0 0], .int .i64 0, .int .u8 0], []⟩ 8 (by kernel_rfl) (by kernel_rfl) (by kernel_rfl) (by kernel_rfl)) ?_
  intro W base args ds gs before hval0 hW hcnd hsz0 _
  have hsz : (DataW.weightsEach Try.prog (Try.f7.params.toList ++ Rows.imageTurnsSpec.plain.varTypes Try.prog) (ds ++ gs)).all (· ≤ reachBytes) = true := hsz0
  clear hsz0
  have hval : ∀ (j : Nat) t v, Try.f7.params[j]? = some t → args[j]? = some v → Value.okWide Try.prog W .any base t v := hval0
  have hW' := hW
  obtain ⟨p, q, hA0, hV, rfl, hfz, hnd⟩ := hW
  have hA : DataW.TrodAll enc Try.prog W 0 (fun _ => true) true Try.f7.params.toList args.toList ds p := hA0
  rw [Try.params7] at hA hval hsz
  obtain ⟨v0, vs0, d0, ds0, p0, q0, hargs, rfl, rfl, h0, r0⟩ := trodAll_cons hA
  obtain ⟨v1, vs1, d1, ds1, p1, q1, rfl, rfl, rfl, h1, r1⟩ := trodAll_cons r0
  obtain ⟨v2, vs2, d2, ds2, p2, q2, rfl, rfl, rfl, h2, r2⟩ := trodAll_cons r1
  obtain ⟨rfl, rfl, rfl⟩ := trodAll_nil r2
  obtain rfl : args = #[v0, v1, v2] := by cases args; simp_all
  obtain ⟨rfl, rfl⟩ := trodVars_none hV
  clear hA0 hval0
  obtain ⟨A0, rfl, hz0⟩ := okWide_struct Try.underlying27 (hval 0 27 v0 rfl rfl)
  have k0 := h0
  have lt0 : ∀ x ∈ p0, x.block < W.heap.size := by obtain ⟨m, hm⟩ := k0; exact DataW.trod_lt m _ _ _ hm
  obtain ⟨T0, w0, s0⟩ : ∃ T, TabC W A0.toList T ∧ Wide.rcTab T := by
    obtain ⟨fuel, hf⟩ := h0
    obtain ⟨_, T, hT, hs⟩ := Wide.openw_tab fuel A0.toList (d0, p0) (by simpa [Value.cells] using hf) lt0 (fun n hn => of_decide_eq_true (List.all_eq_true.1 hsz _ (DataW.weights_mem_each (j := 0) (t := 27) rfl rfl n hn)))
    exact ⟨T, hT, hs⟩
  obtain ⟨a1, rfl, rfl, rfl, w1⟩ := open_int Try.underlying3 (hval 1 3 v1 rfl rfl) h1
  obtain ⟨a2, rfl, rfl, rfl, w2⟩ := open_int Try.underlying5 (hval 2 5 v2 rfl rfl) h2
  simp only [List.append_nil] at hW'
  refine (walk W A0 T0 w0 s0 a1 w1 a2 w2).mono fun e W' ⟨he, bel⟩ => ?_
  subst he
  exact ⟨_, rfl, _, _, _, [], _, [], hW', trodAll_mk1 (shut_bool Try.underlying4 _), (trodAll_cons_mk (Below.trod laidOut (by kernel_rfl) (of_decide_eq_true (by kernel_rfl)) k0 bel lt0) (trodAll_cons_mk (shut_int Try.underlying3 w1) (trodAll_cons_mk (shut_int Try.underlying5 w2) trodAll_mk0))), rfl, bel.frame _, fun h => by cases h⟩

theorem proved : Rows.ImageTurnsSaid :=
  OpenClaim.holds_of_wide 7 Try.f7 rfl rfl rfl rfl rfl rfl rfl ⟨rfl, rfl, rfl, rfl, rfl⟩ rfl rfl rfl rfl rfl (by kernel_rfl) Try.func7 (by kernel_rfl)
    (of_decide_eq_true (by kernel_rfl)) (by unfold Func.isWrapper; rw [if_neg (of_decide_eq_false (by kernel_rfl))]; exact ⟨rfl, rfl⟩)
    (fun os started H enc _ => lifted os started H enc)
#print axioms proved
end Go.Proofs.Ytabndfkkbmhhjaa.imageTurns

/-
  WireNumbers: for every input the Go function answers true, and the input reads as it did. No condition.
-/
import Derived.Test.YtlccikpmnhjfoaaRows
import Derived.Test.YtlccikpmnhjfoaaRow
import Derived.Test.YtlccikpmnhjfoaaTexts
namespace Go.Proofs.Ytlccikpmnhjfoaa.wireNumbers
open Go.ChangeShapes Go.WideShapes Go.ChangeAt Go.RowKit
open Go.ChangeMaps (open_string shut_string)
set_option linter.unusedVariables false
set_option linter.unusedSimpArgs false

theorem own : ownKnob Try.prog.godebug = none := by kernel_rfl
theorem laidOut : laidOutB Try.prog = true := by kernel_rfl

set_option maxHeartbeats 8000000 in
/-- the walk: the Go text answers true and writes nothing that was there -/
theorem walk (w : World) (a0 : Int) (w0 : (Lit.int .u64 a0).wf = true) (a1 : Int) (w1 : (Lit.int .i64 a1).wf = true) :
    Calls Try.prog 6 #[.int .u64 a0, .int .i64 a1] w fun e w' => e = .returned (.bool true) ∧ Below w.heap.size w w' := by
  obtain ⟨u0, u1⟩ := bd_u64 w0
  obtain ⟨s0, s1⟩ := bd_i64 w1
  obtain ⟨n, rfl⟩ : ∃ n : Nat, a0 = n := ⟨a0.toNat, by omega⟩
  have hn : n < 18446744073709551616 := by omega
  have hz := zig_lt a1 s0 s1
  have U1 := Lib.hid fun W => uint_any n W hn
  have U2 := Lib.hid fun W => int_any a1 W s0 s1
  have U3 := Lib.hid fun W => ruint_any 9 n W hn (by omega)
  have U4 := Lib.hid fun W => rint_any a1 W s0 s1
  have D1 := Lib.hid fun t => dec_vb n hn t
  have D2 := Lib.hid (dec_vb (zig a1) hz [])
  have L1 := vb_len n
  have L2 := vb_len (zig a1)
  have Z := Lib.hid (zag_zig a1)
  obtain ⟨la, hla⟩ : ∃ la, vb n = la := ⟨_, rfl⟩
  obtain ⟨lb, hlb⟩ : ∃ lb, vb (zig a1) = lb := ⟨_, rfl⟩
  rw [hla] at U1 U3 D1 L1
  rw [hlb] at U2 U4 D2 L2
  obtain ⟨na, hna⟩ : ∃ na, la.length = na := ⟨_, rfl⟩
  obtain ⟨nb, hnb⟩ : ∃ nb, lb.length = nb := ⟨_, rfl⟩
  rw [hna] at L1
  rw [hnb] at L2
  clear hla hlb w0 w1
  go_enter Try.func6, Try.ntmps6
  go_wp2_with fail
  refine (U1.out w).mono ?_
  rintro e w2 ⟨g1, k1, rfl, o1, b1⟩
  rw [hna] at o1 ⊢
  go_wp2_with fail
  refine (U2.out w2).mono ?_
  rintro e w3 ⟨g2, k2, rfl, o2, b2⟩
  rw [hnb] at o2 ⊢
  have K1 := Lib.hid ((Kept.of_own o1 (by omega)).below b2)
  have K2 := Lib.hid (Kept.of_own o2 (by omega))
  have G := Lib.hid (grown_below (only_of_below b1 none) b2)
  clear o1 o2 b1 b2
  have x1 := Kept.text (cap := k1) (w := w3.drew) K1.out hna
  have x2 := Kept.text (cap := k2) (w := w3.drew) K2.out hnb
  go_upto_region 2 with fail
  go_cut [33] (fun s33 wx => s33 = .bool false ∧ w.grownBy wx none ∧ Kept wx g1 la ∧ Kept wx g2 lb)
  case first =>
    have K1 : Hid (Kept w3.drew g1 la) := K1
    have K2 : Hid (Kept w3.drew g2 lb) := K2
    have G := Lib.hid (only_drew G.out)
    go_region_with (first
      | (go_at_call 9; refine (awake_any _).mono ?_; rintro e w' ⟨rfl, hg⟩; replace K1 := Lib.hid (K1.out.below (below_of_grown hg)); replace K2 := Lib.hid (K2.out.below (below_of_grown hg)); replace G := Lib.hid (grown_tr G.out hg); clear hg x1 x2; have x1 := Kept.text (cap := k1) K1.out hna; have x2 := Kept.text (cap := k2) K2.out hnb)
      | (go_at_call 17; refine (U3.out _).mono ?_; rintro e w' ⟨g3, k3, rfl, o3, b3⟩; rw [hna] at o3 ⊢; have x3 := Kept.text (cap := k3) (Kept.of_own o3 (by omega)) hna; replace K1 := Lib.hid (K1.out.below b3); replace K2 := Lib.hid (K2.out.below b3); replace G := Lib.hid (grown_below G.out b3); clear o3 b3 x1 x2; have x1 := Kept.text (cap := k1) K1.out hna; have x2 := Kept.text (cap := k2) K2.out hnb)
      | (go_at_call 18; refine (U4.out _).mono ?_; rintro e w' ⟨g4, k4, rfl, o4, b4⟩; rw [hnb] at o4 ⊢; have x4 := Kept.text (cap := k4) (Kept.of_own o4 (by omega)) hnb; replace K1 := Lib.hid (K1.out.below b4); replace K2 := Lib.hid (K2.out.below b4); replace G := Lib.hid (grown_below G.out b4); clear o4 b4 x1 x2; have x1 := Kept.text (cap := k1) K1.out hna; have x2 := Kept.text (cap := k2) K2.out hnb))
    all_goals (go_wp2_with fail; go_meet; exact ⟨rfl, G.out, K1.out, K2.out⟩)
  case rest =>
    obtain ⟨rfl, G2, K12, K22⟩ := hcut
    clear K1 K2 G x1 x2
    obtain ⟨i0, hi, hz0, hz1, hz2⟩ := info_parts infoU8
    have HG := Lib.hid G2
    have Q1 := Lib.hid K12
    have Q2 := Lib.hid K22
    clear G2 K12 K22 U1 U2 U3 U4 s0 s1 u0 u1
    go_wp2_with (first
      | (at_builtin; refine wpList_append_any _ rfl (.tmp 34) (.tmp 35) _ rfl wc.heap.size 5 i0 _ 1 1 Try.underlying22 hi hz0 hz1 hz2 rfl (by omega) _ 0 [] rfl (World.ownsRow_lit wc #[] 0 (Nat.le_refl _) (by decide) rfl) wc.heap.size (some ⟨g1, 0, none⟩) na k1 (bv la) rfl ((Q1.out.reads hna).alloc (Nat.le_refl _) _) (bv_one la) ?c1 ?c2 ?c3 ?_; rotate_left 3; intro v1 w1 hown1 hg1 hat1)
      | (at_builtin; refine wpList_append_any _ rfl (.tmp 36) (.tmp 37) _ rfl wc.heap.size 5 i0 _ 1 1 Try.underlying22 hi hz0 hz1 hz2 rfl (by omega) _ _ _ rfl hown1 wc.heap.size (some ⟨g2, 0, none⟩) nb k2 (bv lb) rfl ?d0 (bv_one lb) ?d1 ?d2 ?d3 ?_; rotate_left 4; intro v2 w4 hown2 hg2 hat2; obtain ⟨A2, c2, rfl⟩ := own_slice hown2))
    case d0 =>
      refine ((Q2.out.reads hnb).alloc (Nat.le_refl _) _).grown hg1 (by simp) (fun g hg => ?_)
      have hg : some wc.heap.size = some g := hg
      injection hg with hg; omega
    case d1 => unfold maxLen; omega
    case d2 => omega
    case d3 => have := hg1.size; simp at this; omega
    case c1 => unfold maxLen; omega
    case c2 => omega
    case c3 => simp
    have hs0 := HG.out.size
    have hs1 : wc.heap.size + 1 ≤ w1.heap.size := by have := hg1.size; simpa using this
    have hg1' : (wc.alloc (.cells #[] 5)).grownBy w1 (some wc.heap.size) := hg1
    have hat : ∃ R', v1.ownBlock = some R' ∧ w.heap.size ≤ R' := by
      rcases hat1 with h | h
      · exact ⟨wc.heap.size, h, hs0⟩
      · exact ⟨_, h, by simp; omega⟩
    obtain ⟨R1, hR1, hR1'⟩ := hat
    have hg2' : w1.grownBy w4 (some R1) := by rw [← hR1]; exact hg2
    have G4 := Lib.hid (grown_in (grown_in (only_alloc HG.out _) hg1' hs0) hg2' hR1')
    have hrd : Reads w4 w4.heap.size 1 A2 (na + nb) (bv (la ++ lb)) := by
      have h := Reads.of_own hown2
      rw [Nat.zero_add, List.nil_append, ← bv_app] at h
      exact h
    have hln : (la ++ lb).length = na + nb := by rw [List.length_append]; omega
    have HL := Lib.hid hln
    clear hown1 hown2 hg1 hg2 hg1' hg2' hat1 hat2 HG Q1 Q2 hR1 hR1' hs0 hs1
    refine (open_any A2 (na + nb) c2 (la ++ lb) w4 hln (by omega) hrd).mono ?_
    rintro e w5 ⟨R, A, c, rfl, hR, hr, hrd5, hown5, hb5⟩
    have G5 := Lib.hid (grown_below G4.out hb5)
    have U := Lib.hid (runint_any A (na + nb) c 0 R (la ++ lb) w5 hln (by omega) (by omega) hr hrd5)
    have hRl : R < w5.heap.size := Blk.lt hr
    have hsz5 := hb5.size
    have HRD := Lib.hid hrd5
    clear hrd hrd5 hown5 hb5 hr hln
    have hwR : w.heap.size ≤ R := by have := G4.out.size; omega
    go_wp2_with fail
    refine U.out.mono ?_
    rintro e w6 ⟨rfl, hg6, hr6⟩
    have f1 := fst_some (D1.out lb)
    rw [hna] at f1
    rw [List.drop_zero, f1.2, Nat.zero_add] at hr6
    rw [List.drop_zero, f1.1, f1.2]
    have hd : decide (0 < na) = true := decide_eq_true (by omega)
    rw [hd]
    have G6 := Lib.hid (grown_in G5.out hg6 hwR)
    have hrd6 := HRD.out.grown hg6 (by omega) (fun g hg => by injection hg with hg; omega)
    have f2 := fst_some D2.out
    rw [List.append_nil, hnb] at f2
    have U2 := Lib.hid (rint_meth A (na + nb) c na R (la ++ lb) w6 HL.out (by omega) (by omega) hr6 hrd6)
    have hdr : (la ++ lb).drop na = lb := by rw [← hna]; exact List.drop_left ..
    unfold IPost at U2
    rw [hdr, f2.1, f2.2, Z.out, decide_eq_true (show 0 < nb by omega)] at U2
    clear hg6 hr6 hrd6 f1 f2 hd hdr U
    go_wp2_with fail
    refine U2.out.mono ?_
    rintro e w7 ⟨rfl, hg7, hr7⟩
    have G7 := Lib.hid (grown_in G6.out hg7 hwR)
    have V := Lib.hid (left_any A (na + nb) c (na + nb) R w7 (Nat.le_refl _) (by omega) hr7)
    rw [Nat.sub_self] at V
    clear hg7 hr7 U2
    go_wp2_with fail
    refine V.out.mono ?_
    rintro e w8 ⟨rfl, m, rfl⟩
    go_wp2_with fail
    go_ret
    exact ⟨rfl, below_of_grown (only_drewN G7.out m)⟩

set_option maxRecDepth 100000 in
theorem lifted (os : Os) (started : os.Started) (H : Type) (enc : TypeId × Value → H) :
    ReturnsInHanded {} Try.checked os 6 .any (Rows.wireNumbersSpec.pre6 enc Try.prog Try.f6 Rows.wireNumbersRow.domain false) (Rows.wireNumbersSpec.post enc Try.prog Try.f6 false true false false) := by
  refine returnsInHanded_of_change_sized (C := Try.checked) own started (by kernel_rfl) Try.func6
    (ChangeSpec.witness6 (enc := enc) (C := Try.checked) false ⟨#[], #[.int .u64 0, .int .i64 0], []⟩ 8 (by kernel_rfl) (by kernel_rfl) (by kernel_rfl) (by kernel_rfl)) ?_
  intro W base args ds gs before hval0 hW hcnd hsz0 _
  have hsz : (DataW.weightsEach Try.prog (Try.f6.params.toList ++ Rows.wireNumbersSpec.plain.varTypes Try.prog) (ds ++ gs)).all (· ≤ reachBytes) = true := hsz0
  clear hsz0
  have hval : ∀ (j : Nat) t v, Try.f6.params[j]? = some t → args[j]? = some v → Value.okWide Try.prog W .any base t v := hval0
  have hW' := hW
  obtain ⟨p, q, hA0, hV, rfl, hfz, hnd⟩ := hW
  have hA : DataW.TrodAll enc Try.prog W 0 (fun _ => true) true Try.f6.params.toList args.toList ds p := hA0
  rw [Try.params6] at hA hval hsz
  obtain ⟨v0, vs0, d0, ds0, p0, q0, hargs, rfl, rfl, h0, r0⟩ := trodAll_cons hA
  obtain ⟨v1, vs1, d1, ds1, p1, q1, rfl, rfl, rfl, h1, r1⟩ := trodAll_cons r0
  obtain ⟨rfl, rfl, rfl⟩ := trodAll_nil r1
  obtain rfl : args = #[v0, v1] := by cases args; simp_all
  obtain ⟨rfl, rfl⟩ := trodVars_none hV
  clear hA0 hval0
  obtain ⟨a0, rfl, rfl, rfl, w0⟩ := open_int Try.underlying27 (hval 0 27 v0 rfl rfl) h0
  obtain ⟨a1, rfl, rfl, rfl, w1⟩ := open_int Try.underlying2 (hval 1 2 v1 rfl rfl) h1
  simp only [List.append_nil] at hW'
  refine (walk W a0 w0 a1 w1).mono fun e W' ⟨he, bel⟩ => ?_
  subst he
  exact ⟨_, rfl, _, _, _, [], _, [], hW', trodAll_mk1 (shut_bool Try.underlying4 _), (trodAll_cons_mk (shut_int Try.underlying27 w0) (trodAll_cons_mk (shut_int Try.underlying2 w1) trodAll_mk0)), rfl, bel.frame _, fun h => by cases h⟩

theorem proved : Rows.WireNumbersSaid :=
  OpenClaim.holds_of_wide 6 Try.f6 rfl rfl rfl rfl rfl rfl rfl ⟨rfl, rfl, rfl, rfl, rfl⟩ rfl rfl rfl rfl rfl (by kernel_rfl) Try.func6 (by kernel_rfl)
    (of_decide_eq_true (by kernel_rfl)) (by unfold Func.isWrapper; rw [if_neg (of_decide_eq_false (by kernel_rfl))]; exact ⟨rfl, rfl⟩)
    (fun os started H enc _ => lifted os started H enc)
#print axioms proved
end Go.Proofs.Ytlccikpmnhjfoaa.wireNumbers

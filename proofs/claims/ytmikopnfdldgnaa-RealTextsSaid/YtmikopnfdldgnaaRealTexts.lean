/-
  RealTexts: for every input the Go function answers true, and the input reads as it did. No condition.
-/
import Derived.Test.YtmikopnfdldgnaaRows
import Derived.Test.YtmikopnfdldgnaaRow
import Derived.Test.YtmikopnfdldgnaaTexts
namespace Go.Proofs.Ytmikopnfdldgnaa.realTexts
open Go.ChangeShapes Go.WideShapes Go.ChangeAt Go.RowKit
open Go.ChangeMaps (open_string shut_string)
set_option linter.unusedVariables false
set_option linter.unusedSimpArgs false

theorem own : ownKnob Try.prog.godebug = none := by kernel_rfl
theorem laidOut : laidOutB Try.prog = true := by kernel_rfl

/-- the walk: the Go text answers true and writes nothing that was there -/
theorem walk (w : World) (a0 : Int) (w0 : (Lit.int .u64 a0).wf = true) (a1 : ByteArray) (w1 : a1.size ≤ 140737488351232) :
    Calls Try.prog 15 #[.int .u64 a0, .string a1] w fun e w' => e = .returned (.bool true) ∧ Below w.heap.size w w' := by
  obtain ⟨l0, u0⟩ := bd_u64 w0
  obtain ⟨c, hc, hc2⟩ : ∃ c : Nat, (canon a0).toNat = c ∧ c < 18446744073709551616 := ⟨_, rfl, by have := canon_hi a0 u0; omega⟩
  have hcc : canon a0 = c := by have := canon_lo a0 l0; omega
  have hcn : canon c = c := by rw [← hcc]; exact canon_canon a0
  have HT0 : ∀ v ok, Parsed (textOf c) v ok → ok = true ∧ v = c := fun v ok hp => parsed_text hc2 hcn hp
  have HT := Lib.hid HT0
  have HC := Lib.hid hcc
  have HN := Lib.hid hcn
  have T1 := Lib.hid (text_any a0 w l0 u0)
  rw [hc] at T1
  have T2 : ∀ W, Calls Try.prog 41 #[.int .u64 a0] W fun e w' => e = .returned (.string (textOf c)) ∧ W = w' := fun W => by have := rtext_any a0 W l0 u0; rw [hc] at this; exact this
  have T2 := Lib.hid T2
  clear hc hcc hcn HT0
  go_enter Try.func15, Try.ntmps15
  go_wp2_with fail
  refine T1.out.mono ?_
  rintro e V ⟨rfl, hb1⟩
  rw [show (⟨(txt c 16).toArray⟩ : ByteArray) = textOf c from rfl]
  have HB := Lib.hid hb1
  clear hb1 T1
  go_wp2_with fail
  refine (parse_any (textOf c) V (by rw [textOf_size]; decide)).mono ?_
  rintro e w2 ⟨v, ok, rfl, hp, rfl⟩
  obtain ⟨rfl, rfl⟩ := HT.out v ok hp
  clear hp
  go_wp2_with fail
  refine (T2.out V).mono ?_
  rintro e w2 ⟨rfl, rfl⟩
  go_wp2_with fail
  refine (rcanon_any a0 V l0 u0).mono ?_
  rintro e w2 ⟨rfl, rfl⟩
  rw [HC.out]
  clear T2
  go_wp2_with fail
  refine (parse_any a1 V (by omega)).mono ?_
  rintro e w2 ⟨v, ok, rfl, hp, rfl⟩
  cases ok
  · obtain ⟨rfl, hne⟩ := parsed_no hp
    clear hp
    by_cases hs : a1.size = 17
    · have hne2 := hne hs
      have hq := acc_lt (gat a1) 16
      obtain ⟨q, hq1, hq2⟩ : ∃ q : Nat, acc (gat a1) 16 = q ∧ q < 18446744073709551616 := ⟨_, rfl, hq⟩
      have H1 : ∀ W, Calls Try.prog 42 #[.string a1] W fun e w' => e = .returned (.int .u64 q) ∧ W = w' := fun W => by rw [← hq1]; exact hex_any a1 W hs
      have H2 : ∀ W, Calls Try.prog 41 #[.int .u64 q] W fun e w' => e = .returned (.string (textOf (canon q).toNat)) ∧ W = w' := fun W => rtext_any q W (by omega) (by omega)
      rw [hq1] at hne2
      have H1 := Lib.hid H1
      have H2 := Lib.hid H2
      have hb : (a1.toList == (textOf (canon q).toNat).toList) = false := by
        rw [beq_eq_false_iff_ne]; intro h; apply hne2; apply ByteArray.ext
        rw [ByteArray.toList_eq, ByteArray.toList_eq] at h; exact Array.toList_inj.1 h
      have hs2 : ((a1.size : Int) != 17) = false := by rw [hs]; rfl
      clear hne hne2 hq hq1 hs
      go_wp2_with fail
      refine (H1.out V).mono ?_
      rintro e w2 ⟨rfl, rfl⟩
      go_wp2_with fail
      refine (H2.out V).mono ?_
      rintro e w2 ⟨rfl, rfl⟩
      go_wp2_with fail
      go_ret
      exact ⟨rfl, HB.out⟩
    · have hs2 : ((a1.size : Int) != 17) = true := by rw [bne_iff_ne]; omega
      clear hne hs
      go_wp2_with fail
      go_ret
      exact ⟨rfl, HB.out⟩
  · obtain ⟨d, rfl, hd, hd2, rfl⟩ := parsed_yes hp
    clear hp
    have T3 : ∀ W, Calls Try.prog 39 #[.int .u64 d] W fun e w' => e = .returned (.string (textOf d)) ∧ Below W.heap.size W w' := fun W => by have := text_any d W (by omega) (by omega); rw [hd, Int.toNat_natCast] at this; exact this
    have T3 := Lib.hid T3
    have HD := Lib.hid hd
    clear hd
    go_wp2_with fail
    refine (T3.out V).mono ?_
    rintro e w2 ⟨rfl, hb2⟩
    have HB2 := Lib.hid hb2
    clear hb2
    go_wp2_with fail
    refine (rcanon_any d w2 (by omega) (by omega)).mono ?_
    rintro e w3 ⟨rfl, rfl⟩
    rw [HD.out]
    go_wp2_with fail
    go_ret
    exact ⟨rfl, HB.out.trans (HB2.out.mono HB.out.size)⟩

set_option maxRecDepth 100000 in
theorem lifted (os : Os) (started : os.Started) (H : Type) (enc : TypeId × Value → H) :
    ReturnsInHanded {} Try.checked os 15 .any (Rows.realTextsSpec.pre6 enc Try.prog Try.f15 Rows.realTextsRow.domain false) (Rows.realTextsSpec.post enc Try.prog Try.f15 false true false false) := by
  refine returnsInHanded_of_change_sized (C := Try.checked) own started (by kernel_rfl) Try.func15
    (ChangeSpec.witness6 (enc := enc) (C := Try.checked) false ⟨#[], #[.int .u64 0, .string ByteArray.empty], []⟩ 8 (by kernel_rfl) (by kernel_rfl) (by kernel_rfl) (by kernel_rfl)) ?_
  intro W base args ds gs before hval0 hW hcnd hsz0 _
  have hsz : (DataW.weightsEach Try.prog (Try.f15.params.toList ++ Rows.realTextsSpec.plain.varTypes Try.prog) (ds ++ gs)).all (· ≤ reachBytes) = true := hsz0
  clear hsz0
  have hval : ∀ (j : Nat) t v, Try.f15.params[j]? = some t → args[j]? = some v → Value.okWide Try.prog W .any base t v := hval0
  have hW' := hW
  obtain ⟨p, q, hA0, hV, rfl, hfz, hnd⟩ := hW
  have hA : DataW.TrodAll enc Try.prog W 0 (fun _ => true) true Try.f15.params.toList args.toList ds p := hA0
  rw [Try.params15] at hA hval hsz
  obtain ⟨v0, vs0, d0, ds0, p0, q0, hargs, rfl, rfl, h0, r0⟩ := trodAll_cons hA
  obtain ⟨v1, vs1, d1, ds1, p1, q1, rfl, rfl, rfl, h1, r1⟩ := trodAll_cons r0
  obtain ⟨rfl, rfl, rfl⟩ := trodAll_nil r1
  obtain rfl : args = #[v0, v1] := by cases args; simp_all
  obtain ⟨rfl, rfl⟩ := trodVars_none hV
  clear hA0 hval0
  obtain ⟨a0, rfl, rfl, rfl, w0⟩ := open_int Try.underlying22 (hval 0 22 v0 rfl rfl) h0
  obtain ⟨a1, rfl, rfl, rfl, x1⟩ := open_string Try.underlying9 (hval 1 9 v1 rfl rfl) h1
  have w1 : a1.size ≤ 140737488351232 := by
    have := sized_string hsz (j := 1) (t := 9) rfl rfl
    simpa [reachBytes] using this
  simp only [List.append_nil] at hW'
  refine (walk W a0 w0 a1 w1).mono fun e W' ⟨he, bel⟩ => ?_
  subst he
  exact ⟨_, rfl, _, _, _, [], _, [], hW', trodAll_mk1 (shut_bool Try.underlying4 _), (trodAll_cons_mk (shut_int Try.underlying22 w0) (trodAll_cons_mk (shut_string Try.underlying9 x1) trodAll_mk0)), rfl, bel.frame _, fun h => by cases h⟩

theorem proved : Rows.RealTextsSaid :=
  OpenClaim.holds_of_wide 15 Try.f15 rfl rfl rfl rfl rfl rfl rfl ⟨rfl, rfl, rfl, rfl, rfl⟩ rfl rfl rfl rfl rfl (by kernel_rfl) Try.func15 (by kernel_rfl)
    (of_decide_eq_true (by kernel_rfl)) (by unfold Func.isWrapper; rw [if_neg (of_decide_eq_false (by kernel_rfl))]; exact ⟨rfl, rfl⟩)
    (fun os started H enc _ => lifted os started H enc)
#print axioms proved
end Go.Proofs.Ytmikopnfdldgnaa.realTexts

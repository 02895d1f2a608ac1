/-
  PoolFull: for every input the Go function answers true, and the input reads as it did. No condition.
-/
import Derived.Test.YtcgapjicbgfpjaaRows
import Derived.Test.YtcgapjicbgfpjaaRow
import Derived.Test.YtcgapjicbgfpjaaSeen
import Derived.WalkSpells
namespace Go.Proofs.Ytcgapjicbgfpjaa.poolFull
open Go.ChangeShapes Go.WideShapes Go.ChangeAt Go.RowKit
open Go.ChangeMaps (open_string shut_string)
set_option linter.unusedVariables false
set_option linter.unusedSimpArgs false

theorem own : ownKnob Try.prog.godebug = none := by kernel_rfl
theorem laidOut : laidOutB Try.prog = true := by kernel_rfl

theorem bd_i {a : Int} (h : (Lit.int .i64 a).wf = true) : -9223372036854775808 ≤ a ∧ a ≤ 9223372036854775807 := by
  simpa [Lit.wf, IntKind.min, IntKind.max, IntKind.bits, IntKind.signed] using h
set_option maxRecDepth 100000 in
set_option maxHeartbeats 8000000 in
/-- the walk: the Go text answers true and writes nothing that was there -/
theorem walk (w : World) (a0 : Int) (w0 : (Lit.int .i64 a0).wf = true) (a1 : Option Addr) (n1 c1 : Nat) (z1 : List Int) (w1 : InRow .i64 8 w a1 n1 c1 z1) :
    Calls Try.prog 4 #[.int .i64 a0, .slice a1 n1 c1] w fun e w' => e = .returned (.bool true) ∧ Below w.heap.size w w' := by
  obtain ⟨s0, s1⟩ := bd_i w0
  obtain ⟨U, hU⟩ : ∃ U : Nat, IntKind.u64.wrap a0 = (U : Int) := ⟨(IntKind.u64.wrap a0).toNat, by rw [IntKind.wrap_u64]; omega⟩
  obtain ⟨K, hK⟩ : ∃ K : Nat, (U : Int) % 20 = (K : Int) := ⟨U % 20, by omega⟩
  have hK20 : K < 20 := by omega
  have hmm := @run_makeMap Try.prog
  have hlen := w1.len
  have hcap := w1.cap
  have HZ := Lib.hid w1.num
  have HR := Lib.hid w1.reads
  have HW := Lib.hid w1.wf
  have hrc := w1.reach
  clear w1 w0
  unfold maxLen at hcap
  have N := Lib.hid (new_any (fun g => g < w.heap.size) w (fun g h => h) (K : Int))
  rw [show max 0 (K : Int) = (K : Int) by omega] at N
  go_enter Try.func4, Try.ntmps4
  go_wp2_with fail
  refine N.out.mono ?_
  rintro e wa ⟨P, rfl, hW, hK1, hB1⟩
  have PW := Lib.hid hW
  have G1 := Lib.hid hB1
  clear hW hK1 hB1 N hU hK
  go_wp2_with fail
  refine (awake_any _).mono ?_
  rintro e wb ⟨rfl, hb⟩
  have PW2 := Lib.hid (PW.out.below hb)
  have G2 := Lib.hid (G1.out.trans (hb.mono G1.out.size))
  clear hb PW G1
  by_cases hbig : 60 < n1
  · go_wp2_with fail
    refine (awake_any _).mono ?_
    rintro e wc ⟨rfl, hb⟩
    have G3 := Lib.hid (G2.out.trans (hb.mono G2.out.size))
    clear hb
    go_wp2_with fail
    go_ret
    exact ⟨rfl, G3.out⟩
  · have hn60 : n1 ≤ 60 := by omega
    have hsz : w.heap.size ≤ wb.heap.size := G2.out.size
    have F0 : Hid (FullR w P wb.heap.size K 0 (wb.alloc (.map #[] 0))) := Lib.hid ⟨[], .map [], (PW2.out.turn (fun g hg h => h.elim id (fun e => by omega))).alloc _, World.ownsMap_made _ _ _ _, seen_nil, aw_u0, ⟨Nat.zero_le _, fun i c h => by simp [at?] at h⟩, Nat.zero_le _, hsz, by simp, G2.out.alloc hsz _⟩
    have hbd : decide ((60 : Int) < (n1 : Int)) = false := decide_eq_false (by omega)
    clear hbig
    go_wp2_with fail
    go_loopw [34] (fun i wr => ∃ r : Nat, r ≤ n1 ∧ i = .int .i64 r ∧ FullR w P wb.heap.size K r wr) (fun i _ => n1 - (intOf i).toNat)
    case atStart => exact ⟨0, Nat.zero_le _, rfl, F0.out⟩
    case round =>
      clear F0
      obtain ⟨r, hr, rfl, HF⟩ := hrel
      by_cases hlt : r < n1
      · obtain ⟨b, off, rfl, hbw, hc⟩ := HR.out.shape (by omega)
        obtain ⟨S, D2, hP, hM, hs, hu, hro, hcn, hB2, hl2, hbel⟩ := HF
        have c1 := (hbel.cell (p := ⟨b, off + r, none⟩) hbw).trans (hc r (.int .i64 (z1[r]'(by rw [HZ.out]; exact hlt))) (by rw [List.getElem?_map, List.getElem?_eq_getElem (by rw [HZ.out]; exact hlt)]; rfl))
        have hx := bd_i (HW.out _ (List.getElem_mem (by rw [HZ.out]; exact hlt)))
        obtain ⟨x, hxe⟩ : ∃ x, z1[r]'(by rw [HZ.out]; exact hlt) = x := ⟨_, rfl⟩
        rw [hxe] at c1 hx
        clear hxe hc
        obtain ⟨V, hV⟩ : ∃ V : Nat, IntKind.u64.wrap x = (V : Int) := ⟨(IntKind.u64.wrap x).toNat, by rw [IntKind.wrap_u64]; omega⟩
        obtain ⟨E, hE⟩ : ∃ E : Nat, (V : Int) % 30 = (E : Int) := ⟨V % 30, by omega⟩
        have hE30 : E < 30 := by omega
        have wfE : wfi (E : Int) := wf_small _ (by omega) (by omega)
        have AD := Lib.hid (add_any (fun g => g < w.heap.size ∨ g = wb.heap.size) wr P S K hP (fun g h => h.elim (fun h => Nat.lt_of_lt_of_le h hbel.size) (fun e => by rw [e]; exact hl2)) (by have := hro.1; omega) hu (hro.bnd (by omega)) (-1) E false (wf_small _ (by decide) (by decide)) wfE)
        have HM := Lib.hid hM
        have HS := Lib.hid hs
        have HUq := Lib.hid hu
        have HRo := Lib.hid hro
        have HBel := Lib.hid hbel
        have HCn := Lib.hid hcn
        clear hP hM hs hu hro hcn hbel
        cases hi : idx S (-1) (E : Int) true with
        | some i =>
          obtain ⟨c, hc, kk1, kk2, kk3⟩ := idx_some hi
          rw [addS_again (by omega) hi hc] at AD
          have HI := Lib.hid hi
          have HC := Lib.hid hc
          have HKK : Hid (c.prev = -1 ∧ c.event = E ∧ c.fresh = true) := Lib.hid ⟨kk1, kk2, kk3⟩
          clear hi hc kk1 kk2 kk3
          go_wp2_with fail
          refine AD.out.mono ?_
          rintro e w5 ⟨rfl, hP5, hk5⟩
          have hM5 := map_keptT HM.out hk5 (.inr rfl)
          have hv := HS.out.1 E wfE
          rw [HI.out] at hv
          have lk := look_int hM5 E wfE i hv.2
          rw [hv.1] at lk
          obtain ⟨w6, hrun, hM6, ht6⟩ := hM5.store law_int Try.underlying35 (by have h1 := HS.out.2; have h2 := HCn.out; unfold maxLen; omega) (Go.Maps.keyOf_int_mk Try.underlying3 wfE) (plainElem_int Try.underlying3 (WalkArith.wf_i64 (n := (i : Int)) (by have := at_lt HC.out; have := HRo.out.1; omega)))
          have HN : Hid (FullR w P wb.heap.size K (r + 1) w6) := Lib.hid ⟨_, _, hP5.mapped ht6 (.inr rfl), map_tight hM6, seen_again HS.out (hM5.tidy law_int) HUq.out (turn_set (at_lt HC.out) _) HC.out rfl rfl rfl (cnt_stay HC.out) HI.out wfE, uniq_stay HUq.out (turn_set (at_lt HC.out) _) HC.out rfl rfl rfl, roots_again HRo.out (by simp) (turn_set (at_lt HC.out) _) HC.out, by rw [cnt_stay HC.out]; exact HCn.out, hB2,
            Nat.lt_of_lt_of_le hl2 (Nat.le_trans hk5.2.2.2.1 ht6.grown.size), (HBel.out.trans ((hk5.below (B := w.heap.size) (fun g hg => .inl hg) HBel.out.size))).grown ht6.grown (Nat.le_trans HBel.out.size hk5.2.2.2.1) (fun g e => by injection e with e; omega)⟩
          clear hM5 hv hM6 ht6 hP5 hk5 AD HM HS HUq HRo HBel HCn HI HC HKK
          have HU := Lib.hid HN.out.used
          obtain ⟨ct, hct, hcu, hcl⟩ := HU.out
          have HCU := Lib.hid hcu
          clear HU hcu
          go_wp2_with fail
          refine HCU.out.mono ?_
          rintro e w9 ⟨rfl, rfl⟩
          go_wp2_with fail
          refine HCU.out.mono ?_
          rintro e w9 ⟨rfl, rfl⟩
          go_wp2_with fail
          go_roundw
          case rel => first | exact ⟨r + 1, by omega, by go_num, HN.out⟩ | ((repeat apply Exists.intro); exact ⟨⟨r + 1, by omega, by go_num, HN.out⟩, rfl⟩)
          case measure => simp [intOf]; omega
        | none =>
          by_cases hfull : (K : Int) ≤ (cnt S : Int)
          · rw [addS_full (by omega) hi hfull] at AD
            have HI := Lib.hid hi
            have hfl : decide ((cnt S : Int) < (K : Int)) = false := decide_eq_false (by omega)
            clear hi
            go_wp2_with fail
            refine AD.out.mono ?_
            rintro e w5 ⟨rfl, hP5, hk5⟩
            have hM5 := map_keptT HM.out hk5 (.inr rfl)
            have hv := HS.out.1 E wfE
            rw [HI.out] at hv
            have lk := look_int hM5 E wfE 0 hv.2
            rw [hv.1] at lk
            have hln := hM5.len Try.underlying35 3
            rw [HS.out.2] at hln
            have HN : Hid (FullR w P wb.heap.size K (r + 1) w5) := Lib.hid ⟨_, _, hP5, hM5, HS.out, HUq.out, roots_more HRo.out, HCn.out, hB2, Nat.lt_of_lt_of_le hl2 hk5.2.2.2.1, HBel.out.trans ((hk5.below (B := w.heap.size) (fun g hg => .inl hg) HBel.out.size))⟩
            clear hM5 hv hP5 hk5 AD HM HS HUq HRo HBel HCn HI
            have HU := Lib.hid HN.out.used
            obtain ⟨ct, hct, hcu, hcl⟩ := HU.out
            have ect : ct = cnt S := by rw [hln] at hcl; injection hcl with h1 _; injection h1 with _ h1; omega
            subst ect
            have HCU := Lib.hid hcu
            clear HU hcu hcl
            go_wp2_with fail
            refine HCU.out.mono ?_
            rintro e w9 ⟨rfl, rfl⟩
            go_wp2_with fail
            refine HCU.out.mono ?_
            rintro e w9 ⟨rfl, rfl⟩
            go_wp2_with fail
            go_roundw
            case rel => first | exact ⟨r + 1, by omega, by go_num, HN.out⟩ | ((repeat apply Exists.intro); exact ⟨⟨r + 1, by omega, by go_num, HN.out⟩, rfl⟩)
            case measure => simp [intOf]; omega
          · rw [addS_root (by omega) hi hfull] at AD
            have HI := Lib.hid hi
            have hfl : decide ((cnt S : Int) < (K : Int)) = true := decide_eq_true (by omega)
            obtain ⟨f1, f2, f3, f4, f5⟩ := put_facts S ⟨-1, E, true, 1, 0⟩
            obtain ⟨S1, hS1⟩ : ∃ S1, (putS S ⟨-1, (E : Int), true, 1, 0⟩).1 = S1 := ⟨_, rfl⟩
            obtain ⟨q, hq⟩ : ∃ q, (putS S ⟨-1, (E : Int), true, 1, 0⟩).2 = q := ⟨_, rfl⟩
            rw [hS1, hq] at AD f1
            rw [hq] at f2 f5
            rw [hS1] at f3 f4
            have FF := Lib.hid (And.intro f1 (And.intro f2 (And.intro f3 f4)))
            have hqn : ((q : Int) != -1) = true := by rw [bne_iff_ne]; omega
            have hq100 : q ≤ 1000 := by have := HRo.out.1; omega
            clear hi hS1 hq f1 f2 f3 f4 f5
            go_wp2_with fail
            refine AD.out.mono ?_
            rintro e w5 ⟨rfl, hP5, hk5⟩
            have hM5 := map_keptT HM.out hk5 (.inr rfl)
            have hv := HS.out.1 E wfE
            rw [HI.out] at hv
            have lk := look_int hM5 E wfE 0 hv.2
            rw [hv.1] at lk
            have hln := hM5.len Try.underlying35 3
            rw [HS.out.2] at hln
            obtain ⟨w6, hrun, hM6, ht6⟩ := hM5.store law_int Try.underlying35 (by have h1 := HS.out.2; have h2 := HCn.out; unfold maxLen; omega) (Go.Maps.keyOf_int_mk Try.underlying3 wfE) (plainElem_int Try.underlying3 (WalkArith.wf_i64 (n := (q : Int)) (by omega)))
            have HN : Hid (FullR w P wb.heap.size K (r + 1) w6) := Lib.hid ⟨_, _, hP5.mapped ht6 (.inr rfl), map_tight hM6, seen_new HS.out (hM5.tidy law_int) HUq.out FF.out.1 FF.out.2.1 rfl rfl rfl FF.out.2.2.1 HI.out wfE, uniq_come HUq.out FF.out.1 HI.out, roots_new HRo.out FF.out.2.2.2 FF.out.1, by rw [FF.out.2.2.1]; omega, hB2,
              Nat.lt_of_lt_of_le hl2 (Nat.le_trans hk5.2.2.2.1 ht6.grown.size), (HBel.out.trans ((hk5.below (B := w.heap.size) (fun g hg => .inl hg) HBel.out.size))).grown ht6.grown (Nat.le_trans HBel.out.size hk5.2.2.2.1) (fun g e => by injection e with e; omega)⟩
            clear hM5 hv hM6 ht6 hP5 hk5 AD HM HS HUq HRo HBel HCn HI FF
            have HU := Lib.hid HN.out.used
            obtain ⟨ct, hct, hcu, hcl⟩ := HU.out
            have HCU := Lib.hid hcu
            clear HU hcu
            go_wp2_with fail
            refine HCU.out.mono ?_
            rintro e w9 ⟨rfl, rfl⟩
            go_wp2_with fail
            refine HCU.out.mono ?_
            rintro e w9 ⟨rfl, rfl⟩
            go_wp2_with fail
            go_roundw
            case rel => first | exact ⟨r + 1, by omega, by go_num, HN.out⟩ | ((repeat apply Exists.intro); exact ⟨⟨r + 1, by omega, by go_num, HN.out⟩, rfl⟩)
            case measure => simp [intOf]; omega
      · obtain ⟨_, _, _, _, _, _, _, _, _, _, hbel⟩ := HF
        have HB := Lib.hid hbel
        have hge : n1 ≤ r := by omega
        clear hbel
        go_wp2_with fail
        go_ret
        exact ⟨rfl, HB.out⟩

set_option maxRecDepth 100000 in
theorem lifted (os : Os) (started : os.Started) (H : Type) (enc : TypeId × Value → H) :
    ReturnsInHanded {} Try.checked os 4 .any (Rows.poolFullSpec.pre6 enc Try.prog Try.f4 Rows.poolFullRow.domain false) (Rows.poolFullSpec.post enc Try.prog Try.f4 false true false false) := by
  refine returnsInHanded_of_change_sized (C := Try.checked) own started (by kernel_rfl) Try.func4
    (ChangeSpec.witness6 (enc := enc) (C := Try.checked) false ⟨#[], #[.int .i64 0, .slice none 0 0], []⟩ 8 (by kernel_rfl) (by kernel_rfl) (by kernel_rfl) (by kernel_rfl)) ?_
  intro W base args ds gs before hval0 hW hcnd hsz0 _
  have hsz : (DataW.weightsEach Try.prog (Try.f4.params.toList ++ Rows.poolFullSpec.plain.varTypes Try.prog) (ds ++ gs)).all (· ≤ reachBytes) = true := hsz0
  clear hsz0
  have hval : ∀ (j : Nat) t v, Try.f4.params[j]? = some t → args[j]? = some v → Value.okWide Try.prog W .any base t v := hval0
  have hW' := hW
  obtain ⟨p, q, hA0, hV, rfl, hfz, hnd⟩ := hW
  have hA : DataW.TrodAll enc Try.prog W 0 (fun _ => true) true Try.f4.params.toList args.toList ds p := hA0
  rw [Try.params4] at hA hval hsz
  obtain ⟨v0, vs0, d0, ds0, p0, q0, hargs, rfl, rfl, h0, r0⟩ := trodAll_cons hA
  obtain ⟨v1, vs1, d1, ds1, p1, q1, rfl, rfl, rfl, h1, r1⟩ := trodAll_cons r0
  obtain ⟨rfl, rfl, rfl⟩ := trodAll_nil r1
  obtain rfl : args = #[v0, v1] := by cases args; simp_all
  obtain ⟨rfl, rfl⟩ := trodVars_none hV
  clear hA0 hval0
  obtain ⟨a0, rfl, rfl, rfl, w0⟩ := open_int Try.underlying3 (hval 0 3 v0 rfl rfl) h0
  obtain ⟨a1, n1, c1, rfl⟩ := okWide_slice Try.underlying25 (hval 1 25 v1 rfl rfl)
  have k1 := h1
  have lt1 : ∀ x ∈ p1, x.block < W.heap.size := by obtain ⟨m, hm⟩ := k1; exact DataW.trod_lt m _ _ _ hm
  obtain ⟨z1, w1⟩ : ∃ zs, InRow .i64 8 W a1 n1 c1 zs := by
    obtain ⟨fuel, hf⟩ := h1
    rcases open_ints Try.underlying25 Try.underlying3 (by kernel_rfl) hf with ⟨hcs, _⟩ | ⟨x, l, c, zs, hcs, _, hl, hm, hz, hx, hcell, hwz⟩
    · simp [Value.cells] at hcs
      obtain ⟨rfl, rfl, rfl⟩ := hcs
      exact ⟨[], InRow.nil _ _ _⟩
    · simp [Value.cells] at hcs
      obtain ⟨rfl, rfl, rfl⟩ := hcs
      simp only [Prod.mk.injEq] at hx
      obtain ⟨rfl, rfl⟩ := hx
      simp only [if_true] at hz
      have hs := sized_slice hsz (j := 1) (t := 25) (e := 3) rfl rfl Try.underlying25
      rw [show Try.prog.bytesOf 3 = 8 by kernel_rfl] at hs
      simp only [lits, List.length_map, List.length_take, List.length_drop, reachBytes] at hs
      exact ⟨zs.take _, InRow.of_open hl hm hz (by omega) hcell hwz (fun y hy => lt1 y hy)⟩
  simp only [List.append_nil] at hW'
  refine (walk W a0 w0 a1 n1 c1 z1 w1).mono fun e W' ⟨he, bel⟩ => ?_
  subst he
  exact ⟨_, rfl, _, _, _, [], _, [], hW', trodAll_mk1 (shut_bool Try.underlying4 _), (trodAll_cons_mk (shut_int Try.underlying3 w0) (trodAll_cons_mk (Below.trod laidOut (by kernel_rfl) (of_decide_eq_true (by kernel_rfl)) k1 bel lt1) trodAll_mk0)), rfl, bel.frame _, fun h => by cases h⟩

theorem proved : Rows.PoolFullSaid :=
  OpenClaim.holds_of_wide 4 Try.f4 rfl rfl rfl rfl rfl rfl rfl ⟨rfl, rfl, rfl, rfl, rfl⟩ rfl rfl rfl rfl rfl (by kernel_rfl) Try.func4 (by kernel_rfl)
    (of_decide_eq_true (by kernel_rfl)) (by unfold Func.isWrapper; rw [if_neg (of_decide_eq_false (by kernel_rfl))]; exact ⟨rfl, rfl⟩)
    (fun os started H enc _ => lifted os started H enc)
#print axioms proved
end Go.Proofs.Ytcgapjicbgfpjaa.poolFull

/-
  LoadPaths: for every input the Go function answers true, and the input reads as it did. No condition.
-/
import Derived.Test.YtioocaicmiggoaaRows
import Derived.Test.YtioocaicmiggoaaRow
import Derived.Test.YtioocaicmiggoaaTabw
import Derived.Test.YtioocaicmiggoaaLaw
namespace Go.Proofs.Ytioocaicmiggoaa.loadPaths
open Go.ChangeShapes Go.WideShapes Go.ChangeAt Go.RowKit
open Go.ChangeMaps (open_string shut_string)
set_option linter.unusedVariables false
set_option linter.unusedSimpArgs false

theorem own : ownKnob Try.prog.godebug = none := by kernel_rfl
theorem laidOut : laidOutB Try.prog = true := by kernel_rfl

/-- a slice of ints that reads as a list -/
def RdV (w : World) (v : Value) (l : List Int) : Prop := ∃ A c, v = .slice A l.length c ∧ Reads w w.heap.size 1 A l.length (iv l)
theorem RdV.below {w w' : World} {v : Value} {l : List Int} (h : RdV w v l) (hb : Below w.heap.size w w') : RdV w' v l := by
  obtain ⟨A, c, h1, h2⟩ := h
  exact ⟨A, c, h1, reads_up h2 hb⟩
theorem RdV.of {w : World} {B : Nat} {v : Value} {l : List Int} (h : w.ownsRow B 3 1 v l.length (iv l)) : RdV w v l := by
  obtain ⟨A, c, rfl⟩ := own_slice h
  exact ⟨A, c, rfl, Reads.of_own h⟩
set_option maxRecDepth 100000
set_option maxHeartbeats 8000000 in
/-- the walk: the Go text answers true and writes nothing that was there -/
theorem walk (w : World) (A0 : Array Value) (T0 : TTab) (w0 : TabC w A0.toList T0) (s0 : Wide.rcTab T0) (a1 : Int) (w1 : (Lit.int .i64 a1).wf = true) :
    Calls Try.prog 4 #[.agg A0, .int .i64 a1] w fun e w' => e = .returned (.bool true) ∧ Below w.heap.size w w' := by
  obtain ⟨vk, vkk, vs, vc, rfl, hx⟩ := TabX.of w0
  have hn : T0.states.length ≤ 1500000000000 := by have := s0.2.2.1.1; omega
  obtain ⟨E, hE⟩ : ∃ E, pathT T0.states a1 = E := ⟨_, rfl⟩
  have hEl : E.length ≤ 1500000000000 := by rw [← hE]; exact Nat.le_trans (pathT_len _ _) hn
  obtain ⟨W1, hW1⟩ : ∃ W1, W1 = w.alloc (.cells #[.int .i64 T0.strategy, vk, vkk, .int .i64 T0.syms, .int .i64 T0.runs, .int .i64 T0.cells, vs, vc] 27) := ⟨_, rfl⟩
  have B0 : Below w.heap.size w W1 := by rw [hW1]; exact (Below.refl w.heap.size w).alloc (Nat.le_refl _) _
  have BT : Blk W1 w.heap.size 27 #[.int .i64 T0.strategy, vk, vkk, .int .i64 T0.syms, .int .i64 T0.runs, .int .i64 T0.cells, vs, vc] := by rw [hW1]; exact Blk.new w _ _
  have X1 := hx.below B0
  have CF := Lib.hid (few_any T0 vk vkk vs vc W1 X1)
  have CA := Lib.hid (fun W => awake_any W)
  have CP : Hid (∀ W, TabX W T0 vk vkk vs vc → Calls Try.prog 13 #[.agg #[.int .i64 T0.strategy, vk, vkk, .int .i64 T0.syms, .int .i64 T0.runs, .int .i64 T0.cells, vs, vc], .int .i64 a1] W (PathP W E)) := Lib.hid (fun W h => by rw [← hE]; exact path_any T0 vk vkk vs vc hn a1 W h)
  have CQ : Hid (∀ W, TabX W T0 vk vkk vs vc → Calls Try.prog 14 #[.agg #[.int .i64 T0.strategy, vk, vkk, .int .i64 T0.syms, .int .i64 T0.runs, .int .i64 T0.cells, vs, vc], .int .i64 a1] W (PathQ W E)) := Lib.hid (fun W h => by rw [← hE]; exact rpath_any T0 vk vkk vs vc hn a1 W h)
  have HX := Lib.hid (fun W (hb : Below W1.heap.size W1 W) => X1.below hb)
  have HB0 := Lib.hid B0
  have HBT := Lib.hid BT
  obtain ⟨k0, k1, k2, k3, k4, k5, k6, k7⟩ := blk8 BT
  clear hx hE B0 BT X1 w0 s0
  go_enter Try.func4, Try.ntmps4
  go_upto_region 1 with fail
  rw [← hW1]
  clear hW1
  go_wp2_with fail
  refine CF.out.mono ?_
  rintro e W2 ⟨fb, rfl, hb2⟩
  have HB2 := Lib.hid hb2
  clear k0 k1 k2 k3 k4 k5 k6 k7 CF hb2
  cases fb with
  | false =>
    go_wp2_with fail
    refine (CA.out _).mono ?_
    rintro e W3 ⟨rfl, hb3⟩
    have HB3 := Lib.hid (HB0.out.trans ((HB2.out.trans (hb3.mono HB2.out.size)).mono HB0.out.size))
    clear hb3
    go_wp2_with fail
    go_ret
    exact ⟨rfl, HB3.out⟩
  | true =>
    obtain ⟨W2', hW2'⟩ : ∃ W2', W2' = W2 := ⟨_, rfl⟩
    have BT2 := Lib.hid (HBT.out.below HB2.out HBT.out.lt)
    go_upto_region 3 with fail
    go_cut [5, 6] from 12 to 17 (fun a b wx => RdV wx a E ∧ RdV wx b E ∧ Below W2.heap.size W2 wx)
    case first =>
      obtain ⟨k0, k1, k2, k3, k4, k5, k6, k7⟩ := blk8 BT2.out
      have HBD : Hid (Below W2.heap.size W2 W2.drew) := Lib.hid ⟨rfl, rfl, rfl, Nat.le_refl _, fun _ _ => rfl⟩
      have XD := Lib.hid (HX.out W2.drew (HB2.out.trans (HBD.out.mono HB2.out.size)))
      go_region_with (first
        | (go_at_call 13; (with_reducible refine (CP.out W2.drew XD.out).mono ?_); rintro e wa ⟨va, rfl, hoa, hba⟩; have hb9 : Below W2.heap.size W2 wa := ⟨hba.os, hba.tape, hba.output, hba.size, hba.block⟩; have HB9 := Lib.hid hb9; have PA := Lib.hid (RdV.of hoa); have XA := Lib.hid (HX.out wa (HB2.out.trans (HB9.out.mono HB2.out.size))); clear hb9 hoa hba; obtain ⟨k0, k1, k2, k3, k4, k5, k6, k7⟩ := blk8 (BT2.out.below HB9.out BT2.out.lt))
        | (go_at_call 14; (with_reducible refine (CQ.out wa XA.out).mono ?_); rintro e wb ⟨Ab, cb, rfl, hob, hbb⟩; have HB10 := Lib.hid (HB9.out.trans (hbb.mono HB9.out.size)); have HBB := Lib.hid hbb; have PB : Hid (RdV wb (.slice Ab E.length cb) E) := Lib.hid ⟨_, _, rfl, hob⟩; clear hob hbb))
      all_goals go_wp2_with fail
      all_goals (go_meet; exact ⟨PA.out.below HBB.out, PB.out, HB10.out⟩)
    case rest =>
      obtain ⟨ha, hb, hbx⟩ := hcut
      obtain ⟨Aa, ca, rfl, hra⟩ := ha
      obtain ⟨Ab, cb, rfl, hrb⟩ := hb
      have HRA := Lib.hid hra
      have HRB := Lib.hid hrb
      have HBX := Lib.hid (HB0.out.trans ((HB2.out.trans (hbx.mono HB2.out.size)).mono HB0.out.size))
      have e1 : ((E.length : Int) != (E.length : Int)) = false := by simp
      have nE : (0 : Int) ≤ (E.length : Int) := by omega
      clear hra hrb hbx
      go_wp2_with fail
      go_loopw [25] (fun s wr => ∃ r : Nat, r ≤ E.length ∧ s = .int .i64 r ∧ Hid (∃ q, wr = wc.drewN q)) (fun s _ => E.length - (intOf s).toNat)
      case atStart => exact ⟨0, Nat.zero_le _, rfl, Lib.hid ⟨0, rfl⟩⟩
      case round =>
        obtain ⟨r, hr, rfl, hq⟩ := hrel
        obtain ⟨q, rfl⟩ := hq.out
        clear hq
        by_cases hlt : r < E.length
        · obtain ⟨b5, off5, rfl, _, hc5⟩ := HRA.out.shape (by omega)
          obtain ⟨b6, off6, rfl, _, hc6⟩ := HRB.out.shape (by omega)
          obtain ⟨y, hy⟩ : ∃ y, E[r]? = some y := ⟨_, List.getElem?_eq_getElem hlt⟩
          have q0 := hc5 r (.int .i64 y) (by unfold iv; rw [List.getElem?_map, hy]; rfl)
          have q1 := hc6 r (.int .i64 y) (by unfold iv; rw [List.getElem?_map, hy]; rfl)
          have b1 : (0 : Int) ≤ (r : Int) := by omega
          have b2 : (r : Int) < (E.length : Int) := by omega
          clear hc5 hc6 hy
          go_upto_region 9 with fail
          refine wp_region_quiet_lit (by kernel_rfl) (by kernel_rfl) ?_
          repeat (any_goals (first | go_big_quiet_step (fail) | quiet_step (fail) | (refine wpQuiet_step (fun K hK => ?_); go_simp; split <;> (refine hK _ ?_; clear hK K))))
          all_goals (refine wpQuiet_nil ?_; intro _ hw'; obtain ⟨nq, hw''⟩ := hw'; subst hw'')
          go_wp2_with fail
          go_roundw
          case rel => first | exact ⟨r + 1, by omega, by go_num, Lib.hid ⟨q + nq, by first | rfl | rw [World.drewN_drewN]⟩⟩ | ((repeat apply Exists.intro); exact ⟨⟨r + 1, by omega, by go_num, Lib.hid ⟨q + nq, by first | rfl | rw [World.drewN_drewN]⟩⟩, rfl⟩)
          case measure => simp [intOf]; omega
        · have hge : (E.length : Int) ≤ (r : Int) := by omega
          go_wp2_with fail
          refine (CA.out _).mono ?_
          rintro e W3 ⟨rfl, hb3⟩
          have HB3 := Lib.hid (HBX.out.trans ((below_drewN (Below.refl _ _) q).trans (hb3.mono (Nat.le_refl _)) |>.mono HBX.out.size))
          clear hb3
          go_wp2_with fail
          go_ret
          exact ⟨rfl, HB3.out⟩

set_option maxRecDepth 100000 in
theorem lifted (os : Os) (started : os.Started) (H : Type) (enc : TypeId × Value → H) :
    ReturnsInHanded {} Try.checked os 4 .any (Rows.loadPathsSpec.pre6 enc Try.prog Try.f4 Rows.loadPathsRow.domain false) (Rows.loadPathsSpec.post enc Try.prog Try.f4 false true false false) := by
  refine returnsInHanded_of_change_sized (C := Try.checked) own started (by kernel_rfl) Try.func4
    (ChangeSpec.witness6 (enc := enc) (C := Try.checked) false ⟨#[], #[.agg #[.int .i64 0, .slice none 0 0, .slice none 0 0, .int .i64 0, .int .i64 0, .int .i64 0, .slice none 0 0, .slice none 0 0], .int .i64 0], []⟩ 8 (by kernel_rfl) (by kernel_rfl) (by kernel_rfl) (by kernel_rfl)) ?_
  intro W base args ds gs before hval0 hW hcnd hsz0 _
  have hsz : (DataW.weightsEach Try.prog (Try.f4.params.toList ++ Rows.loadPathsSpec.plain.varTypes Try.prog) (ds ++ gs)).all (· ≤ reachBytes) = true := hsz0
  clear hsz0
  have hval : ∀ (j : Nat) t v, Try.f4.params[j]? = some t → args[j]? = some v → Value.okWide Try.prog W .any base t v := hval0
  have hW' := hW
  obtain ⟨p, q, hA0, hV, rfl, hfz, hnd⟩ := hW
  have hA : DataW.TrodAll enc Try.prog W 0 (fun _ => true) true Try.f4.params.toList args.toList ds p := hA0
  rw [Try.params4] at hA hval hsz
  obtain ⟨v0, vs0, d0, ds0, p0, q0, hargs, rfl, rfl, h0, r0⟩ := trodAll_cons hA
  obtain ⟨v1, vs1, d1, ds1, p1, q1, rfl, rfl, rfl, h1, r1⟩ := trodAll_cons r0
  obtain ⟨rfl, rfl, rfl⟩ := trodAll_nil r1
  obtain rfl : args = #[v0, v1] := by cases args; simp_all
  obtain ⟨rfl, rfl⟩ := trodVars_none hV
  clear hA0 hval0
  obtain ⟨A0, rfl, hz0⟩ := okWide_struct Try.underlying27 (hval 0 27 v0 rfl rfl)
  have k0 := h0
  have lt0 : ∀ x ∈ p0, x.block < W.heap.size := by obtain ⟨m, hm⟩ := k0; exact DataW.trod_lt m _ _ _ hm
  obtain ⟨T0, w0, s0⟩ : ∃ T, TabC W A0.toList T ∧ Wide.rcTab T := by
    obtain ⟨fuel, hf⟩ := h0
    obtain ⟨_, T, hT, hs⟩ := Wide.openw_tab fuel A0.toList (d0, p0) (by simpa [Value.cells] using hf) lt0 (fun n hn => of_decide_eq_true (List.all_eq_true.1 hsz _ (DataW.weights_mem_each (j := 0) (t := 27) rfl rfl n hn)))
    exact ⟨T, hT, hs⟩
  obtain ⟨a1, rfl, rfl, rfl, w1⟩ := open_int Try.underlying3 (hval 1 3 v1 rfl rfl) h1
  simp only [List.append_nil] at hW'
  refine (walk W A0 T0 w0 s0 a1 w1).mono fun e W' ⟨he, bel⟩ => ?_
  subst he
  exact ⟨_, rfl, _, _, _, [], _, [], hW', trodAll_mk1 (shut_bool Try.underlying4 _), (trodAll_cons_mk (Below.trod laidOut (by kernel_rfl) (of_decide_eq_true (by kernel_rfl)) k0 bel lt0) (trodAll_cons_mk (shut_int Try.underlying3 w1) trodAll_mk0)), rfl, bel.frame _, fun h => by cases h⟩

theorem proved : Rows.LoadPathsSaid :=
  OpenClaim.holds_of_wide 4 Try.f4 rfl rfl rfl rfl rfl rfl rfl ⟨rfl, rfl, rfl, rfl, rfl⟩ rfl rfl rfl rfl rfl (by kernel_rfl) Try.func4 (by kernel_rfl)
    (of_decide_eq_true (by kernel_rfl)) (by unfold Func.isWrapper; rw [if_neg (of_decide_eq_false (by kernel_rfl))]; exact ⟨rfl, rfl⟩)
    (fun os started H enc _ => lifted os started H enc)
#print axioms proved
end Go.Proofs.Ytioocaicmiggoaa.loadPaths

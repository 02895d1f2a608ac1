/-
  LoadOnce: for every input the Go function answers true, and the input reads as it did. No condition.
-/
import Derived.Test.YtioocaicmiggoaaRows
import Derived.Test.YtioocaicmiggoaaRow
import Derived.Test.YtioocaicmiggoaaTabw
import Derived.Test.YtioocaicmiggoaaLon
import Derived.Deep.RegionHeld3
import Derived.Deep.DeepCutAuto
import Derived.Test.YtioocaicmiggoaaTill
namespace Go.Proofs.Ytioocaicmiggoaa.loadOnce
open Go.ChangeShapes Go.WideShapes Go.ChangeAt Go.RowKit
open Go.ChangeMaps (open_string shut_string)
set_option linter.unusedVariables false
set_option linter.unusedSimpArgs false

theorem own : ownKnob Try.prog.godebug = none := by kernel_rfl
theorem laidOut : laidOutB Try.prog = true := by kernel_rfl

open Go.Deep
def OnceS (H : Nat) (a0 a1 a2 a3 a4 a5 a6 a7 : Value) (W : World) : Prop := W.cell? ⟨H, 0, none⟩ = some a0 ∧ W.cell? ⟨H, 1, none⟩ = some a1 ∧ W.cell? ⟨H, 2, none⟩ = some a2 ∧ W.cell? ⟨H, 3, none⟩ = some a3 ∧ W.cell? ⟨H, 4, none⟩ = some a4 ∧ W.cell? ⟨H, 5, none⟩ = some a5 ∧ W.cell? ⟨H, 6, none⟩ = some a6 ∧ W.cell? ⟨H, 7, none⟩ = some a7
theorem onceS_of {W1 W : World} {H : Nat} {t : TypeId} {a0 a1 a2 a3 a4 a5 a6 a7 : Value} (h : Blk W1 H t #[a0, a1, a2, a3, a4, a5, a6, a7]) (hb : Below W1.heap.size W1 W) : OnceS H a0 a1 a2 a3 a4 a5 a6 a7 W := blk8 (h.below hb h.lt)
def OnceR (W1 : World) (T : TTab) (g7 g8 : Nat) (wx : World) : Prop := ∃ (la ha lb hb : Nat) (pk pkk ps pc qk qkk qs qc : Value), TwinZ wx la ha T pk pkk ps pc ∧ TwinZ wx lb hb T qk qkk qs qc ∧
  Blk wx g7 27 #[.int .i64 T.strategy, pk, pkk, .int .i64 T.syms, .int .i64 T.runs, .int .i64 T.cells, ps, pc] ∧ Blk wx g8 27 #[.int .i64 T.strategy, qk, qkk, .int .i64 T.syms, .int .i64 T.runs, .int .i64 T.cells, qs, qc] ∧
  (ha ≤ lb ∧ W1.heap.size ≤ la ∧ W1.heap.size ≤ g7 ∧ W1.heap.size ≤ g8 ∧ g7 ≠ g8 ∧ (g7 < la ∨ ha ≤ g7) ∧ (g8 < la ∨ ha ≤ g8) ∧ (g7 < lb ∨ hb ≤ g7) ∧ (g8 < lb ∨ hb ≤ g8)) ∧ Below W1.heap.size W1 wx
set_option maxRecDepth 100000
set_option maxHeartbeats 8000000 in
/-- the walk: the Go text answers true and writes nothing that was there -/
theorem walk (w : World) (A0 : Array Value) (T0 : TTab) (w0 : TabC w A0.toList T0) (s0 : Wide.rcTab T0) (a1 : Int) (w1 : (Lit.int .i64 a1).wf = true) :
    Calls Try.prog 5 #[.agg A0, .int .i64 a1] w fun e w' => e = .returned (.bool true) ∧ Below w.heap.size w w' := by
  obtain ⟨vk, vkk, vs, vc, rfl, hx⟩ := TabX.of w0
  obtain ⟨As, cs, rfl, hs1, hs2⟩ := hx.states.slice
  obtain ⟨Ac, cc, rfl, hc1, hc2⟩ := hx.codes.slice
  unfold maxLen at hs2 hc2
  obtain ⟨W1, hW1⟩ : ∃ W1, W1 = w.alloc (.cells #[.int .i64 T0.strategy, vk, vkk, .int .i64 T0.syms, .int .i64 T0.runs, .int .i64 T0.cells, .slice As T0.states.length cs, .slice Ac T0.codes.length cc] 27) := ⟨_, rfl⟩
  have B0 : Below w.heap.size w W1 := by rw [hW1]; exact (Below.refl w.heap.size w).alloc (Nat.le_refl _) _
  have BT : Blk W1 w.heap.size 27 #[.int .i64 T0.strategy, vk, vkk, .int .i64 T0.syms, .int .i64 T0.runs, .int .i64 T0.cells, .slice As T0.states.length cs, .slice Ac T0.codes.length cc] := by rw [hW1]; exact Blk.new w _ _
  have X1 := hx.below B0
  have hsz1 : W1.heap.size = w.heap.size + 1 := by rw [hW1]; simp
  have CF := Lib.hid (few_any T0 _ _ _ _ W1 X1)
  have CA := Lib.hid (fun W => awake_any W)
  have CV := Lib.hid (fun (T : TTab) vk vkk vs vc W h => verify_any T vk vkk vs vc W h)
  have CT := Lib.hid (fun W (h : TabX W T0 vk vkk (.slice As T0.states.length cs) (.slice Ac T0.codes.length cc)) => twin_any T0 _ _ _ _ W h s0)
  have CS := Lib.hid (fun W => small_any true W)
  have HX := Lib.hid (fun W (hb : Below W1.heap.size W1 W) => X1.below hb)
  have HB0 := Lib.hid B0
  have HBT := Lib.hid BT
  have HS1 := Lib.hid hsz1
  obtain ⟨k0, k1, k2, k3, k4, k5, k6, k7⟩ := blk8 BT
  have s0c := s0.2.2.2
  clear hx B0 BT X1 w0 s0 hsz1
  go_enter Try.func5, Try.ntmps5
  go_upto_region 1 with fail
  rw [← hW1]
  clear hW1
  go_wp2_with fail
  refine CF.out.mono ?_
  rintro e W2 ⟨fb, rfl, hb2⟩
  have HB2 := Lib.hid hb2
  clear k0 k1 k2 k3 k4 k5 k6 k7 CF hb2
  cases fb with
  | false =>
    go_wp2_with fail
    refine (CA.out _).mono ?_
    rintro e W3 ⟨rfl, hb3⟩
    have HB3 := Lib.hid (HB0.out.trans ((HB2.out.trans (hb3.mono HB2.out.size)).mono HB0.out.size))
    clear hb3
    go_wp2_with fail
    go_ret
    exact ⟨rfl, HB3.out⟩
  | true =>
    obtain ⟨k0, k1, k2, k3, k4, k5, k6, k7⟩ := blk8 (HBT.out.below HB2.out HBT.out.lt)
    go_wp2_with fail
    refine (CV.out T0 _ _ _ _ _ (HX.out W2 HB2.out)).mono ?_
    rintro e W3 ⟨rfl, hb3⟩
    have HB3 := Lib.hid (HB2.out.trans (hb3.mono HB2.out.size))
    obtain ⟨vt, hvt⟩ : ∃ vt, verT T0 = vt := ⟨_, rfl⟩
    have HVT := Lib.hid hvt
    rw [hvt]
    clear hvt hb3 k0 k1 k2 k3 k4 k5 k6 k7
    cases vt with
    | false =>
      go_wp2_with fail
      refine (CA.out _).mono ?_
      rintro e W4 ⟨rfl, hb4⟩
      have HB4 := Lib.hid (HB0.out.trans ((HB3.out.trans (hb4.mono HB3.out.size)).mono HB0.out.size))
      clear hb4
      go_wp2_with fail
      go_ret
      exact ⟨rfl, HB4.out⟩
    | true =>
      obtain ⟨k0, k1, k2, k3, k4, k5, k6, k7⟩ := blk8 (HBT.out.below HB3.out HBT.out.lt)
      go_wp2_with fail
      refine (CT.out _ (HX.out W3 HB3.out)).mono ?_
      rintro e W4 ⟨uk, ukk, us, uc, rfl, hm, hb4⟩
      clear k0 k1 k2 k3 k4 k5 k6 k7
      obtain ⟨cr, hor, hfr⟩ := hm.rows
      obtain ⟨co, hoc, hfc⟩ := hm.codes
      obtain ⟨Bk, mk, rfl, _, _⟩ := hm.tab.keys.slice
      obtain ⟨Bkk, mkk, rfl, _, _⟩ := hm.tab.kinds.slice
      obtain ⟨Bs, ms, rfl, _, _⟩ := hm.tab.states.slice
      obtain ⟨Bc, mc, rfl, hmc1, hmc2⟩ := hm.tab.codes.slice
      have HM := Lib.hid hm
      have HB34 := Lib.hid hb4
      have hcl0 := s0c.1
      have HB4 := Lib.hid (HB3.out.trans (hb4.mono HB3.out.size))
      have HOC := Lib.hid hoc
      have HFC := Lib.hid hfc
      clear hm hb4 hor hfr hoc hfc
      go_upto_region 4 with fail
      obtain ⟨W5, hW5⟩ : ∃ W5, W5 = W4.alloc (.cells #[.int .i64 T0.strategy, .slice Bk T0.keys.length mk, .slice Bkk T0.kinds.length mkk, .int .i64 T0.syms, .int .i64 T0.runs, .int .i64 T0.cells, .slice Bs T0.states.length ms, .slice Bc T0.codes.length mc] 27) := ⟨_, rfl⟩
      rw [← hW5]
      have BM : Hid (Blk W5 W4.heap.size 27 #[.int .i64 T0.strategy, .slice Bk T0.keys.length mk, .slice Bkk T0.kinds.length mkk, .int .i64 T0.syms, .int .i64 T0.runs, .int .i64 T0.cells, .slice Bs T0.states.length ms, .slice Bc T0.codes.length mc]) := Lib.hid (by rw [hW5]; exact Blk.new W4 _ _)
      have HB45 : Hid (Below W4.heap.size W4 W5) := Lib.hid (by rw [hW5]; exact (Below.refl _ _).alloc (Nat.le_refl _) _)
      have HB45s : Hid (W5.heap.size = W4.heap.size + 1) := Lib.hid (by rw [hW5]; simp)
      have c7 := BM.out.cell 7
      clear hW5
      obtain ⟨i5, hi5, hz5, hsz5, hb5⟩ := info_parts info_code
      have HB34s : Hid (W3.heap.size ≤ W4.heap.size) := Lib.hid HB34.out.size
      have O5 := Lib.hid (show ∀ A1 c1 A2 c2, ∀ u ∈ [Value.int .i64 1, .int .i64 0, .slice A1 1 c1, .slice none 0 0, .slice A2 2 c2], u.oneCell' = true from (by intro A1 c1 A2 c2 u hu; simp at hu; rcases hu with rfl | rfl | rfl | rfl | rfl <;> rfl))
      have HCL := Lib.hid hcl0
      have ONCE : Hid (∀ w6 w8 o u, Below W5.heap.size W5 w6 → (w6.alloc o).grownBy w8 (Value.slice Bc T0.codes.length mc).ownBlock → Below W1.heap.size W1 (w8.setCell ⟨W4.heap.size, 7, none⟩ u)) := Lib.hid (fun w6 w8 o u h6 hg => by
        have e1 := HB45s.out
        have e2 := HB34s.out
        have e3 := HB3.out.size
        have h1 : Below W1.heap.size W1 (w6.alloc o) := (HB4.out.trans ((HB45.out.trans (h6.mono (by omega))).mono (by have := HB4.out.size; omega))).alloc (by have := h6.size; omega) o
        exact (h1.grown hg h1.size (fun g hg => by have := (own_lt HOC.out hg).2; omega)).setCell (by simp only; omega) _)
      clear hcl0
      go_cut [20] from 20 to 28 (fun a wx => ∃ v', Blk wx W4.heap.size 27 #[.int .i64 T0.strategy, .slice Bk T0.keys.length mk, .slice Bkk T0.kinds.length mkk, .int .i64 T0.syms, .int .i64 T0.runs, .int .i64 T0.cells, .slice Bs T0.states.length ms, v'] ∧ TabX wx { T0 with codes := T0.codes ++ [smallC] } (.slice Bk T0.keys.length mk) (.slice Bkk T0.kinds.length mkk) (.slice Bs T0.states.length ms) v' ∧ Below W1.heap.size W1 wx)
      case first =>
        have HFL : ∀ (a b c d e f g : Value) (w : World) (A : Option Addr) (n k : Nat), (Instr.field 27 (.agg #[a, b, c, d, e, f, g, .slice A n k]) 7).run Try.prog w = .ok (.slice A n k) w := fun a b c d e f g w A n k => by kernel_rfl
        refine wp_region_any (by kernel_rfl) ?_
        change wpAny _ _ _ _ _ _ _ (World.drew _)
        refine wpAny_take (i := 0) (v := ?_) rfl (by kernel_rfl) (by kernel_rfl) (by kernel_rfl) (fun _ _ _ h => h) (Or.inl ⟨by kernel_rfl, ?_⟩) ?_
        rotate_left
        · (intro w'; go_simp; try with_reducible rfl)
        refine wpAny_ready (rs := [1, 2]) (by kernel_rfl) (by simp) ?_
        refine AllReady.cons rfl (fun K hK => ?_) ?_
        · skip
          go_simp
          (refine hK _ _ ?_; clear hK K)
          refine wpAny_ready (rs := [2]) (by kernel_rfl) (by simp) ?_
          refine AllReady.cons rfl (fun K hK => ?_) AllReady.nil
          go_simp
          go_wp2_with (go_at_call 15; refine (CS.out _).mono ?_; rintro e w6 ⟨sk, skk, ss, sc, rfl, hxs, hbs, gs, vi, vl, rfl, hgs, hBS, hQS⟩; obtain ⟨A1, c1, rfl⟩ : ∃ A c, vi = .slice A 1 c := (by obtain ⟨_, _, _, he, ⟨A, c, hv, _⟩, _⟩ := hQS; simp at he; exact ⟨A, c, he.2.2.1.trans hv⟩); obtain ⟨A2, c2, rfl⟩ : ∃ A c, vl = .slice A 2 c := (by obtain ⟨_, _, _, he, _, _, ⟨A, c, hv, _⟩, _⟩ := hQS; simp at he; exact ⟨A, c, he.2.2.2.2.trans hv⟩); have HB6 : Hid (Below W5.heap.size W5 w6) := Lib.hid ⟨hbs.os, hbs.tape, hbs.output, hbs.size, hbs.block⟩; have HBS := Lib.hid hBS; have HQS := Lib.hid hQS; have HGS : Hid (W5.heap.size ≤ gs) := Lib.hid hgs; clear hxs hbs hBS hQS hgs; have c7 := (BM.out.below HB6.out BM.out.lt).cell 7; obtain ⟨s0, s1, s2, s3, s4⟩ := blk5 HBS.out)
          refine wpAny_take (i := 3) (v := ?_) rfl (by kernel_rfl) (by kernel_rfl) (by kernel_rfl) (fun _ _ _ h => h) (Or.inl ⟨by kernel_rfl, ?_⟩) ?_
          rotate_left
          · (intro w'; go_simp; try with_reducible rfl)
          refine wpAny_take (i := 4) (v := ?_) rfl (by kernel_rfl) (by kernel_rfl) (by kernel_rfl) (fun _ _ _ h => h) (Or.inl ⟨by kernel_rfl, ?_⟩) ?_
          rotate_left
          · (intro w'; go_simp; try with_reducible rfl)
          refine wpAny_ready (rs := [5]) (by kernel_rfl) (by simp) ?_
          refine AllReady.cons rfl (fun K hK => ?_) AllReady.nil
          go_simp
          (refine hK _ _ ?_; clear hK K)
          refine wpAny_ready (rs := [6]) (by kernel_rfl) (by simp) ?_
          refine AllReady.cons rfl (fun K hK => ?_) AllReady.nil
          go_simp
          have c7 := ((BM.out.below HB6.out BM.out.lt).alloc (.cells #[.int .i64 1, .int .i64 0, .slice A1 1 c1, .slice none 0 0, .slice A2 2 c2] 40)).cell 7
          (refine hK _ _ ?_; clear hK K)
          refine wpAny_ready (rs := [7]) (by kernel_rfl) (by simp) ?_
          refine AllReady.cons rfl (fun K hK => ?_) AllReady.nil
          refine step_append_any _ (by rfl) (.tmp 21) (.tmp 26) 25 (by rfl) W3.heap.size 40 i5 _ 5 88 Try.underlying25 hi5 hz5 hsz5 hb5 rfl (by omega) (.slice Bc T0.codes.length mc) T0.codes.length co.flatten (by rfl) (own_below HOC.out (HB45.out.trans (((Below.refl _ w6).alloc (Nat.le_refl _) (.cells #[.int .i64 1, .int .i64 0, .slice A1 1 c1, .slice none 0 0, .slice A2 2 c2] 40)).mono (by have h1 := HB45s.out; have h2 := HB6.out.size; omega) |> fun h => (HB6.out.mono (by have h1 := HB45s.out; omega)).trans h))) (w6.heap.size + 1) (some ⟨w6.heap.size, 0, none⟩) 1 1 [.int .i64 1, .int .i64 0, .slice A1 1 c1, .slice none 0 0, .slice A2 2 c2] (by rfl) (reads_blk _ _ _ rfl) (O5.out _ _ _ _) (by have := HCL.out; unfold maxLen; omega) (by have := HCL.out; omega) (by have h1 := HB6.out.size; have h2 := HB45s.out; have h3 := HB34s.out; simp; omega) ?_
          intro u' w8 ho hg hat
          have U := Lib.hid (And.intro ho (And.intro hg hat))
          have BM8 := Lib.hid (((BM.out.below HB6.out BM.out.lt).alloc (.cells #[.int .i64 1, .int .i64 0, .slice A1 1 c1, .slice none 0 0, .slice A2 2 c2] 40)).grown hg (fun e => by have := (own_lt HOC.out e.symm).1; have h1 := HB45s.out; omega))
          have f9 := BM8.out.cell 7
          have z9 := BM8.out.frozen 7
          obtain ⟨A8, c8, rfl⟩ := own_slice ho
          clear ho hg hat c7 s0 s1 s2 s3 s4
          (refine hK _ _ ?_; clear hK K)
          refine wpAny_take (i := 8) (v := ?_) rfl (by kernel_rfl) (by kernel_rfl) (by kernel_rfl) (fun _ _ _ h => h) (Or.inl ⟨by kernel_rfl, ?_⟩) ?_
          rotate_left
          · (intro w'; go_simp; try with_reducible rfl)
          refine wpAny_ready (rs := [9]) (by kernel_rfl) (by simp) ?_
          refine AllReady.cons rfl (fun K hK => ?_) AllReady.nil
          go_simp
          (refine hK _ _ ?_; clear hK K)
          refine wpAny_done (by kernel_rfl) ?_ _
          clear f9 z9
          go_wp2_with fail
          go_meet
          exact ⟨_, BM8.out.set_ 7 _, more_done HM.out HOC.out HFC.out HB45.out HB45s.out HB6.out HQS.out rfl U.out.1 U.out.2.1 U.out.2.2 _, ONCE.out _ _ _ _ HB6.out U.out.2.1⟩
        refine AllReady.cons rfl (fun K hK => ?_) AllReady.nil
        go_simp
        go_wp2_with (go_at_call 15; refine (CS.out _).mono ?_; rintro e w6 ⟨sk, skk, ss, sc, rfl, hxs, hbs, gs, vi, vl, rfl, hgs, hBS, hQS⟩; obtain ⟨A1, c1, rfl⟩ : ∃ A c, vi = .slice A 1 c := (by obtain ⟨_, _, _, he, ⟨A, c, hv, _⟩, _⟩ := hQS; simp at he; exact ⟨A, c, he.2.2.1.trans hv⟩); obtain ⟨A2, c2, rfl⟩ : ∃ A c, vl = .slice A 2 c := (by obtain ⟨_, _, _, he, _, _, ⟨A, c, hv, _⟩, _⟩ := hQS; simp at he; exact ⟨A, c, he.2.2.2.2.trans hv⟩); have HB6 : Hid (Below W5.heap.size W5 w6) := Lib.hid ⟨hbs.os, hbs.tape, hbs.output, hbs.size, hbs.block⟩; have HBS := Lib.hid hBS; have HQS := Lib.hid hQS; have HGS : Hid (W5.heap.size ≤ gs) := Lib.hid hgs; clear hxs hbs hBS hQS hgs; have c7 := (BM.out.below HB6.out BM.out.lt).cell 7; obtain ⟨s0, s1, s2, s3, s4⟩ := blk5 HBS.out)
        refine wpAny_take (i := 3) (v := ?_) rfl (by kernel_rfl) (by kernel_rfl) (by kernel_rfl) (fun _ _ _ h => h) (Or.inl ⟨by kernel_rfl, ?_⟩) ?_
        rotate_left
        · (intro w'; go_simp; try with_reducible rfl)
        refine wpAny_take (i := 4) (v := ?_) rfl (by kernel_rfl) (by kernel_rfl) (by kernel_rfl) (fun _ _ _ h => h) (Or.inl ⟨by kernel_rfl, ?_⟩) ?_
        rotate_left
        · (intro w'; go_simp; try with_reducible rfl)
        refine wpAny_ready (rs := [1, 5]) (by kernel_rfl) (by simp) ?_
        refine AllReady.cons rfl (fun K hK => ?_) ?_
        · skip
          go_simp
          (refine hK _ _ ?_; clear hK K)
          refine wpAny_ready (rs := [5]) (by kernel_rfl) (by simp) ?_
          refine AllReady.cons rfl (fun K hK => ?_) AllReady.nil
          go_simp
          (refine hK _ _ ?_; clear hK K)
          refine wpAny_ready (rs := [6]) (by kernel_rfl) (by simp) ?_
          refine AllReady.cons rfl (fun K hK => ?_) AllReady.nil
          go_simp
          have c7 := ((BM.out.below HB6.out BM.out.lt).alloc (.cells #[.int .i64 1, .int .i64 0, .slice A1 1 c1, .slice none 0 0, .slice A2 2 c2] 40)).cell 7
          (refine hK _ _ ?_; clear hK K)
          refine wpAny_ready (rs := [7]) (by kernel_rfl) (by simp) ?_
          refine AllReady.cons rfl (fun K hK => ?_) AllReady.nil
          refine step_append_any _ (by rfl) (.tmp 21) (.tmp 26) 25 (by rfl) W3.heap.size 40 i5 _ 5 88 Try.underlying25 hi5 hz5 hsz5 hb5 rfl (by omega) (.slice Bc T0.codes.length mc) T0.codes.length co.flatten (by rfl) (own_below HOC.out (HB45.out.trans (((Below.refl _ w6).alloc (Nat.le_refl _) (.cells #[.int .i64 1, .int .i64 0, .slice A1 1 c1, .slice none 0 0, .slice A2 2 c2] 40)).mono (by have h1 := HB45s.out; have h2 := HB6.out.size; omega) |> fun h => (HB6.out.mono (by have h1 := HB45s.out; omega)).trans h))) (w6.heap.size + 1) (some ⟨w6.heap.size, 0, none⟩) 1 1 [.int .i64 1, .int .i64 0, .slice A1 1 c1, .slice none 0 0, .slice A2 2 c2] (by rfl) (reads_blk _ _ _ rfl) (O5.out _ _ _ _) (by have := HCL.out; unfold maxLen; omega) (by have := HCL.out; omega) (by have h1 := HB6.out.size; have h2 := HB45s.out; have h3 := HB34s.out; simp; omega) ?_
          intro u' w8 ho hg hat
          have U := Lib.hid (And.intro ho (And.intro hg hat))
          have BM8 := Lib.hid (((BM.out.below HB6.out BM.out.lt).alloc (.cells #[.int .i64 1, .int .i64 0, .slice A1 1 c1, .slice none 0 0, .slice A2 2 c2] 40)).grown hg (fun e => by have := (own_lt HOC.out e.symm).1; have h1 := HB45s.out; omega))
          have f9 := BM8.out.cell 7
          have z9 := BM8.out.frozen 7
          obtain ⟨A8, c8, rfl⟩ := own_slice ho
          clear ho hg hat c7 s0 s1 s2 s3 s4
          (refine hK _ _ ?_; clear hK K)
          refine wpAny_take (i := 8) (v := ?_) rfl (by kernel_rfl) (by kernel_rfl) (by kernel_rfl) (fun _ _ _ h => h) (Or.inl ⟨by kernel_rfl, ?_⟩) ?_
          rotate_left
          · (intro w'; go_simp; try with_reducible rfl)
          refine wpAny_ready (rs := [9]) (by kernel_rfl) (by simp) ?_
          refine AllReady.cons rfl (fun K hK => ?_) AllReady.nil
          go_simp
          (refine hK _ _ ?_; clear hK K)
          refine wpAny_done (by kernel_rfl) ?_ _
          clear f9 z9
          go_wp2_with fail
          go_meet
          exact ⟨_, BM8.out.set_ 7 _, more_done HM.out HOC.out HFC.out HB45.out HB45s.out HB6.out HQS.out rfl U.out.1 U.out.2.1 U.out.2.2 _, ONCE.out _ _ _ _ HB6.out U.out.2.1⟩
        refine AllReady.cons rfl (fun K hK => ?_) AllReady.nil
        go_simp
        (refine hK _ _ ?_; clear hK K)
        refine wpAny_ready (rs := [1, 6]) (by kernel_rfl) (by simp) ?_
        refine AllReady.cons rfl (fun K hK => ?_) ?_
        · skip
          go_simp
          (refine hK _ _ ?_; clear hK K)
          refine wpAny_ready (rs := [6]) (by kernel_rfl) (by simp) ?_
          refine AllReady.cons rfl (fun K hK => ?_) AllReady.nil
          go_simp
          have c7 := ((BM.out.below HB6.out BM.out.lt).alloc (.cells #[.int .i64 1, .int .i64 0, .slice A1 1 c1, .slice none 0 0, .slice A2 2 c2] 40)).cell 7
          (refine hK _ _ ?_; clear hK K)
          refine wpAny_ready (rs := [7]) (by kernel_rfl) (by simp) ?_
          refine AllReady.cons rfl (fun K hK => ?_) AllReady.nil
          refine step_append_any _ (by rfl) (.tmp 21) (.tmp 26) 25 (by rfl) W3.heap.size 40 i5 _ 5 88 Try.underlying25 hi5 hz5 hsz5 hb5 rfl (by omega) (.slice Bc T0.codes.length mc) T0.codes.length co.flatten (by rfl) (own_below HOC.out (HB45.out.trans (((Below.refl _ w6).alloc (Nat.le_refl _) (.cells #[.int .i64 1, .int .i64 0, .slice A1 1 c1, .slice none 0 0, .slice A2 2 c2] 40)).mono (by have h1 := HB45s.out; have h2 := HB6.out.size; omega) |> fun h => (HB6.out.mono (by have h1 := HB45s.out; omega)).trans h))) (w6.heap.size + 1) (some ⟨w6.heap.size, 0, none⟩) 1 1 [.int .i64 1, .int .i64 0, .slice A1 1 c1, .slice none 0 0, .slice A2 2 c2] (by rfl) (reads_blk _ _ _ rfl) (O5.out _ _ _ _) (by have := HCL.out; unfold maxLen; omega) (by have := HCL.out; omega) (by have h1 := HB6.out.size; have h2 := HB45s.out; have h3 := HB34s.out; simp; omega) ?_
          intro u' w8 ho hg hat
          have U := Lib.hid (And.intro ho (And.intro hg hat))
          have BM8 := Lib.hid (((BM.out.below HB6.out BM.out.lt).alloc (.cells #[.int .i64 1, .int .i64 0, .slice A1 1 c1, .slice none 0 0, .slice A2 2 c2] 40)).grown hg (fun e => by have := (own_lt HOC.out e.symm).1; have h1 := HB45s.out; omega))
          have f9 := BM8.out.cell 7
          have z9 := BM8.out.frozen 7
          obtain ⟨A8, c8, rfl⟩ := own_slice ho
          clear ho hg hat c7 s0 s1 s2 s3 s4
          (refine hK _ _ ?_; clear hK K)
          refine wpAny_take (i := 8) (v := ?_) rfl (by kernel_rfl) (by kernel_rfl) (by kernel_rfl) (fun _ _ _ h => h) (Or.inl ⟨by kernel_rfl, ?_⟩) ?_
          rotate_left
          · (intro w'; go_simp; try with_reducible rfl)
          refine wpAny_ready (rs := [9]) (by kernel_rfl) (by simp) ?_
          refine AllReady.cons rfl (fun K hK => ?_) AllReady.nil
          go_simp
          (refine hK _ _ ?_; clear hK K)
          refine wpAny_done (by kernel_rfl) ?_ _
          clear f9 z9
          go_wp2_with fail
          go_meet
          exact ⟨_, BM8.out.set_ 7 _, more_done HM.out HOC.out HFC.out HB45.out HB45s.out HB6.out HQS.out rfl U.out.1 U.out.2.1 U.out.2.2 _, ONCE.out _ _ _ _ HB6.out U.out.2.1⟩
        refine AllReady.cons rfl (fun K hK => ?_) AllReady.nil
        go_simp
        have c7 := ((BM.out.below HB6.out BM.out.lt).alloc (.cells #[.int .i64 1, .int .i64 0, .slice A1 1 c1, .slice none 0 0, .slice A2 2 c2] 40)).cell 7
        (refine hK _ _ ?_; clear hK K)
        refine wpAny_ready (rs := [1]) (by kernel_rfl) (by simp) ?_
        refine AllReady.cons rfl (fun K hK => ?_) AllReady.nil
        go_simp
        (refine hK _ _ ?_; clear hK K)
        refine wpAny_ready (rs := [7]) (by kernel_rfl) (by simp) ?_
        refine AllReady.cons rfl (fun K hK => ?_) AllReady.nil
        refine step_append_any _ (by rfl) (.tmp 21) (.tmp 26) 25 (by rfl) W3.heap.size 40 i5 _ 5 88 Try.underlying25 hi5 hz5 hsz5 hb5 rfl (by omega) (.slice Bc T0.codes.length mc) T0.codes.length co.flatten (by rfl) (own_below HOC.out (HB45.out.trans (((Below.refl _ w6).alloc (Nat.le_refl _) (.cells #[.int .i64 1, .int .i64 0, .slice A1 1 c1, .slice none 0 0, .slice A2 2 c2] 40)).mono (by have h1 := HB45s.out; have h2 := HB6.out.size; omega) |> fun h => (HB6.out.mono (by have h1 := HB45s.out; omega)).trans h))) (w6.heap.size + 1) (some ⟨w6.heap.size, 0, none⟩) 1 1 [.int .i64 1, .int .i64 0, .slice A1 1 c1, .slice none 0 0, .slice A2 2 c2] (by rfl) (reads_blk _ _ _ rfl) (O5.out _ _ _ _) (by have := HCL.out; unfold maxLen; omega) (by have := HCL.out; omega) (by have h1 := HB6.out.size; have h2 := HB45s.out; have h3 := HB34s.out; simp; omega) ?_
        intro u' w8 ho hg hat
        have U := Lib.hid (And.intro ho (And.intro hg hat))
        have BM8 := Lib.hid (((BM.out.below HB6.out BM.out.lt).alloc (.cells #[.int .i64 1, .int .i64 0, .slice A1 1 c1, .slice none 0 0, .slice A2 2 c2] 40)).grown hg (fun e => by have := (own_lt HOC.out e.symm).1; have h1 := HB45s.out; omega))
        have f9 := BM8.out.cell 7
        have z9 := BM8.out.frozen 7
        obtain ⟨A8, c8, rfl⟩ := own_slice ho
        clear ho hg hat c7 s0 s1 s2 s3 s4
        (refine hK _ _ ?_; clear hK K)
        refine wpAny_take (i := 8) (v := ?_) rfl (by kernel_rfl) (by kernel_rfl) (by kernel_rfl) (fun _ _ _ h => h) (Or.inl ⟨by kernel_rfl, ?_⟩) ?_
        rotate_left
        · (intro w'; go_simp; try with_reducible rfl)
        refine wpAny_ready (rs := [9]) (by kernel_rfl) (by simp) ?_
        refine AllReady.cons rfl (fun K hK => ?_) AllReady.nil
        go_simp
        (refine hK _ _ ?_; clear hK K)
        refine wpAny_done (by kernel_rfl) ?_ _
        clear f9 z9
        go_wp2_with fail
        go_meet
        exact ⟨_, BM8.out.set_ 7 _, more_done HM.out HOC.out HFC.out HB45.out HB45s.out HB6.out HQS.out rfl U.out.1 U.out.2.1 U.out.2.2 _, ONCE.out _ _ _ _ HB6.out U.out.2.1⟩
      case rest =>
        obtain ⟨v', hbm, hxm, hbw⟩ := hcut
        obtain ⟨Av, cv, rfl, _, _⟩ := hxm.codes.slice
        have hll : ({ T0 with codes := T0.codes ++ [smallC] } : TTab).codes.length = T0.codes.length + 1 := by simp
        rw [hll] at hbm hxm
        clear hll
        have HBM := Lib.hid hbm
        have HXM := Lib.hid hxm
        have HBW := Lib.hid hbw
        clear hbm hxm hbw c7 ONCE
        go_wp2_with fail
        refine (CA.out _).mono ?_
        rintro e w6 ⟨rfl, hb6⟩
        have HB6 := Lib.hid hb6
        obtain ⟨k0, k1, k2, k3, k4, k5, k6, k7⟩ := blk8 (HBM.out.below hb6 HBM.out.lt)
        clear hb6
        go_wp2_with fail
        refine (CV.out { T0 with codes := T0.codes ++ [smallC] } _ _ _ _ _ (HXM.out.below HB6.out)).mono ?_
        rintro e w7 ⟨rfl, hb7⟩
        have HB7 := Lib.hid (HBW.out.trans ((HB6.out.trans (hb7.mono HB6.out.size)).mono HBW.out.size))
        rw [ver_more HVT.out]
        clear hb7 k0 k1 k2 k3 k4 k5 k6 k7 HBM HXM HB6
        obtain ⟨k0, k1, k2, k3, k4, k5, k6, k7⟩ := blk8 (HBT.out.below HB7.out HBT.out.lt)
        by_cases hz : T0.states.length = 0
        · have e1 : ((T0.states.length : Int) == 0) = true := by simp [hz]
          clear hz
          go_wp2_with fail
          go_ret
          exact ⟨rfl, HB0.out.trans (HB7.out.mono HB0.out.size)⟩
        · have e1 : ((T0.states.length : Int) == 0) = false := by simp [hz]
          have n1 : (1 : Int) ≤ (T0.states.length : Int) := by omega
          clear hz
          go_upto_region 10 with fail
          obtain ⟨k, hk, hkn⟩ := pick_any a1 T0.states.length n1 (by omega)
          rw [hk]
          clear hk k0 k1 k2 k3 k4 k5 k6 k7
          have HB77 : Hid (W1.heap.size ≤ w7.heap.size) := Lib.hid HB7.out.size
          have HBw7drew : Hid (Below W1.heap.size W1 w7.drew) := Lib.hid ⟨HB7.out.os, HB7.out.tape, HB7.out.output, HB7.out.size, HB7.out.block⟩
          go_cut [7, 8] from 48 to 51 (fun a b wx => ∃ g7 g8, a = .pointer (some ⟨g7, 0, none⟩) ∧ b = .pointer (some ⟨g8, 0, none⟩) ∧ OnceR W1 T0 g7 g8 wx)
          case first =>
            refine region_till (OnceS w.heap.size (.int .i64 T0.strategy) vk vkk (.int .i64 T0.syms) (.int .i64 T0.runs) (.int .i64 T0.cells) (.slice As T0.states.length cs) (.slice Ac T0.codes.length cc)) (fun j => !([0, 1, 2, 3, 4, 5, 6] : List Nat).contains j) (by kernel_rfl) ?_
            obtain ⟨y0, hy0⟩ : ∃ y0, y0 = World.drew w7 := ⟨_, rfl⟩
            rw [← hy0]
            have HBy0 : Hid (Below W1.heap.size W1 y0) := Lib.hid (by rw [hy0]; exact HBw7drew.out)
            have LY0 : Hid (w7.heap.size = y0.heap.size) := Lib.hid (by rw [hy0]; rfl)
            have HS := Lib.hid (onceS_of HBT.out HBy0.out)
            clear hy0
            refine till_take (i := 0) (v := ?_) rfl (by kernel_rfl) (by kernel_rfl) (by kernel_rfl) (by kernel_rfl) (fun _ _ _ h => h) (Or.inl ⟨by kernel_rfl, ?_⟩) HS.out ?_
            rotate_left
            · (intro w' hSw; obtain ⟨s0, s1, s2, s3, s4, s5, s6, s7⟩ := hSw; go_simp; try with_reducible rfl)
            refine till_take (i := 2) (v := ?_) rfl (by kernel_rfl) (by kernel_rfl) (by kernel_rfl) (by kernel_rfl) (fun _ _ _ h => h) (Or.inl ⟨by kernel_rfl, ?_⟩) HS.out ?_
            rotate_left
            · (intro w' hSw; obtain ⟨s0, s1, s2, s3, s4, s5, s6, s7⟩ := hSw; go_simp; try with_reducible rfl)
            refine till_ready (rs := [1, 4, 5]) (by kernel_rfl) (by simp) ?_
            refine TillAll.cons rfl (fun K hK => ?_) ?_
            · skip
              go_simp
              go_wp2_with (go_at_call 9; refine (CT.out y0 (HX.out y0 HBy0.out)).mono ?_; rintro e y1 ⟨ak, akk, ats, ac, rfl, hm, hbz⟩; obtain ⟨Pk, Pkn, rfl, _, _⟩ := hm.tab.keys.slice; obtain ⟨Pkk, Pkkn, rfl, _, _⟩ := hm.tab.kinds.slice; obtain ⟨Ps, Psn, rfl, _, _⟩ := hm.tab.states.slice; obtain ⟨Pc, Pcn, rfl, _, _⟩ := hm.tab.codes.slice)
              have ZP := Lib.hid (TwinZ.new hm)
              have LP : Hid (y0.heap.size ≤ y1.heap.size) := Lib.hid hbz.size
              have HBy1 := Lib.hid (HBy0.out.trans (hbz.mono HBy0.out.size))
              clear hm hbz
              (refine hK.out _ _ (fun _ => onceS_of HBT.out HBy1.out) ?_; clear hK K)
              refine till_ready (rs := [3, 4, 5]) (by kernel_rfl) (by simp) ?_
              refine TillAll.cons rfl (fun K hK => ?_) ?_
              · skip
                go_simp
                go_wp2_with (go_at_call 9; refine (CT.out y1 (HX.out y1 HBy1.out)).mono ?_; rintro e y13 ⟨ak, akk, ats, ac, rfl, hm, hbz⟩; obtain ⟨Qk, Qkn, rfl, _, _⟩ := hm.tab.keys.slice; obtain ⟨Qkk, Qkkn, rfl, _, _⟩ := hm.tab.kinds.slice; obtain ⟨Qs, Qsn, rfl, _, _⟩ := hm.tab.states.slice; obtain ⟨Qc, Qcn, rfl, _, _⟩ := hm.tab.codes.slice)
                have ZQ := Lib.hid (TwinZ.new hm)
                have LQ : Hid (y1.heap.size ≤ y13.heap.size) := Lib.hid hbz.size
                have HBy13 := Lib.hid (HBy1.out.trans (hbz.mono HBy1.out.size))
                have ZP := Lib.hid (ZP.out.below hbz (by obtain ⟨_, _, _, h3, _⟩ := ZP.out; exact h3))
                clear hm hbz
                (refine hK.out _ _ (fun _ => onceS_of HBT.out HBy13.out) ?_; clear hK K)
                refine till_ready (rs := [4, 5]) (by kernel_rfl) (by simp) ?_
                refine TillAll.cons rfl (fun K hK => ?_) ?_
                · skip
                  go_simp
                  obtain ⟨y134, hnew⟩ : ∃ y134, y134 = y13.alloc (.cells #[.int .i64 0, .slice none 0 0, .slice none 0 0, .int .i64 0, .int .i64 0, .int .i64 0, .slice none 0 0, .slice none 0 0] 27) := ⟨_, rfl⟩
                  try rw [← hnew]
                  have hbz : Below y13.heap.size y13 y134 := by rw [hnew]; exact (Below.refl _ _).alloc (Nat.le_refl _) _
                  have HBy134 := Lib.hid (HBy13.out.trans (hbz.mono HBy13.out.size))
                  have ZP := Lib.hid (ZP.out.below hbz (by obtain ⟨_, _, _, h3, _⟩ := ZP.out; exact h3))
                  have ZQ := Lib.hid (ZQ.out.below hbz (by obtain ⟨_, _, _, h3, _⟩ := ZQ.out; exact h3))
                  have B4 : Hid (Blk y134 y13.heap.size 27 #[.int .i64 0, .slice none 0 0, .slice none 0 0, .int .i64 0, .int .i64 0, .int .i64 0, .slice none 0 0, .slice none 0 0]) := Lib.hid (by rw [hnew]; exact Blk.new y13 _ _)
                  have L4 : Hid (y134.heap.size = y13.heap.size + 1) := Lib.hid (by rw [hnew]; simp)
                  clear hnew hbz
                  (refine hK.out _ _ (fun _ => onceS_of HBT.out HBy134.out) ?_; clear hK K)
                  refine till_ready (rs := [5]) (by kernel_rfl) (by simp) ?_
                  refine TillAll.cons rfl (fun K hK => ?_) TillAll.nil
                  go_simp
                  obtain ⟨y1345, hnew⟩ : ∃ y1345, y1345 = y134.alloc (.cells #[.int .i64 0, .slice none 0 0, .slice none 0 0, .int .i64 0, .int .i64 0, .int .i64 0, .slice none 0 0, .slice none 0 0] 27) := ⟨_, rfl⟩
                  try rw [← hnew]
                  have hbz : Below y134.heap.size y134 y1345 := by rw [hnew]; exact (Below.refl _ _).alloc (Nat.le_refl _) _
                  have HBy1345 := Lib.hid (HBy134.out.trans (hbz.mono HBy134.out.size))
                  have ZP := Lib.hid (ZP.out.below hbz (by obtain ⟨_, _, _, h3, _⟩ := ZP.out; exact h3))
                  have ZQ := Lib.hid (ZQ.out.below hbz (by obtain ⟨_, _, _, h3, _⟩ := ZQ.out; exact h3))
                  have B4 := Lib.hid (B4.out.below hbz B4.out.lt)
                  have B5 : Hid (Blk y1345 y134.heap.size 27 #[.int .i64 0, .slice none 0 0, .slice none 0 0, .int .i64 0, .int .i64 0, .int .i64 0, .slice none 0 0, .slice none 0 0]) := Lib.hid (by rw [hnew]; exact Blk.new y134 _ _)
                  have L5 : Hid (y1345.heap.size = y134.heap.size + 1) := Lib.hid (by rw [hnew]; simp)
                  clear hnew hbz
                  (refine hK.out _ _ (fun _ => onceS_of HBT.out HBy1345.out) ?_; clear hK K)
                  refine till_ready (rs := [6]) (by kernel_rfl) (by simp) ?_
                  refine TillAll.cons rfl (fun K hK => ?_) TillAll.nil
                  obtain ⟨z0, z1, z2, z3, z4, z5, z6, z7⟩ := blk8 B4.out
                  have f0 := B4.out.frozen 0
                  have f1 := B4.out.frozen 1
                  have f2 := B4.out.frozen 2
                  have f3 := B4.out.frozen 3
                  have f4 := B4.out.frozen 4
                  have f5 := B4.out.frozen 5
                  have f6 := B4.out.frozen 6
                  have f7 := B4.out.frozen 7
                  go_simp
                  clear z0 z1 z2 z3 z4 z5 z6 z7 f0 f1 f2 f3 f4 f5 f6 f7
                  obtain ⟨y13456, hnew⟩ : ∃ y13456, y13456 = set8 y1345 y13.heap.size (.int .i64 T0.strategy) (.slice Pk T0.keys.length Pkn) (.slice Pkk T0.kinds.length Pkkn) (.int .i64 T0.syms) (.int .i64 T0.runs) (.int .i64 T0.cells) (.slice Ps T0.states.length Psn) (.slice Pc T0.codes.length Pcn) := ⟨_, rfl⟩
                  have hnew2 := hnew
                  unfold set8 at hnew2
                  try rw [← hnew2]
                  clear hnew2
                  have N4 := Lib.hid (show Blk y13456 y13.heap.size 27 #[.int .i64 T0.strategy, .slice Pk T0.keys.length Pkn, .slice Pkk T0.kinds.length Pkkn, .int .i64 T0.syms, .int .i64 T0.runs, .int .i64 T0.cells, .slice Ps T0.states.length Psn, .slice Pc T0.codes.length Pcn] by rw [hnew]; exact B4.out.set8 _ _ _ _ _ _ _ _)
                  have B5 := Lib.hid (show Blk y13456 _ 27 _ by rw [hnew]; exact B5.out.far8 (by have := LP.out; have := LQ.out; have := L4.out; have := L5.out; omega) _ _ _ _ _ _ _ _)
                  have ZP := Lib.hid (show TwinZ y13456 _ _ T0 _ _ _ _ by rw [hnew]; exact ZP.out.set8 (by have := LP.out; have := LQ.out; have := L4.out; have := L5.out; omega) _ _ _ _ _ _ _ _)
                  have ZQ := Lib.hid (show TwinZ y13456 _ _ T0 _ _ _ _ by rw [hnew]; exact ZQ.out.set8 (by have := LP.out; have := LQ.out; have := L4.out; have := L5.out; omega) _ _ _ _ _ _ _ _)
                  have HBy13456 := Lib.hid (show Below W1.heap.size W1 y13456 by rw [hnew]; exact below_set8 HBy1345.out (by have := LY0.out; have := HB77.out; have := LP.out; have := LQ.out; have := L4.out; have := L5.out; omega) _ _ _ _ _ _ _ _)
                  have L6 : Hid (y13456.heap.size = y1345.heap.size) := Lib.hid (by rw [hnew]; exact size_set8 _ _ _ _ _ _ _ _ _ _)
                  clear hnew
                  (refine hK.out _ _ (fun _ => onceS_of HBT.out HBy13456.out) ?_; clear hK K)
                  refine till_ready (rs := [7]) (by kernel_rfl) (by simp) ?_
                  refine TillAll.cons rfl (fun K hK => ?_) TillAll.nil
                  obtain ⟨z0, z1, z2, z3, z4, z5, z6, z7⟩ := blk8 B5.out
                  have f0 := B5.out.frozen 0
                  have f1 := B5.out.frozen 1
                  have f2 := B5.out.frozen 2
                  have f3 := B5.out.frozen 3
                  have f4 := B5.out.frozen 4
                  have f5 := B5.out.frozen 5
                  have f6 := B5.out.frozen 6
                  have f7 := B5.out.frozen 7
                  go_simp
                  clear z0 z1 z2 z3 z4 z5 z6 z7 f0 f1 f2 f3 f4 f5 f6 f7
                  obtain ⟨y134567, hnew⟩ : ∃ y134567, y134567 = set8 y13456 y134.heap.size (.int .i64 T0.strategy) (.slice Qk T0.keys.length Qkn) (.slice Qkk T0.kinds.length Qkkn) (.int .i64 T0.syms) (.int .i64 T0.runs) (.int .i64 T0.cells) (.slice Qs T0.states.length Qsn) (.slice Qc T0.codes.length Qcn) := ⟨_, rfl⟩
                  have hnew2 := hnew
                  unfold set8 at hnew2
                  try rw [← hnew2]
                  clear hnew2
                  have N5 := Lib.hid (show Blk y134567 y134.heap.size 27 #[.int .i64 T0.strategy, .slice Qk T0.keys.length Qkn, .slice Qkk T0.kinds.length Qkkn, .int .i64 T0.syms, .int .i64 T0.runs, .int .i64 T0.cells, .slice Qs T0.states.length Qsn, .slice Qc T0.codes.length Qcn] by rw [hnew]; exact B5.out.set8 _ _ _ _ _ _ _ _)
                  have N4 := Lib.hid (show Blk y134567 _ 27 _ by rw [hnew]; exact N4.out.far8 (by have := LP.out; have := LQ.out; have := L4.out; have := L5.out; omega) _ _ _ _ _ _ _ _)
                  have ZP := Lib.hid (show TwinZ y134567 _ _ T0 _ _ _ _ by rw [hnew]; exact ZP.out.set8 (by have := LP.out; have := LQ.out; have := L4.out; have := L5.out; omega) _ _ _ _ _ _ _ _)
                  have ZQ := Lib.hid (show TwinZ y134567 _ _ T0 _ _ _ _ by rw [hnew]; exact ZQ.out.set8 (by have := LP.out; have := LQ.out; have := L4.out; have := L5.out; omega) _ _ _ _ _ _ _ _)
                  have HBy134567 := Lib.hid (show Below W1.heap.size W1 y134567 by rw [hnew]; exact below_set8 HBy13456.out (by have := LY0.out; have := HB77.out; have := LP.out; have := LQ.out; have := L4.out; have := L5.out; omega) _ _ _ _ _ _ _ _)
                  have L7 : Hid (y134567.heap.size = y13456.heap.size) := Lib.hid (by rw [hnew]; exact size_set8 _ _ _ _ _ _ _ _ _ _)
                  clear hnew
                  (refine hK.out _ _ (fun h => absurd h (by decide)) ?_; clear hK K)
                  refine till_done (by kernel_rfl) ?_ _
                  go_simp
                  go_wp2_with fail
                  go_meet
                  refine ⟨_, _, rfl, rfl, _, _, _, _, _, _, _, _, _, _, _, _, ZP.out, ZQ.out, N4.out, N5.out, ?_, HBy134567.out⟩
                  (have := LY0.out; have := LP.out; have := LQ.out; have := L4.out; have := L5.out; have := L6.out; have := L7.out; have := HB77.out; omega)
                refine TillAll.cons rfl (fun K hK => ?_) TillAll.nil
                go_simp
                obtain ⟨y135, hnew⟩ : ∃ y135, y135 = y13.alloc (.cells #[.int .i64 0, .slice none 0 0, .slice none 0 0, .int .i64 0, .int .i64 0, .int .i64 0, .slice none 0 0, .slice none 0 0] 27) := ⟨_, rfl⟩
                try rw [← hnew]
                have hbz : Below y13.heap.size y13 y135 := by rw [hnew]; exact (Below.refl _ _).alloc (Nat.le_refl _) _
                have HBy135 := Lib.hid (HBy13.out.trans (hbz.mono HBy13.out.size))
                have ZP := Lib.hid (ZP.out.below hbz (by obtain ⟨_, _, _, h3, _⟩ := ZP.out; exact h3))
                have ZQ := Lib.hid (ZQ.out.below hbz (by obtain ⟨_, _, _, h3, _⟩ := ZQ.out; exact h3))
                have B5 : Hid (Blk y135 y13.heap.size 27 #[.int .i64 0, .slice none 0 0, .slice none 0 0, .int .i64 0, .int .i64 0, .int .i64 0, .slice none 0 0, .slice none 0 0]) := Lib.hid (by rw [hnew]; exact Blk.new y13 _ _)
                have L5 : Hid (y135.heap.size = y13.heap.size + 1) := Lib.hid (by rw [hnew]; simp)
                clear hnew hbz
                (refine hK.out _ _ (fun _ => onceS_of HBT.out HBy135.out) ?_; clear hK K)
                refine till_ready (rs := [4]) (by kernel_rfl) (by simp) ?_
                refine TillAll.cons rfl (fun K hK => ?_) TillAll.nil
                go_simp
                obtain ⟨y1354, hnew⟩ : ∃ y1354, y1354 = y135.alloc (.cells #[.int .i64 0, .slice none 0 0, .slice none 0 0, .int .i64 0, .int .i64 0, .int .i64 0, .slice none 0 0, .slice none 0 0] 27) := ⟨_, rfl⟩
                try rw [← hnew]
                have hbz : Below y135.heap.size y135 y1354 := by rw [hnew]; exact (Below.refl _ _).alloc (Nat.le_refl _) _
                have HBy1354 := Lib.hid (HBy135.out.trans (hbz.mono HBy135.out.size))
                have ZP := Lib.hid (ZP.out.below hbz (by obtain ⟨_, _, _, h3, _⟩ := ZP.out; exact h3))
                have ZQ := Lib.hid (ZQ.out.below hbz (by obtain ⟨_, _, _, h3, _⟩ := ZQ.out; exact h3))
                have B5 := Lib.hid (B5.out.below hbz B5.out.lt)
                have B4 : Hid (Blk y1354 y135.heap.size 27 #[.int .i64 0, .slice none 0 0, .slice none 0 0, .int .i64 0, .int .i64 0, .int .i64 0, .slice none 0 0, .slice none 0 0]) := Lib.hid (by rw [hnew]; exact Blk.new y135 _ _)
                have L4 : Hid (y1354.heap.size = y135.heap.size + 1) := Lib.hid (by rw [hnew]; simp)
                clear hnew hbz
                (refine hK.out _ _ (fun _ => onceS_of HBT.out HBy1354.out) ?_; clear hK K)
                refine till_ready (rs := [6]) (by kernel_rfl) (by simp) ?_
                refine TillAll.cons rfl (fun K hK => ?_) TillAll.nil
                obtain ⟨z0, z1, z2, z3, z4, z5, z6, z7⟩ := blk8 B4.out
                have f0 := B4.out.frozen 0
                have f1 := B4.out.frozen 1
                have f2 := B4.out.frozen 2
                have f3 := B4.out.frozen 3
                have f4 := B4.out.frozen 4
                have f5 := B4.out.frozen 5
                have f6 := B4.out.frozen 6
                have f7 := B4.out.frozen 7
                go_simp
                clear z0 z1 z2 z3 z4 z5 z6 z7 f0 f1 f2 f3 f4 f5 f6 f7
                obtain ⟨y13546, hnew⟩ : ∃ y13546, y13546 = set8 y1354 y135.heap.size (.int .i64 T0.strategy) (.slice Pk T0.keys.length Pkn) (.slice Pkk T0.kinds.length Pkkn) (.int .i64 T0.syms) (.int .i64 T0.runs) (.int .i64 T0.cells) (.slice Ps T0.states.length Psn) (.slice Pc T0.codes.length Pcn) := ⟨_, rfl⟩
                have hnew2 := hnew
                unfold set8 at hnew2
                try rw [← hnew2]
                clear hnew2
                have N4 := Lib.hid (show Blk y13546 y135.heap.size 27 #[.int .i64 T0.strategy, .slice Pk T0.keys.length Pkn, .slice Pkk T0.kinds.length Pkkn, .int .i64 T0.syms, .int .i64 T0.runs, .int .i64 T0.cells, .slice Ps T0.states.length Psn, .slice Pc T0.codes.length Pcn] by rw [hnew]; exact B4.out.set8 _ _ _ _ _ _ _ _)
                have B5 := Lib.hid (show Blk y13546 _ 27 _ by rw [hnew]; exact B5.out.far8 (by have := LP.out; have := LQ.out; have := L4.out; have := L5.out; omega) _ _ _ _ _ _ _ _)
                have ZP := Lib.hid (show TwinZ y13546 _ _ T0 _ _ _ _ by rw [hnew]; exact ZP.out.set8 (by have := LP.out; have := LQ.out; have := L4.out; have := L5.out; omega) _ _ _ _ _ _ _ _)
                have ZQ := Lib.hid (show TwinZ y13546 _ _ T0 _ _ _ _ by rw [hnew]; exact ZQ.out.set8 (by have := LP.out; have := LQ.out; have := L4.out; have := L5.out; omega) _ _ _ _ _ _ _ _)
                have HBy13546 := Lib.hid (show Below W1.heap.size W1 y13546 by rw [hnew]; exact below_set8 HBy1354.out (by have := LY0.out; have := HB77.out; have := LP.out; have := LQ.out; have := L4.out; have := L5.out; omega) _ _ _ _ _ _ _ _)
                have L6 : Hid (y13546.heap.size = y1354.heap.size) := Lib.hid (by rw [hnew]; exact size_set8 _ _ _ _ _ _ _ _ _ _)
                clear hnew
                (refine hK.out _ _ (fun _ => onceS_of HBT.out HBy13546.out) ?_; clear hK K)
                refine till_ready (rs := [7]) (by kernel_rfl) (by simp) ?_
                refine TillAll.cons rfl (fun K hK => ?_) TillAll.nil
                obtain ⟨z0, z1, z2, z3, z4, z5, z6, z7⟩ := blk8 B5.out
                have f0 := B5.out.frozen 0
                have f1 := B5.out.frozen 1
                have f2 := B5.out.frozen 2
                have f3 := B5.out.frozen 3
                have f4 := B5.out.frozen 4
                have f5 := B5.out.frozen 5
                have f6 := B5.out.frozen 6
                have f7 := B5.out.frozen 7
                go_simp
                clear z0 z1 z2 z3 z4 z5 z6 z7 f0 f1 f2 f3 f4 f5 f6 f7
                obtain ⟨y135467, hnew⟩ : ∃ y135467, y135467 = set8 y13546 y13.heap.size (.int .i64 T0.strategy) (.slice Qk T0.keys.length Qkn) (.slice Qkk T0.kinds.length Qkkn) (.int .i64 T0.syms) (.int .i64 T0.runs) (.int .i64 T0.cells) (.slice Qs T0.states.length Qsn) (.slice Qc T0.codes.length Qcn) := ⟨_, rfl⟩
                have hnew2 := hnew
                unfold set8 at hnew2
                try rw [← hnew2]
                clear hnew2
                have N5 := Lib.hid (show Blk y135467 y13.heap.size 27 #[.int .i64 T0.strategy, .slice Qk T0.keys.length Qkn, .slice Qkk T0.kinds.length Qkkn, .int .i64 T0.syms, .int .i64 T0.runs, .int .i64 T0.cells, .slice Qs T0.states.length Qsn, .slice Qc T0.codes.length Qcn] by rw [hnew]; exact B5.out.set8 _ _ _ _ _ _ _ _)
                have N4 := Lib.hid (show Blk y135467 _ 27 _ by rw [hnew]; exact N4.out.far8 (by have := LP.out; have := LQ.out; have := L4.out; have := L5.out; omega) _ _ _ _ _ _ _ _)
                have ZP := Lib.hid (show TwinZ y135467 _ _ T0 _ _ _ _ by rw [hnew]; exact ZP.out.set8 (by have := LP.out; have := LQ.out; have := L4.out; have := L5.out; omega) _ _ _ _ _ _ _ _)
                have ZQ := Lib.hid (show TwinZ y135467 _ _ T0 _ _ _ _ by rw [hnew]; exact ZQ.out.set8 (by have := LP.out; have := LQ.out; have := L4.out; have := L5.out; omega) _ _ _ _ _ _ _ _)
                have HBy135467 := Lib.hid (show Below W1.heap.size W1 y135467 by rw [hnew]; exact below_set8 HBy13546.out (by have := LY0.out; have := HB77.out; have := LP.out; have := LQ.out; have := L4.out; have := L5.out; omega) _ _ _ _ _ _ _ _)
                have L7 : Hid (y135467.heap.size = y13546.heap.size) := Lib.hid (by rw [hnew]; exact size_set8 _ _ _ _ _ _ _ _ _ _)
                clear hnew
                (refine hK.out _ _ (fun h => absurd h (by decide)) ?_; clear hK K)
                refine till_done (by kernel_rfl) ?_ _
                go_simp
                go_wp2_with fail
                go_meet
                refine ⟨_, _, rfl, rfl, _, _, _, _, _, _, _, _, _, _, _, _, ZP.out, ZQ.out, N4.out, N5.out, ?_, HBy135467.out⟩
                (have := LY0.out; have := LP.out; have := LQ.out; have := L4.out; have := L5.out; have := L6.out; have := L7.out; have := HB77.out; omega)
              refine TillAll.cons rfl (fun K hK => ?_) ?_
              · skip
                go_simp
                obtain ⟨y14, hnew⟩ : ∃ y14, y14 = y1.alloc (.cells #[.int .i64 0, .slice none 0 0, .slice none 0 0, .int .i64 0, .int .i64 0, .int .i64 0, .slice none 0 0, .slice none 0 0] 27) := ⟨_, rfl⟩
                try rw [← hnew]
                have hbz : Below y1.heap.size y1 y14 := by rw [hnew]; exact (Below.refl _ _).alloc (Nat.le_refl _) _
                have HBy14 := Lib.hid (HBy1.out.trans (hbz.mono HBy1.out.size))
                have ZP := Lib.hid (ZP.out.below hbz (by obtain ⟨_, _, _, h3, _⟩ := ZP.out; exact h3))
                have B4 : Hid (Blk y14 y1.heap.size 27 #[.int .i64 0, .slice none 0 0, .slice none 0 0, .int .i64 0, .int .i64 0, .int .i64 0, .slice none 0 0, .slice none 0 0]) := Lib.hid (by rw [hnew]; exact Blk.new y1 _ _)
                have L4 : Hid (y14.heap.size = y1.heap.size + 1) := Lib.hid (by rw [hnew]; simp)
                clear hnew hbz
                (refine hK.out _ _ (fun _ => onceS_of HBT.out HBy14.out) ?_; clear hK K)
                refine till_ready (rs := [3, 5]) (by kernel_rfl) (by simp) ?_
                refine TillAll.cons rfl (fun K hK => ?_) ?_
                · skip
                  go_simp
                  go_wp2_with (go_at_call 9; refine (CT.out y14 (HX.out y14 HBy14.out)).mono ?_; rintro e y143 ⟨ak, akk, ats, ac, rfl, hm, hbz⟩; obtain ⟨Qk, Qkn, rfl, _, _⟩ := hm.tab.keys.slice; obtain ⟨Qkk, Qkkn, rfl, _, _⟩ := hm.tab.kinds.slice; obtain ⟨Qs, Qsn, rfl, _, _⟩ := hm.tab.states.slice; obtain ⟨Qc, Qcn, rfl, _, _⟩ := hm.tab.codes.slice)
                  have ZQ := Lib.hid (TwinZ.new hm)
                  have LQ : Hid (y14.heap.size ≤ y143.heap.size) := Lib.hid hbz.size
                  have HBy143 := Lib.hid (HBy14.out.trans (hbz.mono HBy14.out.size))
                  have ZP := Lib.hid (ZP.out.below hbz (by obtain ⟨_, _, _, h3, _⟩ := ZP.out; exact h3))
                  have B4 := Lib.hid (B4.out.below hbz B4.out.lt)
                  clear hm hbz
                  (refine hK.out _ _ (fun _ => onceS_of HBT.out HBy143.out) ?_; clear hK K)
                  refine till_ready (rs := [5]) (by kernel_rfl) (by simp) ?_
                  refine TillAll.cons rfl (fun K hK => ?_) TillAll.nil
                  go_simp
                  obtain ⟨y1435, hnew⟩ : ∃ y1435, y1435 = y143.alloc (.cells #[.int .i64 0, .slice none 0 0, .slice none 0 0, .int .i64 0, .int .i64 0, .int .i64 0, .slice none 0 0, .slice none 0 0] 27) := ⟨_, rfl⟩
                  try rw [← hnew]
                  have hbz : Below y143.heap.size y143 y1435 := by rw [hnew]; exact (Below.refl _ _).alloc (Nat.le_refl _) _
                  have HBy1435 := Lib.hid (HBy143.out.trans (hbz.mono HBy143.out.size))
                  have ZP := Lib.hid (ZP.out.below hbz (by obtain ⟨_, _, _, h3, _⟩ := ZP.out; exact h3))
                  have ZQ := Lib.hid (ZQ.out.below hbz (by obtain ⟨_, _, _, h3, _⟩ := ZQ.out; exact h3))
                  have B4 := Lib.hid (B4.out.below hbz B4.out.lt)
                  have B5 : Hid (Blk y1435 y143.heap.size 27 #[.int .i64 0, .slice none 0 0, .slice none 0 0, .int .i64 0, .int .i64 0, .int .i64 0, .slice none 0 0, .slice none 0 0]) := Lib.hid (by rw [hnew]; exact Blk.new y143 _ _)
                  have L5 : Hid (y1435.heap.size = y143.heap.size + 1) := Lib.hid (by rw [hnew]; simp)
                  clear hnew hbz
                  (refine hK.out _ _ (fun _ => onceS_of HBT.out HBy1435.out) ?_; clear hK K)
                  refine till_ready (rs := [6]) (by kernel_rfl) (by simp) ?_
                  refine TillAll.cons rfl (fun K hK => ?_) TillAll.nil
                  obtain ⟨z0, z1, z2, z3, z4, z5, z6, z7⟩ := blk8 B4.out
                  have f0 := B4.out.frozen 0
                  have f1 := B4.out.frozen 1
                  have f2 := B4.out.frozen 2
                  have f3 := B4.out.frozen 3
                  have f4 := B4.out.frozen 4
                  have f5 := B4.out.frozen 5
                  have f6 := B4.out.frozen 6
                  have f7 := B4.out.frozen 7
                  go_simp
                  clear z0 z1 z2 z3 z4 z5 z6 z7 f0 f1 f2 f3 f4 f5 f6 f7
                  obtain ⟨y14356, hnew⟩ : ∃ y14356, y14356 = set8 y1435 y1.heap.size (.int .i64 T0.strategy) (.slice Pk T0.keys.length Pkn) (.slice Pkk T0.kinds.length Pkkn) (.int .i64 T0.syms) (.int .i64 T0.runs) (.int .i64 T0.cells) (.slice Ps T0.states.length Psn) (.slice Pc T0.codes.length Pcn) := ⟨_, rfl⟩
                  have hnew2 := hnew
                  unfold set8 at hnew2
                  try rw [← hnew2]
                  clear hnew2
                  have N4 := Lib.hid (show Blk y14356 y1.heap.size 27 #[.int .i64 T0.strategy, .slice Pk T0.keys.length Pkn, .slice Pkk T0.kinds.length Pkkn, .int .i64 T0.syms, .int .i64 T0.runs, .int .i64 T0.cells, .slice Ps T0.states.length Psn, .slice Pc T0.codes.length Pcn] by rw [hnew]; exact B4.out.set8 _ _ _ _ _ _ _ _)
                  have B5 := Lib.hid (show Blk y14356 _ 27 _ by rw [hnew]; exact B5.out.far8 (by have := LP.out; have := LQ.out; have := L4.out; have := L5.out; omega) _ _ _ _ _ _ _ _)
                  have ZP := Lib.hid (show TwinZ y14356 _ _ T0 _ _ _ _ by rw [hnew]; exact ZP.out.set8 (by have := LP.out; have := LQ.out; have := L4.out; have := L5.out; omega) _ _ _ _ _ _ _ _)
                  have ZQ := Lib.hid (show TwinZ y14356 _ _ T0 _ _ _ _ by rw [hnew]; exact ZQ.out.set8 (by have := LP.out; have := LQ.out; have := L4.out; have := L5.out; omega) _ _ _ _ _ _ _ _)
                  have HBy14356 := Lib.hid (show Below W1.heap.size W1 y14356 by rw [hnew]; exact below_set8 HBy1435.out (by have := LY0.out; have := HB77.out; have := LP.out; have := LQ.out; have := L4.out; have := L5.out; omega) _ _ _ _ _ _ _ _)
                  have L6 : Hid (y14356.heap.size = y1435.heap.size) := Lib.hid (by rw [hnew]; exact size_set8 _ _ _ _ _ _ _ _ _ _)
                  clear hnew
                  (refine hK.out _ _ (fun _ => onceS_of HBT.out HBy14356.out) ?_; clear hK K)
                  refine till_ready (rs := [7]) (by kernel_rfl) (by simp) ?_
                  refine TillAll.cons rfl (fun K hK => ?_) TillAll.nil
                  obtain ⟨z0, z1, z2, z3, z4, z5, z6, z7⟩ := blk8 B5.out
                  have f0 := B5.out.frozen 0
                  have f1 := B5.out.frozen 1
                  have f2 := B5.out.frozen 2
                  have f3 := B5.out.frozen 3
                  have f4 := B5.out.frozen 4
                  have f5 := B5.out.frozen 5
                  have f6 := B5.out.frozen 6
                  have f7 := B5.out.frozen 7
                  go_simp
                  clear z0 z1 z2 z3 z4 z5 z6 z7 f0 f1 f2 f3 f4 f5 f6 f7
                  obtain ⟨y143567, hnew⟩ : ∃ y143567, y143567 = set8 y14356 y143.heap.size (.int .i64 T0.strategy) (.slice Qk T0.keys.length Qkn) (.slice Qkk T0.kinds.length Qkkn) (.int .i64 T0.syms) (.int .i64 T0.runs) (.int .i64 T0.cells) (.slice Qs T0.states.length Qsn) (.slice Qc T0.codes.length Qcn) := ⟨_, rfl⟩
                  have hnew2 := hnew
                  unfold set8 at hnew2
                  try rw [← hnew2]
                  clear hnew2
                  have N5 := Lib.hid (show Blk y143567 y143.heap.size 27 #[.int .i64 T0.strategy, .slice Qk T0.keys.length Qkn, .slice Qkk T0.kinds.length Qkkn, .int .i64 T0.syms, .int .i64 T0.runs, .int .i64 T0.cells, .slice Qs T0.states.length Qsn, .slice Qc T0.codes.length Qcn] by rw [hnew]; exact B5.out.set8 _ _ _ _ _ _ _ _)
                  have N4 := Lib.hid (show Blk y143567 _ 27 _ by rw [hnew]; exact N4.out.far8 (by have := LP.out; have := LQ.out; have := L4.out; have := L5.out; omega) _ _ _ _ _ _ _ _)
                  have ZP := Lib.hid (show TwinZ y143567 _ _ T0 _ _ _ _ by rw [hnew]; exact ZP.out.set8 (by have := LP.out; have := LQ.out; have := L4.out; have := L5.out; omega) _ _ _ _ _ _ _ _)
                  have ZQ := Lib.hid (show TwinZ y143567 _ _ T0 _ _ _ _ by rw [hnew]; exact ZQ.out.set8 (by have := LP.out; have := LQ.out; have := L4.out; have := L5.out; omega) _ _ _ _ _ _ _ _)
                  have HBy143567 := Lib.hid (show Below W1.heap.size W1 y143567 by rw [hnew]; exact below_set8 HBy14356.out (by have := LY0.out; have := HB77.out; have := LP.out; have := LQ.out; have := L4.out; have := L5.out; omega) _ _ _ _ _ _ _ _)
                  have L7 : Hid (y143567.heap.size = y14356.heap.size) := Lib.hid (by rw [hnew]; exact size_set8 _ _ _ _ _ _ _ _ _ _)
                  clear hnew
                  (refine hK.out _ _ (fun h => absurd h (by decide)) ?_; clear hK K)
                  refine till_done (by kernel_rfl) ?_ _
                  go_simp
                  go_wp2_with fail
                  go_meet
                  refine ⟨_, _, rfl, rfl, _, _, _, _, _, _, _, _, _, _, _, _, ZP.out, ZQ.out, N4.out, N5.out, ?_, HBy143567.out⟩
                  (have := LY0.out; have := LP.out; have := LQ.out; have := L4.out; have := L5.out; have := L6.out; have := L7.out; have := HB77.out; omega)
                refine TillAll.cons rfl (fun K hK => ?_) TillAll.nil
                go_simp
                obtain ⟨y145, hnew⟩ : ∃ y145, y145 = y14.alloc (.cells #[.int .i64 0, .slice none 0 0, .slice none 0 0, .int .i64 0, .int .i64 0, .int .i64 0, .slice none 0 0, .slice none 0 0] 27) := ⟨_, rfl⟩
                try rw [← hnew]
                have hbz : Below y14.heap.size y14 y145 := by rw [hnew]; exact (Below.refl _ _).alloc (Nat.le_refl _) _
                have HBy145 := Lib.hid (HBy14.out.trans (hbz.mono HBy14.out.size))
                have ZP := Lib.hid (ZP.out.below hbz (by obtain ⟨_, _, _, h3, _⟩ := ZP.out; exact h3))
                have B4 := Lib.hid (B4.out.below hbz B4.out.lt)
                have B5 : Hid (Blk y145 y14.heap.size 27 #[.int .i64 0, .slice none 0 0, .slice none 0 0, .int .i64 0, .int .i64 0, .int .i64 0, .slice none 0 0, .slice none 0 0]) := Lib.hid (by rw [hnew]; exact Blk.new y14 _ _)
                have L5 : Hid (y145.heap.size = y14.heap.size + 1) := Lib.hid (by rw [hnew]; simp)
                clear hnew hbz
                (refine hK.out _ _ (fun _ => onceS_of HBT.out HBy145.out) ?_; clear hK K)
                refine till_ready (rs := [3]) (by kernel_rfl) (by simp) ?_
                refine TillAll.cons rfl (fun K hK => ?_) TillAll.nil
                go_simp
                go_wp2_with (go_at_call 9; refine (CT.out y145 (HX.out y145 HBy145.out)).mono ?_; rintro e y1453 ⟨ak, akk, ats, ac, rfl, hm, hbz⟩; obtain ⟨Qk, Qkn, rfl, _, _⟩ := hm.tab.keys.slice; obtain ⟨Qkk, Qkkn, rfl, _, _⟩ := hm.tab.kinds.slice; obtain ⟨Qs, Qsn, rfl, _, _⟩ := hm.tab.states.slice; obtain ⟨Qc, Qcn, rfl, _, _⟩ := hm.tab.codes.slice)
                have ZQ := Lib.hid (TwinZ.new hm)
                have LQ : Hid (y145.heap.size ≤ y1453.heap.size) := Lib.hid hbz.size
                have HBy1453 := Lib.hid (HBy145.out.trans (hbz.mono HBy145.out.size))
                have ZP := Lib.hid (ZP.out.below hbz (by obtain ⟨_, _, _, h3, _⟩ := ZP.out; exact h3))
                have B4 := Lib.hid (B4.out.below hbz B4.out.lt)
                have B5 := Lib.hid (B5.out.below hbz B5.out.lt)
                clear hm hbz
                (refine hK.out _ _ (fun _ => onceS_of HBT.out HBy1453.out) ?_; clear hK K)
                refine till_ready (rs := [6]) (by kernel_rfl) (by simp) ?_
                refine TillAll.cons rfl (fun K hK => ?_) TillAll.nil
                obtain ⟨z0, z1, z2, z3, z4, z5, z6, z7⟩ := blk8 B4.out
                have f0 := B4.out.frozen 0
                have f1 := B4.out.frozen 1
                have f2 := B4.out.frozen 2
                have f3 := B4.out.frozen 3
                have f4 := B4.out.frozen 4
                have f5 := B4.out.frozen 5
                have f6 := B4.out.frozen 6
                have f7 := B4.out.frozen 7
                go_simp
                clear z0 z1 z2 z3 z4 z5 z6 z7 f0 f1 f2 f3 f4 f5 f6 f7
                obtain ⟨y14536, hnew⟩ : ∃ y14536, y14536 = set8 y1453 y1.heap.size (.int .i64 T0.strategy) (.slice Pk T0.keys.length Pkn) (.slice Pkk T0.kinds.length Pkkn) (.int .i64 T0.syms) (.int .i64 T0.runs) (.int .i64 T0.cells) (.slice Ps T0.states.length Psn) (.slice Pc T0.codes.length Pcn) := ⟨_, rfl⟩
                have hnew2 := hnew
                unfold set8 at hnew2
                try rw [← hnew2]
                clear hnew2
                have N4 := Lib.hid (show Blk y14536 y1.heap.size 27 #[.int .i64 T0.strategy, .slice Pk T0.keys.length Pkn, .slice Pkk T0.kinds.length Pkkn, .int .i64 T0.syms, .int .i64 T0.runs, .int .i64 T0.cells, .slice Ps T0.states.length Psn, .slice Pc T0.codes.length Pcn] by rw [hnew]; exact B4.out.set8 _ _ _ _ _ _ _ _)
                have B5 := Lib.hid (show Blk y14536 _ 27 _ by rw [hnew]; exact B5.out.far8 (by have := LP.out; have := LQ.out; have := L4.out; have := L5.out; omega) _ _ _ _ _ _ _ _)
                have ZP := Lib.hid (show TwinZ y14536 _ _ T0 _ _ _ _ by rw [hnew]; exact ZP.out.set8 (by have := LP.out; have := LQ.out; have := L4.out; have := L5.out; omega) _ _ _ _ _ _ _ _)
                have ZQ := Lib.hid (show TwinZ y14536 _ _ T0 _ _ _ _ by rw [hnew]; exact ZQ.out.set8 (by have := LP.out; have := LQ.out; have := L4.out; have := L5.out; omega) _ _ _ _ _ _ _ _)
                have HBy14536 := Lib.hid (show Below W1.heap.size W1 y14536 by rw [hnew]; exact below_set8 HBy1453.out (by have := LY0.out; have := HB77.out; have := LP.out; have := LQ.out; have := L4.out; have := L5.out; omega) _ _ _ _ _ _ _ _)
                have L6 : Hid (y14536.heap.size = y1453.heap.size) := Lib.hid (by rw [hnew]; exact size_set8 _ _ _ _ _ _ _ _ _ _)
                clear hnew
                (refine hK.out _ _ (fun _ => onceS_of HBT.out HBy14536.out) ?_; clear hK K)
                refine till_ready (rs := [7]) (by kernel_rfl) (by simp) ?_
                refine TillAll.cons rfl (fun K hK => ?_) TillAll.nil
                obtain ⟨z0, z1, z2, z3, z4, z5, z6, z7⟩ := blk8 B5.out
                have f0 := B5.out.frozen 0
                have f1 := B5.out.frozen 1
                have f2 := B5.out.frozen 2
                have f3 := B5.out.frozen 3
                have f4 := B5.out.frozen 4
                have f5 := B5.out.frozen 5
                have f6 := B5.out.frozen 6
                have f7 := B5.out.frozen 7
                go_simp
                clear z0 z1 z2 z3 z4 z5 z6 z7 f0 f1 f2 f3 f4 f5 f6 f7
                obtain ⟨y145367, hnew⟩ : ∃ y145367, y145367 = set8 y14536 y14.heap.size (.int .i64 T0.strategy) (.slice Qk T0.keys.length Qkn) (.slice Qkk T0.kinds.length Qkkn) (.int .i64 T0.syms) (.int .i64 T0.runs) (.int .i64 T0.cells) (.slice Qs T0.states.length Qsn) (.slice Qc T0.codes.length Qcn) := ⟨_, rfl⟩
                have hnew2 := hnew
                unfold set8 at hnew2
                try rw [← hnew2]
                clear hnew2
                have N5 := Lib.hid (show Blk y145367 y14.heap.size 27 #[.int .i64 T0.strategy, .slice Qk T0.keys.length Qkn, .slice Qkk T0.kinds.length Qkkn, .int .i64 T0.syms, .int .i64 T0.runs, .int .i64 T0.cells, .slice Qs T0.states.length Qsn, .slice Qc T0.codes.length Qcn] by rw [hnew]; exact B5.out.set8 _ _ _ _ _ _ _ _)
                have N4 := Lib.hid (show Blk y145367 _ 27 _ by rw [hnew]; exact N4.out.far8 (by have := LP.out; have := LQ.out; have := L4.out; have := L5.out; omega) _ _ _ _ _ _ _ _)
                have ZP := Lib.hid (show TwinZ y145367 _ _ T0 _ _ _ _ by rw [hnew]; exact ZP.out.set8 (by have := LP.out; have := LQ.out; have := L4.out; have := L5.out; omega) _ _ _ _ _ _ _ _)
                have ZQ := Lib.hid (show TwinZ y145367 _ _ T0 _ _ _ _ by rw [hnew]; exact ZQ.out.set8 (by have := LP.out; have := LQ.out; have := L4.out; have := L5.out; omega) _ _ _ _ _ _ _ _)
                have HBy145367 := Lib.hid (show Below W1.heap.size W1 y145367 by rw [hnew]; exact below_set8 HBy14536.out (by have := LY0.out; have := HB77.out; have := LP.out; have := LQ.out; have := L4.out; have := L5.out; omega) _ _ _ _ _ _ _ _)
                have L7 : Hid (y145367.heap.size = y14536.heap.size) := Lib.hid (by rw [hnew]; exact size_set8 _ _ _ _ _ _ _ _ _ _)
                clear hnew
                (refine hK.out _ _ (fun h => absurd h (by decide)) ?_; clear hK K)
                refine till_done (by kernel_rfl) ?_ _
                go_simp
                go_wp2_with fail
                go_meet
                refine ⟨_, _, rfl, rfl, _, _, _, _, _, _, _, _, _, _, _, _, ZP.out, ZQ.out, N4.out, N5.out, ?_, HBy145367.out⟩
                (have := LY0.out; have := LP.out; have := LQ.out; have := L4.out; have := L5.out; have := L6.out; have := L7.out; have := HB77.out; omega)
              refine TillAll.cons rfl (fun K hK => ?_) TillAll.nil
              go_simp
              obtain ⟨y15, hnew⟩ : ∃ y15, y15 = y1.alloc (.cells #[.int .i64 0, .slice none 0 0, .slice none 0 0, .int .i64 0, .int .i64 0, .int .i64 0, .slice none 0 0, .slice none 0 0] 27) := ⟨_, rfl⟩
              try rw [← hnew]
              have hbz : Below y1.heap.size y1 y15 := by rw [hnew]; exact (Below.refl _ _).alloc (Nat.le_refl _) _
              have HBy15 := Lib.hid (HBy1.out.trans (hbz.mono HBy1.out.size))
              have ZP := Lib.hid (ZP.out.below hbz (by obtain ⟨_, _, _, h3, _⟩ := ZP.out; exact h3))
              have B5 : Hid (Blk y15 y1.heap.size 27 #[.int .i64 0, .slice none 0 0, .slice none 0 0, .int .i64 0, .int .i64 0, .int .i64 0, .slice none 0 0, .slice none 0 0]) := Lib.hid (by rw [hnew]; exact Blk.new y1 _ _)
              have L5 : Hid (y15.heap.size = y1.heap.size + 1) := Lib.hid (by rw [hnew]; simp)
              clear hnew hbz
              (refine hK.out _ _ (fun _ => onceS_of HBT.out HBy15.out) ?_; clear hK K)
              refine till_ready (rs := [3, 4]) (by kernel_rfl) (by simp) ?_
              refine TillAll.cons rfl (fun K hK => ?_) ?_
              · skip
                go_simp
                go_wp2_with (go_at_call 9; refine (CT.out y15 (HX.out y15 HBy15.out)).mono ?_; rintro e y153 ⟨ak, akk, ats, ac, rfl, hm, hbz⟩; obtain ⟨Qk, Qkn, rfl, _, _⟩ := hm.tab.keys.slice; obtain ⟨Qkk, Qkkn, rfl, _, _⟩ := hm.tab.kinds.slice; obtain ⟨Qs, Qsn, rfl, _, _⟩ := hm.tab.states.slice; obtain ⟨Qc, Qcn, rfl, _, _⟩ := hm.tab.codes.slice)
                have ZQ := Lib.hid (TwinZ.new hm)
                have LQ : Hid (y15.heap.size ≤ y153.heap.size) := Lib.hid hbz.size
                have HBy153 := Lib.hid (HBy15.out.trans (hbz.mono HBy15.out.size))
                have ZP := Lib.hid (ZP.out.below hbz (by obtain ⟨_, _, _, h3, _⟩ := ZP.out; exact h3))
                have B5 := Lib.hid (B5.out.below hbz B5.out.lt)
                clear hm hbz
                (refine hK.out _ _ (fun _ => onceS_of HBT.out HBy153.out) ?_; clear hK K)
                refine till_ready (rs := [4]) (by kernel_rfl) (by simp) ?_
                refine TillAll.cons rfl (fun K hK => ?_) TillAll.nil
                go_simp
                obtain ⟨y1534, hnew⟩ : ∃ y1534, y1534 = y153.alloc (.cells #[.int .i64 0, .slice none 0 0, .slice none 0 0, .int .i64 0, .int .i64 0, .int .i64 0, .slice none 0 0, .slice none 0 0] 27) := ⟨_, rfl⟩
                try rw [← hnew]
                have hbz : Below y153.heap.size y153 y1534 := by rw [hnew]; exact (Below.refl _ _).alloc (Nat.le_refl _) _
                have HBy1534 := Lib.hid (HBy153.out.trans (hbz.mono HBy153.out.size))
                have ZP := Lib.hid (ZP.out.below hbz (by obtain ⟨_, _, _, h3, _⟩ := ZP.out; exact h3))
                have ZQ := Lib.hid (ZQ.out.below hbz (by obtain ⟨_, _, _, h3, _⟩ := ZQ.out; exact h3))
                have B5 := Lib.hid (B5.out.below hbz B5.out.lt)
                have B4 : Hid (Blk y1534 y153.heap.size 27 #[.int .i64 0, .slice none 0 0, .slice none 0 0, .int .i64 0, .int .i64 0, .int .i64 0, .slice none 0 0, .slice none 0 0]) := Lib.hid (by rw [hnew]; exact Blk.new y153 _ _)
                have L4 : Hid (y1534.heap.size = y153.heap.size + 1) := Lib.hid (by rw [hnew]; simp)
                clear hnew hbz
                (refine hK.out _ _ (fun _ => onceS_of HBT.out HBy1534.out) ?_; clear hK K)
                refine till_ready (rs := [6]) (by kernel_rfl) (by simp) ?_
                refine TillAll.cons rfl (fun K hK => ?_) TillAll.nil
                obtain ⟨z0, z1, z2, z3, z4, z5, z6, z7⟩ := blk8 B4.out
                have f0 := B4.out.frozen 0
                have f1 := B4.out.frozen 1
                have f2 := B4.out.frozen 2
                have f3 := B4.out.frozen 3
                have f4 := B4.out.frozen 4
                have f5 := B4.out.frozen 5
                have f6 := B4.out.frozen 6
                have f7 := B4.out.frozen 7
                go_simp
                clear z0 z1 z2 z3 z4 z5 z6 z7 f0 f1 f2 f3 f4 f5 f6 f7
                obtain ⟨y15346, hnew⟩ : ∃ y15346, y15346 = set8 y1534 y153.heap.size (.int .i64 T0.strategy) (.slice Pk T0.keys.length Pkn) (.slice Pkk T0.kinds.length Pkkn) (.int .i64 T0.syms) (.int .i64 T0.runs) (.int .i64 T0.cells) (.slice Ps T0.states.length Psn) (.slice Pc T0.codes.length Pcn) := ⟨_, rfl⟩
                have hnew2 := hnew
                unfold set8 at hnew2
                try rw [← hnew2]
                clear hnew2
                have N4 := Lib.hid (show Blk y15346 y153.heap.size 27 #[.int .i64 T0.strategy, .slice Pk T0.keys.length Pkn, .slice Pkk T0.kinds.length Pkkn, .int .i64 T0.syms, .int .i64 T0.runs, .int .i64 T0.cells, .slice Ps T0.states.length Psn, .slice Pc T0.codes.length Pcn] by rw [hnew]; exact B4.out.set8 _ _ _ _ _ _ _ _)
                have B5 := Lib.hid (show Blk y15346 _ 27 _ by rw [hnew]; exact B5.out.far8 (by have := LP.out; have := LQ.out; have := L4.out; have := L5.out; omega) _ _ _ _ _ _ _ _)
                have ZP := Lib.hid (show TwinZ y15346 _ _ T0 _ _ _ _ by rw [hnew]; exact ZP.out.set8 (by have := LP.out; have := LQ.out; have := L4.out; have := L5.out; omega) _ _ _ _ _ _ _ _)
                have ZQ := Lib.hid (show TwinZ y15346 _ _ T0 _ _ _ _ by rw [hnew]; exact ZQ.out.set8 (by have := LP.out; have := LQ.out; have := L4.out; have := L5.out; omega) _ _ _ _ _ _ _ _)
                have HBy15346 := Lib.hid (show Below W1.heap.size W1 y15346 by rw [hnew]; exact below_set8 HBy1534.out (by have := LY0.out; have := HB77.out; have := LP.out; have := LQ.out; have := L4.out; have := L5.out; omega) _ _ _ _ _ _ _ _)
                have L6 : Hid (y15346.heap.size = y1534.heap.size) := Lib.hid (by rw [hnew]; exact size_set8 _ _ _ _ _ _ _ _ _ _)
                clear hnew
                (refine hK.out _ _ (fun _ => onceS_of HBT.out HBy15346.out) ?_; clear hK K)
                refine till_ready (rs := [7]) (by kernel_rfl) (by simp) ?_
                refine TillAll.cons rfl (fun K hK => ?_) TillAll.nil
                obtain ⟨z0, z1, z2, z3, z4, z5, z6, z7⟩ := blk8 B5.out
                have f0 := B5.out.frozen 0
                have f1 := B5.out.frozen 1
                have f2 := B5.out.frozen 2
                have f3 := B5.out.frozen 3
                have f4 := B5.out.frozen 4
                have f5 := B5.out.frozen 5
                have f6 := B5.out.frozen 6
                have f7 := B5.out.frozen 7
                go_simp
                clear z0 z1 z2 z3 z4 z5 z6 z7 f0 f1 f2 f3 f4 f5 f6 f7
                obtain ⟨y153467, hnew⟩ : ∃ y153467, y153467 = set8 y15346 y1.heap.size (.int .i64 T0.strategy) (.slice Qk T0.keys.length Qkn) (.slice Qkk T0.kinds.length Qkkn) (.int .i64 T0.syms) (.int .i64 T0.runs) (.int .i64 T0.cells) (.slice Qs T0.states.length Qsn) (.slice Qc T0.codes.length Qcn) := ⟨_, rfl⟩
                have hnew2 := hnew
                unfold set8 at hnew2
                try rw [← hnew2]
                clear hnew2
                have N5 := Lib.hid (show Blk y153467 y1.heap.size 27 #[.int .i64 T0.strategy, .slice Qk T0.keys.length Qkn, .slice Qkk T0.kinds.length Qkkn, .int .i64 T0.syms, .int .i64 T0.runs, .int .i64 T0.cells, .slice Qs T0.states.length Qsn, .slice Qc T0.codes.length Qcn] by rw [hnew]; exact B5.out.set8 _ _ _ _ _ _ _ _)
                have N4 := Lib.hid (show Blk y153467 _ 27 _ by rw [hnew]; exact N4.out.far8 (by have := LP.out; have := LQ.out; have := L4.out; have := L5.out; omega) _ _ _ _ _ _ _ _)
                have ZP := Lib.hid (show TwinZ y153467 _ _ T0 _ _ _ _ by rw [hnew]; exact ZP.out.set8 (by have := LP.out; have := LQ.out; have := L4.out; have := L5.out; omega) _ _ _ _ _ _ _ _)
                have ZQ := Lib.hid (show TwinZ y153467 _ _ T0 _ _ _ _ by rw [hnew]; exact ZQ.out.set8 (by have := LP.out; have := LQ.out; have := L4.out; have := L5.out; omega) _ _ _ _ _ _ _ _)
                have HBy153467 := Lib.hid (show Below W1.heap.size W1 y153467 by rw [hnew]; exact below_set8 HBy15346.out (by have := LY0.out; have := HB77.out; have := LP.out; have := LQ.out; have := L4.out; have := L5.out; omega) _ _ _ _ _ _ _ _)
                have L7 : Hid (y153467.heap.size = y15346.heap.size) := Lib.hid (by rw [hnew]; exact size_set8 _ _ _ _ _ _ _ _ _ _)
                clear hnew
                (refine hK.out _ _ (fun h => absurd h (by decide)) ?_; clear hK K)
                refine till_done (by kernel_rfl) ?_ _
                go_simp
                go_wp2_with fail
                go_meet
                refine ⟨_, _, rfl, rfl, _, _, _, _, _, _, _, _, _, _, _, _, ZP.out, ZQ.out, N4.out, N5.out, ?_, HBy153467.out⟩
                (have := LY0.out; have := LP.out; have := LQ.out; have := L4.out; have := L5.out; have := L6.out; have := L7.out; have := HB77.out; omega)
              refine TillAll.cons rfl (fun K hK => ?_) TillAll.nil
              go_simp
              obtain ⟨y154, hnew⟩ : ∃ y154, y154 = y15.alloc (.cells #[.int .i64 0, .slice none 0 0, .slice none 0 0, .int .i64 0, .int .i64 0, .int .i64 0, .slice none 0 0, .slice none 0 0] 27) := ⟨_, rfl⟩
              try rw [← hnew]
              have hbz : Below y15.heap.size y15 y154 := by rw [hnew]; exact (Below.refl _ _).alloc (Nat.le_refl _) _
              have HBy154 := Lib.hid (HBy15.out.trans (hbz.mono HBy15.out.size))
              have ZP := Lib.hid (ZP.out.below hbz (by obtain ⟨_, _, _, h3, _⟩ := ZP.out; exact h3))
              have B5 := Lib.hid (B5.out.below hbz B5.out.lt)
              have B4 : Hid (Blk y154 y15.heap.size 27 #[.int .i64 0, .slice none 0 0, .slice none 0 0, .int .i64 0, .int .i64 0, .int .i64 0, .slice none 0 0, .slice none 0 0]) := Lib.hid (by rw [hnew]; exact Blk.new y15 _ _)
              have L4 : Hid (y154.heap.size = y15.heap.size + 1) := Lib.hid (by rw [hnew]; simp)
              clear hnew hbz
              (refine hK.out _ _ (fun _ => onceS_of HBT.out HBy154.out) ?_; clear hK K)
              refine till_ready (rs := [3]) (by kernel_rfl) (by simp) ?_
              refine TillAll.cons rfl (fun K hK => ?_) TillAll.nil
              go_simp
              go_wp2_with (go_at_call 9; refine (CT.out y154 (HX.out y154 HBy154.out)).mono ?_; rintro e y1543 ⟨ak, akk, ats, ac, rfl, hm, hbz⟩; obtain ⟨Qk, Qkn, rfl, _, _⟩ := hm.tab.keys.slice; obtain ⟨Qkk, Qkkn, rfl, _, _⟩ := hm.tab.kinds.slice; obtain ⟨Qs, Qsn, rfl, _, _⟩ := hm.tab.states.slice; obtain ⟨Qc, Qcn, rfl, _, _⟩ := hm.tab.codes.slice)
              have ZQ := Lib.hid (TwinZ.new hm)
              have LQ : Hid (y154.heap.size ≤ y1543.heap.size) := Lib.hid hbz.size
              have HBy1543 := Lib.hid (HBy154.out.trans (hbz.mono HBy154.out.size))
              have ZP := Lib.hid (ZP.out.below hbz (by obtain ⟨_, _, _, h3, _⟩ := ZP.out; exact h3))
              have B4 := Lib.hid (B4.out.below hbz B4.out.lt)
              have B5 := Lib.hid (B5.out.below hbz B5.out.lt)
              clear hm hbz
              (refine hK.out _ _ (fun _ => onceS_of HBT.out HBy1543.out) ?_; clear hK K)
              refine till_ready (rs := [6]) (by kernel_rfl) (by simp) ?_
              refine TillAll.cons rfl (fun K hK => ?_) TillAll.nil
              obtain ⟨z0, z1, z2, z3, z4, z5, z6, z7⟩ := blk8 B4.out
              have f0 := B4.out.frozen 0
              have f1 := B4.out.frozen 1
              have f2 := B4.out.frozen 2
              have f3 := B4.out.frozen 3
              have f4 := B4.out.frozen 4
              have f5 := B4.out.frozen 5
              have f6 := B4.out.frozen 6
              have f7 := B4.out.frozen 7
              go_simp
              clear z0 z1 z2 z3 z4 z5 z6 z7 f0 f1 f2 f3 f4 f5 f6 f7
              obtain ⟨y15436, hnew⟩ : ∃ y15436, y15436 = set8 y1543 y15.heap.size (.int .i64 T0.strategy) (.slice Pk T0.keys.length Pkn) (.slice Pkk T0.kinds.length Pkkn) (.int .i64 T0.syms) (.int .i64 T0.runs) (.int .i64 T0.cells) (.slice Ps T0.states.length Psn) (.slice Pc T0.codes.length Pcn) := ⟨_, rfl⟩
              have hnew2 := hnew
              unfold set8 at hnew2
              try rw [← hnew2]
              clear hnew2
              have N4 := Lib.hid (show Blk y15436 y15.heap.size 27 #[.int .i64 T0.strategy, .slice Pk T0.keys.length Pkn, .slice Pkk T0.kinds.length Pkkn, .int .i64 T0.syms, .int .i64 T0.runs, .int .i64 T0.cells, .slice Ps T0.states.length Psn, .slice Pc T0.codes.length Pcn] by rw [hnew]; exact B4.out.set8 _ _ _ _ _ _ _ _)
              have B5 := Lib.hid (show Blk y15436 _ 27 _ by rw [hnew]; exact B5.out.far8 (by have := LP.out; have := LQ.out; have := L4.out; have := L5.out; omega) _ _ _ _ _ _ _ _)
              have ZP := Lib.hid (show TwinZ y15436 _ _ T0 _ _ _ _ by rw [hnew]; exact ZP.out.set8 (by have := LP.out; have := LQ.out; have := L4.out; have := L5.out; omega) _ _ _ _ _ _ _ _)
              have ZQ := Lib.hid (show TwinZ y15436 _ _ T0 _ _ _ _ by rw [hnew]; exact ZQ.out.set8 (by have := LP.out; have := LQ.out; have := L4.out; have := L5.out; omega) _ _ _ _ _ _ _ _)
              have HBy15436 := Lib.hid (show Below W1.heap.size W1 y15436 by rw [hnew]; exact below_set8 HBy1543.out (by have := LY0.out; have := HB77.out; have := LP.out; have := LQ.out; have := L4.out; have := L5.out; omega) _ _ _ _ _ _ _ _)
              have L6 : Hid (y15436.heap.size = y1543.heap.size) := Lib.hid (by rw [hnew]; exact size_set8 _ _ _ _ _ _ _ _ _ _)
              clear hnew
              (refine hK.out _ _ (fun _ => onceS_of HBT.out HBy15436.out) ?_; clear hK K)
              refine till_ready (rs := [7]) (by kernel_rfl) (by simp) ?_
              refine TillAll.cons rfl (fun K hK => ?_) TillAll.nil
              obtain ⟨z0, z1, z2, z3, z4, z5, z6, z7⟩ := blk8 B5.out
              have f0 := B5.out.frozen 0
              have f1 := B5.out.frozen 1
              have f2 := B5.out.frozen 2
              have f3 := B5.out.frozen 3
              have f4 := B5.out.frozen 4
              have f5 := B5.out.frozen 5
              have f6 := B5.out.frozen 6
              have f7 := B5.out.frozen 7
              go_simp
              clear z0 z1 z2 z3 z4 z5 z6 z7 f0 f1 f2 f3 f4 f5 f6 f7
              obtain ⟨y154367, hnew⟩ : ∃ y154367, y154367 = set8 y15436 y1.heap.size (.int .i64 T0.strategy) (.slice Qk T0.keys.length Qkn) (.slice Qkk T0.kinds.length Qkkn) (.int .i64 T0.syms) (.int .i64 T0.runs) (.int .i64 T0.cells) (.slice Qs T0.states.length Qsn) (.slice Qc T0.codes.length Qcn) := ⟨_, rfl⟩
              have hnew2 := hnew
              unfold set8 at hnew2
              try rw [← hnew2]
              clear hnew2
              have N5 := Lib.hid (show Blk y154367 y1.heap.size 27 #[.int .i64 T0.strategy, .slice Qk T0.keys.length Qkn, .slice Qkk T0.kinds.length Qkkn, .int .i64 T0.syms, .int .i64 T0.runs, .int .i64 T0.cells, .slice Qs T0.states.length Qsn, .slice Qc T0.codes.length Qcn] by rw [hnew]; exact B5.out.set8 _ _ _ _ _ _ _ _)
              have N4 := Lib.hid (show Blk y154367 _ 27 _ by rw [hnew]; exact N4.out.far8 (by have := LP.out; have := LQ.out; have := L4.out; have := L5.out; omega) _ _ _ _ _ _ _ _)
              have ZP := Lib.hid (show TwinZ y154367 _ _ T0 _ _ _ _ by rw [hnew]; exact ZP.out.set8 (by have := LP.out; have := LQ.out; have := L4.out; have := L5.out; omega) _ _ _ _ _ _ _ _)
              have ZQ := Lib.hid (show TwinZ y154367 _ _ T0 _ _ _ _ by rw [hnew]; exact ZQ.out.set8 (by have := LP.out; have := LQ.out; have := L4.out; have := L5.out; omega) _ _ _ _ _ _ _ _)
              have HBy154367 := Lib.hid (show Below W1.heap.size W1 y154367 by rw [hnew]; exact below_set8 HBy15436.out (by have := LY0.out; have := HB77.out; have := LP.out; have := LQ.out; have := L4.out; have := L5.out; omega) _ _ _ _ _ _ _ _)
              have L7 : Hid (y154367.heap.size = y15436.heap.size) := Lib.hid (by rw [hnew]; exact size_set8 _ _ _ _ _ _ _ _ _ _)
              clear hnew
              (refine hK.out _ _ (fun h => absurd h (by decide)) ?_; clear hK K)
              refine till_done (by kernel_rfl) ?_ _
              go_simp
              go_wp2_with fail
              go_meet
              refine ⟨_, _, rfl, rfl, _, _, _, _, _, _, _, _, _, _, _, _, ZP.out, ZQ.out, N4.out, N5.out, ?_, HBy154367.out⟩
              (have := LY0.out; have := LP.out; have := LQ.out; have := L4.out; have := L5.out; have := L6.out; have := L7.out; have := HB77.out; omega)
            refine TillAll.cons rfl (fun K hK => ?_) ?_
            · skip
              go_simp
              obtain ⟨y4, hnew⟩ : ∃ y4, y4 = y0.alloc (.cells #[.int .i64 0, .slice none 0 0, .slice none 0 0, .int .i64 0, .int .i64 0, .int .i64 0, .slice none 0 0, .slice none 0 0] 27) := ⟨_, rfl⟩
              try rw [← hnew]
              have hbz : Below y0.heap.size y0 y4 := by rw [hnew]; exact (Below.refl _ _).alloc (Nat.le_refl _) _
              have HBy4 := Lib.hid (HBy0.out.trans (hbz.mono HBy0.out.size))
              have B4 : Hid (Blk y4 y0.heap.size 27 #[.int .i64 0, .slice none 0 0, .slice none 0 0, .int .i64 0, .int .i64 0, .int .i64 0, .slice none 0 0, .slice none 0 0]) := Lib.hid (by rw [hnew]; exact Blk.new y0 _ _)
              have L4 : Hid (y4.heap.size = y0.heap.size + 1) := Lib.hid (by rw [hnew]; simp)
              clear hnew hbz
              (refine hK.out _ _ (fun _ => onceS_of HBT.out HBy4.out) ?_; clear hK K)
              refine till_ready (rs := [1, 5]) (by kernel_rfl) (by simp) ?_
              refine TillAll.cons rfl (fun K hK => ?_) ?_
              · skip
                go_simp
                go_wp2_with (go_at_call 9; refine (CT.out y4 (HX.out y4 HBy4.out)).mono ?_; rintro e y41 ⟨ak, akk, ats, ac, rfl, hm, hbz⟩; obtain ⟨Pk, Pkn, rfl, _, _⟩ := hm.tab.keys.slice; obtain ⟨Pkk, Pkkn, rfl, _, _⟩ := hm.tab.kinds.slice; obtain ⟨Ps, Psn, rfl, _, _⟩ := hm.tab.states.slice; obtain ⟨Pc, Pcn, rfl, _, _⟩ := hm.tab.codes.slice)
                have ZP := Lib.hid (TwinZ.new hm)
                have LP : Hid (y4.heap.size ≤ y41.heap.size) := Lib.hid hbz.size
                have HBy41 := Lib.hid (HBy4.out.trans (hbz.mono HBy4.out.size))
                have B4 := Lib.hid (B4.out.below hbz B4.out.lt)
                clear hm hbz
                (refine hK.out _ _ (fun _ => onceS_of HBT.out HBy41.out) ?_; clear hK K)
                refine till_ready (rs := [3, 5]) (by kernel_rfl) (by simp) ?_
                refine TillAll.cons rfl (fun K hK => ?_) ?_
                · skip
                  go_simp
                  go_wp2_with (go_at_call 9; refine (CT.out y41 (HX.out y41 HBy41.out)).mono ?_; rintro e y413 ⟨ak, akk, ats, ac, rfl, hm, hbz⟩; obtain ⟨Qk, Qkn, rfl, _, _⟩ := hm.tab.keys.slice; obtain ⟨Qkk, Qkkn, rfl, _, _⟩ := hm.tab.kinds.slice; obtain ⟨Qs, Qsn, rfl, _, _⟩ := hm.tab.states.slice; obtain ⟨Qc, Qcn, rfl, _, _⟩ := hm.tab.codes.slice)
                  have ZQ := Lib.hid (TwinZ.new hm)
                  have LQ : Hid (y41.heap.size ≤ y413.heap.size) := Lib.hid hbz.size
                  have HBy413 := Lib.hid (HBy41.out.trans (hbz.mono HBy41.out.size))
                  have ZP := Lib.hid (ZP.out.below hbz (by obtain ⟨_, _, _, h3, _⟩ := ZP.out; exact h3))
                  have B4 := Lib.hid (B4.out.below hbz B4.out.lt)
                  clear hm hbz
                  (refine hK.out _ _ (fun _ => onceS_of HBT.out HBy413.out) ?_; clear hK K)
                  refine till_ready (rs := [5]) (by kernel_rfl) (by simp) ?_
                  refine TillAll.cons rfl (fun K hK => ?_) TillAll.nil
                  go_simp
                  obtain ⟨y4135, hnew⟩ : ∃ y4135, y4135 = y413.alloc (.cells #[.int .i64 0, .slice none 0 0, .slice none 0 0, .int .i64 0, .int .i64 0, .int .i64 0, .slice none 0 0, .slice none 0 0] 27) := ⟨_, rfl⟩
                  try rw [← hnew]
                  have hbz : Below y413.heap.size y413 y4135 := by rw [hnew]; exact (Below.refl _ _).alloc (Nat.le_refl _) _
                  have HBy4135 := Lib.hid (HBy413.out.trans (hbz.mono HBy413.out.size))
                  have ZP := Lib.hid (ZP.out.below hbz (by obtain ⟨_, _, _, h3, _⟩ := ZP.out; exact h3))
                  have ZQ := Lib.hid (ZQ.out.below hbz (by obtain ⟨_, _, _, h3, _⟩ := ZQ.out; exact h3))
                  have B4 := Lib.hid (B4.out.below hbz B4.out.lt)
                  have B5 : Hid (Blk y4135 y413.heap.size 27 #[.int .i64 0, .slice none 0 0, .slice none 0 0, .int .i64 0, .int .i64 0, .int .i64 0, .slice none 0 0, .slice none 0 0]) := Lib.hid (by rw [hnew]; exact Blk.new y413 _ _)
                  have L5 : Hid (y4135.heap.size = y413.heap.size + 1) := Lib.hid (by rw [hnew]; simp)
                  clear hnew hbz
                  (refine hK.out _ _ (fun _ => onceS_of HBT.out HBy4135.out) ?_; clear hK K)
                  refine till_ready (rs := [6]) (by kernel_rfl) (by simp) ?_
                  refine TillAll.cons rfl (fun K hK => ?_) TillAll.nil
                  obtain ⟨z0, z1, z2, z3, z4, z5, z6, z7⟩ := blk8 B4.out
                  have f0 := B4.out.frozen 0
                  have f1 := B4.out.frozen 1
                  have f2 := B4.out.frozen 2
                  have f3 := B4.out.frozen 3
                  have f4 := B4.out.frozen 4
                  have f5 := B4.out.frozen 5
                  have f6 := B4.out.frozen 6
                  have f7 := B4.out.frozen 7
                  go_simp
                  clear z0 z1 z2 z3 z4 z5 z6 z7 f0 f1 f2 f3 f4 f5 f6 f7
                  obtain ⟨y41356, hnew⟩ : ∃ y41356, y41356 = set8 y4135 y0.heap.size (.int .i64 T0.strategy) (.slice Pk T0.keys.length Pkn) (.slice Pkk T0.kinds.length Pkkn) (.int .i64 T0.syms) (.int .i64 T0.runs) (.int .i64 T0.cells) (.slice Ps T0.states.length Psn) (.slice Pc T0.codes.length Pcn) := ⟨_, rfl⟩
                  have hnew2 := hnew
                  unfold set8 at hnew2
                  try rw [← hnew2]
                  clear hnew2
                  have N4 := Lib.hid (show Blk y41356 y0.heap.size 27 #[.int .i64 T0.strategy, .slice Pk T0.keys.length Pkn, .slice Pkk T0.kinds.length Pkkn, .int .i64 T0.syms, .int .i64 T0.runs, .int .i64 T0.cells, .slice Ps T0.states.length Psn, .slice Pc T0.codes.length Pcn] by rw [hnew]; exact B4.out.set8 _ _ _ _ _ _ _ _)
                  have B5 := Lib.hid (show Blk y41356 _ 27 _ by rw [hnew]; exact B5.out.far8 (by have := LP.out; have := LQ.out; have := L4.out; have := L5.out; omega) _ _ _ _ _ _ _ _)
                  have ZP := Lib.hid (show TwinZ y41356 _ _ T0 _ _ _ _ by rw [hnew]; exact ZP.out.set8 (by have := LP.out; have := LQ.out; have := L4.out; have := L5.out; omega) _ _ _ _ _ _ _ _)
                  have ZQ := Lib.hid (show TwinZ y41356 _ _ T0 _ _ _ _ by rw [hnew]; exact ZQ.out.set8 (by have := LP.out; have := LQ.out; have := L4.out; have := L5.out; omega) _ _ _ _ _ _ _ _)
                  have HBy41356 := Lib.hid (show Below W1.heap.size W1 y41356 by rw [hnew]; exact below_set8 HBy4135.out (by have := LY0.out; have := HB77.out; have := LP.out; have := LQ.out; have := L4.out; have := L5.out; omega) _ _ _ _ _ _ _ _)
                  have L6 : Hid (y41356.heap.size = y4135.heap.size) := Lib.hid (by rw [hnew]; exact size_set8 _ _ _ _ _ _ _ _ _ _)
                  clear hnew
                  (refine hK.out _ _ (fun _ => onceS_of HBT.out HBy41356.out) ?_; clear hK K)
                  refine till_ready (rs := [7]) (by kernel_rfl) (by simp) ?_
                  refine TillAll.cons rfl (fun K hK => ?_) TillAll.nil
                  obtain ⟨z0, z1, z2, z3, z4, z5, z6, z7⟩ := blk8 B5.out
                  have f0 := B5.out.frozen 0
                  have f1 := B5.out.frozen 1
                  have f2 := B5.out.frozen 2
                  have f3 := B5.out.frozen 3
                  have f4 := B5.out.frozen 4
                  have f5 := B5.out.frozen 5
                  have f6 := B5.out.frozen 6
                  have f7 := B5.out.frozen 7
                  go_simp
                  clear z0 z1 z2 z3 z4 z5 z6 z7 f0 f1 f2 f3 f4 f5 f6 f7
                  obtain ⟨y413567, hnew⟩ : ∃ y413567, y413567 = set8 y41356 y413.heap.size (.int .i64 T0.strategy) (.slice Qk T0.keys.length Qkn) (.slice Qkk T0.kinds.length Qkkn) (.int .i64 T0.syms) (.int .i64 T0.runs) (.int .i64 T0.cells) (.slice Qs T0.states.length Qsn) (.slice Qc T0.codes.length Qcn) := ⟨_, rfl⟩
                  have hnew2 := hnew
                  unfold set8 at hnew2
                  try rw [← hnew2]
                  clear hnew2
                  have N5 := Lib.hid (show Blk y413567 y413.heap.size 27 #[.int .i64 T0.strategy, .slice Qk T0.keys.length Qkn, .slice Qkk T0.kinds.length Qkkn, .int .i64 T0.syms, .int .i64 T0.runs, .int .i64 T0.cells, .slice Qs T0.states.length Qsn, .slice Qc T0.codes.length Qcn] by rw [hnew]; exact B5.out.set8 _ _ _ _ _ _ _ _)
                  have N4 := Lib.hid (show Blk y413567 _ 27 _ by rw [hnew]; exact N4.out.far8 (by have := LP.out; have := LQ.out; have := L4.out; have := L5.out; omega) _ _ _ _ _ _ _ _)
                  have ZP := Lib.hid (show TwinZ y413567 _ _ T0 _ _ _ _ by rw [hnew]; exact ZP.out.set8 (by have := LP.out; have := LQ.out; have := L4.out; have := L5.out; omega) _ _ _ _ _ _ _ _)
                  have ZQ := Lib.hid (show TwinZ y413567 _ _ T0 _ _ _ _ by rw [hnew]; exact ZQ.out.set8 (by have := LP.out; have := LQ.out; have := L4.out; have := L5.out; omega) _ _ _ _ _ _ _ _)
                  have HBy413567 := Lib.hid (show Below W1.heap.size W1 y413567 by rw [hnew]; exact below_set8 HBy41356.out (by have := LY0.out; have := HB77.out; have := LP.out; have := LQ.out; have := L4.out; have := L5.out; omega) _ _ _ _ _ _ _ _)
                  have L7 : Hid (y413567.heap.size = y41356.heap.size) := Lib.hid (by rw [hnew]; exact size_set8 _ _ _ _ _ _ _ _ _ _)
                  clear hnew
                  (refine hK.out _ _ (fun h => absurd h (by decide)) ?_; clear hK K)
                  refine till_done (by kernel_rfl) ?_ _
                  go_simp
                  go_wp2_with fail
                  go_meet
                  refine ⟨_, _, rfl, rfl, _, _, _, _, _, _, _, _, _, _, _, _, ZP.out, ZQ.out, N4.out, N5.out, ?_, HBy413567.out⟩
                  (have := LY0.out; have := LP.out; have := LQ.out; have := L4.out; have := L5.out; have := L6.out; have := L7.out; have := HB77.out; omega)
                refine TillAll.cons rfl (fun K hK => ?_) TillAll.nil
                go_simp
                obtain ⟨y415, hnew⟩ : ∃ y415, y415 = y41.alloc (.cells #[.int .i64 0, .slice none 0 0, .slice none 0 0, .int .i64 0, .int .i64 0, .int .i64 0, .slice none 0 0, .slice none 0 0] 27) := ⟨_, rfl⟩
                try rw [← hnew]
                have hbz : Below y41.heap.size y41 y415 := by rw [hnew]; exact (Below.refl _ _).alloc (Nat.le_refl _) _
                have HBy415 := Lib.hid (HBy41.out.trans (hbz.mono HBy41.out.size))
                have ZP := Lib.hid (ZP.out.below hbz (by obtain ⟨_, _, _, h3, _⟩ := ZP.out; exact h3))
                have B4 := Lib.hid (B4.out.below hbz B4.out.lt)
                have B5 : Hid (Blk y415 y41.heap.size 27 #[.int .i64 0, .slice none 0 0, .slice none 0 0, .int .i64 0, .int .i64 0, .int .i64 0, .slice none 0 0, .slice none 0 0]) := Lib.hid (by rw [hnew]; exact Blk.new y41 _ _)
                have L5 : Hid (y415.heap.size = y41.heap.size + 1) := Lib.hid (by rw [hnew]; simp)
                clear hnew hbz
                (refine hK.out _ _ (fun _ => onceS_of HBT.out HBy415.out) ?_; clear hK K)
                refine till_ready (rs := [3]) (by kernel_rfl) (by simp) ?_
                refine TillAll.cons rfl (fun K hK => ?_) TillAll.nil
                go_simp
                go_wp2_with (go_at_call 9; refine (CT.out y415 (HX.out y415 HBy415.out)).mono ?_; rintro e y4153 ⟨ak, akk, ats, ac, rfl, hm, hbz⟩; obtain ⟨Qk, Qkn, rfl, _, _⟩ := hm.tab.keys.slice; obtain ⟨Qkk, Qkkn, rfl, _, _⟩ := hm.tab.kinds.slice; obtain ⟨Qs, Qsn, rfl, _, _⟩ := hm.tab.states.slice; obtain ⟨Qc, Qcn, rfl, _, _⟩ := hm.tab.codes.slice)
                have ZQ := Lib.hid (TwinZ.new hm)
                have LQ : Hid (y415.heap.size ≤ y4153.heap.size) := Lib.hid hbz.size
                have HBy4153 := Lib.hid (HBy415.out.trans (hbz.mono HBy415.out.size))
                have ZP := Lib.hid (ZP.out.below hbz (by obtain ⟨_, _, _, h3, _⟩ := ZP.out; exact h3))
                have B4 := Lib.hid (B4.out.below hbz B4.out.lt)
                have B5 := Lib.hid (B5.out.below hbz B5.out.lt)
                clear hm hbz
                (refine hK.out _ _ (fun _ => onceS_of HBT.out HBy4153.out) ?_; clear hK K)
                refine till_ready (rs := [6]) (by kernel_rfl) (by simp) ?_
                refine TillAll.cons rfl (fun K hK => ?_) TillAll.nil
                obtain ⟨z0, z1, z2, z3, z4, z5, z6, z7⟩ := blk8 B4.out
                have f0 := B4.out.frozen 0
                have f1 := B4.out.frozen 1
                have f2 := B4.out.frozen 2
                have f3 := B4.out.frozen 3
                have f4 := B4.out.frozen 4
                have f5 := B4.out.frozen 5
                have f6 := B4.out.frozen 6
                have f7 := B4.out.frozen 7
                go_simp
                clear z0 z1 z2 z3 z4 z5 z6 z7 f0 f1 f2 f3 f4 f5 f6 f7
                obtain ⟨y41536, hnew⟩ : ∃ y41536, y41536 = set8 y4153 y0.heap.size (.int .i64 T0.strategy) (.slice Pk T0.keys.length Pkn) (.slice Pkk T0.kinds.length Pkkn) (.int .i64 T0.syms) (.int .i64 T0.runs) (.int .i64 T0.cells) (.slice Ps T0.states.length Psn) (.slice Pc T0.codes.length Pcn) := ⟨_, rfl⟩
                have hnew2 := hnew
                unfold set8 at hnew2
                try rw [← hnew2]
                clear hnew2
                have N4 := Lib.hid (show Blk y41536 y0.heap.size 27 #[.int .i64 T0.strategy, .slice Pk T0.keys.length Pkn, .slice Pkk T0.kinds.length Pkkn, .int .i64 T0.syms, .int .i64 T0.runs, .int .i64 T0.cells, .slice Ps T0.states.length Psn, .slice Pc T0.codes.length Pcn] by rw [hnew]; exact B4.out.set8 _ _ _ _ _ _ _ _)
                have B5 := Lib.hid (show Blk y41536 _ 27 _ by rw [hnew]; exact B5.out.far8 (by have := LP.out; have := LQ.out; have := L4.out; have := L5.out; omega) _ _ _ _ _ _ _ _)
                have ZP := Lib.hid (show TwinZ y41536 _ _ T0 _ _ _ _ by rw [hnew]; exact ZP.out.set8 (by have := LP.out; have := LQ.out; have := L4.out; have := L5.out; omega) _ _ _ _ _ _ _ _)
                have ZQ := Lib.hid (show TwinZ y41536 _ _ T0 _ _ _ _ by rw [hnew]; exact ZQ.out.set8 (by have := LP.out; have := LQ.out; have := L4.out; have := L5.out; omega) _ _ _ _ _ _ _ _)
                have HBy41536 := Lib.hid (show Below W1.heap.size W1 y41536 by rw [hnew]; exact below_set8 HBy4153.out (by have := LY0.out; have := HB77.out; have := LP.out; have := LQ.out; have := L4.out; have := L5.out; omega) _ _ _ _ _ _ _ _)
                have L6 : Hid (y41536.heap.size = y4153.heap.size) := Lib.hid (by rw [hnew]; exact size_set8 _ _ _ _ _ _ _ _ _ _)
                clear hnew
                (refine hK.out _ _ (fun _ => onceS_of HBT.out HBy41536.out) ?_; clear hK K)
                refine till_ready (rs := [7]) (by kernel_rfl) (by simp) ?_
                refine TillAll.cons rfl (fun K hK => ?_) TillAll.nil
                obtain ⟨z0, z1, z2, z3, z4, z5, z6, z7⟩ := blk8 B5.out
                have f0 := B5.out.frozen 0
                have f1 := B5.out.frozen 1
                have f2 := B5.out.frozen 2
                have f3 := B5.out.frozen 3
                have f4 := B5.out.frozen 4
                have f5 := B5.out.frozen 5
                have f6 := B5.out.frozen 6
                have f7 := B5.out.frozen 7
                go_simp
                clear z0 z1 z2 z3 z4 z5 z6 z7 f0 f1 f2 f3 f4 f5 f6 f7
                obtain ⟨y415367, hnew⟩ : ∃ y415367, y415367 = set8 y41536 y41.heap.size (.int .i64 T0.strategy) (.slice Qk T0.keys.length Qkn) (.slice Qkk T0.kinds.length Qkkn) (.int .i64 T0.syms) (.int .i64 T0.runs) (.int .i64 T0.cells) (.slice Qs T0.states.length Qsn) (.slice Qc T0.codes.length Qcn) := ⟨_, rfl⟩
                have hnew2 := hnew
                unfold set8 at hnew2
                try rw [← hnew2]
                clear hnew2
                have N5 := Lib.hid (show Blk y415367 y41.heap.size 27 #[.int .i64 T0.strategy, .slice Qk T0.keys.length Qkn, .slice Qkk T0.kinds.length Qkkn, .int .i64 T0.syms, .int .i64 T0.runs, .int .i64 T0.cells, .slice Qs T0.states.length Qsn, .slice Qc T0.codes.length Qcn] by rw [hnew]; exact B5.out.set8 _ _ _ _ _ _ _ _)
                have N4 := Lib.hid (show Blk y415367 _ 27 _ by rw [hnew]; exact N4.out.far8 (by have := LP.out; have := LQ.out; have := L4.out; have := L5.out; omega) _ _ _ _ _ _ _ _)
                have ZP := Lib.hid (show TwinZ y415367 _ _ T0 _ _ _ _ by rw [hnew]; exact ZP.out.set8 (by have := LP.out; have := LQ.out; have := L4.out; have := L5.out; omega) _ _ _ _ _ _ _ _)
                have ZQ := Lib.hid (show TwinZ y415367 _ _ T0 _ _ _ _ by rw [hnew]; exact ZQ.out.set8 (by have := LP.out; have := LQ.out; have := L4.out; have := L5.out; omega) _ _ _ _ _ _ _ _)
                have HBy415367 := Lib.hid (show Below W1.heap.size W1 y415367 by rw [hnew]; exact below_set8 HBy41536.out (by have := LY0.out; have := HB77.out; have := LP.out; have := LQ.out; have := L4.out; have := L5.out; omega) _ _ _ _ _ _ _ _)
                have L7 : Hid (y415367.heap.size = y41536.heap.size) := Lib.hid (by rw [hnew]; exact size_set8 _ _ _ _ _ _ _ _ _ _)
                clear hnew
                (refine hK.out _ _ (fun h => absurd h (by decide)) ?_; clear hK K)
                refine till_done (by kernel_rfl) ?_ _
                go_simp
                go_wp2_with fail
                go_meet
                refine ⟨_, _, rfl, rfl, _, _, _, _, _, _, _, _, _, _, _, _, ZP.out, ZQ.out, N4.out, N5.out, ?_, HBy415367.out⟩
                (have := LY0.out; have := LP.out; have := LQ.out; have := L4.out; have := L5.out; have := L6.out; have := L7.out; have := HB77.out; omega)
              refine TillAll.cons rfl (fun K hK => ?_) TillAll.nil
              go_simp
              obtain ⟨y45, hnew⟩ : ∃ y45, y45 = y4.alloc (.cells #[.int .i64 0, .slice none 0 0, .slice none 0 0, .int .i64 0, .int .i64 0, .int .i64 0, .slice none 0 0, .slice none 0 0] 27) := ⟨_, rfl⟩
              try rw [← hnew]
              have hbz : Below y4.heap.size y4 y45 := by rw [hnew]; exact (Below.refl _ _).alloc (Nat.le_refl _) _
              have HBy45 := Lib.hid (HBy4.out.trans (hbz.mono HBy4.out.size))
              have B4 := Lib.hid (B4.out.below hbz B4.out.lt)
              have B5 : Hid (Blk y45 y4.heap.size 27 #[.int .i64 0, .slice none 0 0, .slice none 0 0, .int .i64 0, .int .i64 0, .int .i64 0, .slice none 0 0, .slice none 0 0]) := Lib.hid (by rw [hnew]; exact Blk.new y4 _ _)
              have L5 : Hid (y45.heap.size = y4.heap.size + 1) := Lib.hid (by rw [hnew]; simp)
              clear hnew hbz
              (refine hK.out _ _ (fun _ => onceS_of HBT.out HBy45.out) ?_; clear hK K)
              refine till_ready (rs := [1]) (by kernel_rfl) (by simp) ?_
              refine TillAll.cons rfl (fun K hK => ?_) TillAll.nil
              go_simp
              go_wp2_with (go_at_call 9; refine (CT.out y45 (HX.out y45 HBy45.out)).mono ?_; rintro e y451 ⟨ak, akk, ats, ac, rfl, hm, hbz⟩; obtain ⟨Pk, Pkn, rfl, _, _⟩ := hm.tab.keys.slice; obtain ⟨Pkk, Pkkn, rfl, _, _⟩ := hm.tab.kinds.slice; obtain ⟨Ps, Psn, rfl, _, _⟩ := hm.tab.states.slice; obtain ⟨Pc, Pcn, rfl, _, _⟩ := hm.tab.codes.slice)
              have ZP := Lib.hid (TwinZ.new hm)
              have LP : Hid (y45.heap.size ≤ y451.heap.size) := Lib.hid hbz.size
              have HBy451 := Lib.hid (HBy45.out.trans (hbz.mono HBy45.out.size))
              have B4 := Lib.hid (B4.out.below hbz B4.out.lt)
              have B5 := Lib.hid (B5.out.below hbz B5.out.lt)
              clear hm hbz
              (refine hK.out _ _ (fun _ => onceS_of HBT.out HBy451.out) ?_; clear hK K)
              refine till_ready (rs := [3]) (by kernel_rfl) (by simp) ?_
              refine TillAll.cons rfl (fun K hK => ?_) TillAll.nil
              go_simp
              go_wp2_with (go_at_call 9; refine (CT.out y451 (HX.out y451 HBy451.out)).mono ?_; rintro e y4513 ⟨ak, akk, ats, ac, rfl, hm, hbz⟩; obtain ⟨Qk, Qkn, rfl, _, _⟩ := hm.tab.keys.slice; obtain ⟨Qkk, Qkkn, rfl, _, _⟩ := hm.tab.kinds.slice; obtain ⟨Qs, Qsn, rfl, _, _⟩ := hm.tab.states.slice; obtain ⟨Qc, Qcn, rfl, _, _⟩ := hm.tab.codes.slice)
              have ZQ := Lib.hid (TwinZ.new hm)
              have LQ : Hid (y451.heap.size ≤ y4513.heap.size) := Lib.hid hbz.size
              have HBy4513 := Lib.hid (HBy451.out.trans (hbz.mono HBy451.out.size))
              have ZP := Lib.hid (ZP.out.below hbz (by obtain ⟨_, _, _, h3, _⟩ := ZP.out; exact h3))
              have B4 := Lib.hid (B4.out.below hbz B4.out.lt)
              have B5 := Lib.hid (B5.out.below hbz B5.out.lt)
              clear hm hbz
              (refine hK.out _ _ (fun _ => onceS_of HBT.out HBy4513.out) ?_; clear hK K)
              refine till_ready (rs := [6]) (by kernel_rfl) (by simp) ?_
              refine TillAll.cons rfl (fun K hK => ?_) TillAll.nil
              obtain ⟨z0, z1, z2, z3, z4, z5, z6, z7⟩ := blk8 B4.out
              have f0 := B4.out.frozen 0
              have f1 := B4.out.frozen 1
              have f2 := B4.out.frozen 2
              have f3 := B4.out.frozen 3
              have f4 := B4.out.frozen 4
              have f5 := B4.out.frozen 5
              have f6 := B4.out.frozen 6
              have f7 := B4.out.frozen 7
              go_simp
              clear z0 z1 z2 z3 z4 z5 z6 z7 f0 f1 f2 f3 f4 f5 f6 f7
              obtain ⟨y45136, hnew⟩ : ∃ y45136, y45136 = set8 y4513 y0.heap.size (.int .i64 T0.strategy) (.slice Pk T0.keys.length Pkn) (.slice Pkk T0.kinds.length Pkkn) (.int .i64 T0.syms) (.int .i64 T0.runs) (.int .i64 T0.cells) (.slice Ps T0.states.length Psn) (.slice Pc T0.codes.length Pcn) := ⟨_, rfl⟩
              have hnew2 := hnew
              unfold set8 at hnew2
              try rw [← hnew2]
              clear hnew2
              have N4 := Lib.hid (show Blk y45136 y0.heap.size 27 #[.int .i64 T0.strategy, .slice Pk T0.keys.length Pkn, .slice Pkk T0.kinds.length Pkkn, .int .i64 T0.syms, .int .i64 T0.runs, .int .i64 T0.cells, .slice Ps T0.states.length Psn, .slice Pc T0.codes.length Pcn] by rw [hnew]; exact B4.out.set8 _ _ _ _ _ _ _ _)
              have B5 := Lib.hid (show Blk y45136 _ 27 _ by rw [hnew]; exact B5.out.far8 (by have := LP.out; have := LQ.out; have := L4.out; have := L5.out; omega) _ _ _ _ _ _ _ _)
              have ZP := Lib.hid (show TwinZ y45136 _ _ T0 _ _ _ _ by rw [hnew]; exact ZP.out.set8 (by have := LP.out; have := LQ.out; have := L4.out; have := L5.out; omega) _ _ _ _ _ _ _ _)
              have ZQ := Lib.hid (show TwinZ y45136 _ _ T0 _ _ _ _ by rw [hnew]; exact ZQ.out.set8 (by have := LP.out; have := LQ.out; have := L4.out; have := L5.out; omega) _ _ _ _ _ _ _ _)
              have HBy45136 := Lib.hid (show Below W1.heap.size W1 y45136 by rw [hnew]; exact below_set8 HBy4513.out (by have := LY0.out; have := HB77.out; have := LP.out; have := LQ.out; have := L4.out; have := L5.out; omega) _ _ _ _ _ _ _ _)
              have L6 : Hid (y45136.heap.size = y4513.heap.size) := Lib.hid (by rw [hnew]; exact size_set8 _ _ _ _ _ _ _ _ _ _)
              clear hnew
              (refine hK.out _ _ (fun _ => onceS_of HBT.out HBy45136.out) ?_; clear hK K)
              refine till_ready (rs := [7]) (by kernel_rfl) (by simp) ?_
              refine TillAll.cons rfl (fun K hK => ?_) TillAll.nil
              obtain ⟨z0, z1, z2, z3, z4, z5, z6, z7⟩ := blk8 B5.out
              have f0 := B5.out.frozen 0
              have f1 := B5.out.frozen 1
              have f2 := B5.out.frozen 2
              have f3 := B5.out.frozen 3
              have f4 := B5.out.frozen 4
              have f5 := B5.out.frozen 5
              have f6 := B5.out.frozen 6
              have f7 := B5.out.frozen 7
              go_simp
              clear z0 z1 z2 z3 z4 z5 z6 z7 f0 f1 f2 f3 f4 f5 f6 f7
              obtain ⟨y451367, hnew⟩ : ∃ y451367, y451367 = set8 y45136 y4.heap.size (.int .i64 T0.strategy) (.slice Qk T0.keys.length Qkn) (.slice Qkk T0.kinds.length Qkkn) (.int .i64 T0.syms) (.int .i64 T0.runs) (.int .i64 T0.cells) (.slice Qs T0.states.length Qsn) (.slice Qc T0.codes.length Qcn) := ⟨_, rfl⟩
              have hnew2 := hnew
              unfold set8 at hnew2
              try rw [← hnew2]
              clear hnew2
              have N5 := Lib.hid (show Blk y451367 y4.heap.size 27 #[.int .i64 T0.strategy, .slice Qk T0.keys.length Qkn, .slice Qkk T0.kinds.length Qkkn, .int .i64 T0.syms, .int .i64 T0.runs, .int .i64 T0.cells, .slice Qs T0.states.length Qsn, .slice Qc T0.codes.length Qcn] by rw [hnew]; exact B5.out.set8 _ _ _ _ _ _ _ _)
              have N4 := Lib.hid (show Blk y451367 _ 27 _ by rw [hnew]; exact N4.out.far8 (by have := LP.out; have := LQ.out; have := L4.out; have := L5.out; omega) _ _ _ _ _ _ _ _)
              have ZP := Lib.hid (show TwinZ y451367 _ _ T0 _ _ _ _ by rw [hnew]; exact ZP.out.set8 (by have := LP.out; have := LQ.out; have := L4.out; have := L5.out; omega) _ _ _ _ _ _ _ _)
              have ZQ := Lib.hid (show TwinZ y451367 _ _ T0 _ _ _ _ by rw [hnew]; exact ZQ.out.set8 (by have := LP.out; have := LQ.out; have := L4.out; have := L5.out; omega) _ _ _ _ _ _ _ _)
              have HBy451367 := Lib.hid (show Below W1.heap.size W1 y451367 by rw [hnew]; exact below_set8 HBy45136.out (by have := LY0.out; have := HB77.out; have := LP.out; have := LQ.out; have := L4.out; have := L5.out; omega) _ _ _ _ _ _ _ _)
              have L7 : Hid (y451367.heap.size = y45136.heap.size) := Lib.hid (by rw [hnew]; exact size_set8 _ _ _ _ _ _ _ _ _ _)
              clear hnew
              (refine hK.out _ _ (fun h => absurd h (by decide)) ?_; clear hK K)
              refine till_done (by kernel_rfl) ?_ _
              go_simp
              go_wp2_with fail
              go_meet
              refine ⟨_, _, rfl, rfl, _, _, _, _, _, _, _, _, _, _, _, _, ZP.out, ZQ.out, N4.out, N5.out, ?_, HBy451367.out⟩
              (have := LY0.out; have := LP.out; have := LQ.out; have := L4.out; have := L5.out; have := L6.out; have := L7.out; have := HB77.out; omega)
            refine TillAll.cons rfl (fun K hK => ?_) TillAll.nil
            go_simp
            obtain ⟨y5, hnew⟩ : ∃ y5, y5 = y0.alloc (.cells #[.int .i64 0, .slice none 0 0, .slice none 0 0, .int .i64 0, .int .i64 0, .int .i64 0, .slice none 0 0, .slice none 0 0] 27) := ⟨_, rfl⟩
            try rw [← hnew]
            have hbz : Below y0.heap.size y0 y5 := by rw [hnew]; exact (Below.refl _ _).alloc (Nat.le_refl _) _
            have HBy5 := Lib.hid (HBy0.out.trans (hbz.mono HBy0.out.size))
            have B5 : Hid (Blk y5 y0.heap.size 27 #[.int .i64 0, .slice none 0 0, .slice none 0 0, .int .i64 0, .int .i64 0, .int .i64 0, .slice none 0 0, .slice none 0 0]) := Lib.hid (by rw [hnew]; exact Blk.new y0 _ _)
            have L5 : Hid (y5.heap.size = y0.heap.size + 1) := Lib.hid (by rw [hnew]; simp)
            clear hnew hbz
            (refine hK.out _ _ (fun _ => onceS_of HBT.out HBy5.out) ?_; clear hK K)
            refine till_ready (rs := [1, 4]) (by kernel_rfl) (by simp) ?_
            refine TillAll.cons rfl (fun K hK => ?_) ?_
            · skip
              go_simp
              go_wp2_with (go_at_call 9; refine (CT.out y5 (HX.out y5 HBy5.out)).mono ?_; rintro e y51 ⟨ak, akk, ats, ac, rfl, hm, hbz⟩; obtain ⟨Pk, Pkn, rfl, _, _⟩ := hm.tab.keys.slice; obtain ⟨Pkk, Pkkn, rfl, _, _⟩ := hm.tab.kinds.slice; obtain ⟨Ps, Psn, rfl, _, _⟩ := hm.tab.states.slice; obtain ⟨Pc, Pcn, rfl, _, _⟩ := hm.tab.codes.slice)
              have ZP := Lib.hid (TwinZ.new hm)
              have LP : Hid (y5.heap.size ≤ y51.heap.size) := Lib.hid hbz.size
              have HBy51 := Lib.hid (HBy5.out.trans (hbz.mono HBy5.out.size))
              have B5 := Lib.hid (B5.out.below hbz B5.out.lt)
              clear hm hbz
              (refine hK.out _ _ (fun _ => onceS_of HBT.out HBy51.out) ?_; clear hK K)
              refine till_ready (rs := [3, 4]) (by kernel_rfl) (by simp) ?_
              refine TillAll.cons rfl (fun K hK => ?_) ?_
              · skip
                go_simp
                go_wp2_with (go_at_call 9; refine (CT.out y51 (HX.out y51 HBy51.out)).mono ?_; rintro e y513 ⟨ak, akk, ats, ac, rfl, hm, hbz⟩; obtain ⟨Qk, Qkn, rfl, _, _⟩ := hm.tab.keys.slice; obtain ⟨Qkk, Qkkn, rfl, _, _⟩ := hm.tab.kinds.slice; obtain ⟨Qs, Qsn, rfl, _, _⟩ := hm.tab.states.slice; obtain ⟨Qc, Qcn, rfl, _, _⟩ := hm.tab.codes.slice)
                have ZQ := Lib.hid (TwinZ.new hm)
                have LQ : Hid (y51.heap.size ≤ y513.heap.size) := Lib.hid hbz.size
                have HBy513 := Lib.hid (HBy51.out.trans (hbz.mono HBy51.out.size))
                have ZP := Lib.hid (ZP.out.below hbz (by obtain ⟨_, _, _, h3, _⟩ := ZP.out; exact h3))
                have B5 := Lib.hid (B5.out.below hbz B5.out.lt)
                clear hm hbz
                (refine hK.out _ _ (fun _ => onceS_of HBT.out HBy513.out) ?_; clear hK K)
                refine till_ready (rs := [4]) (by kernel_rfl) (by simp) ?_
                refine TillAll.cons rfl (fun K hK => ?_) TillAll.nil
                go_simp
                obtain ⟨y5134, hnew⟩ : ∃ y5134, y5134 = y513.alloc (.cells #[.int .i64 0, .slice none 0 0, .slice none 0 0, .int .i64 0, .int .i64 0, .int .i64 0, .slice none 0 0, .slice none 0 0] 27) := ⟨_, rfl⟩
                try rw [← hnew]
                have hbz : Below y513.heap.size y513 y5134 := by rw [hnew]; exact (Below.refl _ _).alloc (Nat.le_refl _) _
                have HBy5134 := Lib.hid (HBy513.out.trans (hbz.mono HBy513.out.size))
                have ZP := Lib.hid (ZP.out.below hbz (by obtain ⟨_, _, _, h3, _⟩ := ZP.out; exact h3))
                have ZQ := Lib.hid (ZQ.out.below hbz (by obtain ⟨_, _, _, h3, _⟩ := ZQ.out; exact h3))
                have B5 := Lib.hid (B5.out.below hbz B5.out.lt)
                have B4 : Hid (Blk y5134 y513.heap.size 27 #[.int .i64 0, .slice none 0 0, .slice none 0 0, .int .i64 0, .int .i64 0, .int .i64 0, .slice none 0 0, .slice none 0 0]) := Lib.hid (by rw [hnew]; exact Blk.new y513 _ _)
                have L4 : Hid (y5134.heap.size = y513.heap.size + 1) := Lib.hid (by rw [hnew]; simp)
                clear hnew hbz
                (refine hK.out _ _ (fun _ => onceS_of HBT.out HBy5134.out) ?_; clear hK K)
                refine till_ready (rs := [6]) (by kernel_rfl) (by simp) ?_
                refine TillAll.cons rfl (fun K hK => ?_) TillAll.nil
                obtain ⟨z0, z1, z2, z3, z4, z5, z6, z7⟩ := blk8 B4.out
                have f0 := B4.out.frozen 0
                have f1 := B4.out.frozen 1
                have f2 := B4.out.frozen 2
                have f3 := B4.out.frozen 3
                have f4 := B4.out.frozen 4
                have f5 := B4.out.frozen 5
                have f6 := B4.out.frozen 6
                have f7 := B4.out.frozen 7
                go_simp
                clear z0 z1 z2 z3 z4 z5 z6 z7 f0 f1 f2 f3 f4 f5 f6 f7
                obtain ⟨y51346, hnew⟩ : ∃ y51346, y51346 = set8 y5134 y513.heap.size (.int .i64 T0.strategy) (.slice Pk T0.keys.length Pkn) (.slice Pkk T0.kinds.length Pkkn) (.int .i64 T0.syms) (.int .i64 T0.runs) (.int .i64 T0.cells) (.slice Ps T0.states.length Psn) (.slice Pc T0.codes.length Pcn) := ⟨_, rfl⟩
                have hnew2 := hnew
                unfold set8 at hnew2
                try rw [← hnew2]
                clear hnew2
                have N4 := Lib.hid (show Blk y51346 y513.heap.size 27 #[.int .i64 T0.strategy, .slice Pk T0.keys.length Pkn, .slice Pkk T0.kinds.length Pkkn, .int .i64 T0.syms, .int .i64 T0.runs, .int .i64 T0.cells, .slice Ps T0.states.length Psn, .slice Pc T0.codes.length Pcn] by rw [hnew]; exact B4.out.set8 _ _ _ _ _ _ _ _)
                have B5 := Lib.hid (show Blk y51346 _ 27 _ by rw [hnew]; exact B5.out.far8 (by have := LP.out; have := LQ.out; have := L4.out; have := L5.out; omega) _ _ _ _ _ _ _ _)
                have ZP := Lib.hid (show TwinZ y51346 _ _ T0 _ _ _ _ by rw [hnew]; exact ZP.out.set8 (by have := LP.out; have := LQ.out; have := L4.out; have := L5.out; omega) _ _ _ _ _ _ _ _)
                have ZQ := Lib.hid (show TwinZ y51346 _ _ T0 _ _ _ _ by rw [hnew]; exact ZQ.out.set8 (by have := LP.out; have := LQ.out; have := L4.out; have := L5.out; omega) _ _ _ _ _ _ _ _)
                have HBy51346 := Lib.hid (show Below W1.heap.size W1 y51346 by rw [hnew]; exact below_set8 HBy5134.out (by have := LY0.out; have := HB77.out; have := LP.out; have := LQ.out; have := L4.out; have := L5.out; omega) _ _ _ _ _ _ _ _)
                have L6 : Hid (y51346.heap.size = y5134.heap.size) := Lib.hid (by rw [hnew]; exact size_set8 _ _ _ _ _ _ _ _ _ _)
                clear hnew
                (refine hK.out _ _ (fun _ => onceS_of HBT.out HBy51346.out) ?_; clear hK K)
                refine till_ready (rs := [7]) (by kernel_rfl) (by simp) ?_
                refine TillAll.cons rfl (fun K hK => ?_) TillAll.nil
                obtain ⟨z0, z1, z2, z3, z4, z5, z6, z7⟩ := blk8 B5.out
                have f0 := B5.out.frozen 0
                have f1 := B5.out.frozen 1
                have f2 := B5.out.frozen 2
                have f3 := B5.out.frozen 3
                have f4 := B5.out.frozen 4
                have f5 := B5.out.frozen 5
                have f6 := B5.out.frozen 6
                have f7 := B5.out.frozen 7
                go_simp
                clear z0 z1 z2 z3 z4 z5 z6 z7 f0 f1 f2 f3 f4 f5 f6 f7
                obtain ⟨y513467, hnew⟩ : ∃ y513467, y513467 = set8 y51346 y0.heap.size (.int .i64 T0.strategy) (.slice Qk T0.keys.length Qkn) (.slice Qkk T0.kinds.length Qkkn) (.int .i64 T0.syms) (.int .i64 T0.runs) (.int .i64 T0.cells) (.slice Qs T0.states.length Qsn) (.slice Qc T0.codes.length Qcn) := ⟨_, rfl⟩
                have hnew2 := hnew
                unfold set8 at hnew2
                try rw [← hnew2]
                clear hnew2
                have N5 := Lib.hid (show Blk y513467 y0.heap.size 27 #[.int .i64 T0.strategy, .slice Qk T0.keys.length Qkn, .slice Qkk T0.kinds.length Qkkn, .int .i64 T0.syms, .int .i64 T0.runs, .int .i64 T0.cells, .slice Qs T0.states.length Qsn, .slice Qc T0.codes.length Qcn] by rw [hnew]; exact B5.out.set8 _ _ _ _ _ _ _ _)
                have N4 := Lib.hid (show Blk y513467 _ 27 _ by rw [hnew]; exact N4.out.far8 (by have := LP.out; have := LQ.out; have := L4.out; have := L5.out; omega) _ _ _ _ _ _ _ _)
                have ZP := Lib.hid (show TwinZ y513467 _ _ T0 _ _ _ _ by rw [hnew]; exact ZP.out.set8 (by have := LP.out; have := LQ.out; have := L4.out; have := L5.out; omega) _ _ _ _ _ _ _ _)
                have ZQ := Lib.hid (show TwinZ y513467 _ _ T0 _ _ _ _ by rw [hnew]; exact ZQ.out.set8 (by have := LP.out; have := LQ.out; have := L4.out; have := L5.out; omega) _ _ _ _ _ _ _ _)
                have HBy513467 := Lib.hid (show Below W1.heap.size W1 y513467 by rw [hnew]; exact below_set8 HBy51346.out (by have := LY0.out; have := HB77.out; have := LP.out; have := LQ.out; have := L4.out; have := L5.out; omega) _ _ _ _ _ _ _ _)
                have L7 : Hid (y513467.heap.size = y51346.heap.size) := Lib.hid (by rw [hnew]; exact size_set8 _ _ _ _ _ _ _ _ _ _)
                clear hnew
                (refine hK.out _ _ (fun h => absurd h (by decide)) ?_; clear hK K)
                refine till_done (by kernel_rfl) ?_ _
                go_simp
                go_wp2_with fail
                go_meet
                refine ⟨_, _, rfl, rfl, _, _, _, _, _, _, _, _, _, _, _, _, ZP.out, ZQ.out, N4.out, N5.out, ?_, HBy513467.out⟩
                (have := LY0.out; have := LP.out; have := LQ.out; have := L4.out; have := L5.out; have := L6.out; have := L7.out; have := HB77.out; omega)
              refine TillAll.cons rfl (fun K hK => ?_) TillAll.nil
              go_simp
              obtain ⟨y514, hnew⟩ : ∃ y514, y514 = y51.alloc (.cells #[.int .i64 0, .slice none 0 0, .slice none 0 0, .int .i64 0, .int .i64 0, .int .i64 0, .slice none 0 0, .slice none 0 0] 27) := ⟨_, rfl⟩
              try rw [← hnew]
              have hbz : Below y51.heap.size y51 y514 := by rw [hnew]; exact (Below.refl _ _).alloc (Nat.le_refl _) _
              have HBy514 := Lib.hid (HBy51.out.trans (hbz.mono HBy51.out.size))
              have ZP := Lib.hid (ZP.out.below hbz (by obtain ⟨_, _, _, h3, _⟩ := ZP.out; exact h3))
              have B5 := Lib.hid (B5.out.below hbz B5.out.lt)
              have B4 : Hid (Blk y514 y51.heap.size 27 #[.int .i64 0, .slice none 0 0, .slice none 0 0, .int .i64 0, .int .i64 0, .int .i64 0, .slice none 0 0, .slice none 0 0]) := Lib.hid (by rw [hnew]; exact Blk.new y51 _ _)
              have L4 : Hid (y514.heap.size = y51.heap.size + 1) := Lib.hid (by rw [hnew]; simp)
              clear hnew hbz
              (refine hK.out _ _ (fun _ => onceS_of HBT.out HBy514.out) ?_; clear hK K)
              refine till_ready (rs := [3]) (by kernel_rfl) (by simp) ?_
              refine TillAll.cons rfl (fun K hK => ?_) TillAll.nil
              go_simp
              go_wp2_with (go_at_call 9; refine (CT.out y514 (HX.out y514 HBy514.out)).mono ?_; rintro e y5143 ⟨ak, akk, ats, ac, rfl, hm, hbz⟩; obtain ⟨Qk, Qkn, rfl, _, _⟩ := hm.tab.keys.slice; obtain ⟨Qkk, Qkkn, rfl, _, _⟩ := hm.tab.kinds.slice; obtain ⟨Qs, Qsn, rfl, _, _⟩ := hm.tab.states.slice; obtain ⟨Qc, Qcn, rfl, _, _⟩ := hm.tab.codes.slice)
              have ZQ := Lib.hid (TwinZ.new hm)
              have LQ : Hid (y514.heap.size ≤ y5143.heap.size) := Lib.hid hbz.size
              have HBy5143 := Lib.hid (HBy514.out.trans (hbz.mono HBy514.out.size))
              have ZP := Lib.hid (ZP.out.below hbz (by obtain ⟨_, _, _, h3, _⟩ := ZP.out; exact h3))
              have B4 := Lib.hid (B4.out.below hbz B4.out.lt)
              have B5 := Lib.hid (B5.out.below hbz B5.out.lt)
              clear hm hbz
              (refine hK.out _ _ (fun _ => onceS_of HBT.out HBy5143.out) ?_; clear hK K)
              refine till_ready (rs := [6]) (by kernel_rfl) (by simp) ?_
              refine TillAll.cons rfl (fun K hK => ?_) TillAll.nil
              obtain ⟨z0, z1, z2, z3, z4, z5, z6, z7⟩ := blk8 B4.out
              have f0 := B4.out.frozen 0
              have f1 := B4.out.frozen 1
              have f2 := B4.out.frozen 2
              have f3 := B4.out.frozen 3
              have f4 := B4.out.frozen 4
              have f5 := B4.out.frozen 5
              have f6 := B4.out.frozen 6
              have f7 := B4.out.frozen 7
              go_simp
              clear z0 z1 z2 z3 z4 z5 z6 z7 f0 f1 f2 f3 f4 f5 f6 f7
              obtain ⟨y51436, hnew⟩ : ∃ y51436, y51436 = set8 y5143 y51.heap.size (.int .i64 T0.strategy) (.slice Pk T0.keys.length Pkn) (.slice Pkk T0.kinds.length Pkkn) (.int .i64 T0.syms) (.int .i64 T0.runs) (.int .i64 T0.cells) (.slice Ps T0.states.length Psn) (.slice Pc T0.codes.length Pcn) := ⟨_, rfl⟩
              have hnew2 := hnew
              unfold set8 at hnew2
              try rw [← hnew2]
              clear hnew2
              have N4 := Lib.hid (show Blk y51436 y51.heap.size 27 #[.int .i64 T0.strategy, .slice Pk T0.keys.length Pkn, .slice Pkk T0.kinds.length Pkkn, .int .i64 T0.syms, .int .i64 T0.runs, .int .i64 T0.cells, .slice Ps T0.states.length Psn, .slice Pc T0.codes.length Pcn] by rw [hnew]; exact B4.out.set8 _ _ _ _ _ _ _ _)
              have B5 := Lib.hid (show Blk y51436 _ 27 _ by rw [hnew]; exact B5.out.far8 (by have := LP.out; have := LQ.out; have := L4.out; have := L5.out; omega) _ _ _ _ _ _ _ _)
              have ZP := Lib.hid (show TwinZ y51436 _ _ T0 _ _ _ _ by rw [hnew]; exact ZP.out.set8 (by have := LP.out; have := LQ.out; have := L4.out; have := L5.out; omega) _ _ _ _ _ _ _ _)
              have ZQ := Lib.hid (show TwinZ y51436 _ _ T0 _ _ _ _ by rw [hnew]; exact ZQ.out.set8 (by have := LP.out; have := LQ.out; have := L4.out; have := L5.out; omega) _ _ _ _ _ _ _ _)
              have HBy51436 := Lib.hid (show Below W1.heap.size W1 y51436 by rw [hnew]; exact below_set8 HBy5143.out (by have := LY0.out; have := HB77.out; have := LP.out; have := LQ.out; have := L4.out; have := L5.out; omega) _ _ _ _ _ _ _ _)
              have L6 : Hid (y51436.heap.size = y5143.heap.size) := Lib.hid (by rw [hnew]; exact size_set8 _ _ _ _ _ _ _ _ _ _)
              clear hnew
              (refine hK.out _ _ (fun _ => onceS_of HBT.out HBy51436.out) ?_; clear hK K)
              refine till_ready (rs := [7]) (by kernel_rfl) (by simp) ?_
              refine TillAll.cons rfl (fun K hK => ?_) TillAll.nil
              obtain ⟨z0, z1, z2, z3, z4, z5, z6, z7⟩ := blk8 B5.out
              have f0 := B5.out.frozen 0
              have f1 := B5.out.frozen 1
              have f2 := B5.out.frozen 2
              have f3 := B5.out.frozen 3
              have f4 := B5.out.frozen 4
              have f5 := B5.out.frozen 5
              have f6 := B5.out.frozen 6
              have f7 := B5.out.frozen 7
              go_simp
              clear z0 z1 z2 z3 z4 z5 z6 z7 f0 f1 f2 f3 f4 f5 f6 f7
              obtain ⟨y514367, hnew⟩ : ∃ y514367, y514367 = set8 y51436 y0.heap.size (.int .i64 T0.strategy) (.slice Qk T0.keys.length Qkn) (.slice Qkk T0.kinds.length Qkkn) (.int .i64 T0.syms) (.int .i64 T0.runs) (.int .i64 T0.cells) (.slice Qs T0.states.length Qsn) (.slice Qc T0.codes.length Qcn) := ⟨_, rfl⟩
              have hnew2 := hnew
              unfold set8 at hnew2
              try rw [← hnew2]
              clear hnew2
              have N5 := Lib.hid (show Blk y514367 y0.heap.size 27 #[.int .i64 T0.strategy, .slice Qk T0.keys.length Qkn, .slice Qkk T0.kinds.length Qkkn, .int .i64 T0.syms, .int .i64 T0.runs, .int .i64 T0.cells, .slice Qs T0.states.length Qsn, .slice Qc T0.codes.length Qcn] by rw [hnew]; exact B5.out.set8 _ _ _ _ _ _ _ _)
              have N4 := Lib.hid (show Blk y514367 _ 27 _ by rw [hnew]; exact N4.out.far8 (by have := LP.out; have := LQ.out; have := L4.out; have := L5.out; omega) _ _ _ _ _ _ _ _)
              have ZP := Lib.hid (show TwinZ y514367 _ _ T0 _ _ _ _ by rw [hnew]; exact ZP.out.set8 (by have := LP.out; have := LQ.out; have := L4.out; have := L5.out; omega) _ _ _ _ _ _ _ _)
              have ZQ := Lib.hid (show TwinZ y514367 _ _ T0 _ _ _ _ by rw [hnew]; exact ZQ.out.set8 (by have := LP.out; have := LQ.out; have := L4.out; have := L5.out; omega) _ _ _ _ _ _ _ _)
              have HBy514367 := Lib.hid (show Below W1.heap.size W1 y514367 by rw [hnew]; exact below_set8 HBy51436.out (by have := LY0.out; have := HB77.out; have := LP.out; have := LQ.out; have := L4.out; have := L5.out; omega) _ _ _ _ _ _ _ _)
              have L7 : Hid (y514367.heap.size = y51436.heap.size) := Lib.hid (by rw [hnew]; exact size_set8 _ _ _ _ _ _ _ _ _ _)
              clear hnew
              (refine hK.out _ _ (fun h => absurd h (by decide)) ?_; clear hK K)
              refine till_done (by kernel_rfl) ?_ _
              go_simp
              go_wp2_with fail
              go_meet
              refine ⟨_, _, rfl, rfl, _, _, _, _, _, _, _, _, _, _, _, _, ZP.out, ZQ.out, N4.out, N5.out, ?_, HBy514367.out⟩
              (have := LY0.out; have := LP.out; have := LQ.out; have := L4.out; have := L5.out; have := L6.out; have := L7.out; have := HB77.out; omega)
            refine TillAll.cons rfl (fun K hK => ?_) TillAll.nil
            go_simp
            obtain ⟨y54, hnew⟩ : ∃ y54, y54 = y5.alloc (.cells #[.int .i64 0, .slice none 0 0, .slice none 0 0, .int .i64 0, .int .i64 0, .int .i64 0, .slice none 0 0, .slice none 0 0] 27) := ⟨_, rfl⟩
            try rw [← hnew]
            have hbz : Below y5.heap.size y5 y54 := by rw [hnew]; exact (Below.refl _ _).alloc (Nat.le_refl _) _
            have HBy54 := Lib.hid (HBy5.out.trans (hbz.mono HBy5.out.size))
            have B5 := Lib.hid (B5.out.below hbz B5.out.lt)
            have B4 : Hid (Blk y54 y5.heap.size 27 #[.int .i64 0, .slice none 0 0, .slice none 0 0, .int .i64 0, .int .i64 0, .int .i64 0, .slice none 0 0, .slice none 0 0]) := Lib.hid (by rw [hnew]; exact Blk.new y5 _ _)
            have L4 : Hid (y54.heap.size = y5.heap.size + 1) := Lib.hid (by rw [hnew]; simp)
            clear hnew hbz
            (refine hK.out _ _ (fun _ => onceS_of HBT.out HBy54.out) ?_; clear hK K)
            refine till_ready (rs := [1]) (by kernel_rfl) (by simp) ?_
            refine TillAll.cons rfl (fun K hK => ?_) TillAll.nil
            go_simp
            go_wp2_with (go_at_call 9; refine (CT.out y54 (HX.out y54 HBy54.out)).mono ?_; rintro e y541 ⟨ak, akk, ats, ac, rfl, hm, hbz⟩; obtain ⟨Pk, Pkn, rfl, _, _⟩ := hm.tab.keys.slice; obtain ⟨Pkk, Pkkn, rfl, _, _⟩ := hm.tab.kinds.slice; obtain ⟨Ps, Psn, rfl, _, _⟩ := hm.tab.states.slice; obtain ⟨Pc, Pcn, rfl, _, _⟩ := hm.tab.codes.slice)
            have ZP := Lib.hid (TwinZ.new hm)
            have LP : Hid (y54.heap.size ≤ y541.heap.size) := Lib.hid hbz.size
            have HBy541 := Lib.hid (HBy54.out.trans (hbz.mono HBy54.out.size))
            have B4 := Lib.hid (B4.out.below hbz B4.out.lt)
            have B5 := Lib.hid (B5.out.below hbz B5.out.lt)
            clear hm hbz
            (refine hK.out _ _ (fun _ => onceS_of HBT.out HBy541.out) ?_; clear hK K)
            refine till_ready (rs := [3]) (by kernel_rfl) (by simp) ?_
            refine TillAll.cons rfl (fun K hK => ?_) TillAll.nil
            go_simp
            go_wp2_with (go_at_call 9; refine (CT.out y541 (HX.out y541 HBy541.out)).mono ?_; rintro e y5413 ⟨ak, akk, ats, ac, rfl, hm, hbz⟩; obtain ⟨Qk, Qkn, rfl, _, _⟩ := hm.tab.keys.slice; obtain ⟨Qkk, Qkkn, rfl, _, _⟩ := hm.tab.kinds.slice; obtain ⟨Qs, Qsn, rfl, _, _⟩ := hm.tab.states.slice; obtain ⟨Qc, Qcn, rfl, _, _⟩ := hm.tab.codes.slice)
            have ZQ := Lib.hid (TwinZ.new hm)
            have LQ : Hid (y541.heap.size ≤ y5413.heap.size) := Lib.hid hbz.size
            have HBy5413 := Lib.hid (HBy541.out.trans (hbz.mono HBy541.out.size))
            have ZP := Lib.hid (ZP.out.below hbz (by obtain ⟨_, _, _, h3, _⟩ := ZP.out; exact h3))
            have B4 := Lib.hid (B4.out.below hbz B4.out.lt)
            have B5 := Lib.hid (B5.out.below hbz B5.out.lt)
            clear hm hbz
            (refine hK.out _ _ (fun _ => onceS_of HBT.out HBy5413.out) ?_; clear hK K)
            refine till_ready (rs := [6]) (by kernel_rfl) (by simp) ?_
            refine TillAll.cons rfl (fun K hK => ?_) TillAll.nil
            obtain ⟨z0, z1, z2, z3, z4, z5, z6, z7⟩ := blk8 B4.out
            have f0 := B4.out.frozen 0
            have f1 := B4.out.frozen 1
            have f2 := B4.out.frozen 2
            have f3 := B4.out.frozen 3
            have f4 := B4.out.frozen 4
            have f5 := B4.out.frozen 5
            have f6 := B4.out.frozen 6
            have f7 := B4.out.frozen 7
            go_simp
            clear z0 z1 z2 z3 z4 z5 z6 z7 f0 f1 f2 f3 f4 f5 f6 f7
            obtain ⟨y54136, hnew⟩ : ∃ y54136, y54136 = set8 y5413 y5.heap.size (.int .i64 T0.strategy) (.slice Pk T0.keys.length Pkn) (.slice Pkk T0.kinds.length Pkkn) (.int .i64 T0.syms) (.int .i64 T0.runs) (.int .i64 T0.cells) (.slice Ps T0.states.length Psn) (.slice Pc T0.codes.length Pcn) := ⟨_, rfl⟩
            have hnew2 := hnew
            unfold set8 at hnew2
            try rw [← hnew2]
            clear hnew2
            have N4 := Lib.hid (show Blk y54136 y5.heap.size 27 #[.int .i64 T0.strategy, .slice Pk T0.keys.length Pkn, .slice Pkk T0.kinds.length Pkkn, .int .i64 T0.syms, .int .i64 T0.runs, .int .i64 T0.cells, .slice Ps T0.states.length Psn, .slice Pc T0.codes.length Pcn] by rw [hnew]; exact B4.out.set8 _ _ _ _ _ _ _ _)
            have B5 := Lib.hid (show Blk y54136 _ 27 _ by rw [hnew]; exact B5.out.far8 (by have := LP.out; have := LQ.out; have := L4.out; have := L5.out; omega) _ _ _ _ _ _ _ _)
            have ZP := Lib.hid (show TwinZ y54136 _ _ T0 _ _ _ _ by rw [hnew]; exact ZP.out.set8 (by have := LP.out; have := LQ.out; have := L4.out; have := L5.out; omega) _ _ _ _ _ _ _ _)
            have ZQ := Lib.hid (show TwinZ y54136 _ _ T0 _ _ _ _ by rw [hnew]; exact ZQ.out.set8 (by have := LP.out; have := LQ.out; have := L4.out; have := L5.out; omega) _ _ _ _ _ _ _ _)
            have HBy54136 := Lib.hid (show Below W1.heap.size W1 y54136 by rw [hnew]; exact below_set8 HBy5413.out (by have := LY0.out; have := HB77.out; have := LP.out; have := LQ.out; have := L4.out; have := L5.out; omega) _ _ _ _ _ _ _ _)
            have L6 : Hid (y54136.heap.size = y5413.heap.size) := Lib.hid (by rw [hnew]; exact size_set8 _ _ _ _ _ _ _ _ _ _)
            clear hnew
            (refine hK.out _ _ (fun _ => onceS_of HBT.out HBy54136.out) ?_; clear hK K)
            refine till_ready (rs := [7]) (by kernel_rfl) (by simp) ?_
            refine TillAll.cons rfl (fun K hK => ?_) TillAll.nil
            obtain ⟨z0, z1, z2, z3, z4, z5, z6, z7⟩ := blk8 B5.out
            have f0 := B5.out.frozen 0
            have f1 := B5.out.frozen 1
            have f2 := B5.out.frozen 2
            have f3 := B5.out.frozen 3
            have f4 := B5.out.frozen 4
            have f5 := B5.out.frozen 5
            have f6 := B5.out.frozen 6
            have f7 := B5.out.frozen 7
            go_simp
            clear z0 z1 z2 z3 z4 z5 z6 z7 f0 f1 f2 f3 f4 f5 f6 f7
            obtain ⟨y541367, hnew⟩ : ∃ y541367, y541367 = set8 y54136 y0.heap.size (.int .i64 T0.strategy) (.slice Qk T0.keys.length Qkn) (.slice Qkk T0.kinds.length Qkkn) (.int .i64 T0.syms) (.int .i64 T0.runs) (.int .i64 T0.cells) (.slice Qs T0.states.length Qsn) (.slice Qc T0.codes.length Qcn) := ⟨_, rfl⟩
            have hnew2 := hnew
            unfold set8 at hnew2
            try rw [← hnew2]
            clear hnew2
            have N5 := Lib.hid (show Blk y541367 y0.heap.size 27 #[.int .i64 T0.strategy, .slice Qk T0.keys.length Qkn, .slice Qkk T0.kinds.length Qkkn, .int .i64 T0.syms, .int .i64 T0.runs, .int .i64 T0.cells, .slice Qs T0.states.length Qsn, .slice Qc T0.codes.length Qcn] by rw [hnew]; exact B5.out.set8 _ _ _ _ _ _ _ _)
            have N4 := Lib.hid (show Blk y541367 _ 27 _ by rw [hnew]; exact N4.out.far8 (by have := LP.out; have := LQ.out; have := L4.out; have := L5.out; omega) _ _ _ _ _ _ _ _)
            have ZP := Lib.hid (show TwinZ y541367 _ _ T0 _ _ _ _ by rw [hnew]; exact ZP.out.set8 (by have := LP.out; have := LQ.out; have := L4.out; have := L5.out; omega) _ _ _ _ _ _ _ _)
            have ZQ := Lib.hid (show TwinZ y541367 _ _ T0 _ _ _ _ by rw [hnew]; exact ZQ.out.set8 (by have := LP.out; have := LQ.out; have := L4.out; have := L5.out; omega) _ _ _ _ _ _ _ _)
            have HBy541367 := Lib.hid (show Below W1.heap.size W1 y541367 by rw [hnew]; exact below_set8 HBy54136.out (by have := LY0.out; have := HB77.out; have := LP.out; have := LQ.out; have := L4.out; have := L5.out; omega) _ _ _ _ _ _ _ _)
            have L7 : Hid (y541367.heap.size = y54136.heap.size) := Lib.hid (by rw [hnew]; exact size_set8 _ _ _ _ _ _ _ _ _ _)
            clear hnew
            (refine hK.out _ _ (fun h => absurd h (by decide)) ?_; clear hK K)
            refine till_done (by kernel_rfl) ?_ _
            go_simp
            go_wp2_with fail
            go_meet
            refine ⟨_, _, rfl, rfl, _, _, _, _, _, _, _, _, _, _, _, _, ZP.out, ZQ.out, N4.out, N5.out, ?_, HBy541367.out⟩
            (have := LY0.out; have := LP.out; have := LQ.out; have := L4.out; have := L5.out; have := L6.out; have := L7.out; have := HB77.out; omega)
          case rest =>
            obtain ⟨g7, g8, rfl, rfl, la, ha, lb, hb, pk, pkk, ps, pc, qk, qkk, qs, qc, hz1, hz2, hb7, hb8, hn, hbe⟩ := hcut
            obtain ⟨x, hx⟩ : ∃ x, T0.states[k]? = some x := ⟨_, List.getElem?_eq_getElem hkn⟩
            have hkw : wfi (k : Int) := wfi_of ⟨by omega, by omega⟩
            have hcw : wfi (T0.codes.length : Int) := wfi_of ⟨by omega, by omega⟩
            obtain ⟨gp, cp, up, rfl, p1, p2, p3, p4, p5, p6, _⟩ := hz1.store hx 0 (by omega) (.int .i64 k) (rowq_par hkw)
            obtain ⟨gq, cq, uq, rfl, q1, q2, q3, q4, q5, q6, hxq⟩ := (hz2.set (a := ⟨gp, k * 8 + 0, none⟩) (by simp only; omega) (.int .i64 k)).store hx 6 (by omega) (.int .i64 T0.codes.length) (rowq_guard hcw)
            obtain ⟨_, _, _, hcp, _, _, _, _, _, _, hxp⟩ := (hz1.set (a := ⟨gq, k * 8 + 6, none⟩) (by simp only; omega) (.int .i64 T0.codes.length)).store hx 0 (by omega) (.int .i64 k) (rowq_par hkw)
            injection hcp with hcp1 hcp2 hcp3
            injection hcp1 with hcp1
            injection hcp1 with hcp1 _ _
            subst hcp1 hcp3
            rw [← setCell_comm wc ⟨gp, k * 8 + 0, none⟩ ⟨gq, k * 8 + 6, none⟩ (by simp only; omega)] at hxp
            have hb7a := hb7.far (p := ⟨gp, k * 8 + 0, none⟩) (by simp only; omega) (.int .i64 k)
            have hb8a := hb8.far (p := ⟨gp, k * 8 + 0, none⟩) (by simp only; omega) (.int .i64 k)
            have HB7b := Lib.hid (hb7a.far (p := ⟨gq, k * 8 + 6, none⟩) (by simp only; omega) (.int .i64 T0.codes.length))
            have HB8b := Lib.hid (hb8a.far (p := ⟨gq, k * 8 + 6, none⟩) (by simp only; omega) (.int .i64 T0.codes.length))
            have HBE := Lib.hid ((hbe.setCell (p := ⟨gp, k * 8 + 0, none⟩) (by simp only; omega) (.int .i64 k)).setCell (p := ⟨gq, k * 8 + 6, none⟩) (by simp only; omega) (.int .i64 T0.codes.length))
            have HXP := Lib.hid hxp
            have HXQ := Lib.hid hxq
            have HXK := Lib.hid hx
            obtain ⟨a0, a2, a3, a4, a5, a6, a7, a8⟩ := blk8 hb7
            obtain ⟨d0, d1, d2, d3, d4, d5, d6, d7⟩ := blk8 hb8
            obtain ⟨k0, k1, k2, k3, k4, k5, k6, k7⟩ := blk8 (HBT.out.below hbe HBT.out.lt)
            have nk := hkn
            have gpq : gp ≠ gq := by omega
            have q3b : wc.cell? ⟨gq, k * 8 + 6, none⟩ = some uq := (World.cell?_setCell_other wc ⟨gp, k * 8 + 0, none⟩ ⟨gq, k * 8 + 6, none⟩ (.int .i64 k) (fun e => by injection e with e1 e2; exact gpq e1)).symm.trans q3
            have q4b : wc.frozen? ⟨gq, k * 8 + 6, none⟩ = false := (World.frozen?_of_block (Below.heap_setCell wc ⟨gp, k * 8 + 0, none⟩ (.int .i64 k) gq (fun e => gpq e.symm))).symm.trans q4
            rw [Nat.add_zero] at p3 p4 q3 q4
            clear hz1 hz2 hb7 hb8 hb7a hb8a hbe hxp hxq hx hn p1 p2 q1 q2 hkw hcw
            go_upto_region 13 with fail
            clear q3b q4b gpq a0 a2 a3 a4 a5 a6 a7 a8 d0 d1 d2 d3 d4 d5 d6 d7 k0 k1 k2 k3 k4 k5 k6 k7 p3 p4 q3 q4
            obtain ⟨Wz, hWz⟩ : ∃ Wz, Wz = (wc.setCell ⟨gp, k * 8, none⟩ (.int .i64 k)).setCell ⟨gq, k * 8 + 6, none⟩ (.int .i64 T0.codes.length) := ⟨_, rfl⟩
            rw [← hWz]
            have HXP := Lib.hid (by rw [hWz]; exact HXP.out : TabX Wz _ _ _ _ _)
            have HXQ := Lib.hid (by rw [hWz]; exact HXQ.out : TabX Wz _ _ _ _ _)
            have HBE : Hid (Below W1.heap.size W1 Wz) := Lib.hid (by rw [hWz]; exact HBE.out)
            have HB8b := Lib.hid (by rw [hWz]; exact HB8b.out : Blk Wz g8 _ _)
            have z7 := (by rw [hWz]; exact HB7b.out : Blk Wz g7 _ _)
            clear hWz HB7b
            obtain ⟨k0, k1, k2, k3, k4, k5, k6, k7⟩ := blk8 z7
            clear z7
            go_wp2_with fail
            have hls : ∀ x : TRow, (T0.states.set k x).length = T0.states.length := fun x => List.length_set
            have hp := (CV.out _ _ _ _ _ _ HXP.out)
            simp only [hls] at hp
            refine hp.mono ?_
            rintro e wy ⟨rfl, hby⟩
            rw [ver_parent hkn]
            clear hp k0 k1 k2 k3 k4 k5 k6 k7
            have HBY := Lib.hid hby
            obtain ⟨k0, k1, k2, k3, k4, k5, k6, k7⟩ := blk8 (HB8b.out.below hby HB8b.out.lt)
            clear hby
            go_wp2_with fail
            have hq := (CV.out _ _ _ _ _ _ (HXQ.out.below HBY.out))
            simp only [hls] at hq
            refine hq.mono ?_
            rintro e wz ⟨rfl, hbz⟩
            rw [ver_guard hkn]
            have HBZ := Lib.hid (HB0.out.trans ((HBE.out.trans ((HBY.out.trans (hbz.mono HBY.out.size)).mono HBE.out.size)).mono HB0.out.size))
            clear hq hbz k0 k1 k2 k3 k4 k5 k6 k7
            go_wp2_with fail
            go_ret
            exact ⟨rfl, HBZ.out⟩

set_option maxRecDepth 100000 in
theorem lifted (os : Os) (started : os.Started) (H : Type) (enc : TypeId × Value → H) :
    ReturnsInHanded {} Try.checked os 5 .any (Rows.loadOnceSpec.pre6 enc Try.prog Try.f5 Rows.loadOnceRow.domain false) (Rows.loadOnceSpec.post enc Try.prog Try.f5 false true false false) := by
  refine returnsInHanded_of_change_sized (C := Try.checked) own started (by kernel_rfl) Try.func5
    (ChangeSpec.witness6 (enc := enc) (C := Try.checked) false ⟨#[], #[.agg #[.int .i64 0, .slice none 0 0, .slice none 0 0, .int .i64 0, .int .i64 0, .int .i64 0, .slice none 0 0, .slice none 0 0], .int .i64 0], []⟩ 8 (by kernel_rfl) (by kernel_rfl) (by kernel_rfl) (by kernel_rfl)) ?_
  intro W base args ds gs before hval0 hW hcnd hsz0 _
  have hsz : (DataW.weightsEach Try.prog (Try.f5.params.toList ++ Rows.loadOnceSpec.plain.varTypes Try.prog) (ds ++ gs)).all (· ≤ reachBytes) = true := hsz0
  clear hsz0
  have hval : ∀ (j : Nat) t v, Try.f5.params[j]? = some t → args[j]? = some v → Value.okWide Try.prog W .any base t v := hval0
  have hW' := hW
  obtain ⟨p, q, hA0, hV, rfl, hfz, hnd⟩ := hW
  have hA : DataW.TrodAll enc Try.prog W 0 (fun _ => true) true Try.f5.params.toList args.toList ds p := hA0
  rw [Try.params5] at hA hval hsz
  obtain ⟨v0, vs0, d0, ds0, p0, q0, hargs, rfl, rfl, h0, r0⟩ := trodAll_cons hA
  obtain ⟨v1, vs1, d1, ds1, p1, q1, rfl, rfl, rfl, h1, r1⟩ := trodAll_cons r0
  obtain ⟨rfl, rfl, rfl⟩ := trodAll_nil r1
  obtain rfl : args = #[v0, v1] := by cases args; simp_all
  obtain ⟨rfl, rfl⟩ := trodVars_none hV
  clear hA0 hval0
  obtain ⟨A0, rfl, hz0⟩ := okWide_struct Try.underlying27 (hval 0 27 v0 rfl rfl)
  have k0 := h0
  have lt0 : ∀ x ∈ p0, x.block < W.heap.size := by obtain ⟨m, hm⟩ := k0; exact DataW.trod_lt m _ _ _ hm
  obtain ⟨T0, w0, s0⟩ : ∃ T, TabC W A0.toList T ∧ Wide.rcTab T := by
    obtain ⟨fuel, hf⟩ := h0
    obtain ⟨_, T, hT, hs⟩ := Wide.openw_tab fuel A0.toList (d0, p0) (by simpa [Value.cells] using hf) lt0 (fun n hn => of_decide_eq_true (List.all_eq_true.1 hsz _ (DataW.weights_mem_each (j := 0) (t := 27) rfl rfl n hn)))
    exact ⟨T, hT, hs⟩
  obtain ⟨a1, rfl, rfl, rfl, w1⟩ := open_int Try.underlying3 (hval 1 3 v1 rfl rfl) h1
  simp only [List.append_nil] at hW'
  refine (walk W A0 T0 w0 s0 a1 w1).mono fun e W' ⟨he, bel⟩ => ?_
  subst he
  exact ⟨_, rfl, _, _, _, [], _, [], hW', trodAll_mk1 (shut_bool Try.underlying4 _), (trodAll_cons_mk (Below.trod laidOut (by kernel_rfl) (of_decide_eq_true (by kernel_rfl)) k0 bel lt0) (trodAll_cons_mk (shut_int Try.underlying3 w1) trodAll_mk0)), rfl, bel.frame _, fun h => by cases h⟩

theorem proved : Rows.LoadOnceSaid :=
  OpenClaim.holds_of_wide 5 Try.f5 rfl rfl rfl rfl rfl rfl rfl ⟨rfl, rfl, rfl, rfl, rfl⟩ rfl rfl rfl rfl rfl (by kernel_rfl) Try.func5 (by kernel_rfl)
    (of_decide_eq_true (by kernel_rfl)) (by unfold Func.isWrapper; rw [if_neg (of_decide_eq_false (by kernel_rfl))]; exact ⟨rfl, rfl⟩)
    (fun os started H enc _ => lifted os started H enc)
#print axioms proved
end Go.Proofs.Ytioocaicmiggoaa.loadOnce

/- Imb: texts merged for a claim by a program of mine. -/
import Derived.Test.YtioocaicmiggoaaA14
import Derived.Test.YtioocaicmiggoaaA16
import Derived.Test.YtioocaicmiggoaaA17
namespace Go.Proofs.Ytioocaicmiggoaa
set_option linter.unusedVariables false
set_option linter.unusedSimpArgs false
open Go.RowKit Go.Deep
def ThP (B F tb : Nat) (st : FSt) (x : TTab) (w : World) (e : Ending) (w' : World) : Prop :=
 (∃ st' y vs, tabF st x = some (st', y) ∧ e = .returned (.int .i64 0) ∧ FlX B w' F st' ∧ Blk w' tb 27 vs.toArray ∧ TabQ (FreshQ w.heap.size w') w' vs y ∧ Fr B tb w w') ∨
 (tabF st x = none ∧ ∃ ec, e = .returned (.int .i64 ec) ∧ errOk st ec ∧ Fr B tb w w')
theorem hot_errno : ¬ hot 31 := by unfold hot; decide
set_option maxRecDepth 100000 in
set_option maxHeartbeats 4000000 in
theorem through_step (B F tb : Nat) (st : FSt) (x : TTab) (vs : List Value) (w : World) (hf : FlX B w F st) (hb : Blk w tb 27 vs.toArray) (hR : TabQ (· < B) w vs x) (hB : B ≤ tb) (hBw : B ≤ w.heap.size) (hup : st.rdUp tb) (hroom : st.room + 22500000000 ≤ 1000000000000) :
  Calls Try.prog 51 #[.pointer (some ⟨F, 0, none⟩), .pointer (some ⟨tb, 0, none⟩)] w (ThP B F tb st x w) := by
 obtain ⟨W, hW⟩ : ∃ W, W = w.alloc (.cells #[.int .i64 0] 31) := ⟨_, rfl⟩
 have ha : Below w.heap.size w W := by rw [hW]; exact (Below.refl _ _).alloc (Nat.le_refl _) _
 have hbE : Blk W w.heap.size 31 #[.int .i64 0] := by rw [hW]; exact Blk.new _ _ _
 have hcl : vs.length = 8 := by obtain ⟨_, _, _, _, rfl, _⟩ := hR; rfl
 have hRW : TabQ (· < B) W vs x := tabQ_old hR (Fr.below (tb := tb) hBw ha)
 have HUP0 := Lib.hid (hf.rdUp (Nat.le_refl _))
 have HSZ : Hid (W.heap.size = w.heap.size + 1) := Lib.hid (by rw [hW]; simp)
 have C := Lib.hid (one_Z B F tb [] [] vs 0 st x W (hf.below ha) (by simpa using hb.below ha hb.lt) rfl hcl hB (Nat.le_trans hBw ha.size) hup hroom hRW trivial)
 have HE := Lib.hid hbE
 have HFR : Hid (Fr B tb w W) := Lib.hid (Fr.below hBw ha)
 have HNE : Hid (w.heap.size ≠ tb) := Lib.hid (by have := hb.lt; omega)
 have HBW := Lib.hid hBw
 have HLT := Lib.hid hb.lt
 clear hf hb hR hB hBw hup hroom ha hbE hcl hRW
 go_enter_defers Try.func51, Try.ntmps51
 go_upto_region 2 with fail
 rw [← hW]
 clear hW
 go_wp2_with fail
 refine C.out.mono ?_
 rintro e w2 (⟨s, y, vs2, hn, rfl, hf2, hb2, ⟨hl2, hr2⟩, hfr⟩ | ⟨hn, ec, rfl, he, hfr⟩)
 ·have hE2 := hfr.2 _ _ _ HNE.out hot_errno HE.out
  have k1 : w2.cell? ⟨w.heap.size, 0, none⟩ = some (.int .i64 0) := hE2.cell 0
  have f1 := hE2.frozen 0
  have HH : Hid (ThP B F tb st x w (.returned (.int .i64 0)) (w2.setCell ⟨w.heap.size, 0, none⟩ (.int .i64 0))) := Lib.hid (by
   have hup2 : s.rdUp w.heap.size := kin_up (fine_tab _ _ _ _ hn).2 HUP0.out
   refine .inl ⟨s, y, vs2, hn, rfl, hf2.set_ hot_errno hE2 hup2 _ _, ?_, ?_, ?_⟩
   ·have h : Blk w2 tb 27 vs2.toArray := by simpa using hb2
    exact h.far (p := ⟨w.heap.size, 0, none⟩) (Ne.symm HNE.out) _
   ·exact tabQ_next hr2 ((Fr.refl B w.heap.size w2).set_ HBW.out 0 _) (by rw [HSZ.out]; omega) (by rw [HSZ.out]; omega)
   ·exact (HFR.out.trans hfr).new ((Fr.refl B w.heap.size w2).set_ HBW.out 0 _) (Nat.le_refl _))
  have kk1 : (w2.setCell ⟨w.heap.size, 0, none⟩ (.int .i64 0)).cell? ⟨w.heap.size, 0, none⟩ = some (.int .i64 0) := World.cell?_setCell_same _ _ _ k1
  clear hn hf2 hb2 hl2 hr2 hfr hE2 C
  go_wp2_with fail
  generalize w2.setCell ⟨w.heap.size, 0, none⟩ (.int .i64 0) = X at kk1 HH ⊢
  refine leaves_cons (f := 67) (args := #[.pointer (some ⟨w.heap.size, 0, none⟩)]) (by simp) (by simp [go_sem]) ?_
  refine (thrown_idle _ _).mono ?_
  rintro e u' w'' ⟨rfl, rfl, rfl⟩
  refine ⟨_, (by simp [results, Try.results51, go_sem, kk1] : (results Try.f51 _).run Try.prog _ = .ok (.int .i64 0) _), HH.out⟩
 ·have hE2 := hfr.2 _ _ _ HNE.out hot_errno HE.out
  have k1 : w2.cell? ⟨w.heap.size, 0, none⟩ = some (.int .i64 0) := hE2.cell 0
  have f1 := hE2.frozen 0
  have hE3 := (hE2.alloc (.cells #[.int .i64 ec] 136)).set_ 0 (.int .i64 ec)
  have kk1 : ((w2.alloc (.cells #[.int .i64 ec] 136)).setCell ⟨w.heap.size, 0, none⟩ (.int .i64 ec)).cell? ⟨w.heap.size, 0, none⟩ = some (.int .i64 ec) := hE3.cell 0
  have HH : Hid (ThP B F tb st x w (.returned (.int .i64 ec)) ((w2.alloc (.cells #[.int .i64 ec] 136)).setCell ⟨w.heap.size, 0, none⟩ (.int .i64 ec))) := Lib.hid (by
   refine .inr ⟨hn, ec, rfl, he, ?_⟩
   have h1 : Fr B w.heap.size w2 (w2.alloc (.cells #[.int .i64 ec] 136)) := (Fr.refl _ _ _).alloc (Nat.le_trans HBW.out (HFR.out.trans hfr).size) _
   exact (HFR.out.trans hfr).new (h1.set_ HBW.out 0 _) (Nat.le_refl _))
  clear hn he hfr hE2 hE3 C
  go_wp2_with fail
  refine leaves_cons (f := 67) (args := #[.pointer (some ⟨w.heap.size, 0, none⟩)]) (by simp) (by simp [go_sem]) ?_
  refine (thrown_stop w.heap.size ec _ [] w2 k1 f1).mono ?_
  rintro e u' w'' ⟨rfl, rfl, rfl⟩
  generalize (w2.alloc (.cells #[.int .i64 ec] 136)).setCell ⟨w.heap.size, 0, none⟩ (.int .i64 ec) = X at kk1 HH ⊢
  have hp2 := HH.out
  generalize ThP B F tb st x w = PP at hp2 ⊢
  simp [Leaves, settle, results, Try.results51, go_sem, kk1]
  exact hp2
theorem TabQ.keep {Q Q' : Nat → Prop} {w w' : World} {vs : List Value} {x : TTab} (h : TabQ Q w vs x) (hk : KeepQ Q w w') (hQ : ∀ b, Q b → Q' b) : TabQ Q' w' vs x := by
 obtain ⟨vk, vkk, vs', vc, h1, h2, h3, h4, h5, h6⟩ := h
 exact ⟨vk, vkk, vs', vc, h1, h2.keep hk hQ fun _ _ h => h, h3.keep hk hQ fun cs x h => keeps_ints _ _ _ _ _ _ h hk hQ, h4.keep hk hQ fun cs x h => keeps_row _ _ _ _ _ _ h hk hQ, h5.keep hk hQ fun cs x h => keeps_code _ _ _ _ _ _ h hk hQ, h6⟩
def TabF (B : Nat) (w : World) (y : TTab) (vk vkk vs vc : Value) : Prop := TabQ (fun b => B ≤ b) w [.int .i64 y.strategy, vk, vkk, .int .i64 y.syms, .int .i64 y.runs, .int .i64 y.cells, vs, vc] y
theorem TabF.tab {B : Nat} {w : World} {y : TTab} {vk vkk vs vc : Value} (h : TabF B w y vk vkk vs vc) : TabX w y vk vkk vs vc := by
 obtain ⟨_, _, _, _, h1, h2⟩ := TabQ.tab h
 simp only [List.cons.injEq, true_and, and_true] at h1
 obtain ⟨rfl, rfl, rfl, rfl⟩ := h1
 exact h2
def DecP (l : List UInt8) (w : World) (e : Ending) (w' : World) : Prop := Below w.heap.size w w' ∧
 ((∃ y vk vkk vs vc, IsImg y l ∧ e = .returned (.tuple #[.agg #[.int .i64 y.strategy, vk, vkk, .int .i64 y.syms, .int .i64 y.runs, .int .i64 y.cells, vs, vc], .int .i64 0]) ∧ TabF w.heap.size w' y vk vkk vs vc) ∨
 ((∀ y, ¬ IsImg y l) ∧ e = .returned (.tuple #[.agg #[.int .i64 0, .slice none 0 0, .slice none 0 0, .int .i64 0, .int .i64 0, .int .i64 0, .slice none 0 0, .slice none 0 0], .int .i64 (decErr l)])))
theorem img_parts {y : TTab} {l : List UInt8} (h : IsImg y l) : l.length ≤ 65536 ∧ 8 ≤ l.length ∧ l.take 4 = magicB ∧ l.drop (l.length - 4) = sumBy (l.take (l.length - 4)) ∧ Img y ((l.take (l.length - 4)).drop 4) := by
 obtain ⟨m, h1, h2, h3⟩ := h
 have hs : (sumBy (magicB ++ m)).length = 4 := rfl
 have hm : magicB.length = 4 := rfl
 have hl : l.length = 4 + m.length + 4 := by rw [h2, List.length_append, List.length_append, hs, hm]
 have ht : l.take (l.length - 4) = magicB ++ m := by rw [h2]; exact List.take_left' (by simp only [List.length_append, hs, hm]; omega)
 have hp := h1.pos
 refine ⟨h3, by omega, ?_, ?_, ?_⟩
 ·rw [h2, List.append_assoc]; exact List.take_left' hm
 ·rw [ht, h2]; exact List.drop_left' (by simp only [List.length_append, hs, hm]; omega)
 ·rw [ht, List.drop_left' hm]; exact h1
theorem img_whole {y : TTab} {l : List UInt8} (h0 : l.length ≤ 65536) (h1 : 8 ≤ l.length) (h2 : l.take 4 = magicB) (h3 : l.drop (l.length - 4) = sumBy (l.take (l.length - 4))) (h4 : Img y ((l.take (l.length - 4)).drop 4)) : IsImg y l := by
 have e : l.take (l.length - 4) = magicB ++ (l.take (l.length - 4)).drop 4 := by
  have h5 := List.take_append_drop 4 (l.take (l.length - 4))
  rw [List.take_take, Nat.min_eq_left (by omega), h2] at h5
  exact h5.symm
 refine ⟨_, h4, ?_, h0⟩
 rw [← e, ← h3, List.take_append_drop]
def dSet8 (w : World) (g : Nat) (v0 v1 v2 v3 v4 v5 v6 v7 : Value) : World := ((((((((w.setCell ⟨g, 0, none⟩ v0).setCell ⟨g, 1, none⟩ v1).setCell ⟨g, 2, none⟩ v2).setCell ⟨g, 3, none⟩ v3).setCell ⟨g, 4, none⟩ v4).setCell ⟨g, 5, none⟩ v5).setCell ⟨g, 6, none⟩ v6).setCell ⟨g, 7, none⟩ v7)
theorem dSet8_blk {w : World} {g : Nat} {t : TypeId} {a0 a1 a2 a3 a4 a5 a6 a7 : Value} (h : Blk w g t #[a0, a1, a2, a3, a4, a5, a6, a7]) (v0 v1 v2 v3 v4 v5 v6 v7 : Value) : Blk (dSet8 w g v0 v1 v2 v3 v4 v5 v6 v7) g t #[v0, v1, v2, v3, v4, v5, v6, v7] := by
 have h0 : Blk _ g t #[v0, a1, a2, a3, a4, a5, a6, a7] := h.set_ 0 v0
 have h1 : Blk _ g t #[v0, v1, a2, a3, a4, a5, a6, a7] := h0.set_ 1 v1
 have h2 : Blk _ g t #[v0, v1, v2, a3, a4, a5, a6, a7] := h1.set_ 2 v2
 have h3 : Blk _ g t #[v0, v1, v2, v3, a4, a5, a6, a7] := h2.set_ 3 v3
 have h4 : Blk _ g t #[v0, v1, v2, v3, v4, a5, a6, a7] := h3.set_ 4 v4
 have h5 : Blk _ g t #[v0, v1, v2, v3, v4, v5, a6, a7] := h4.set_ 5 v5
 have h6 : Blk _ g t #[v0, v1, v2, v3, v4, v5, v6, a7] := h5.set_ 6 v6
 exact h6.set_ 7 v7
theorem dSet8_below {B : Nat} {w0 w : World} (h : Below B w0 w) {g : Nat} (hg : B ≤ g) (v0 v1 v2 v3 v4 v5 v6 v7 : Value) : Below B w0 (dSet8 w g v0 v1 v2 v3 v4 v5 v6 v7) :=
 (((((((h.setCell (p := ⟨g, 0, none⟩) hg v0).setCell (p := ⟨g, 1, none⟩) hg v1).setCell (p := ⟨g, 2, none⟩) hg v2).setCell (p := ⟨g, 3, none⟩) hg v3).setCell (p := ⟨g, 4, none⟩) hg v4).setCell (p := ⟨g, 5, none⟩) hg v5).setCell (p := ⟨g, 6, none⟩) hg v6).setCell (p := ⟨g, 7, none⟩) hg v7
set_option maxRecDepth 100000 in
set_option maxHeartbeats 8000000 in
theorem decode_any (A : Option Addr) (n c : Nat) (l : List UInt8) (w : World) (hn : l.length = n) (hc : n ≤ c) (hm : c ≤ 9223372036854775807) (hR : Reads w w.heap.size 1 A n (bv l)) :
  Calls Try.prog 32 #[.slice A n c] w (DecP l w) := by
 obtain ⟨W1, hW1⟩ : ∃ W, W = w.alloc (.cells #[.int .i64 0, .slice none 0 0, .slice none 0 0, .int .i64 0, .int .i64 0, .int .i64 0, .slice none 0 0, .slice none 0 0] 27) := ⟨_, rfl⟩
 have ha1 : Below w.heap.size w W1 := by rw [hW1]; exact (Below.refl _ _).alloc (Nat.le_refl _) _
 have hbz : Blk W1 w.heap.size 27 #[.int .i64 0, .slice none 0 0, .slice none 0 0, .int .i64 0, .int .i64 0, .int .i64 0, .slice none 0 0, .slice none 0 0] := by rw [hW1]; exact Blk.new _ _ _
 have HA1 := Lib.hid ha1
 have HBZ := Lib.hid hbz
 have HNL := Lib.hid hn
 have hR1 : Reads W1 w.heap.size 1 A n (bv l) := hR.below ha1
 have HR1 := Lib.hid hR1
 have z0 := hbz.frozen 0
 have z1 := hbz.frozen 1
 have z2 := hbz.frozen 2
 have z3 := hbz.frozen 3
 have z4 := hbz.frozen 4
 have z5 := hbz.frozen 5
 have z6 := hbz.frozen 6
 have z7 := hbz.frozen 7
 obtain ⟨x0, x1, x2, x3, x4, x5, x6, x7⟩ := blk8s hbz
 have RET : ∀ (W : World) (ec : Int), Below w.heap.size w W → Blk W w.heap.size 27 #[.int .i64 0, .slice none 0 0, .slice none 0 0, .int .i64 0, .int .i64 0, .int .i64 0, .slice none 0 0, .slice none 0 0] → (∀ y, ¬ IsImg y l) → ec = decErr l → DecP l w (.returned (.tuple #[.agg #[.int .i64 0, .slice none 0 0, .slice none 0 0, .int .i64 0, .int .i64 0, .int .i64 0, .slice none 0 0, .slice none 0 0], .int .i64 ec])) W := fun W ec h1 h2 h3 h4 => ⟨h1, .inr ⟨h3, by rw [h4]⟩⟩
 have HRET := Lib.hid RET
 have nn : (0 : Int) ≤ (n : Int) := by omega
 clear ha1 hbz hR hR1 RET hn
 by_cases c1 : 65536 < n
 ·have HNO : Hid (∀ y, ¬ IsImg y l) := Lib.hid (fun y h => by have := (img_parts h).1; have := HNL.out; omega)
  have HEC : Hid ((2 : Int) = decErr l) := Lib.hid (by unfold decErr; rw [if_pos (by rw [HNL.out]; exact c1)])
  have d1 : (65536 : Int) < (n : Int) := by omega
  clear c1
  go_enter Try.func32, Try.ntmps32
  go_upto_region 1 with fail
  rw [← hW1]
  clear hW1
  go_wp2_with fail
  obtain ⟨X, hX⟩ : ∃ X, X = dSet8 W1 w.heap.size (.int .i64 0) (.slice none 0 0) (.slice none 0 0) (.int .i64 0) (.int .i64 0) (.int .i64 0) (.slice none 0 0) (.slice none 0 0) := ⟨_, rfl⟩
  have HBX := Lib.hid (dSet8_blk HBZ.out (.int .i64 0) (.slice none 0 0) (.slice none 0 0) (.int .i64 0) (.int .i64 0) (.int .i64 0) (.slice none 0 0) (.slice none 0 0))
  have HAX := Lib.hid (dSet8_below HA1.out (Nat.le_refl _) (.int .i64 0) (.slice none 0 0) (.slice none 0 0) (.int .i64 0) (.int .i64 0) (.int .i64 0) (.slice none 0 0) (.slice none 0 0))
  rw [← hX] at HBX HAX
  unfold dSet8 at hX
  rw [← hX]
  clear hX
  obtain ⟨q0, q1, q2, q3, q4, q5, q6, q7⟩ := blk8s HBX.out
  exact bodyPost_ret (v := .tuple #[.agg #[.int .i64 0, .slice none 0 0, .slice none 0 0, .int .i64 0, .int .i64 0, .int .i64 0, .slice none 0 0, .slice none 0 0], .int .i64 2]) (by simp [results, Try.results32, go_sem, q0, q1, q2, q3, q4, q5, q6, q7]) rfl (HRET.out X 2 HAX.out HBX.out HNO.out HEC.out)
 ·have HC1 := Lib.hid c1
  have d1 : (n : Int) ≤ 65536 := by omega
  clear c1
  by_cases c2 : n < 8
  ·have HNO : Hid (∀ y, ¬ IsImg y l) := Lib.hid (fun y h => by have := (img_parts h).2.1; have := HNL.out; omega)
   have HEC : Hid ((30 : Int) = decErr l) := Lib.hid (by unfold decErr; rw [if_neg (by rw [HNL.out]; exact HC1.out), if_pos (by rw [HNL.out]; exact c2)])
   have d2 : (n : Int) < 8 := by omega
   clear c2
   go_enter Try.func32, Try.ntmps32
   go_upto_region 1 with fail
   rw [← hW1]
   clear hW1
   go_wp2_with fail
   obtain ⟨X, hX⟩ : ∃ X, X = dSet8 W1 w.heap.size (.int .i64 0) (.slice none 0 0) (.slice none 0 0) (.int .i64 0) (.int .i64 0) (.int .i64 0) (.slice none 0 0) (.slice none 0 0) := ⟨_, rfl⟩
   have HBX := Lib.hid (dSet8_blk HBZ.out (.int .i64 0) (.slice none 0 0) (.slice none 0 0) (.int .i64 0) (.int .i64 0) (.int .i64 0) (.slice none 0 0) (.slice none 0 0))
   have HAX := Lib.hid (dSet8_below HA1.out (Nat.le_refl _) (.int .i64 0) (.slice none 0 0) (.slice none 0 0) (.int .i64 0) (.int .i64 0) (.int .i64 0) (.slice none 0 0) (.slice none 0 0))
   rw [← hX] at HBX HAX
   unfold dSet8 at hX
   rw [← hX]
   clear hX
   obtain ⟨q0, q1, q2, q3, q4, q5, q6, q7⟩ := blk8s HBX.out
   exact bodyPost_ret (v := .tuple #[.agg #[.int .i64 0, .slice none 0 0, .slice none 0 0, .int .i64 0, .int .i64 0, .int .i64 0, .slice none 0 0, .slice none 0 0], .int .i64 30]) (by simp [results, Try.results32, go_sem, q0, q1, q2, q3, q4, q5, q6, q7]) rfl (HRET.out X 30 HAX.out HBX.out HNO.out HEC.out)
  ·have HC2 := Lib.hid c2
   have d2 : (8 : Int) ≤ (n : Int) := by omega
   have d4 : (4 : Int) ≤ (c : Int) := by omega
   clear c2
   have hcv := reads_text (cap := c) (HR1.out.take HNL.out 4 (by omega)) (by rw [List.length_take]; have := HNL.out; omega)
   by_cases c3 : l.take 4 = magicB
   ·rw [c3] at hcv
    have HC3 := Lib.hid c3
    clear c3
    have hne : ((⟨magicB.toArray⟩ : ByteArray).toList == [65, 85, 83, 80]) = true := by rw [ByteArray.toList_eq]; rfl
    obtain ⟨BS, hBS⟩ : ∃ BS : ByteArray, BS = ⟨magicB.toArray⟩ := ⟨_, rfl⟩
    rw [← hBS] at hcv hne
    clear hBS
    obtain ⟨k, hk⟩ : ∃ k, n = k + 4 := ⟨n - 4, by omega⟩
    have e4 : (n : Int) - 4 = (k : Int) := by omega
    have k1 : (k : Int) ≤ (c : Int) := by omega
    have k2 : (4 : Int) ≤ (k : Int) := by omega
    have HK := Lib.hid hk
    have CS := Lib.hid (sum_any A k c (l.take k) W1 (by rw [List.length_take]; have := HNL.out; omega) (by omega) hm ((HR1.out.take HNL.out k (by omega)).more HA1.out.size))
    obtain ⟨ab, ao, hA, _, hcell⟩ := HR1.out.shape (by omega)
    subst hA
    obtain ⟨u0, u1, u2, u3, hu⟩ : ∃ u0 u1 u2 u3, l.drop k = [u0, u1, u2, u3] := by
     have h1 : (l.drop k).length = 4 := by rw [List.length_drop]; have := HNL.out; omega
     match l.drop k, h1 with
     | [a, b, c, d], _ => exact ⟨a, b, c, d, rfl⟩
    have hget : ∀ j u, [u0, u1, u2, u3][j]? = some u → W1.cell? ⟨ab, ao + (k + j), none⟩ = some (.int .u8 u.toNat) := fun j u hj => by
     refine hcell (k + j) _ ?_
     rw [← hu, List.getElem?_drop] at hj
     unfold bv
     rw [List.getElem?_map, hj]; rfl
    have HGET := Lib.hid hget
    have HU := Lib.hid hu
    obtain ⟨X, hX⟩ : ∃ X, crc (nums (l.take k)) = X := ⟨_, rfl⟩
    have hXl : X < 4294967296 := by rw [← hX]; exact crc_lt _
    have HSB : Hid (sumBy (l.take k) = [(X % 256).toUInt8, (X / 256 % 256).toUInt8, (X / 65536 % 256).toUInt8, (X / 16777216 % 256).toUInt8]) := Lib.hid (by unfold sumBy; rw [hX])
    rw [hX] at CS
    have HKL : Hid (l.length - 4 = k) := Lib.hid (by have := HNL.out; omega)
    clear hcell hget hu hX hk
    go_enter Try.func32, Try.ntmps32
    go_upto_region 1 with fail
    rw [← hW1]
    clear hW1
    go_wp2_with fail
    refine CS.out.mono ?_
    rintro e w2 ⟨rfl, hb2⟩
    have HA2 := Lib.hid (HA1.out.trans (hb2.mono HA1.out.size))
    have HB2 := Lib.hid (HBZ.out.below hb2 HBZ.out.lt)
    have HR2 : Hid (Reads w2 w.heap.size 1 (some ⟨ab, ao, none⟩) n (bv l)) := Lib.hid (HR1.out.below (hb2.mono HA1.out.size))
    have HG2 := Lib.hid (fun j u hj => (World.cell?_of_block (hb2.block ab (cell_in (HGET.out j u hj)))).trans (HGET.out j u hj))
    clear hb2 CS z0 z1 z2 z3 z4 z5 z6 z7 x0 x1 x2 x3 x4 x5 x6 x7 hcv hne
    have z0 := HB2.out.frozen 0
    have z1 := HB2.out.frozen 1
    have z2 := HB2.out.frozen 2
    have z3 := HB2.out.frozen 3
    have z4 := HB2.out.frozen 4
    have z5 := HB2.out.frozen 5
    have z6 := HB2.out.frozen 6
    have z7 := HB2.out.frozen 7
    obtain ⟨x0, x1, x2, x3, x4, x5, x6, x7⟩ := blk8s HB2.out
    have y0 := HG2.out 0 u0 rfl
    have y1 := HG2.out 1 u1 rfl
    have y2 := HG2.out 2 u2 rfl
    have y3 := HG2.out 3 u3 rfl
    have kb : (k : Int) + 1 < (n : Int) := by omega
    have kc : (k : Int) + 2 < (n : Int) := by omega
    have kd : (k : Int) + 3 < (n : Int) := by omega
    have ka : (k : Int) < (n : Int) := by omega
    rw [Nat.add_zero] at y0
    have HBAD : Hid (¬ (l.drop k = sumBy (l.take k)) → (∀ y, ¬ IsImg y l) ∧ (31 : Int) = decErr l) := Lib.hid (fun hq => by
     refine ⟨fun y h => hq ?_, ?_⟩
     ·have h4 := (img_parts h).2.2.2.1
      rw [HKL.out] at h4; exact h4
     ·unfold decErr
      rw [if_neg (by rw [HNL.out]; exact HC1.out), if_neg (by rw [HNL.out]; exact HC2.out), if_neg (by simp [HC3.out]), HKL.out, if_pos hq])
    have HEQ : Hid (l.drop k = sumBy (l.take k) ↔ (u0.toNat : Int) = (X : Int) % 256 ∧ (u1.toNat : Int) = (X : Int) / 256 % 256 ∧ (u2.toNat : Int) = (X : Int) / 65536 % 256 ∧ (u3.toNat : Int) = (X : Int) / 16777216) := Lib.hid (by
     have tu : ∀ (u : UInt8) (q : Nat), q < 256 → (u = q.toUInt8 ↔ u.toNat = q) := fun u q hq => ⟨fun h => by rw [h, toU8 q hq], fun h => UInt8.toNat_inj.1 (by rw [h, toU8 q hq])⟩
     rw [HU.out, HSB.out]
     simp only [List.cons.injEq, and_true]
     rw [tu _ _ (by omega), tu _ _ (by omega), tu _ _ (by omega), tu _ _ (by omega)]
     constructor
     ·rintro ⟨h0, h1, h2, h3⟩
      exact ⟨by omega, by omega, by omega, by omega⟩
     ·rintro ⟨h0, h1, h2, h3⟩
      exact ⟨by omega, by omega, by omega, by omega⟩)
    go_upto_region 9 with fail
    by_cases e0 : (u0.toNat : Int) = (X : Int) % 256
    ·have E0 := Lib.hid e0
     rw [e0] at y0
     clear e0
     by_cases e1 : (u1.toNat : Int) = (X : Int) / 256 % 256
     ·have E1 := Lib.hid e1
      rw [e1] at y1
      clear e1
      by_cases e2 : (u2.toNat : Int) = (X : Int) / 65536 % 256
      ·have E2 := Lib.hid e2
       rw [e2] at y2
       clear e2
       by_cases e3 : (u3.toNat : Int) = (X : Int) / 16777216
       ·have E3 := Lib.hid e3
        rw [e3] at y3
        clear e3
        have HQ : Hid (l.drop k = sumBy (l.take k)) := Lib.hid (HEQ.out.2 ⟨E0.out, E1.out, E2.out, E3.out⟩)
        clear HBAD HEQ E0 E1 E2 E3 HSB HU HGET HG2
        obtain ⟨q, hq⟩ : ∃ q, k = q + 4 := ⟨k - 4, by omega⟩
        have e5 : (k : Int) - 4 = (q : Int) := by omega
        have k3 : (4 : Int) ≤ (c : Int) := by omega
        have HKQ := Lib.hid hq
        have hbl : ((l.take k).drop 4).length = q := by rw [List.length_drop, List.length_take]; have := HNL.out; omega
        have HBL := Lib.hid hbl
        have hrb : Reads w2 w2.heap.size 1 (some ⟨ab, ao + 4, none⟩) q (bv ((l.take k).drop 4)) := by
         refine ⟨by rw [bv_len, hbl]; omega, fun _ => ⟨_, rfl, ?_, fun j u hu => ?_⟩⟩
         ·have := cell_in y0; exact this
         ·rw [Go.WideShapes.add_plain]
          obtain ⟨b', o', hA', _, hc'⟩ := HR2.out.shape (by omega)
          injection hA' with hA'
          injection hA' with hb' ho' _
          subst hb' ho'
          have h9 := hc' (4 + j) u (by
           unfold bv at hu ⊢
           rw [List.getElem?_map, List.getElem?_drop, List.getElem?_take] at hu
           rw [List.getElem?_map]
           split at hu
           ·exact hu
           ·cases hu)
          rw [Nat.add_assoc]; exact h9
        have CO := Lib.hid (fun cc => open_any (some ⟨ab, ao + 4, none⟩) q cc ((l.take k).drop 4) w2 hbl (by omega) hrb)
        clear hbl hrb hq
        go_upto_region 11 with fail
        clear y0 y1 y2 y3 x0 x1 x2 x3 x4 x5 x6 x7 z0 z1 z2 z3 z4 z5 z6 z7
        go_wp2_with fail
        rw [show k - 4 = q by have := HKQ.out; omega]
        refine (CO.out _).mono ?_
        rintro e w3 ⟨R, A3, c3, rfl, hRn, hrd, hrr, _, hb3⟩
        obtain ⟨W5, hW5⟩ : ∃ W, W = (w3.alloc (.cells #[.pointer (some ⟨R, 0, none⟩), .slice none 0 0, .bool true] 109)).alloc (.cells #[.int .i64 0, .slice none 0 0, .slice none 0 0, .int .i64 0, .int .i64 0, .int .i64 0, .slice none 0 0, .slice none 0 0] 27) := ⟨_, rfl⟩
        have hRl : R < w3.heap.size := Blk.lt hrd
        have ha5 : Below w3.heap.size w3 W5 := by rw [hW5]; exact ((Below.refl _ _).alloc (Nat.le_refl _) _).alloc (by simp) _
        have hs5 : W5.heap.size = w3.heap.size + 2 := by rw [hW5]; simp
        have hF5 : Blk W5 w3.heap.size 109 #[.pointer (some ⟨R, 0, none⟩), .slice none 0 0, .bool true] := by rw [hW5]; exact (Blk.new _ _ _).alloc _
        have hT5 : Blk W5 (w3.heap.size + 1) 27 ([Value.int .i64 0, .slice none 0 0, .slice none 0 0, .int .i64 0, .int .i64 0, .int .i64 0, .slice none 0 0, .slice none 0 0]).toArray := by
         have hh := Blk.new (w3.alloc (.cells #[.pointer (some ⟨R, 0, none⟩), .slice none 0 0, .bool true] 109)) 27 #[.int .i64 0, .slice none 0 0, .slice none 0 0, .int .i64 0, .int .i64 0, .int .i64 0, .slice none 0 0, .slice none 0 0]
         rw [World.size_alloc] at hh
         rw [hW5]; exact hh
        have HB23 := Lib.hid hb3
        have HA3 := Lib.hid (HA2.out.trans (hb3.mono HA2.out.size))
        have HA5 : Hid (Below w.heap.size w W5) := Lib.hid (HA3.out.trans (ha5.mono HA3.out.size))
        have hwR : w.heap.size ≤ R := Nat.le_trans HA2.out.size hRn
        have hq9 : q ≤ 65536 := by have := HKQ.out; have := HK.out; omega
        have hfl : FlX w.heap.size W5 w3.heap.size (.rd R A3 q c3 ((l.take k).drop 4) 0) := ⟨HA3.out.size, hwR, hF5, Blk.below hrd ha5 hRl, hrr.keep (fun p hp => ha5.cell (by omega)), HBL.out, Nat.zero_le _, hq9⟩
        have CT := Lib.hid (through_step w.heap.size w3.heap.size (w3.heap.size + 1) _ zTab _ W5 hfl hT5 ⟨_, _, _, _, rfl, SlQ.nil _ _ _, SlQ.nil _ _ _, SlQ.nil _ _ _, SlQ.nil _ _ _, by unfold wfi; decide, by unfold wfi; decide, by unfold wfi; decide, by unfold wfi; decide⟩ (by have := HA3.out.size; omega) HA5.out.size (fun _ _ _ _ _ _ e => by injection e with e; omega) (by simp [FSt.room]))
        have HF5 := Lib.hid hF5
        have HS5 := Lib.hid hs5
        have HZ5 : Hid (Blk W5 w.heap.size 27 #[.int .i64 0, .slice none 0 0, .slice none 0 0, .int .i64 0, .int .i64 0, .int .i64 0, .slice none 0 0, .slice none 0 0]) := Lib.hid ((HB2.out.below hb3 HB2.out.lt).below ha5 (by have := HB2.out.lt; have := hb3.size; omega))
        have HNT : Hid (w.heap.size < w3.heap.size ∧ R < w3.heap.size) := Lib.hid ⟨by have := HB2.out.lt; have := hb3.size; omega, hRl⟩
        have HHW := Lib.hid hW5
        clear hRn hrd hrr hb3 hRl ha5 hs5 hF5 hT5 hfl hwR hq9 CO hW5
        go_upto_region 13 with fail
        rw [← HHW.out]
        clear HHW
        go_wp2_with fail
        refine CT.out.mono ?_
        have HLAST : Hid (∀ y, IsImg y l → ∃ s, tabF (.rd R A3 q c3 ((l.take k).drop 4) 0) zTab = some (s, y) ∧ s = .rd R A3 q c3 ((l.take k).drop 4) q) := Lib.hid (fun y h => by
         have h5 := (img_parts h).2.2.2.2
         rw [HKL.out] at h5
         refine ⟨_, h5.par R A3 q c3 _ 0 [] HBL.out (Nat.zero_le _) (by simp), ?_⟩
         rw [HBL.out, Nat.zero_add])
        have HEC : Hid ((32 : Int) = decErr l) := Lib.hid (by
         unfold decErr
         rw [if_neg (by rw [HNL.out]; exact HC1.out), if_neg (by rw [HNL.out]; exact HC2.out), if_neg (by simp [HC3.out]), HKL.out, if_neg (by simp [HQ.out])])
        rintro e w6 (⟨s, y, vs, ht, rfl, hf6, hb6, hr6, hfr⟩ | ⟨ht, ec, rfl, he, hfr⟩)
        ·obtain ⟨m, rest, hd, him, hs⟩ := img_got HBL.out (Nat.zero_le _) ht
         rw [hs] at hf6 ht
         rw [Nat.zero_add] at hf6 ht
         clear hs
         obtain ⟨f1, f2, f3, f4, f5, f6, f7, f8⟩ := hf6
         obtain ⟨p, hp⟩ : ∃ p, m.length = p := ⟨_, rfl⟩
         rw [hp] at f4 f7 ht
         have CL := Lib.hid (left_any A3 q c3 p R w6 f7 (by omega) f4)
         have g0 := f3.cell 0
         have HA6 := Lib.hid (HA5.out.trans hfr.1)
         have HB6 : Hid (Blk w6 w.heap.size 27 #[.int .i64 0, .slice none 0 0, .slice none 0 0, .int .i64 0, .int .i64 0, .int .i64 0, .slice none 0 0, .slice none 0 0]) := Lib.hid (hfr.2 _ _ _ (by have := HNT.out.1; omega) (by unfold hot; decide) HZ5.out)
         have HT6 := Lib.hid hb6
         have HR6 := Lib.hid hr6
         have HHT := Lib.hid ht
         have HIM := Lib.hid him
         have HD := Lib.hid hd
         have HP := Lib.hid hp
         have HPQ := Lib.hid f7
         clear ht hb6 hr6 hfr him hd f1 f2 f3 f4 f5 f6 f8 hp CT
         go_wp2_with fail
         refine CL.out.mono ?_
         rintro e w7' ⟨rfl, dm, rfl⟩
         clear g0 CL
         obtain ⟨w7, hw7⟩ : ∃ w7, w7 = w6.drewN dm := ⟨_, rfl⟩
         rw [← hw7]
         have HA7 : Hid (Below w.heap.size w w7) := Lib.hid (by rw [hw7]; exact below_drewN HA6.out _)
         have HB7 : Hid (Blk w7 w.heap.size 27 #[.int .i64 0, .slice none 0 0, .slice none 0 0, .int .i64 0, .int .i64 0, .int .i64 0, .slice none 0 0, .slice none 0 0]) := Lib.hid (by rw [hw7]; exact HB6.out)
         have HF7 : Hid (Fr w.heap.size w.heap.size w6 w7) := Lib.hid (by rw [hw7]; exact ⟨below_drewN (Below.refl _ _) _, fun _ _ _ _ _ h => h⟩)
         clear hw7
         obtain ⟨x0, x1, x2, x3, x4, x5, x6, x7⟩ := blk8s HB7.out
         have z0 := HB7.out.frozen 0
         have z1 := HB7.out.frozen 1
         have z2 := HB7.out.frozen 2
         have z3 := HB7.out.frozen 3
         have z4 := HB7.out.frozen 4
         have z5 := HB7.out.frozen 5
         have z6 := HB7.out.frozen 6
         have z7 := HB7.out.frozen 7
         by_cases hpq : p < q
         ·have HNO : Hid (∀ y, ¬ IsImg y l) := Lib.hid (fun y h => by
           obtain ⟨s, h1, h2⟩ := HLAST.out y h
           rw [HHT.out, h2] at h1
           simp only [Option.some.injEq, Prod.mk.injEq, FSt.rd.injEq, true_and] at h1
           omega)
          have d9 : (0 : Int) < ((q - p : Nat) : Int) := by omega
          clear hpq
          go_wp2_with fail
          obtain ⟨X, hX⟩ : ∃ X, X = dSet8 w7 w.heap.size (.int .i64 0) (.slice none 0 0) (.slice none 0 0) (.int .i64 0) (.int .i64 0) (.int .i64 0) (.slice none 0 0) (.slice none 0 0) := ⟨_, rfl⟩
          have HBX := Lib.hid (dSet8_blk HB7.out (.int .i64 0) (.slice none 0 0) (.slice none 0 0) (.int .i64 0) (.int .i64 0) (.int .i64 0) (.slice none 0 0) (.slice none 0 0))
          have HAX := Lib.hid (dSet8_below HA7.out (Nat.le_refl _) (.int .i64 0) (.slice none 0 0) (.slice none 0 0) (.int .i64 0) (.int .i64 0) (.int .i64 0) (.slice none 0 0) (.slice none 0 0))
          rw [← hX] at HBX HAX
          unfold dSet8 at hX
          rw [← hX]
          clear hX
          obtain ⟨q0, q1, q2, q3, q4, q5, q6, q7⟩ := blk8s HBX.out
          exact bodyPost_ret (v := .tuple #[.agg #[.int .i64 0, .slice none 0 0, .slice none 0 0, .int .i64 0, .int .i64 0, .int .i64 0, .slice none 0 0, .slice none 0 0], .int .i64 32]) (by simp [results, Try.results32, go_sem, q0, q1, q2, q3, q4, q5, q6, q7]) rfl (HRET.out X 32 HAX.out HBX.out HNO.out HEC.out)
         ·have hpe : q - p = 0 := by omega
          rw [hpe]
          have HIMG : Hid (IsImg y l) := Lib.hid (by
           have hml : m.length = ((l.take k).drop 4).length := by have := HP.out; have := HBL.out; have := HPQ.out; omega
           have hd := HD.out
           rw [List.drop_zero] at hd
           have hr : rest = [] := by
            have := congrArg List.length hd
            rw [List.length_append] at this
            exact List.eq_nil_of_length_eq_zero (by omega)
           rw [hr, List.append_nil] at hd
           have him := HIM.out
           rw [← hd] at him
           have hkl := HKL.out
           refine img_whole (by have := HNL.out; omega) (by have := HNL.out; have := HC2.out; omega) HC3.out (by rw [hkl]; exact HQ.out) (by rw [hkl]; exact him))
          have hr7 := tabQ_next HR6.out HF7.out (base0 := W5.heap.size) (by have := HA5.out.size; have := HNT.out.1; have := HS5.out; omega) (Nat.le_refl _)
          obtain ⟨vk, vkk, vr, vc, hvs, htab⟩ := hr7.tab
          have HT7 : Hid (Blk w7 (w3.heap.size + 1) 27 vs.toArray) := Lib.hid (HF7.out.2 _ _ _ (by have := HNT.out.1; omega) (by unfold hot; decide) (by simpa using HT6.out))
          have HR7 := Lib.hid hr7
          rw [hvs] at HT7 HR7
          obtain ⟨A1, a1, rfl, _, _⟩ := htab.keys.slice
          obtain ⟨B1, b1, rfl, _, _⟩ := htab.kinds.slice
          obtain ⟨C1, cc1, rfl, _, _⟩ := htab.states.slice
          obtain ⟨D1, dd1, rfl, _, _⟩ := htab.codes.slice
          obtain ⟨t0, t1, t2, t3, t4, t5, t6, t7⟩ := blk8s HT7.out
          clear hvs htab hpe hpq hr7
          go_wp2_with fail
          obtain ⟨X, hX⟩ : ∃ X, X = dSet8 w7 w.heap.size (.int .i64 y.strategy) (.slice A1 y.keys.length a1) (.slice B1 y.kinds.length b1) (.int .i64 y.syms) (.int .i64 y.runs) (.int .i64 y.cells) (.slice C1 y.states.length cc1) (.slice D1 y.codes.length dd1) := ⟨_, rfl⟩
          have HBX := Lib.hid (dSet8_blk HB7.out (.int .i64 y.strategy) (.slice A1 y.keys.length a1) (.slice B1 y.kinds.length b1) (.int .i64 y.syms) (.int .i64 y.runs) (.int .i64 y.cells) (.slice C1 y.states.length cc1) (.slice D1 y.codes.length dd1))
          have HAX := Lib.hid (dSet8_below HA7.out (Nat.le_refl _) (.int .i64 y.strategy) (.slice A1 y.keys.length a1) (.slice B1 y.kinds.length b1) (.int .i64 y.syms) (.int .i64 y.runs) (.int .i64 y.cells) (.slice C1 y.states.length cc1) (.slice D1 y.codes.length dd1))
          have HFX : Hid (Fr w.heap.size w.heap.size w7 X) := Lib.hid (by
           rw [hX]
           exact ((((((((Fr.refl _ _ _).set_ (Nat.le_refl _) 0 _).set_ (Nat.le_refl _) 1 _).set_ (Nat.le_refl _) 2 _).set_ (Nat.le_refl _) 3 _).set_ (Nat.le_refl _) 4 _).set_ (Nat.le_refl _) 5 _).set_ (Nat.le_refl _) 6 _).set_ (Nat.le_refl _) 7 _)
          rw [← hX] at HBX HAX
          unfold dSet8 at hX
          rw [← hX]
          clear hX
          obtain ⟨q0, q1, q2, q3, q4, q5, q6, q7⟩ := blk8s HBX.out
          have hr8 := tabQ_next HR7.out HFX.out (base0 := W5.heap.size) (by have := HA5.out.size; have := HNT.out.1; have := HS5.out; omega) (Nat.le_refl _)
          exact bodyPost_ret (v := .tuple #[.agg #[.int .i64 y.strategy, .slice A1 y.keys.length a1, .slice B1 y.kinds.length b1, .int .i64 y.syms, .int .i64 y.runs, .int .i64 y.cells, .slice C1 y.states.length cc1, .slice D1 y.codes.length dd1], .int .i64 0]) (by simp [results, Try.results32, go_sem, q0, q1, q2, q3, q4, q5, q6, q7]) rfl ⟨HAX.out, .inl ⟨y, _, _, _, _, HIMG.out, rfl, TabQ.keep hr8 (fun _ _ _ h => h) (fun b hb => by have := hb.1; have := HA5.out.size; omega)⟩⟩
        ·have HNO : Hid (∀ y, ¬ IsImg y l) := Lib.hid (fun y h => by
          obtain ⟨s, h1, _⟩ := HLAST.out y h
          rw [ht] at h1; cases h1)
         have HA6 := Lib.hid (HA5.out.trans hfr.1)
         have HB6 : Hid (Blk w6 w.heap.size 27 #[.int .i64 0, .slice none 0 0, .slice none 0 0, .int .i64 0, .int .i64 0, .int .i64 0, .slice none 0 0, .slice none 0 0]) := Lib.hid (hfr.2 _ _ _ (by have := HNT.out.1; omega) (by unfold hot; decide) HZ5.out)
         obtain ⟨x0, x1, x2, x3, x4, x5, x6, x7⟩ := blk8s HB6.out
         have z0 := HB6.out.frozen 0
         have z1 := HB6.out.frozen 1
         have z2 := HB6.out.frozen 2
         have z3 := HB6.out.frozen 3
         have z4 := HB6.out.frozen 4
         have z5 := HB6.out.frozen 5
         have z6 := HB6.out.frozen 6
         have z7 := HB6.out.frozen 7
         have hec : (ec == 0) = false := by rcases he.1 with rfl | rfl <;> rfl
         have hec2 : (ec = 0) = False := eq_false (by rcases he.1 with rfl | rfl <;> decide)
         clear ht he hfr CT
         go_wp2_with fail
         obtain ⟨X, hX⟩ : ∃ X, X = dSet8 w6 w.heap.size (.int .i64 0) (.slice none 0 0) (.slice none 0 0) (.int .i64 0) (.int .i64 0) (.int .i64 0) (.slice none 0 0) (.slice none 0 0) := ⟨_, rfl⟩
         have HBX := Lib.hid (dSet8_blk HB6.out (.int .i64 0) (.slice none 0 0) (.slice none 0 0) (.int .i64 0) (.int .i64 0) (.int .i64 0) (.slice none 0 0) (.slice none 0 0))
         have HAX := Lib.hid (dSet8_below HA6.out (Nat.le_refl _) (.int .i64 0) (.slice none 0 0) (.slice none 0 0) (.int .i64 0) (.int .i64 0) (.int .i64 0) (.slice none 0 0) (.slice none 0 0))
         rw [← hX] at HBX HAX
         unfold dSet8 at hX
         rw [← hX]
         clear hX
         obtain ⟨q0, q1, q2, q3, q4, q5, q6, q7⟩ := blk8s HBX.out
         exact bodyPost_ret (v := .tuple #[.agg #[.int .i64 0, .slice none 0 0, .slice none 0 0, .int .i64 0, .int .i64 0, .int .i64 0, .slice none 0 0, .slice none 0 0], .int .i64 32]) (by simp [results, Try.results32, go_sem, q0, q1, q2, q3, q4, q5, q6, q7]) rfl (HRET.out X 32 HAX.out HBX.out HNO.out HEC.out)
       ·have HBB := HBAD.out (fun h => e3 (HEQ.out.1 h).2.2.2)
        have HNO := Lib.hid HBB.1
        have HEC := Lib.hid HBB.2
        have t3 : ((u3.toNat : Int) == (X : Int) / 16777216) = false := beq_eq_false_iff_ne.2 e3
        have v3 : ((u3.toNat : Int) = (X : Int) / 16777216) = False := eq_false e3
        clear HBB e3
        go_wp2_with fail
        obtain ⟨X, hX⟩ : ∃ X, X = dSet8 w2 w.heap.size (.int .i64 0) (.slice none 0 0) (.slice none 0 0) (.int .i64 0) (.int .i64 0) (.int .i64 0) (.slice none 0 0) (.slice none 0 0) := ⟨_, rfl⟩
        have HBX := Lib.hid (dSet8_blk HB2.out (.int .i64 0) (.slice none 0 0) (.slice none 0 0) (.int .i64 0) (.int .i64 0) (.int .i64 0) (.slice none 0 0) (.slice none 0 0))
        have HAX := Lib.hid (dSet8_below HA2.out (Nat.le_refl _) (.int .i64 0) (.slice none 0 0) (.slice none 0 0) (.int .i64 0) (.int .i64 0) (.int .i64 0) (.slice none 0 0) (.slice none 0 0))
        rw [← hX] at HBX HAX
        unfold dSet8 at hX
        rw [← hX]
        clear hX
        obtain ⟨q0, q1, q2, q3, q4, q5, q6, q7⟩ := blk8s HBX.out
        exact bodyPost_ret (v := .tuple #[.agg #[.int .i64 0, .slice none 0 0, .slice none 0 0, .int .i64 0, .int .i64 0, .int .i64 0, .slice none 0 0, .slice none 0 0], .int .i64 31]) (by simp [results, Try.results32, go_sem, q0, q1, q2, q3, q4, q5, q6, q7]) rfl (HRET.out X 31 HAX.out HBX.out HNO.out HEC.out)
      ·have HBB := HBAD.out (fun h => e2 (HEQ.out.1 h).2.2.1)
       have HNO := Lib.hid HBB.1
       have HEC := Lib.hid HBB.2
       have t2 : ((u2.toNat : Int) == (X : Int) / 65536 % 256) = false := beq_eq_false_iff_ne.2 e2
       have v2 : ((u2.toNat : Int) = (X : Int) / 65536 % 256) = False := eq_false e2
       clear HBB e2
       go_wp2_with fail
       obtain ⟨X, hX⟩ : ∃ X, X = dSet8 w2 w.heap.size (.int .i64 0) (.slice none 0 0) (.slice none 0 0) (.int .i64 0) (.int .i64 0) (.int .i64 0) (.slice none 0 0) (.slice none 0 0) := ⟨_, rfl⟩
       have HBX := Lib.hid (dSet8_blk HB2.out (.int .i64 0) (.slice none 0 0) (.slice none 0 0) (.int .i64 0) (.int .i64 0) (.int .i64 0) (.slice none 0 0) (.slice none 0 0))
       have HAX := Lib.hid (dSet8_below HA2.out (Nat.le_refl _) (.int .i64 0) (.slice none 0 0) (.slice none 0 0) (.int .i64 0) (.int .i64 0) (.int .i64 0) (.slice none 0 0) (.slice none 0 0))
       rw [← hX] at HBX HAX
       unfold dSet8 at hX
       rw [← hX]
       clear hX
       obtain ⟨q0, q1, q2, q3, q4, q5, q6, q7⟩ := blk8s HBX.out
       exact bodyPost_ret (v := .tuple #[.agg #[.int .i64 0, .slice none 0 0, .slice none 0 0, .int .i64 0, .int .i64 0, .int .i64 0, .slice none 0 0, .slice none 0 0], .int .i64 31]) (by simp [results, Try.results32, go_sem, q0, q1, q2, q3, q4, q5, q6, q7]) rfl (HRET.out X 31 HAX.out HBX.out HNO.out HEC.out)
     ·have HBB := HBAD.out (fun h => e1 (HEQ.out.1 h).2.1)
      have HNO := Lib.hid HBB.1
      have HEC := Lib.hid HBB.2
      have t1 : ((u1.toNat : Int) == (X : Int) / 256 % 256) = false := beq_eq_false_iff_ne.2 e1
      have v1 : ((u1.toNat : Int) = (X : Int) / 256 % 256) = False := eq_false e1
      clear HBB e1
      go_wp2_with fail
      obtain ⟨X, hX⟩ : ∃ X, X = dSet8 w2 w.heap.size (.int .i64 0) (.slice none 0 0) (.slice none 0 0) (.int .i64 0) (.int .i64 0) (.int .i64 0) (.slice none 0 0) (.slice none 0 0) := ⟨_, rfl⟩
      have HBX := Lib.hid (dSet8_blk HB2.out (.int .i64 0) (.slice none 0 0) (.slice none 0 0) (.int .i64 0) (.int .i64 0) (.int .i64 0) (.slice none 0 0) (.slice none 0 0))
      have HAX := Lib.hid (dSet8_below HA2.out (Nat.le_refl _) (.int .i64 0) (.slice none 0 0) (.slice none 0 0) (.int .i64 0) (.int .i64 0) (.int .i64 0) (.slice none 0 0) (.slice none 0 0))
      rw [← hX] at HBX HAX
      unfold dSet8 at hX
      rw [← hX]
      clear hX
      obtain ⟨q0, q1, q2, q3, q4, q5, q6, q7⟩ := blk8s HBX.out
      exact bodyPost_ret (v := .tuple #[.agg #[.int .i64 0, .slice none 0 0, .slice none 0 0, .int .i64 0, .int .i64 0, .int .i64 0, .slice none 0 0, .slice none 0 0], .int .i64 31]) (by simp [results, Try.results32, go_sem, q0, q1, q2, q3, q4, q5, q6, q7]) rfl (HRET.out X 31 HAX.out HBX.out HNO.out HEC.out)
    ·have HBB := HBAD.out (fun h => e0 (HEQ.out.1 h).1)
     have HNO := Lib.hid HBB.1
     have HEC := Lib.hid HBB.2
     have t0 : ((u0.toNat : Int) == (X : Int) % 256) = false := beq_eq_false_iff_ne.2 e0
     have v0 : ((u0.toNat : Int) = (X : Int) % 256) = False := eq_false e0
     clear HBB e0
     go_wp2_with fail
     obtain ⟨X, hX⟩ : ∃ X, X = dSet8 w2 w.heap.size (.int .i64 0) (.slice none 0 0) (.slice none 0 0) (.int .i64 0) (.int .i64 0) (.int .i64 0) (.slice none 0 0) (.slice none 0 0) := ⟨_, rfl⟩
     have HBX := Lib.hid (dSet8_blk HB2.out (.int .i64 0) (.slice none 0 0) (.slice none 0 0) (.int .i64 0) (.int .i64 0) (.int .i64 0) (.slice none 0 0) (.slice none 0 0))
     have HAX := Lib.hid (dSet8_below HA2.out (Nat.le_refl _) (.int .i64 0) (.slice none 0 0) (.slice none 0 0) (.int .i64 0) (.int .i64 0) (.int .i64 0) (.slice none 0 0) (.slice none 0 0))
     rw [← hX] at HBX HAX
     unfold dSet8 at hX
     rw [← hX]
     clear hX
     obtain ⟨q0, q1, q2, q3, q4, q5, q6, q7⟩ := blk8s HBX.out
     exact bodyPost_ret (v := .tuple #[.agg #[.int .i64 0, .slice none 0 0, .slice none 0 0, .int .i64 0, .int .i64 0, .int .i64 0, .slice none 0 0, .slice none 0 0], .int .i64 31]) (by simp [results, Try.results32, go_sem, q0, q1, q2, q3, q4, q5, q6, q7]) rfl (HRET.out X 31 HAX.out HBX.out HNO.out HEC.out)
   ·have HNO : Hid (∀ y, ¬ IsImg y l) := Lib.hid (fun y h => c3 (img_parts h).2.2.1)
    have HEC : Hid ((32 : Int) = decErr l) := Lib.hid (by unfold decErr; rw [if_neg (by rw [HNL.out]; exact HC1.out), if_neg (by rw [HNL.out]; exact HC2.out), if_pos c3])
    have hne : ((⟨(l.take 4).toArray⟩ : ByteArray).toList == [65, 85, 83, 80]) = false := by
     rw [beq_eq_false_iff_ne, ByteArray.toList_eq]; exact c3
    obtain ⟨BS, hBS⟩ : ∃ BS : ByteArray, BS = ⟨(l.take 4).toArray⟩ := ⟨_, rfl⟩
    rw [← hBS] at hcv hne
    clear c3 hBS
    go_enter Try.func32, Try.ntmps32
    go_upto_region 1 with fail
    rw [← hW1]
    clear hW1
    go_wp2_with fail
    obtain ⟨X, hX⟩ : ∃ X, X = dSet8 W1 w.heap.size (.int .i64 0) (.slice none 0 0) (.slice none 0 0) (.int .i64 0) (.int .i64 0) (.int .i64 0) (.slice none 0 0) (.slice none 0 0) := ⟨_, rfl⟩
    have HBX := Lib.hid (dSet8_blk HBZ.out (.int .i64 0) (.slice none 0 0) (.slice none 0 0) (.int .i64 0) (.int .i64 0) (.int .i64 0) (.slice none 0 0) (.slice none 0 0))
    have HAX := Lib.hid (dSet8_below HA1.out (Nat.le_refl _) (.int .i64 0) (.slice none 0 0) (.slice none 0 0) (.int .i64 0) (.int .i64 0) (.int .i64 0) (.slice none 0 0) (.slice none 0 0))
    rw [← hX] at HBX HAX
    unfold dSet8 at hX
    rw [← hX]
    clear hX
    obtain ⟨q0, q1, q2, q3, q4, q5, q6, q7⟩ := blk8s HBX.out
    exact bodyPost_ret (v := .tuple #[.agg #[.int .i64 0, .slice none 0 0, .slice none 0 0, .int .i64 0, .int .i64 0, .int .i64 0, .slice none 0 0, .slice none 0 0], .int .i64 32]) (by simp [results, Try.results32, go_sem, q0, q1, q2, q3, q4, q5, q6, q7]) rfl (HRET.out X 32 HAX.out HBX.out HNO.out HEC.out)
theorem img_one {y z : TTab} {l : List UInt8} (h : IsImg y l) (k : IsImg z l) : y = z := by
 have h1 := (img_parts h).2.2.2.2
 have h2 := (img_parts k).2.2.2.2
 exact (h1.begin (rest := []) (by rw [List.append_nil]; exact h2)).2
theorem reads4 (w : World) (a b c d : Value) (e : TypeId) (m : Nat × Nat) : Reads (w.alloc (.cells #[a, b, c, d] e m)) (w.heap.size + 1) 1 (some ⟨w.heap.size, 0, none⟩) 4 [a, b, c, d] := by
 refine ⟨rfl, fun _ => ⟨_, rfl, by simp, fun j u hu => ?_⟩⟩
 rw [Go.WideShapes.add_plain, Nat.zero_add, cell_of_row _ _ j _ _ _ (heap_alloc_new w _)]
 simpa using hu
def EncP (T : TTab) (w : World) (e : Ending) (w' : World) : Prop := Below w.heap.size w w' ∧
 ((∃ b y, tabF (.wr magicB) T = some (.wr b, y) ∧ ((b.length + 4 ≤ 65536 ∧ ∃ A c, e = .returned (.tuple #[.slice A (b.length + 4) c, .int .i64 0]) ∧ w'.ownsRow w.heap.size 5 1 (.slice A (b.length + 4) c) (b.length + 4) (bv (b ++ sumBy b))) ∨ (65536 < b.length + 4 ∧ e = .returned (.tuple #[.slice none 0 0, .int .i64 2])))) ∨
 (tabF (.wr magicB) T = none ∧ e = .returned (.tuple #[.slice none 0 0, .int .i64 3])))
set_option maxRecDepth 100000 in
set_option maxHeartbeats 4000000 in
theorem summed_any (A : Option Addr) (n c : Nat) (l : List UInt8) (w : World) (hn : l.length = n) (hc : n ≤ c) (hm : c ≤ 9223372036854775807) (hn2 : n ≤ 1000000000) (hR : Reads w w.heap.size 1 A n (bv l)) :
  Calls Try.prog 38 #[.slice A n c] w (MadeV w (l ++ sumBy l)) := by
 obtain ⟨i0, hi, hz0, hz1, hz2⟩ := info_parts infoU8
 have CS := Lib.hid (rsum_any A n c w.heap.size l w hn hc hm hR)
 obtain ⟨X, hX⟩ : ∃ X, crc (nums l) = X := ⟨_, rfl⟩
 have hXl : X < 4294967296 := by rw [← hX]; exact crc_lt l
 have HSB : Hid (bv (sumBy l) = [.int .u8 ((X : Int) % 256), .int .u8 ((X : Int) / 256 % 256), .int .u8 ((X : Int) / 65536 % 256), .int .u8 ((X : Int) / 16777216)]) := Lib.hid (by rw [sumBy_bv, hX, show X / 16777216 % 256 = X / 16777216 by omega]; simp)
 rw [hX] at CS
 have HR := Lib.hid hR
 have HN := Lib.hid hn
 obtain ⟨W1, hW1⟩ : ∃ W, W = w.alloc (.cells #[] 5) := ⟨_, rfl⟩
 have ha1 : Below w.heap.size w W1 := by rw [hW1]; exact (Below.refl _ _).alloc (Nat.le_refl _) _
 have ho1 : W1.ownsRow w.heap.size 5 1 (.slice (some ⟨w.heap.size, 0, none⟩) 0 0) 0 [] := by rw [hW1]; exact World.ownsRow_lit w #[] 0 (Nat.le_refl _) (by decide) rfl
 have HO1 := Lib.hid ho1
 have HA1 := Lib.hid ha1
 have HR1 : Hid (Reads W1 w.heap.size 1 A n (bv l)) := Lib.hid (hR.below ha1)
 have HW1 := Lib.hid hW1
 obtain ⟨N, hN⟩ : ∃ N, n + 4 = N := ⟨_, rfl⟩
 have HNN := Lib.hid hN
 have hb9 : n + 4 ≤ 70368744177664 := by omega
 have HB9 := Lib.hid hb9
 clear hn hR hX ha1 ho1 hW1 hN hb9
 go_enter Try.func38, Try.ntmps38
 go_wp2_with fail
 refine CS.out.mono ?_
 rintro e w' ⟨rfl, hw⟩
 subst hw
 clear CS
 go_wp2_with (first
  | (at_builtin; rw [← HW1.out]; refine wpList_append_any _ rfl (.tmp 6) (.tmp 7) 47 rfl w.heap.size 5 i0 _ 1 1 Try.underlying47 hi hz0 hz1 hz2 rfl (by omega) (.slice (some ⟨w.heap.size, 0, none⟩) 0 0) 0 [] rfl HO1.out w.heap.size A n c (bv l) rfl HR1.out (bv_one l) (by unfold maxLen; omega) (by omega) HA1.out.size ?_; intro v2 w2 ho2 hg2 hat2; simp only [Nat.zero_add, List.nil_append] at ho2; obtain ⟨A2, c2, rfl⟩ := own_slice ho2; (try rw [Nat.zero_add]); have HO2 := Lib.hid ho2; have HA2 : Hid (Below w.heap.size w w2) := Lib.hid (HA1.out.grown hg2 HA1.out.size (fun q hq => (own_lt2 HO1.out hq).2)); clear ho2 hg2 hat2; obtain ⟨W3, hW3⟩ : ∃ W, W = w2.alloc (.cells #[.int .u8 ((X : Int) % 256), .int .u8 ((X : Int) / 256 % 256), .int .u8 ((X : Int) / 65536 % 256), .int .u8 ((X : Int) / 16777216)] 5) := ⟨_, rfl⟩; have ha3 : Below w2.heap.size w2 W3 := (by rw [hW3]; exact (Below.refl _ _).alloc (Nat.le_refl _) _); have R3 : Hid (Reads W3 (w2.heap.size + 1) 1 (some ⟨w2.heap.size, 0, none⟩) 4 (bv (sumBy l))) := Lib.hid (by rw [HSB.out, hW3]; exact reads4 _ _ _ _ _ _ _); have HO3 : Hid (W3.ownsRow w.heap.size 5 1 (.slice A2 n c2) n (bv l)) := Lib.hid (own_below2 HO2.out ha3); have HB3 : Hid (OwnB w.heap.size W3 (.slice A2 n c2) l) := Lib.hid (.inl (by rw [HN.out]; exact HO3.out)); have HA3 : Hid (Below w.heap.size w W3) := Lib.hid (HA2.out.trans (ha3.mono HA2.out.size)); have HW3 := Lib.hid hW3; have HN4 : Hid (l.length + 4 = N) := Lib.hid (by rw [HN.out]; exact HNN.out); have HB4 : Hid (l.length + 4 ≤ 70368744177664) := Lib.hid (by rw [HN.out]; exact HB9.out); clear hW3 ha3)
  | (at_builtin; rw [← HW3.out]; refine wpList_append_b rfl (.tmp 8) (.tmp 23) 47 rfl (B := w.heap.size) (v := .slice A2 n c2) (l := l) i0 Try.underlying47 hi hz0 hz1 hz2 rfl HB3.out (w2.heap.size + 1) (some ⟨w2.heap.size, 0, none⟩) 4 4 (sumBy l) rfl R3.out (by decide) HB4.out HA3.out.size N HN4.out ?_; intro v3 w3 ho3 hg3; have HO4 := Lib.hid ho3; have HG3 := Lib.hid hg3; clear ho3 hg3))
 go_ret
 have hl : (l ++ sumBy l).length = N := by rw [List.length_append, HN.out, show (sumBy l).length = 4 from rfl]; exact HNN.out
 refine ⟨v3, rfl, by rw [hl, bv_app]; exact HO4.out, ?_⟩
 exact HA3.out.grown HG3.out HA3.out.size (fun q hq => (HB3.out.lt hq).2)
end Go.Proofs.Ytioocaicmiggoaa

/- Fqq: texts merged for a claim by a program of mine. -/
import Derived.Test.YtioocaicmiggoaaA08
import Derived.Test.YtioocaicmiggoaaA09
import Derived.Test.YtioocaicmiggoaaA10
import Derived.Test.YtioocaicmiggoaaA11
import Derived.Test.YtioocaicmiggoaaA12
import Derived.Test.YtioocaicmiggoaaA13
namespace Go.Proofs.Ytioocaicmiggoaa
set_option linter.unusedVariables false
set_option linter.unusedSimpArgs false
open Go.RowKit Go.Deep
set_option maxRecDepth 100000 in
set_option maxHeartbeats 8000000 in
theorem one_T (B F gB : Nat) : OneC B F 98 2 (fun _ => StopC) (CapC gB F) stopF (20) (fun p w Q => Calls Try.prog 100 #[p, .pointer (some ⟨gB, 0, none⟩)] w Q) := by
 intro tb L1 L2 vs off st x w hf hb ho hl hB hBw hup hroom hR hcap
 obtain ⟨rfl, wx0, wx1⟩ := hR
 have ht : ¬ hot 98 := by unfold hot; decide
 have HT := Lib.hid ht
 have HO := Lib.hid ho
 have HB := Lib.hid hB
 have HBW := Lib.hid hBw
 have HUP := Lib.hid hup
 have HRM := Lib.hid hroom
 have HFW := Lib.hid hf
 have HGN := Lib.hid hcap.1
 have GB0 := Lib.hid hcap.2
 have FL0 := Lib.hid hf
 have BL0 := Lib.hid hb
 have FR0 := Lib.hid (Fr.refl B tb w)
 have HGL : Hid (gB < w.heap.size) := Lib.hid hcap.2.lt
 have g0 := GB0.out.cell 0
 clear ht ho hB hBw hup hroom hf hb hcap hl
 go_enter Try.func100, Try.ntmps100
 have KN0 : Hid (st.kin st) := Lib.hid (kin_refl st)
 have RM0 : Hid (st.room ≤ st.room + 0) := Lib.hid (Nat.le_refl _)
 refine region_till (fun W => W.cell? ⟨gB, 0, none⟩ = some (.pointer (some ⟨F, 0, none⟩))) (fun j => !([0, 1, 2, 3, 4, 5, 6, 7, 8] : List Nat).contains j) (by kernel_rfl) ?_
 obtain ⟨y0, hy0⟩ : ∃ y0, y0 = World.drew w := ⟨_, rfl⟩
 rw [← hy0]
 have SF0 : Hid (Fr B tb w y0) := Lib.hid (by rw [hy0]; exact Fr.drew B tb w)
 have FY0 : Hid (FlX B y0 F st) := Lib.hid (by rw [hy0]; exact FL0.out.drew)
 have BY0 : Hid (Blk y0 tb 98 (L1 ++ ([Value.int .i64 x.ty, Value.int .i64 x.gd] ++ L2)).toArray) := Lib.hid (by rw [hy0]; exact BL0.out)
 have GY0 : Hid (Blk y0 gB 105 #[.pointer (some ⟨F, 0, none⟩)]) := Lib.hid (by rw [hy0]; exact GB0.out)
 have ZY0 : Hid (w.heap.size ≤ y0.heap.size) := Lib.hid (Nat.le_trans FR0.out.size SF0.out.size)
 clear hy0 g0
 have HS : Hid (y0.cell? ⟨gB, 0, none⟩ = some (.pointer (some ⟨F, 0, none⟩))) := Lib.hid (GY0.out.cell 0)
 refine till_take (i := 0) (v := ?_) rfl (by kernel_rfl) (by kernel_rfl) (by kernel_rfl) (by kernel_rfl) (fun _ _ _ h => h) (Or.inl ⟨by kernel_rfl, ?_⟩) HS.out ?_
 rotate_left
 ·(intro w' hSw; obtain hc0 := hSw; go_simp; try with_reducible rfl)
 refine till_take (i := 1) (v := ?_) rfl (by kernel_rfl) (by kernel_rfl) (by kernel_rfl) (by kernel_rfl) (fun _ _ _ h => h) (Or.inl ⟨by kernel_rfl, ?_⟩) HS.out ?_
 rotate_left
 ·(intro w' hSw; obtain hc0 := hSw; go_simp; try with_reducible rfl)
 refine till_take (i := 2) (v := ?_) rfl (by kernel_rfl) (by kernel_rfl) (by kernel_rfl) (by kernel_rfl) (fun _ _ _ h => h) (Or.inl ⟨by kernel_rfl, ?_⟩) HS.out ?_
 rotate_left
 ·(intro w' hSw; obtain hc0 := hSw; go_simp; try with_reducible rfl)
 refine till_take (i := 3) (v := ?_) rfl (by kernel_rfl) (by kernel_rfl) (by kernel_rfl) (by kernel_rfl) (fun _ _ _ h => h) (Or.inl ⟨by kernel_rfl, ?_⟩) HS.out ?_
 rotate_left
 ·(intro w' hSw; obtain hc0 := hSw; go_simp; try with_reducible rfl)
 refine till_take (i := 4) (v := ?_) rfl (by kernel_rfl) (by kernel_rfl) (by kernel_rfl) (by kernel_rfl) (fun _ _ _ h => h) (Or.inl ⟨by kernel_rfl, ?_⟩) HS.out ?_
 rotate_left
 ·(intro w' hSw; obtain hc0 := hSw; go_simp; try with_reducible rfl)
 refine till_take (i := 5) (v := ?_) rfl (by kernel_rfl) (by kernel_rfl) (by kernel_rfl) (by kernel_rfl) (fun _ _ _ h => h) (Or.inl ⟨by kernel_rfl, ?_⟩) HS.out ?_
 rotate_left
 ·(intro w' hSw; obtain hc0 := hSw; go_simp; try with_reducible rfl)
 refine till_take (i := 6) (v := ?_) rfl (by kernel_rfl) (by kernel_rfl) (by kernel_rfl) (by kernel_rfl) (fun _ _ _ h => h) (Or.inl ⟨by kernel_rfl, ?_⟩) HS.out ?_
 rotate_left
 ·(intro w' hSw; obtain hc0 := hSw; go_simp; try with_reducible rfl)
 refine till_ready (rs := [7]) (by kernel_rfl) (by simp) ?_
 refine TillAll.cons rfl (fun K hK => ?_) TillAll.nil
 go_simp
 obtain ⟨W0, hW0⟩ : ∃ W0, W0 = y0.alloc (.cells #[.pointer (some ⟨tb, off, none⟩), .pointer (some ⟨tb, off + 1, none⟩)] 139) := ⟨_, rfl⟩
 rw [← hW0]
 have hal : Below y0.heap.size y0 W0 := by rw [hW0]; exact (Below.refl _ _).alloc (Nat.le_refl _) _
 have GP0 : Hid (Blk W0 y0.heap.size 139 (ptrs tb (off) 2).toArray) := Lib.hid (by rw [hW0]; exact Blk.new _ _ _)
 have HBY : Hid (B ≤ y0.heap.size) := Lib.hid (Nat.le_trans HBW.out ZY0.out)
 have SW0 : Hid (Fr B tb w W0) := Lib.hid (SF0.out.trans (Fr.below HBY.out hal))
 have FW0 : Hid (FlX B W0 F st) := Lib.hid (FY0.out.below hal)
 have BW0 : Hid (Blk W0 tb 98 (L1 ++ ([Value.int .i64 x.ty, Value.int .i64 x.gd] ++ L2)).toArray) := Lib.hid (by have h := BY0.out.below hal BY0.out.lt; simpa [List.append_assoc] using h)
 have GW0 : Hid (Blk W0 gB 105 #[.pointer (some ⟨F, 0, none⟩)]) := Lib.hid (GY0.out.below hal GY0.out.lt)
 have ZW0 : Hid (w.heap.size ≤ W0.heap.size) := Lib.hid (Nat.le_trans ZY0.out hal.size)
 have HNT : Hid (tb < y0.heap.size) := Lib.hid BY0.out.lt
 have FRW0 : Hid (Fr B tb w W0) := Lib.hid (FR0.out.trans SW0.out)
 have HS : Hid (W0.cell? ⟨gB, 0, none⟩ = some (.pointer (some ⟨F, 0, none⟩))) := Lib.hid (GW0.out.cell 0)
 clear hal hW0
 (refine hK.out _ _ (fun _ => HS.out) ?_; clear hK K)
 refine till_ready (rs := [8]) (by kernel_rfl) (by simp) ?_
 refine TillAll.cons rfl (fun K hK => ?_) TillAll.nil
 have CC0 := Lib.hid (ints_step B F tb 98 L1 L2 (off) st [x.ty, x.gd] W0 y0.heap.size 2 FW0.out HT.out (by intro a ha; simp at ha; rcases ha with rfl | rfl <;> assumption) BW0.out HO.out HB.out (Nat.le_trans HBW.out ZW0.out) (kin_up KN0.out HUP.out) (by have h1 := RM0.out; have h2 := HRM.out; simp only [List.length_cons, List.length_nil]; omega) GP0.out (by have := HNT.out; omega) (by simp))
 go_simp
 go_wp2_with (go_at_call 74; refine CC0.out.mono ?_; rintro e w1 (⟨s1, r1, vs, hn, rfl, hf2, hb2, rfl, hfr⟩ | ⟨hn, ec, rfl, he, hbe⟩))
 rotate_left
 ·exact ⟨rfl, .inr ⟨(by simp only [stopF, hn, Option.bind_some, Option.bind_none]), ec, rfl, kin_err KN0.out he, FRW0.out.trans hbe⟩⟩
 have hlen := len2 (fine_run fine_num _ _ _ _ hn).2.2
 rw [hlen] at hb2
 clear hlen
 have HN1 := Lib.hid hn
 have FL1 := Lib.hid hf2
 have BL1 : Hid (Blk w1 tb 98 (L1 ++ ([Value.int .i64 (r1.getD 0 0), Value.int .i64 (r1.getD 1 0)] ++ L2)).toArray) := Lib.hid (by have h := hb2; simpa [I64, List.append_assoc] using h)
 have ST1 : Hid (Fr B tb w w1) := Lib.hid (SW0.out.trans hfr)
 have FR1 : Hid (Fr B tb w w1) := Lib.hid (FRW0.out.trans hfr)
 have GB1 : Hid (Blk w1 gB 105 #[.pointer (some ⟨F, 0, none⟩)]) := Lib.hid (hfr.2 _ _ _ HGN.out hot_pf GW0.out)
 have hfi := fine_runs (k := 2) rfl hn
 have KN1 : Hid (st.kin s1) := Lib.hid (kin_trans KN0.out hfi.2)
 have RM1 : Hid (s1.room ≤ st.room + 20) := Lib.hid (by have h1 := hfi.1; have h2 := RM0.out; omega)
 clear hn hf2 hb2 hfr hfi FL0 BL0 GB0 SF0 FY0 BY0 GY0 ZY0 SW0 FW0 BW0 GW0 ZW0 FRW0 HNT HBY GP0
 have g0 := GB1.out.cell 0
 have HS : Hid (w1.cell? ⟨gB, 0, none⟩ = some (.pointer (some ⟨F, 0, none⟩))) := Lib.hid (GB1.out.cell 0)
 (refine hK.out _ _ (fun _ => HS.out) ?_; clear hK K)
 refine till_done (by kernel_rfl) ?_ _
 clear HS
 try simp only [Exit.then]
 go_wp2_with fail
 go_end0
 exact .inl ⟨s1, ⟨r1.getD 0 0, r1.getD 1 0⟩, [Value.int .i64 (r1.getD 0 0), Value.int .i64 (r1.getD 1 0)], (by simp only [stopF, HN1.out, Option.bind_some]), rfl, FL1.out, BL1.out, ⟨rfl, rfl, runs_wf HN1.out 0, runs_wf HN1.out 1⟩, FR1.out⟩
end Go.Proofs.Ytioocaicmiggoaa
namespace Go.Proofs.Ytioocaicmiggoaa
set_option linter.unusedVariables false
set_option linter.unusedSimpArgs false
open Go.RowKit Go.Deep
set_option maxRecDepth 100000 in
set_option maxHeartbeats 8000000 in
theorem one_I (B F gB : Nat) : OneC B F 70 4 (fun _ => InpC) (CapC gB F) inpF (40) (fun p w Q => Calls Try.prog 91 #[p, .pointer (some ⟨gB, 0, none⟩)] w Q) := by
 intro tb L1 L2 vs off st x w hf hb ho hl hB hBw hup hroom hR hcap
 obtain ⟨rfl, wx0, wx1, wx2, wx3⟩ := hR
 have ht : ¬ hot 70 := by unfold hot; decide
 have HT := Lib.hid ht
 have HO := Lib.hid ho
 have HB := Lib.hid hB
 have HBW := Lib.hid hBw
 have HUP := Lib.hid hup
 have HRM := Lib.hid hroom
 have HFW := Lib.hid hf
 have HGN := Lib.hid hcap.1
 have GB0 := Lib.hid hcap.2
 have FL0 := Lib.hid hf
 have BL0 := Lib.hid hb
 have FR0 := Lib.hid (Fr.refl B tb w)
 have HGL : Hid (gB < w.heap.size) := Lib.hid hcap.2.lt
 have g0 := GB0.out.cell 0
 clear ht ho hB hBw hup hroom hf hb hcap hl
 go_enter Try.func91, Try.ntmps91
 have KN0 : Hid (st.kin st) := Lib.hid (kin_refl st)
 have RM0 : Hid (st.room ≤ st.room + 0) := Lib.hid (Nat.le_refl _)
 refine region_till (fun W => W.cell? ⟨gB, 0, none⟩ = some (.pointer (some ⟨F, 0, none⟩))) (fun j => !([0, 1, 2, 3, 4, 5, 6, 7, 8, 9, 10, 11, 12, 13, 14] : List Nat).contains j) (by kernel_rfl) ?_
 obtain ⟨y0, hy0⟩ : ∃ y0, y0 = World.drew w := ⟨_, rfl⟩
 rw [← hy0]
 have SF0 : Hid (Fr B tb w y0) := Lib.hid (by rw [hy0]; exact Fr.drew B tb w)
 have FY0 : Hid (FlX B y0 F st) := Lib.hid (by rw [hy0]; exact FL0.out.drew)
 have BY0 : Hid (Blk y0 tb 70 (L1 ++ ([Value.int .i64 x.op, Value.int .i64 x.kind, Value.int .i64 x.pos, Value.int .i64 x.attr] ++ L2)).toArray) := Lib.hid (by rw [hy0]; exact BL0.out)
 have GY0 : Hid (Blk y0 gB 105 #[.pointer (some ⟨F, 0, none⟩)]) := Lib.hid (by rw [hy0]; exact GB0.out)
 have ZY0 : Hid (w.heap.size ≤ y0.heap.size) := Lib.hid (Nat.le_trans FR0.out.size SF0.out.size)
 clear hy0 g0
 have HS : Hid (y0.cell? ⟨gB, 0, none⟩ = some (.pointer (some ⟨F, 0, none⟩))) := Lib.hid (GY0.out.cell 0)
 refine till_take (i := 0) (v := ?_) rfl (by kernel_rfl) (by kernel_rfl) (by kernel_rfl) (by kernel_rfl) (fun _ _ _ h => h) (Or.inl ⟨by kernel_rfl, ?_⟩) HS.out ?_
 rotate_left
 ·(intro w' hSw; obtain hc0 := hSw; go_simp; try with_reducible rfl)
 refine till_take (i := 1) (v := ?_) rfl (by kernel_rfl) (by kernel_rfl) (by kernel_rfl) (by kernel_rfl) (fun _ _ _ h => h) (Or.inl ⟨by kernel_rfl, ?_⟩) HS.out ?_
 rotate_left
 ·(intro w' hSw; obtain hc0 := hSw; go_simp; try with_reducible rfl)
 refine till_take (i := 2) (v := ?_) rfl (by kernel_rfl) (by kernel_rfl) (by kernel_rfl) (by kernel_rfl) (fun _ _ _ h => h) (Or.inl ⟨by kernel_rfl, ?_⟩) HS.out ?_
 rotate_left
 ·(intro w' hSw; obtain hc0 := hSw; go_simp; try with_reducible rfl)
 refine till_take (i := 3) (v := ?_) rfl (by kernel_rfl) (by kernel_rfl) (by kernel_rfl) (by kernel_rfl) (fun _ _ _ h => h) (Or.inl ⟨by kernel_rfl, ?_⟩) HS.out ?_
 rotate_left
 ·(intro w' hSw; obtain hc0 := hSw; go_simp; try with_reducible rfl)
 refine till_take (i := 4) (v := ?_) rfl (by kernel_rfl) (by kernel_rfl) (by kernel_rfl) (by kernel_rfl) (fun _ _ _ h => h) (Or.inl ⟨by kernel_rfl, ?_⟩) HS.out ?_
 rotate_left
 ·(intro w' hSw; obtain hc0 := hSw; go_simp; try with_reducible rfl)
 refine till_take (i := 5) (v := ?_) rfl (by kernel_rfl) (by kernel_rfl) (by kernel_rfl) (by kernel_rfl) (fun _ _ _ h => h) (Or.inl ⟨by kernel_rfl, ?_⟩) HS.out ?_
 rotate_left
 ·(intro w' hSw; obtain hc0 := hSw; go_simp; try with_reducible rfl)
 refine till_take (i := 6) (v := ?_) rfl (by kernel_rfl) (by kernel_rfl) (by kernel_rfl) (by kernel_rfl) (fun _ _ _ h => h) (Or.inl ⟨by kernel_rfl, ?_⟩) HS.out ?_
 rotate_left
 ·(intro w' hSw; obtain hc0 := hSw; go_simp; try with_reducible rfl)
 refine till_take (i := 7) (v := ?_) rfl (by kernel_rfl) (by kernel_rfl) (by kernel_rfl) (by kernel_rfl) (fun _ _ _ h => h) (Or.inl ⟨by kernel_rfl, ?_⟩) HS.out ?_
 rotate_left
 ·(intro w' hSw; obtain hc0 := hSw; go_simp; try with_reducible rfl)
 refine till_take (i := 8) (v := ?_) rfl (by kernel_rfl) (by kernel_rfl) (by kernel_rfl) (by kernel_rfl) (fun _ _ _ h => h) (Or.inl ⟨by kernel_rfl, ?_⟩) HS.out ?_
 rotate_left
 ·(intro w' hSw; obtain hc0 := hSw; go_simp; try with_reducible rfl)
 refine till_take (i := 9) (v := ?_) rfl (by kernel_rfl) (by kernel_rfl) (by kernel_rfl) (by kernel_rfl) (fun _ _ _ h => h) (Or.inl ⟨by kernel_rfl, ?_⟩) HS.out ?_
 rotate_left
 ·(intro w' hSw; obtain hc0 := hSw; go_simp; try with_reducible rfl)
 refine till_take (i := 10) (v := ?_) rfl (by kernel_rfl) (by kernel_rfl) (by kernel_rfl) (by kernel_rfl) (fun _ _ _ h => h) (Or.inl ⟨by kernel_rfl, ?_⟩) HS.out ?_
 rotate_left
 ·(intro w' hSw; obtain hc0 := hSw; go_simp; try with_reducible rfl)
 refine till_take (i := 11) (v := ?_) rfl (by kernel_rfl) (by kernel_rfl) (by kernel_rfl) (by kernel_rfl) (fun _ _ _ h => h) (Or.inl ⟨by kernel_rfl, ?_⟩) HS.out ?_
 rotate_left
 ·(intro w' hSw; obtain hc0 := hSw; go_simp; try with_reducible rfl)
 refine till_take (i := 12) (v := ?_) rfl (by kernel_rfl) (by kernel_rfl) (by kernel_rfl) (by kernel_rfl) (fun _ _ _ h => h) (Or.inl ⟨by kernel_rfl, ?_⟩) HS.out ?_
 rotate_left
 ·(intro w' hSw; obtain hc0 := hSw; go_simp; try with_reducible rfl)
 refine till_ready (rs := [13]) (by kernel_rfl) (by simp) ?_
 refine TillAll.cons rfl (fun K hK => ?_) TillAll.nil
 go_simp
 obtain ⟨W0, hW0⟩ : ∃ W0, W0 = y0.alloc (.cells #[.pointer (some ⟨tb, off, none⟩), .pointer (some ⟨tb, off + 1, none⟩), .pointer (some ⟨tb, off + 2, none⟩), .pointer (some ⟨tb, off + 3, none⟩)] 139) := ⟨_, rfl⟩
 rw [← hW0]
 have hal : Below y0.heap.size y0 W0 := by rw [hW0]; exact (Below.refl _ _).alloc (Nat.le_refl _) _
 have GP0 : Hid (Blk W0 y0.heap.size 139 (ptrs tb (off) 4).toArray) := Lib.hid (by rw [hW0]; exact Blk.new _ _ _)
 have HBY : Hid (B ≤ y0.heap.size) := Lib.hid (Nat.le_trans HBW.out ZY0.out)
 have SW0 : Hid (Fr B tb w W0) := Lib.hid (SF0.out.trans (Fr.below HBY.out hal))
 have FW0 : Hid (FlX B W0 F st) := Lib.hid (FY0.out.below hal)
 have BW0 : Hid (Blk W0 tb 70 (L1 ++ ([Value.int .i64 x.op, Value.int .i64 x.kind, Value.int .i64 x.pos, Value.int .i64 x.attr] ++ L2)).toArray) := Lib.hid (by have h := BY0.out.below hal BY0.out.lt; simpa [List.append_assoc] using h)
 have GW0 : Hid (Blk W0 gB 105 #[.pointer (some ⟨F, 0, none⟩)]) := Lib.hid (GY0.out.below hal GY0.out.lt)
 have ZW0 : Hid (w.heap.size ≤ W0.heap.size) := Lib.hid (Nat.le_trans ZY0.out hal.size)
 have HNT : Hid (tb < y0.heap.size) := Lib.hid BY0.out.lt
 have FRW0 : Hid (Fr B tb w W0) := Lib.hid (FR0.out.trans SW0.out)
 have HS : Hid (W0.cell? ⟨gB, 0, none⟩ = some (.pointer (some ⟨F, 0, none⟩))) := Lib.hid (GW0.out.cell 0)
 clear hal hW0
 (refine hK.out _ _ (fun _ => HS.out) ?_; clear hK K)
 refine till_ready (rs := [14]) (by kernel_rfl) (by simp) ?_
 refine TillAll.cons rfl (fun K hK => ?_) TillAll.nil
 have CC0 := Lib.hid (ints_step B F tb 70 L1 L2 (off) st [x.op, x.kind, x.pos, x.attr] W0 y0.heap.size 4 FW0.out HT.out (by intro a ha; simp at ha; rcases ha with rfl | rfl | rfl | rfl <;> assumption) BW0.out HO.out HB.out (Nat.le_trans HBW.out ZW0.out) (kin_up KN0.out HUP.out) (by have h1 := RM0.out; have h2 := HRM.out; simp only [List.length_cons, List.length_nil]; omega) GP0.out (by have := HNT.out; omega) (by simp))
 go_simp
 go_wp2_with (go_at_call 74; refine CC0.out.mono ?_; rintro e w1 (⟨s1, r1, vs, hn, rfl, hf2, hb2, rfl, hfr⟩ | ⟨hn, ec, rfl, he, hbe⟩))
 rotate_left
 ·exact ⟨rfl, .inr ⟨(by simp only [inpF, hn, Option.bind_some, Option.bind_none]), ec, rfl, kin_err KN0.out he, FRW0.out.trans hbe⟩⟩
 have hlen := len4 (fine_run fine_num _ _ _ _ hn).2.2
 rw [hlen] at hb2
 clear hlen
 have HN1 := Lib.hid hn
 have FL1 := Lib.hid hf2
 have BL1 : Hid (Blk w1 tb 70 (L1 ++ ([Value.int .i64 (r1.getD 0 0), Value.int .i64 (r1.getD 1 0), Value.int .i64 (r1.getD 2 0), Value.int .i64 (r1.getD 3 0)] ++ L2)).toArray) := Lib.hid (by have h := hb2; simpa [I64, List.append_assoc] using h)
 have ST1 : Hid (Fr B tb w w1) := Lib.hid (SW0.out.trans hfr)
 have FR1 : Hid (Fr B tb w w1) := Lib.hid (FRW0.out.trans hfr)
 have GB1 : Hid (Blk w1 gB 105 #[.pointer (some ⟨F, 0, none⟩)]) := Lib.hid (hfr.2 _ _ _ HGN.out hot_pf GW0.out)
 have hfi := fine_runs (k := 4) rfl hn
 have KN1 : Hid (st.kin s1) := Lib.hid (kin_trans KN0.out hfi.2)
 have RM1 : Hid (s1.room ≤ st.room + 40) := Lib.hid (by have h1 := hfi.1; have h2 := RM0.out; omega)
 clear hn hf2 hb2 hfr hfi FL0 BL0 GB0 SF0 FY0 BY0 GY0 ZY0 SW0 FW0 BW0 GW0 ZW0 FRW0 HNT HBY GP0
 have g0 := GB1.out.cell 0
 have HS : Hid (w1.cell? ⟨gB, 0, none⟩ = some (.pointer (some ⟨F, 0, none⟩))) := Lib.hid (GB1.out.cell 0)
 (refine hK.out _ _ (fun _ => HS.out) ?_; clear hK K)
 refine till_done (by kernel_rfl) ?_ _
 clear HS
 try simp only [Exit.then]
 go_wp2_with fail
 go_end0
 exact .inl ⟨s1, ⟨r1.getD 0 0, r1.getD 1 0, r1.getD 2 0, r1.getD 3 0⟩, [Value.int .i64 (r1.getD 0 0), Value.int .i64 (r1.getD 1 0), Value.int .i64 (r1.getD 2 0), Value.int .i64 (r1.getD 3 0)], (by simp only [inpF, HN1.out, Option.bind_some]), rfl, FL1.out, BL1.out, ⟨rfl, rfl, runs_wf HN1.out 0, runs_wf HN1.out 1, runs_wf HN1.out 2, runs_wf HN1.out 3⟩, FR1.out⟩
end Go.Proofs.Ytioocaicmiggoaa
namespace Go.Proofs.Ytioocaicmiggoaa
set_option linter.unusedVariables false
set_option linter.unusedSimpArgs false
open Go.RowKit Go.Deep
set_option maxRecDepth 100000 in
set_option maxHeartbeats 8000000 in
theorem one_N (B F gB : Nat) : OneC B F 75 4 (fun _ => InsC) (CapC gB F) insF (40) (fun p w Q => Calls Try.prog 96 #[p, .pointer (some ⟨gB, 0, none⟩)] w Q) := by
 intro tb L1 L2 vs off st x w hf hb ho hl hB hBw hup hroom hR hcap
 obtain ⟨rfl, wx0, wx1, wx2, wx3⟩ := hR
 have ht : ¬ hot 75 := by unfold hot; decide
 have HT := Lib.hid ht
 have HO := Lib.hid ho
 have HB := Lib.hid hB
 have HBW := Lib.hid hBw
 have HUP := Lib.hid hup
 have HRM := Lib.hid hroom
 have HFW := Lib.hid hf
 have HGN := Lib.hid hcap.1
 have GB0 := Lib.hid hcap.2
 have FL0 := Lib.hid hf
 have BL0 := Lib.hid hb
 have FR0 := Lib.hid (Fr.refl B tb w)
 have HGL : Hid (gB < w.heap.size) := Lib.hid hcap.2.lt
 have g0 := GB0.out.cell 0
 clear ht ho hB hBw hup hroom hf hb hcap hl
 go_enter Try.func96, Try.ntmps96
 have KN0 : Hid (st.kin st) := Lib.hid (kin_refl st)
 have RM0 : Hid (st.room ≤ st.room + 0) := Lib.hid (Nat.le_refl _)
 refine region_till (fun W => W.cell? ⟨gB, 0, none⟩ = some (.pointer (some ⟨F, 0, none⟩))) (fun j => !([0, 1, 2, 3, 4, 5, 6, 7, 8, 9, 10, 11, 12, 13, 14] : List Nat).contains j) (by kernel_rfl) ?_
 obtain ⟨y0, hy0⟩ : ∃ y0, y0 = World.drew w := ⟨_, rfl⟩
 rw [← hy0]
 have SF0 : Hid (Fr B tb w y0) := Lib.hid (by rw [hy0]; exact Fr.drew B tb w)
 have FY0 : Hid (FlX B y0 F st) := Lib.hid (by rw [hy0]; exact FL0.out.drew)
 have BY0 : Hid (Blk y0 tb 75 (L1 ++ ([Value.int .i64 x.op, Value.int .i64 x.dst, Value.int .i64 x.a, Value.int .i64 x.b] ++ L2)).toArray) := Lib.hid (by rw [hy0]; exact BL0.out)
 have GY0 : Hid (Blk y0 gB 105 #[.pointer (some ⟨F, 0, none⟩)]) := Lib.hid (by rw [hy0]; exact GB0.out)
 have ZY0 : Hid (w.heap.size ≤ y0.heap.size) := Lib.hid (Nat.le_trans FR0.out.size SF0.out.size)
 clear hy0 g0
 have HS : Hid (y0.cell? ⟨gB, 0, none⟩ = some (.pointer (some ⟨F, 0, none⟩))) := Lib.hid (GY0.out.cell 0)
 refine till_take (i := 0) (v := ?_) rfl (by kernel_rfl) (by kernel_rfl) (by kernel_rfl) (by kernel_rfl) (fun _ _ _ h => h) (Or.inl ⟨by kernel_rfl, ?_⟩) HS.out ?_
 rotate_left
 ·(intro w' hSw; obtain hc0 := hSw; go_simp; try with_reducible rfl)
 refine till_take (i := 1) (v := ?_) rfl (by kernel_rfl) (by kernel_rfl) (by kernel_rfl) (by kernel_rfl) (fun _ _ _ h => h) (Or.inl ⟨by kernel_rfl, ?_⟩) HS.out ?_
 rotate_left
 ·(intro w' hSw; obtain hc0 := hSw; go_simp; try with_reducible rfl)
 refine till_take (i := 2) (v := ?_) rfl (by kernel_rfl) (by kernel_rfl) (by kernel_rfl) (by kernel_rfl) (fun _ _ _ h => h) (Or.inl ⟨by kernel_rfl, ?_⟩) HS.out ?_
 rotate_left
 ·(intro w' hSw; obtain hc0 := hSw; go_simp; try with_reducible rfl)
 refine till_take (i := 3) (v := ?_) rfl (by kernel_rfl) (by kernel_rfl) (by kernel_rfl) (by kernel_rfl) (fun _ _ _ h => h) (Or.inl ⟨by kernel_rfl, ?_⟩) HS.out ?_
 rotate_left
 ·(intro w' hSw; obtain hc0 := hSw; go_simp; try with_reducible rfl)
 refine till_take (i := 4) (v := ?_) rfl (by kernel_rfl) (by kernel_rfl) (by kernel_rfl) (by kernel_rfl) (fun _ _ _ h => h) (Or.inl ⟨by kernel_rfl, ?_⟩) HS.out ?_
 rotate_left
 ·(intro w' hSw; obtain hc0 := hSw; go_simp; try with_reducible rfl)
 refine till_take (i := 5) (v := ?_) rfl (by kernel_rfl) (by kernel_rfl) (by kernel_rfl) (by kernel_rfl) (fun _ _ _ h => h) (Or.inl ⟨by kernel_rfl, ?_⟩) HS.out ?_
 rotate_left
 ·(intro w' hSw; obtain hc0 := hSw; go_simp; try with_reducible rfl)
 refine till_take (i := 6) (v := ?_) rfl (by kernel_rfl) (by kernel_rfl) (by kernel_rfl) (by kernel_rfl) (fun _ _ _ h => h) (Or.inl ⟨by kernel_rfl, ?_⟩) HS.out ?_
 rotate_left
 ·(intro w' hSw; obtain hc0 := hSw; go_simp; try with_reducible rfl)
 refine till_take (i := 7) (v := ?_) rfl (by kernel_rfl) (by kernel_rfl) (by kernel_rfl) (by kernel_rfl) (fun _ _ _ h => h) (Or.inl ⟨by kernel_rfl, ?_⟩) HS.out ?_
 rotate_left
 ·(intro w' hSw; obtain hc0 := hSw; go_simp; try with_reducible rfl)
 refine till_take (i := 8) (v := ?_) rfl (by kernel_rfl) (by kernel_rfl) (by kernel_rfl) (by kernel_rfl) (fun _ _ _ h => h) (Or.inl ⟨by kernel_rfl, ?_⟩) HS.out ?_
 rotate_left
 ·(intro w' hSw; obtain hc0 := hSw; go_simp; try with_reducible rfl)
 refine till_take (i := 9) (v := ?_) rfl (by kernel_rfl) (by kernel_rfl) (by kernel_rfl) (by kernel_rfl) (fun _ _ _ h => h) (Or.inl ⟨by kernel_rfl, ?_⟩) HS.out ?_
 rotate_left
 ·(intro w' hSw; obtain hc0 := hSw; go_simp; try with_reducible rfl)
 refine till_take (i := 10) (v := ?_) rfl (by kernel_rfl) (by kernel_rfl) (by kernel_rfl) (by kernel_rfl) (fun _ _ _ h => h) (Or.inl ⟨by kernel_rfl, ?_⟩) HS.out ?_
 rotate_left
 ·(intro w' hSw; obtain hc0 := hSw; go_simp; try with_reducible rfl)
 refine till_take (i := 11) (v := ?_) rfl (by kernel_rfl) (by kernel_rfl) (by kernel_rfl) (by kernel_rfl) (fun _ _ _ h => h) (Or.inl ⟨by kernel_rfl, ?_⟩) HS.out ?_
 rotate_left
 ·(intro w' hSw; obtain hc0 := hSw; go_simp; try with_reducible rfl)
 refine till_take (i := 12) (v := ?_) rfl (by kernel_rfl) (by kernel_rfl) (by kernel_rfl) (by kernel_rfl) (fun _ _ _ h => h) (Or.inl ⟨by kernel_rfl, ?_⟩) HS.out ?_
 rotate_left
 ·(intro w' hSw; obtain hc0 := hSw; go_simp; try with_reducible rfl)
 refine till_ready (rs := [13]) (by kernel_rfl) (by simp) ?_
 refine TillAll.cons rfl (fun K hK => ?_) TillAll.nil
 go_simp
 obtain ⟨W0, hW0⟩ : ∃ W0, W0 = y0.alloc (.cells #[.pointer (some ⟨tb, off, none⟩), .pointer (some ⟨tb, off + 1, none⟩), .pointer (some ⟨tb, off + 2, none⟩), .pointer (some ⟨tb, off + 3, none⟩)] 139) := ⟨_, rfl⟩
 rw [← hW0]
 have hal : Below y0.heap.size y0 W0 := by rw [hW0]; exact (Below.refl _ _).alloc (Nat.le_refl _) _
 have GP0 : Hid (Blk W0 y0.heap.size 139 (ptrs tb (off) 4).toArray) := Lib.hid (by rw [hW0]; exact Blk.new _ _ _)
 have HBY : Hid (B ≤ y0.heap.size) := Lib.hid (Nat.le_trans HBW.out ZY0.out)
 have SW0 : Hid (Fr B tb w W0) := Lib.hid (SF0.out.trans (Fr.below HBY.out hal))
 have FW0 : Hid (FlX B W0 F st) := Lib.hid (FY0.out.below hal)
 have BW0 : Hid (Blk W0 tb 75 (L1 ++ ([Value.int .i64 x.op, Value.int .i64 x.dst, Value.int .i64 x.a, Value.int .i64 x.b] ++ L2)).toArray) := Lib.hid (by have h := BY0.out.below hal BY0.out.lt; simpa [List.append_assoc] using h)
 have GW0 : Hid (Blk W0 gB 105 #[.pointer (some ⟨F, 0, none⟩)]) := Lib.hid (GY0.out.below hal GY0.out.lt)
 have ZW0 : Hid (w.heap.size ≤ W0.heap.size) := Lib.hid (Nat.le_trans ZY0.out hal.size)
 have HNT : Hid (tb < y0.heap.size) := Lib.hid BY0.out.lt
 have FRW0 : Hid (Fr B tb w W0) := Lib.hid (FR0.out.trans SW0.out)
 have HS : Hid (W0.cell? ⟨gB, 0, none⟩ = some (.pointer (some ⟨F, 0, none⟩))) := Lib.hid (GW0.out.cell 0)
 clear hal hW0
 (refine hK.out _ _ (fun _ => HS.out) ?_; clear hK K)
 refine till_ready (rs := [14]) (by kernel_rfl) (by simp) ?_
 refine TillAll.cons rfl (fun K hK => ?_) TillAll.nil
 have CC0 := Lib.hid (ints_step B F tb 75 L1 L2 (off) st [x.op, x.dst, x.a, x.b] W0 y0.heap.size 4 FW0.out HT.out (by intro a ha; simp at ha; rcases ha with rfl | rfl | rfl | rfl <;> assumption) BW0.out HO.out HB.out (Nat.le_trans HBW.out ZW0.out) (kin_up KN0.out HUP.out) (by have h1 := RM0.out; have h2 := HRM.out; simp only [List.length_cons, List.length_nil]; omega) GP0.out (by have := HNT.out; omega) (by simp))
 go_simp
 go_wp2_with (go_at_call 74; refine CC0.out.mono ?_; rintro e w1 (⟨s1, r1, vs, hn, rfl, hf2, hb2, rfl, hfr⟩ | ⟨hn, ec, rfl, he, hbe⟩))
 rotate_left
 ·exact ⟨rfl, .inr ⟨(by simp only [insF, hn, Option.bind_some, Option.bind_none]), ec, rfl, kin_err KN0.out he, FRW0.out.trans hbe⟩⟩
 have hlen := len4 (fine_run fine_num _ _ _ _ hn).2.2
 rw [hlen] at hb2
 clear hlen
 have HN1 := Lib.hid hn
 have FL1 := Lib.hid hf2
 have BL1 : Hid (Blk w1 tb 75 (L1 ++ ([Value.int .i64 (r1.getD 0 0), Value.int .i64 (r1.getD 1 0), Value.int .i64 (r1.getD 2 0), Value.int .i64 (r1.getD 3 0)] ++ L2)).toArray) := Lib.hid (by have h := hb2; simpa [I64, List.append_assoc] using h)
 have ST1 : Hid (Fr B tb w w1) := Lib.hid (SW0.out.trans hfr)
 have FR1 : Hid (Fr B tb w w1) := Lib.hid (FRW0.out.trans hfr)
 have GB1 : Hid (Blk w1 gB 105 #[.pointer (some ⟨F, 0, none⟩)]) := Lib.hid (hfr.2 _ _ _ HGN.out hot_pf GW0.out)
 have hfi := fine_runs (k := 4) rfl hn
 have KN1 : Hid (st.kin s1) := Lib.hid (kin_trans KN0.out hfi.2)
 have RM1 : Hid (s1.room ≤ st.room + 40) := Lib.hid (by have h1 := hfi.1; have h2 := RM0.out; omega)
 clear hn hf2 hb2 hfr hfi FL0 BL0 GB0 SF0 FY0 BY0 GY0 ZY0 SW0 FW0 BW0 GW0 ZW0 FRW0 HNT HBY GP0
 have g0 := GB1.out.cell 0
 have HS : Hid (w1.cell? ⟨gB, 0, none⟩ = some (.pointer (some ⟨F, 0, none⟩))) := Lib.hid (GB1.out.cell 0)
 (refine hK.out _ _ (fun _ => HS.out) ?_; clear hK K)
 refine till_done (by kernel_rfl) ?_ _
 clear HS
 try simp only [Exit.then]
 go_wp2_with fail
 go_end0
 exact .inl ⟨s1, ⟨r1.getD 0 0, r1.getD 1 0, r1.getD 2 0, r1.getD 3 0⟩, [Value.int .i64 (r1.getD 0 0), Value.int .i64 (r1.getD 1 0), Value.int .i64 (r1.getD 2 0), Value.int .i64 (r1.getD 3 0)], (by simp only [insF, HN1.out, Option.bind_some]), rfl, FL1.out, BL1.out, ⟨rfl, rfl, runs_wf HN1.out 0, runs_wf HN1.out 1, runs_wf HN1.out 2, runs_wf HN1.out 3⟩, FR1.out⟩
end Go.Proofs.Ytioocaicmiggoaa
namespace Go.Proofs.Ytioocaicmiggoaa
set_option linter.unusedVariables false
set_option linter.unusedSimpArgs false
open Go.RowKit Go.Deep
set_option maxRecDepth 100000 in
set_option maxHeartbeats 8000000 in
theorem one_V (B F gB : Nat) : OneC B F 88 2 (fun _ => ValC) (CapC gB F) valF (20) (fun p w Q => Calls Try.prog 93 #[p, .pointer (some ⟨gB, 0, none⟩)] w Q) := by
 intro tb L1 L2 vs off st x w hf hb ho hl hB hBw hup hroom hR hcap
 obtain ⟨rfl, wx0, wx1⟩ := hR
 have ht : ¬ hot 88 := by unfold hot; decide
 have HT := Lib.hid ht
 have HO := Lib.hid ho
 have HB := Lib.hid hB
 have HBW := Lib.hid hBw
 have HUP := Lib.hid hup
 have HRM := Lib.hid hroom
 have HFW := Lib.hid hf
 have HGN := Lib.hid hcap.1
 have GB0 := Lib.hid hcap.2
 have FL0 := Lib.hid hf
 have BL0 := Lib.hid hb
 have FR0 := Lib.hid (Fr.refl B tb w)
 have HGL : Hid (gB < w.heap.size) := Lib.hid hcap.2.lt
 have g0 := GB0.out.cell 0
 clear ht ho hB hBw hup hroom hf hb hcap hl
 go_enter Try.func93, Try.ntmps93
 have KN0 : Hid (st.kin st) := Lib.hid (kin_refl st)
 have RM0 : Hid (st.room ≤ st.room + 0) := Lib.hid (Nat.le_refl _)
 go_upto_region 0 with fail
 refine region_till (fun W => W.cell? ⟨gB, 0, none⟩ = some (.pointer (some ⟨F, 0, none⟩))) (fun j => !([0, 1, 2, 3, 4, 5] : List Nat).contains j) (by kernel_rfl) ?_
 obtain ⟨y0, hy0⟩ : ∃ y0, y0 = World.drew w := ⟨_, rfl⟩
 rw [← hy0]
 have SF0 : Hid (Fr B tb w y0) := Lib.hid (by rw [hy0]; exact Fr.drew B tb w)
 have FY0 : Hid (FlX B y0 F st) := Lib.hid (by rw [hy0]; exact FL0.out.drew)
 have BY0 : Hid (Blk y0 tb 88 (L1 ++ ([Value.int .i64 x.kind, Value.int .u64 x.bits] ++ L2)).toArray) := Lib.hid (by rw [hy0]; exact BL0.out)
 have GY0 : Hid (Blk y0 gB 105 #[.pointer (some ⟨F, 0, none⟩)]) := Lib.hid (by rw [hy0]; exact GB0.out)
 have ZY0 : Hid (w.heap.size ≤ y0.heap.size) := Lib.hid (Nat.le_trans FR0.out.size SF0.out.size)
 clear hy0 g0
 have HS : Hid (y0.cell? ⟨gB, 0, none⟩ = some (.pointer (some ⟨F, 0, none⟩))) := Lib.hid (GY0.out.cell 0)
 refine till_take (i := 0) (v := ?_) rfl (by kernel_rfl) (by kernel_rfl) (by kernel_rfl) (by kernel_rfl) (fun _ _ _ h => h) (Or.inl ⟨by kernel_rfl, ?_⟩) HS.out ?_
 rotate_left
 ·(intro w' hSw; obtain hc0 := hSw; go_simp; try with_reducible rfl)
 refine till_take (i := 1) (v := ?_) rfl (by kernel_rfl) (by kernel_rfl) (by kernel_rfl) (by kernel_rfl) (fun _ _ _ h => h) (Or.inl ⟨by kernel_rfl, ?_⟩) HS.out ?_
 rotate_left
 ·(intro w' hSw; obtain hc0 := hSw; go_simp; try with_reducible rfl)
 refine till_take (i := 2) (v := ?_) rfl (by kernel_rfl) (by kernel_rfl) (by kernel_rfl) (by kernel_rfl) (fun _ _ _ h => h) (Or.inl ⟨by kernel_rfl, ?_⟩) HS.out ?_
 rotate_left
 ·(intro w' hSw; obtain hc0 := hSw; go_simp; try with_reducible rfl)
 refine till_take (i := 3) (v := ?_) rfl (by kernel_rfl) (by kernel_rfl) (by kernel_rfl) (by kernel_rfl) (fun _ _ _ h => h) (Or.inl ⟨by kernel_rfl, ?_⟩) HS.out ?_
 rotate_left
 ·(intro w' hSw; obtain hc0 := hSw; go_simp; try with_reducible rfl)
 refine till_ready (rs := [4]) (by kernel_rfl) (by simp) ?_
 refine TillAll.cons rfl (fun K hK => ?_) TillAll.nil
 go_simp
 obtain ⟨W0, hW0⟩ : ∃ W0, W0 = y0.alloc (.cells #[.pointer (some ⟨tb, off, none⟩)] 139) := ⟨_, rfl⟩
 rw [← hW0]
 have hal : Below y0.heap.size y0 W0 := by rw [hW0]; exact (Below.refl _ _).alloc (Nat.le_refl _) _
 have GP0 : Hid (Blk W0 y0.heap.size 139 (ptrs tb (off) 1).toArray) := Lib.hid (by rw [hW0]; exact Blk.new _ _ _)
 have HBY : Hid (B ≤ y0.heap.size) := Lib.hid (Nat.le_trans HBW.out ZY0.out)
 have SW0 : Hid (Fr B tb w W0) := Lib.hid (SF0.out.trans (Fr.below HBY.out hal))
 have FW0 : Hid (FlX B W0 F st) := Lib.hid (FY0.out.below hal)
 have BW0 : Hid (Blk W0 tb 88 (L1 ++ ([Value.int .i64 x.kind] ++ ([Value.int .u64 x.bits] ++ L2))).toArray) := Lib.hid (by have h := BY0.out.below hal BY0.out.lt; simpa [List.append_assoc] using h)
 have GW0 : Hid (Blk W0 gB 105 #[.pointer (some ⟨F, 0, none⟩)]) := Lib.hid (GY0.out.below hal GY0.out.lt)
 have ZW0 : Hid (w.heap.size ≤ W0.heap.size) := Lib.hid (Nat.le_trans ZY0.out hal.size)
 have HNT : Hid (tb < y0.heap.size) := Lib.hid BY0.out.lt
 have FRW0 : Hid (Fr B tb w W0) := Lib.hid (FR0.out.trans SW0.out)
 have HS : Hid (W0.cell? ⟨gB, 0, none⟩ = some (.pointer (some ⟨F, 0, none⟩))) := Lib.hid (GW0.out.cell 0)
 clear hal hW0
 (refine hK.out _ _ (fun _ => HS.out) ?_; clear hK K)
 refine till_ready (rs := [5]) (by kernel_rfl) (by simp) ?_
 refine TillAll.cons rfl (fun K hK => ?_) TillAll.nil
 have CC0 := Lib.hid (ints_step B F tb 88 L1 ([Value.int .u64 x.bits] ++ L2) (off) st [x.kind] W0 y0.heap.size 1 FW0.out HT.out (by intro a ha; simp at ha; rcases ha with rfl <;> assumption) BW0.out HO.out HB.out (Nat.le_trans HBW.out ZW0.out) (kin_up KN0.out HUP.out) (by have h1 := RM0.out; have h2 := HRM.out; simp only [List.length_cons, List.length_nil]; omega) GP0.out (by have := HNT.out; omega) (by simp))
 go_simp
 go_wp2_with (go_at_call 74; refine CC0.out.mono ?_; rintro e w1 (⟨s1, r1, vs, hn, rfl, hf2, hb2, rfl, hfr⟩ | ⟨hn, ec, rfl, he, hbe⟩))
 rotate_left
 ·exact ⟨rfl, .inr ⟨(by simp only [valF, hn, Option.bind_some, Option.bind_none]), ec, rfl, kin_err KN0.out he, FRW0.out.trans hbe⟩⟩
 have hlen := len1 (fine_run fine_num _ _ _ _ hn).2.2
 rw [hlen] at hb2
 clear hlen
 have HN1 := Lib.hid hn
 have FL1 := Lib.hid hf2
 have BL1 : Hid (Blk w1 tb 88 (L1 ++ ([Value.int .i64 (r1.getD 0 0), Value.int .u64 x.bits] ++ L2)).toArray) := Lib.hid (by have h := hb2; simpa [I64, List.append_assoc] using h)
 have ST1 : Hid (Fr B tb w w1) := Lib.hid (SW0.out.trans hfr)
 have FR1 : Hid (Fr B tb w w1) := Lib.hid (FRW0.out.trans hfr)
 have GB1 : Hid (Blk w1 gB 105 #[.pointer (some ⟨F, 0, none⟩)]) := Lib.hid (hfr.2 _ _ _ HGN.out hot_pf GW0.out)
 have hfi := fine_runs (k := 1) rfl hn
 have KN1 : Hid (st.kin s1) := Lib.hid (kin_trans KN0.out hfi.2)
 have RM1 : Hid (s1.room ≤ st.room + 10) := Lib.hid (by have h1 := hfi.1; have h2 := RM0.out; omega)
 clear hn hf2 hb2 hfr hfi FL0 BL0 GB0 SF0 FY0 BY0 GY0 ZY0 SW0 FW0 BW0 GW0 ZW0 FRW0 HNT HBY GP0
 have g0 := GB1.out.cell 0
 have HS : Hid (w1.cell? ⟨gB, 0, none⟩ = some (.pointer (some ⟨F, 0, none⟩))) := Lib.hid (GB1.out.cell 0)
 (refine hK.out _ _ (fun _ => HS.out) ?_; clear hK K)
 refine till_done (by kernel_rfl) ?_ _
 clear HS
 try simp only [Exit.then]
 go_upto_region 1 with fail
 refine region_till (fun W => W.cell? ⟨gB, 0, none⟩ = some (.pointer (some ⟨F, 0, none⟩))) (fun j => !([0, 1, 2, 3, 4] : List Nat).contains j) (by kernel_rfl) ?_
 obtain ⟨y1, hy1⟩ : ∃ y1, y1 = World.drew w1 := ⟨_, rfl⟩
 rw [← hy1]
 have SF1 : Hid (Fr B tb w1 y1) := Lib.hid (by rw [hy1]; exact Fr.drew B tb w1)
 have FY1 : Hid (FlX B y1 F s1) := Lib.hid (by rw [hy1]; exact FL1.out.drew)
 have BY1 : Hid (Blk y1 tb 88 (L1 ++ ([Value.int .i64 (r1.getD 0 0), Value.int .u64 x.bits] ++ L2)).toArray) := Lib.hid (by rw [hy1]; exact BL1.out)
 have GY1 : Hid (Blk y1 gB 105 #[.pointer (some ⟨F, 0, none⟩)]) := Lib.hid (by rw [hy1]; exact GB1.out)
 have ZY1 : Hid (w.heap.size ≤ y1.heap.size) := Lib.hid (Nat.le_trans FR1.out.size SF1.out.size)
 clear hy1 g0
 have HS : Hid (y1.cell? ⟨gB, 0, none⟩ = some (.pointer (some ⟨F, 0, none⟩))) := Lib.hid (GY1.out.cell 0)
 refine till_take (i := 0) (v := ?_) rfl (by kernel_rfl) (by kernel_rfl) (by kernel_rfl) (by kernel_rfl) (fun _ _ _ h => h) (Or.inl ⟨by kernel_rfl, ?_⟩) HS.out ?_
 rotate_left
 ·(intro w' hSw; obtain hc0 := hSw; go_simp; try with_reducible rfl)
 refine till_take (i := 1) (v := ?_) rfl (by kernel_rfl) (by kernel_rfl) (by kernel_rfl) (by kernel_rfl) (fun _ _ _ h => h) (Or.inl ⟨by kernel_rfl, ?_⟩) HS.out ?_
 rotate_left
 ·(intro w' hSw; obtain hc0 := hSw; go_simp; try with_reducible rfl)
 refine till_take (i := 2) (v := ?_) rfl (by kernel_rfl) (by kernel_rfl) (by kernel_rfl) (by kernel_rfl) (fun _ _ _ h => h) (Or.inl ⟨by kernel_rfl, ?_⟩) HS.out ?_
 rotate_left
 ·(intro w' hSw; obtain hc0 := hSw; go_simp; try with_reducible rfl)
 refine till_take (i := 3) (v := ?_) rfl (by kernel_rfl) (by kernel_rfl) (by kernel_rfl) (by kernel_rfl) (fun _ _ _ h => h) (Or.inl ⟨by kernel_rfl, ?_⟩) HS.out ?_
 rotate_left
 ·(intro w' hSw; obtain hc0 := hSw; go_simp; try with_reducible rfl)
 refine till_ready (rs := [4]) (by kernel_rfl) (by simp) ?_
 refine TillAll.cons rfl (fun K hK => ?_) TillAll.nil
 obtain ⟨W1, hW1⟩ : ∃ W1, W1 = y1 := ⟨_, rfl⟩
 have hal : Below y1.heap.size y1 W1 := by rw [hW1]; exact Below.refl _ _
 try rw [← hW1]
 have HBY : Hid (B ≤ y1.heap.size) := Lib.hid (Nat.le_trans HBW.out ZY1.out)
 have SW1 : Hid (Fr B tb w1 W1) := Lib.hid (SF1.out.trans (Fr.below HBY.out hal))
 have FW1 : Hid (FlX B W1 F s1) := Lib.hid (FY1.out.below hal)
 have BW1 : Hid (Blk W1 tb 88 ((L1 ++ [Value.int .i64 (r1.getD 0 0)]) ++ ([Value.int .u64 x.bits] ++ L2)).toArray) := Lib.hid (by have h := BY1.out.below hal BY1.out.lt; simpa [List.append_assoc] using h)
 have GW1 : Hid (Blk W1 gB 105 #[.pointer (some ⟨F, 0, none⟩)]) := Lib.hid (GY1.out.below hal GY1.out.lt)
 have ZW1 : Hid (w.heap.size ≤ W1.heap.size) := Lib.hid (Nat.le_trans ZY1.out hal.size)
 have HNT : Hid (tb < y1.heap.size) := Lib.hid BY1.out.lt
 have FRW1 : Hid (Fr B tb w W1) := Lib.hid (FR1.out.trans SW1.out)
 have HS : Hid (W1.cell? ⟨gB, 0, none⟩ = some (.pointer (some ⟨F, 0, none⟩))) := Lib.hid (GW1.out.cell 0)
 clear hal hW1
 have CC1 := Lib.hid (bits_step B F tb 88 (L1 ++ [Value.int .i64 (r1.getD 0 0)]) L2 (off + 1) s1 x.bits W1 FW1.out HT.out (by assumption) BW1.out (by rw [List.length_append, HO.out]; rfl) HB.out (Nat.le_trans HBW.out ZW1.out) (kin_up KN1.out HUP.out) (by have h1 := RM1.out; have h2 := HRM.out; omega))
 go_simp
 go_wp2_with (go_at_call 94; refine CC1.out.mono ?_; rintro e w2 (⟨s2, r2, vs, hn, rfl, hf2, hb2, ⟨rfl, hbw⟩, hfr⟩ | ⟨hn, ec, rfl, he, hbe⟩))
 rotate_left
 ·exact ⟨rfl, .inr ⟨(by simp only [valF, HN1.out, hn, Option.bind_some, Option.bind_none]), ec, rfl, kin_err KN1.out he, FRW1.out.trans hbe⟩⟩
 have HN2 := Lib.hid hn
 have FL2 := Lib.hid hf2
 have BL2 : Hid (Blk w2 tb 88 (L1 ++ ([Value.int .i64 (r1.getD 0 0), Value.int .u64 r2] ++ L2)).toArray) := Lib.hid (by have h := hb2; simpa [I64, List.append_assoc] using h)
 have ST2 : Hid (Fr B tb w1 w2) := Lib.hid (SW1.out.trans hfr)
 have FR2 : Hid (Fr B tb w w2) := Lib.hid (FRW1.out.trans hfr)
 have GB2 : Hid (Blk w2 gB 105 #[.pointer (some ⟨F, 0, none⟩)]) := Lib.hid (hfr.2 _ _ _ HGN.out hot_pf GW1.out)
 have hfi := fine_bits _ _ _ _ hn
 have KN2 : Hid (st.kin s2) := Lib.hid (kin_trans KN1.out hfi.2)
 have RM2 : Hid (s2.room ≤ st.room + 20) := Lib.hid (by have h1 := hfi.1; have h2 := RM1.out; omega)
 have HBT := Lib.hid hbw
 clear hn hf2 hb2 hfr hfi hbw FL1 BL1 GB1 SF1 FY1 BY1 GY1 ZY1 SW1 FW1 BW1 GW1 ZW1 FRW1 HNT HBY
 have g0 := GB2.out.cell 0
 have HS : Hid (w2.cell? ⟨gB, 0, none⟩ = some (.pointer (some ⟨F, 0, none⟩))) := Lib.hid (GB2.out.cell 0)
 (refine hK.out _ _ (fun _ => HS.out) ?_; clear hK K)
 refine till_done (by kernel_rfl) ?_ _
 clear HS
 try simp only [Exit.then]
 go_wp2_with fail
 go_end0
 exact .inl ⟨s2, ⟨r1.getD 0 0, r2⟩, [Value.int .i64 (r1.getD 0 0), Value.int .u64 r2], (by simp only [valF, HN1.out, HN2.out, Option.bind_some]), rfl, FL2.out, BL2.out, ⟨rfl, rfl, runs_wf HN1.out 0, HBT.out⟩, FR2.out⟩
end Go.Proofs.Ytioocaicmiggoaa
namespace Go.Proofs.Ytioocaicmiggoaa
set_option linter.unusedVariables false
set_option linter.unusedSimpArgs false
open Go.RowKit Go.Deep
set_option maxRecDepth 100000 in
set_option maxHeartbeats 8000000 in
theorem one_K (B F gB : Nat) : OneC B F 3 1 (fun _ => IntC) (CapC gB F) intF (10) (fun p w Q => Calls Try.prog 76 #[p, .pointer (some ⟨gB, 0, none⟩)] w Q) := by
 intro tb L1 L2 vs off st x w hf hb ho hl hB hBw hup hroom hR hcap
 obtain ⟨rfl, wx0⟩ := hR
 have ht : ¬ hot 3 := by unfold hot; decide
 have HT := Lib.hid ht
 have HO := Lib.hid ho
 have HB := Lib.hid hB
 have HBW := Lib.hid hBw
 have HUP := Lib.hid hup
 have HRM := Lib.hid hroom
 have HFW := Lib.hid hf
 have HGN := Lib.hid hcap.1
 have GB0 := Lib.hid hcap.2
 have FL0 := Lib.hid hf
 have BL0 := Lib.hid hb
 have FR0 := Lib.hid (Fr.refl B tb w)
 have HGL : Hid (gB < w.heap.size) := Lib.hid hcap.2.lt
 have g0 := GB0.out.cell 0
 clear ht ho hB hBw hup hroom hf hb hcap hl
 go_enter Try.func76, Try.ntmps76
 have KN0 : Hid (st.kin st) := Lib.hid (kin_refl st)
 have RM0 : Hid (st.room ≤ st.room + 0) := Lib.hid (Nat.le_refl _)
 have SF0 : Hid (Fr B tb w w) := Lib.hid (by exact Fr.refl B tb w)
 have FY0 : Hid (FlX B w F st) := Lib.hid (by exact FL0.out)
 have BY0 : Hid (Blk w tb 3 (L1 ++ ([Value.int .i64 x] ++ L2)).toArray) := Lib.hid (by exact BL0.out)
 have GY0 : Hid (Blk w gB 105 #[.pointer (some ⟨F, 0, none⟩)]) := Lib.hid (by exact GB0.out)
 have ZY0 : Hid (w.heap.size ≤ w.heap.size) := Lib.hid (Nat.le_trans FR0.out.size SF0.out.size)
 clear g0
 have g0 := GY0.out.cell 0
 go_wp2_with fail
 obtain ⟨W0, hW0⟩ : ∃ W0, W0 = w.alloc (.cells #[.pointer (some ⟨tb, off, none⟩)] 139) := ⟨_, rfl⟩
 rw [← hW0]
 have hal : Below w.heap.size w W0 := by rw [hW0]; exact (Below.refl _ _).alloc (Nat.le_refl _) _
 have GP0 : Hid (Blk W0 w.heap.size 139 (ptrs tb (off) 1).toArray) := Lib.hid (by rw [hW0]; exact Blk.new _ _ _)
 have HBY : Hid (B ≤ w.heap.size) := Lib.hid (Nat.le_trans HBW.out ZY0.out)
 have SW0 : Hid (Fr B tb w W0) := Lib.hid (SF0.out.trans (Fr.below HBY.out hal))
 have FW0 : Hid (FlX B W0 F st) := Lib.hid (FY0.out.below hal)
 have BW0 : Hid (Blk W0 tb 3 (L1 ++ ([Value.int .i64 x] ++ L2)).toArray) := Lib.hid (by have h := BY0.out.below hal BY0.out.lt; simpa [List.append_assoc] using h)
 have GW0 : Hid (Blk W0 gB 105 #[.pointer (some ⟨F, 0, none⟩)]) := Lib.hid (GY0.out.below hal GY0.out.lt)
 have ZW0 : Hid (w.heap.size ≤ W0.heap.size) := Lib.hid (Nat.le_trans ZY0.out hal.size)
 have HNT : Hid (tb < w.heap.size) := Lib.hid BY0.out.lt
 have FRW0 : Hid (Fr B tb w W0) := Lib.hid (FR0.out.trans SW0.out)
 clear hal hW0
 have CC0 := Lib.hid (ints_step B F tb 3 L1 L2 (off) st [x] W0 w.heap.size 1 FW0.out HT.out (by intro a ha; simp at ha; rcases ha with rfl <;> assumption) BW0.out HO.out HB.out (Nat.le_trans HBW.out ZW0.out) (kin_up KN0.out HUP.out) (by have h1 := RM0.out; have h2 := HRM.out; simp only [List.length_cons, List.length_nil]; omega) GP0.out (by have := HNT.out; omega) (by simp))
 refine CC0.out.mono ?_
 rintro e w1 (⟨s1, r1, vs, hn, rfl, hf2, hb2, rfl, hfr⟩ | ⟨hn, ec, rfl, he, hbe⟩)
 rotate_left
 ·go_wp2_with fail
  exact ⟨rfl, .inr ⟨(by simp only [intF, hn, Option.bind_some, Option.bind_none]), ec, rfl, kin_err KN0.out he, FRW0.out.trans hbe⟩⟩
 have hlen := len1 (fine_run fine_num _ _ _ _ hn).2.2
 rw [hlen] at hb2
 clear hlen
 have HN1 := Lib.hid hn
 have FL1 := Lib.hid hf2
 have BL1 : Hid (Blk w1 tb 3 (L1 ++ ([Value.int .i64 (r1.getD 0 0)] ++ L2)).toArray) := Lib.hid (by have h := hb2; simpa [I64, List.append_assoc] using h)
 have ST1 : Hid (Fr B tb w w1) := Lib.hid (SW0.out.trans hfr)
 have FR1 : Hid (Fr B tb w w1) := Lib.hid (FRW0.out.trans hfr)
 have GB1 : Hid (Blk w1 gB 105 #[.pointer (some ⟨F, 0, none⟩)]) := Lib.hid (hfr.2 _ _ _ HGN.out hot_pf GW0.out)
 have hfi := fine_runs (k := 1) rfl hn
 have KN1 : Hid (st.kin s1) := Lib.hid (kin_trans KN0.out hfi.2)
 have RM1 : Hid (s1.room ≤ st.room + 10) := Lib.hid (by have h1 := hfi.1; have h2 := RM0.out; omega)
 clear hn hf2 hb2 hfr hfi FL0 BL0 GB0 SF0 FY0 BY0 GY0 ZY0 SW0 FW0 BW0 GW0 ZW0 FRW0 HNT HBY GP0
 have g0 := GB1.out.cell 0
 go_wp2_with fail
 go_end0
 exact .inl ⟨s1, r1.getD 0 0, [Value.int .i64 (r1.getD 0 0)], (by simp only [intF, HN1.out, Option.bind_some]), rfl, FL1.out, BL1.out, ⟨rfl, rfl, runs_wf HN1.out 0⟩, FR1.out⟩
end Go.Proofs.Ytioocaicmiggoaa
namespace Go.Proofs.Ytioocaicmiggoaa
set_option linter.unusedVariables false
set_option linter.unusedSimpArgs false
open Go.RowKit Go.Deep
set_option maxRecDepth 100000 in
set_option maxHeartbeats 8000000 in
theorem one_J (B F gB : Nat) : OneC B F 3 1 (fun _ => IntC) (CapC gB F) intF (10) (fun p w Q => Calls Try.prog 79 #[p, .pointer (some ⟨gB, 0, none⟩)] w Q) := by
 intro tb L1 L2 vs off st x w hf hb ho hl hB hBw hup hroom hR hcap
 obtain ⟨rfl, wx0⟩ := hR
 have ht : ¬ hot 3 := by unfold hot; decide
 have HT := Lib.hid ht
 have HO := Lib.hid ho
 have HB := Lib.hid hB
 have HBW := Lib.hid hBw
 have HUP := Lib.hid hup
 have HRM := Lib.hid hroom
 have HFW := Lib.hid hf
 have HGN := Lib.hid hcap.1
 have GB0 := Lib.hid hcap.2
 have FL0 := Lib.hid hf
 have BL0 := Lib.hid hb
 have FR0 := Lib.hid (Fr.refl B tb w)
 have HGL : Hid (gB < w.heap.size) := Lib.hid hcap.2.lt
 have g0 := GB0.out.cell 0
 clear ht ho hB hBw hup hroom hf hb hcap hl
 go_enter Try.func79, Try.ntmps79
 have KN0 : Hid (st.kin st) := Lib.hid (kin_refl st)
 have RM0 : Hid (st.room ≤ st.room + 0) := Lib.hid (Nat.le_refl _)
 have SF0 : Hid (Fr B tb w w) := Lib.hid (by exact Fr.refl B tb w)
 have FY0 : Hid (FlX B w F st) := Lib.hid (by exact FL0.out)
 have BY0 : Hid (Blk w tb 3 (L1 ++ ([Value.int .i64 x] ++ L2)).toArray) := Lib.hid (by exact BL0.out)
 have GY0 : Hid (Blk w gB 105 #[.pointer (some ⟨F, 0, none⟩)]) := Lib.hid (by exact GB0.out)
 have ZY0 : Hid (w.heap.size ≤ w.heap.size) := Lib.hid (Nat.le_trans FR0.out.size SF0.out.size)
 clear g0
 have g0 := GY0.out.cell 0
 go_wp2_with fail
 obtain ⟨W0, hW0⟩ : ∃ W0, W0 = w.alloc (.cells #[.pointer (some ⟨tb, off, none⟩)] 139) := ⟨_, rfl⟩
 rw [← hW0]
 have hal : Below w.heap.size w W0 := by rw [hW0]; exact (Below.refl _ _).alloc (Nat.le_refl _) _
 have GP0 : Hid (Blk W0 w.heap.size 139 (ptrs tb (off) 1).toArray) := Lib.hid (by rw [hW0]; exact Blk.new _ _ _)
 have HBY : Hid (B ≤ w.heap.size) := Lib.hid (Nat.le_trans HBW.out ZY0.out)
 have SW0 : Hid (Fr B tb w W0) := Lib.hid (SF0.out.trans (Fr.below HBY.out hal))
 have FW0 : Hid (FlX B W0 F st) := Lib.hid (FY0.out.below hal)
 have BW0 : Hid (Blk W0 tb 3 (L1 ++ ([Value.int .i64 x] ++ L2)).toArray) := Lib.hid (by have h := BY0.out.below hal BY0.out.lt; simpa [List.append_assoc] using h)
 have GW0 : Hid (Blk W0 gB 105 #[.pointer (some ⟨F, 0, none⟩)]) := Lib.hid (GY0.out.below hal GY0.out.lt)
 have ZW0 : Hid (w.heap.size ≤ W0.heap.size) := Lib.hid (Nat.le_trans ZY0.out hal.size)
 have HNT : Hid (tb < w.heap.size) := Lib.hid BY0.out.lt
 have FRW0 : Hid (Fr B tb w W0) := Lib.hid (FR0.out.trans SW0.out)
 clear hal hW0
 have CC0 := Lib.hid (ints_step B F tb 3 L1 L2 (off) st [x] W0 w.heap.size 1 FW0.out HT.out (by intro a ha; simp at ha; rcases ha with rfl <;> assumption) BW0.out HO.out HB.out (Nat.le_trans HBW.out ZW0.out) (kin_up KN0.out HUP.out) (by have h1 := RM0.out; have h2 := HRM.out; simp only [List.length_cons, List.length_nil]; omega) GP0.out (by have := HNT.out; omega) (by simp))
 refine CC0.out.mono ?_
 rintro e w1 (⟨s1, r1, vs, hn, rfl, hf2, hb2, rfl, hfr⟩ | ⟨hn, ec, rfl, he, hbe⟩)
 rotate_left
 ·go_wp2_with fail
  exact ⟨rfl, .inr ⟨(by simp only [intF, hn, Option.bind_some, Option.bind_none]), ec, rfl, kin_err KN0.out he, FRW0.out.trans hbe⟩⟩
 have hlen := len1 (fine_run fine_num _ _ _ _ hn).2.2
 rw [hlen] at hb2
 clear hlen
 have HN1 := Lib.hid hn
 have FL1 := Lib.hid hf2
 have BL1 : Hid (Blk w1 tb 3 (L1 ++ ([Value.int .i64 (r1.getD 0 0)] ++ L2)).toArray) := Lib.hid (by have h := hb2; simpa [I64, List.append_assoc] using h)
 have ST1 : Hid (Fr B tb w w1) := Lib.hid (SW0.out.trans hfr)
 have FR1 : Hid (Fr B tb w w1) := Lib.hid (FRW0.out.trans hfr)
 have GB1 : Hid (Blk w1 gB 105 #[.pointer (some ⟨F, 0, none⟩)]) := Lib.hid (hfr.2 _ _ _ HGN.out hot_pf GW0.out)
 have hfi := fine_runs (k := 1) rfl hn
 have KN1 : Hid (st.kin s1) := Lib.hid (kin_trans KN0.out hfi.2)
 have RM1 : Hid (s1.room ≤ st.room + 10) := Lib.hid (by have h1 := hfi.1; have h2 := RM0.out; omega)
 clear hn hf2 hb2 hfr hfi FL0 BL0 GB0 SF0 FY0 BY0 GY0 ZY0 SW0 FW0 BW0 GW0 ZW0 FRW0 HNT HBY GP0
 have g0 := GB1.out.cell 0
 go_wp2_with fail
 go_end0
 exact .inl ⟨s1, r1.getD 0 0, [Value.int .i64 (r1.getD 0 0)], (by simp only [intF, HN1.out, Option.bind_some]), rfl, FL1.out, BL1.out, ⟨rfl, rfl, runs_wf HN1.out 0⟩, FR1.out⟩
end Go.Proofs.Ytioocaicmiggoaa
namespace Go.Proofs.Ytioocaicmiggoaa
set_option linter.unusedVariables false
set_option linter.unusedSimpArgs false
open Go.RowKit Go.Deep
theorem FlP.from {α : Type} {B F tb sz : Nat} {t : TypeId} {L1 L2 : List Value} {R : (Nat → Prop) → World → List Value → α → Prop} {st : FSt} {o : Option (FSt × List α)} {w w0 w' : World} {e : Ending} (fr : Fr B tb w w0) (hR : KeepsQ R)
  (h : FlP B F tb t L1 L2 (fun w' vs ys => ∃ v', vs = [v'] ∧ SlQ (FreshQ w0.heap.size w') sz (R (FreshQ w0.heap.size w')) w' v' ys) st o w0 e w') :
  FlP B F tb t L1 L2 (fun w' vs ys => ∃ v', vs = [v'] ∧ SlQ (FreshQ w.heap.size w') sz (R (FreshQ w.heap.size w')) w' v' ys) st o w e w' := by
 rcases h with ⟨s, y, vs, h1, h2, h3, h4, ⟨v', h5, h6⟩, h7⟩ | ⟨h1, ec, h2, h3, h4⟩
 ·have q : ∀ b, FreshQ w0.heap.size w' b → FreshQ w.heap.size w' b := fun b hb => ⟨Nat.le_trans fr.size hb.1, hb.2⟩
  exact .inl ⟨s, y, vs, h1, h2, h3, h4, ⟨v', h5, h6.keep (fun _ _ _ h => h) q fun cs x hx => hR _ _ _ _ _ _ hx (fun _ _ _ h => h) q⟩, fr.trans h7⟩
 ·exact .inr ⟨h1, ec, h2, h3, fr.trans h4⟩
set_option maxRecDepth 100000 in
set_option maxHeartbeats 4000000 in
theorem stops_step (B F tb : Nat) (t : TypeId) (L1 L2 : List Value) (off : Nat) (st : FSt) (xs : List TStop) (v : Value) (w : World) (hf : FlX B w F st) (ht : ¬ hot t) (hv : SlQ (· < B) 2 StopC w v xs) (hc : Blk w tb t (L1 ++ ([v] ++ L2)).toArray) (ho : L1.length = off) (hB : B ≤ tb) (hBw : B ≤ w.heap.size) (hup : st.rdUp tb) (hroom : st.room + (10 + 20 * 1024) ≤ 1000000000000) :
  Calls Try.prog 87 #[.pointer (some ⟨F, 0, none⟩), .pointer (some ⟨tb, off, none⟩)] w (FlP B F tb t L1 L2 (fun w' vs ys => ∃ v', vs = [v'] ∧ SlQ (FreshQ w.heap.size w') 2 StopC w' v' ys) st (listF stopF zStop st xs) w) := by
 obtain ⟨w0, hw0⟩ : ∃ w0, w0 = w.alloc (.cells #[.pointer (some ⟨F, 0, none⟩)] 105) := ⟨_, rfl⟩
 have ha0 : Below w.heap.size w w0 := by rw [hw0]; exact (Below.refl _ _).alloc (Nat.le_refl _) _
 have GB0 : Blk w0 w.heap.size 105 #[.pointer (some ⟨F, 0, none⟩)] := by rw [hw0]; exact Blk.new _ _ _
 have FR0 : Fr B tb w w0 := Fr.below hBw ha0
 have g0 := GB0.cell 0
 have hlt := hc.lt
 have C := Lib.hid (list_T B F tb t L1 L2 off st xs v w0 w.heap.size (fun _ => StopC) (CapC w.heap.size F) stopF zStop 20 keeps_stop onec_T zero_T (one_T B F w.heap.size) fine_stop (capC_list (by omega) GB0.lt) (capC_new GB0) (hf.below ha0) ht (slq_old hv keeps_stop FR0) (hc.below ha0 hc.lt) ho hB (Nat.le_trans hBw ha0.size) hup hroom)
 have HF := Lib.hid FR0
 clear hf ht hv hc ho hB hBw hup hroom ha0 GB0 FR0 hlt
 go_enter Try.func87, Try.ntmps87
 go_upto_region 1 with fail
 rw [← hw0]
 clear hw0
 go_wp2_with fail
 refine C.out.mono ?_
 intro e w' h
 have H := Lib.hid (FlP.from HF.out keeps_stop h)
 rcases h with ⟨s, y, vs, h1, rfl, h3, h4, h5, h6⟩ | ⟨h1, ec, rfl, h3, h4⟩
 ·clear h1 h3 h4 h5 h6 g0
  go_wp2_with fail
  go_end0
  exact H.out
 ·clear h1 h3 h4 g0
  go_wp2_with fail
  exact ⟨rfl, H.out⟩
end Go.Proofs.Ytioocaicmiggoaa
namespace Go.Proofs.Ytioocaicmiggoaa
set_option linter.unusedVariables false
set_option linter.unusedSimpArgs false
open Go.RowKit Go.Deep
set_option maxRecDepth 100000 in
set_option maxHeartbeats 4000000 in
theorem one_G (B F gB : Nat) : OneC B F 22 1 IntsQ (CapC gB F) (listF intF 0) (10 + 10 * 1024) (fun p w Q => Calls Try.prog 78 #[p, .pointer (some ⟨gB, 0, none⟩)] w Q) := by
 intro tb L1 L2 vs off st x w hf hb ho hl hB hBw hup hroom hR hcap
 obtain ⟨v, rfl, hv⟩ := hR
 have ht : ¬ hot 22 := by unfold hot; decide
 have g0 := hcap.2.cell 0
 have C := Lib.hid (list_J B F tb 22 L1 L2 off st x v w gB (fun _ => IntC) (CapC gB F) intF 0 10 keeps_int onec_J zero_J (one_J B F gB) fine_int (capC_list hcap.1 hcap.2.lt) (capC_new hcap.2) hf ht hv hb ho hB hBw hup hroom)
 clear hf hv hb ho hB hBw hup hroom hcap hl
 go_enter Try.func78, Try.ntmps78
 go_wp2_with fail
 refine C.out.mono ?_
 rintro e w' (⟨s, y, vs, h1, rfl, h3, h4, ⟨v', rfl, h5⟩, h6⟩ | ⟨h1, ec, rfl, h3, h4⟩)
 ·have H : Hid (FlP B F tb 22 L1 L2 (fun w' vs' y => vs'.length = 1 ∧ IntsQ (FreshQ w.heap.size w') w' vs' y) st (listF intF 0 st x) w (.returned (.tuple #[])) w') := Lib.hid (.inl ⟨s, y, [v'], h1, rfl, h3, h4, ⟨rfl, v', rfl, h5⟩, h6⟩)
  clear h1 h3 h4 h5 h6 g0
  go_wp2_with fail
  go_end0
  exact H.out
 ·have H : Hid (FlP B F tb 22 L1 L2 (fun w' vs' y => vs'.length = 1 ∧ IntsQ (FreshQ w.heap.size w') w' vs' y) st (listF intF 0 st x) w (.panicked (stopP ec)) w') := Lib.hid (.inr ⟨h1, ec, rfl, h3, h4⟩)
  clear h1 h3 h4 g0
  go_wp2_with fail
  exact ⟨rfl, H.out⟩
end Go.Proofs.Ytioocaicmiggoaa
namespace Go.Proofs.Ytioocaicmiggoaa
set_option linter.unusedVariables false
set_option linter.unusedSimpArgs false
open Go.RowKit Go.Deep
set_option maxRecDepth 100000 in
set_option maxHeartbeats 8000000 in
theorem one_E (B F gB : Nat) : OneC B F 56 3 TailQ (CapC gB F) tailF (20 + (10 + 20 * 1024)) (fun p w Q => Calls Try.prog 89 #[p, .pointer (some ⟨gB, 0, none⟩)] w Q) := by
 intro tb L1 L2 vs off st x w hf hb ho hl hB hBw hup hroom hR hcap
 obtain ⟨vb, rfl, hsb, wx0, wx1⟩ := hR
 have HSB := Lib.hid hsb
 have ht : ¬ hot 56 := by unfold hot; decide
 have HT := Lib.hid ht
 have HO := Lib.hid ho
 have HB := Lib.hid hB
 have HBW := Lib.hid hBw
 have HUP := Lib.hid hup
 have HRM := Lib.hid hroom
 have HFW := Lib.hid hf
 have HGN := Lib.hid hcap.1
 have GB0 := Lib.hid hcap.2
 have FL0 := Lib.hid hf
 have BL0 := Lib.hid hb
 have FR0 := Lib.hid (Fr.refl B tb w)
 have HGL : Hid (gB < w.heap.size) := Lib.hid hcap.2.lt
 have g0 := GB0.out.cell 0
 clear ht ho hB hBw hup hroom hf hb hcap hl
 go_enter Try.func89, Try.ntmps89
 have KN0 : Hid (st.kin st) := Lib.hid (kin_refl st)
 have RM0 : Hid (st.room ≤ st.room + 0) := Lib.hid (Nat.le_refl _)
 go_upto_region 0 with fail
 refine region_till (fun W => W.cell? ⟨gB, 0, none⟩ = some (.pointer (some ⟨F, 0, none⟩))) (fun j => !([0, 1, 2, 3, 4, 5, 6, 7, 8] : List Nat).contains j) (by kernel_rfl) ?_
 obtain ⟨y0, hy0⟩ : ∃ y0, y0 = World.drew w := ⟨_, rfl⟩
 rw [← hy0]
 have SF0 : Hid (Fr B tb w y0) := Lib.hid (by rw [hy0]; exact Fr.drew B tb w)
 have FY0 : Hid (FlX B y0 F st) := Lib.hid (by rw [hy0]; exact FL0.out.drew)
 have BY0 : Hid (Blk y0 tb 56 (L1 ++ ([Value.int .i64 x.br, Value.int .i64 x.cl, vb] ++ L2)).toArray) := Lib.hid (by rw [hy0]; exact BL0.out)
 have GY0 : Hid (Blk y0 gB 105 #[.pointer (some ⟨F, 0, none⟩)]) := Lib.hid (by rw [hy0]; exact GB0.out)
 have ZY0 : Hid (w.heap.size ≤ y0.heap.size) := Lib.hid (Nat.le_trans FR0.out.size SF0.out.size)
 clear hy0 g0
 have HS : Hid (y0.cell? ⟨gB, 0, none⟩ = some (.pointer (some ⟨F, 0, none⟩))) := Lib.hid (GY0.out.cell 0)
 refine till_take (i := 0) (v := ?_) rfl (by kernel_rfl) (by kernel_rfl) (by kernel_rfl) (by kernel_rfl) (fun _ _ _ h => h) (Or.inl ⟨by kernel_rfl, ?_⟩) HS.out ?_
 rotate_left
 ·(intro w' hSw; obtain hc0 := hSw; go_simp; try with_reducible rfl)
 refine till_take (i := 1) (v := ?_) rfl (by kernel_rfl) (by kernel_rfl) (by kernel_rfl) (by kernel_rfl) (fun _ _ _ h => h) (Or.inl ⟨by kernel_rfl, ?_⟩) HS.out ?_
 rotate_left
 ·(intro w' hSw; obtain hc0 := hSw; go_simp; try with_reducible rfl)
 refine till_take (i := 2) (v := ?_) rfl (by kernel_rfl) (by kernel_rfl) (by kernel_rfl) (by kernel_rfl) (fun _ _ _ h => h) (Or.inl ⟨by kernel_rfl, ?_⟩) HS.out ?_
 rotate_left
 ·(intro w' hSw; obtain hc0 := hSw; go_simp; try with_reducible rfl)
 refine till_take (i := 3) (v := ?_) rfl (by kernel_rfl) (by kernel_rfl) (by kernel_rfl) (by kernel_rfl) (fun _ _ _ h => h) (Or.inl ⟨by kernel_rfl, ?_⟩) HS.out ?_
 rotate_left
 ·(intro w' hSw; obtain hc0 := hSw; go_simp; try with_reducible rfl)
 refine till_take (i := 4) (v := ?_) rfl (by kernel_rfl) (by kernel_rfl) (by kernel_rfl) (by kernel_rfl) (fun _ _ _ h => h) (Or.inl ⟨by kernel_rfl, ?_⟩) HS.out ?_
 rotate_left
 ·(intro w' hSw; obtain hc0 := hSw; go_simp; try with_reducible rfl)
 refine till_take (i := 5) (v := ?_) rfl (by kernel_rfl) (by kernel_rfl) (by kernel_rfl) (by kernel_rfl) (fun _ _ _ h => h) (Or.inl ⟨by kernel_rfl, ?_⟩) HS.out ?_
 rotate_left
 ·(intro w' hSw; obtain hc0 := hSw; go_simp; try with_reducible rfl)
 refine till_take (i := 6) (v := ?_) rfl (by kernel_rfl) (by kernel_rfl) (by kernel_rfl) (by kernel_rfl) (fun _ _ _ h => h) (Or.inl ⟨by kernel_rfl, ?_⟩) HS.out ?_
 rotate_left
 ·(intro w' hSw; obtain hc0 := hSw; go_simp; try with_reducible rfl)
 refine till_ready (rs := [7]) (by kernel_rfl) (by simp) ?_
 refine TillAll.cons rfl (fun K hK => ?_) TillAll.nil
 go_simp
 obtain ⟨W0, hW0⟩ : ∃ W0, W0 = y0.alloc (.cells #[.pointer (some ⟨tb, off, none⟩), .pointer (some ⟨tb, off + 1, none⟩)] 139) := ⟨_, rfl⟩
 rw [← hW0]
 have hal : Below y0.heap.size y0 W0 := by rw [hW0]; exact (Below.refl _ _).alloc (Nat.le_refl _) _
 have GP0 : Hid (Blk W0 y0.heap.size 139 (ptrs tb (off) 2).toArray) := Lib.hid (by rw [hW0]; exact Blk.new _ _ _)
 have HBY : Hid (B ≤ y0.heap.size) := Lib.hid (Nat.le_trans HBW.out ZY0.out)
 have SW0 : Hid (Fr B tb w W0) := Lib.hid (SF0.out.trans (Fr.below HBY.out hal))
 have FW0 : Hid (FlX B W0 F st) := Lib.hid (FY0.out.below hal)
 have BW0 : Hid (Blk W0 tb 56 (L1 ++ ([Value.int .i64 x.br, Value.int .i64 x.cl] ++ ([vb] ++ L2))).toArray) := Lib.hid (by have h := BY0.out.below hal BY0.out.lt; simpa [List.append_assoc] using h)
 have GW0 : Hid (Blk W0 gB 105 #[.pointer (some ⟨F, 0, none⟩)]) := Lib.hid (GY0.out.below hal GY0.out.lt)
 have ZW0 : Hid (w.heap.size ≤ W0.heap.size) := Lib.hid (Nat.le_trans ZY0.out hal.size)
 have HNT : Hid (tb < y0.heap.size) := Lib.hid BY0.out.lt
 have FRW0 : Hid (Fr B tb w W0) := Lib.hid (FR0.out.trans SW0.out)
 have HS : Hid (W0.cell? ⟨gB, 0, none⟩ = some (.pointer (some ⟨F, 0, none⟩))) := Lib.hid (GW0.out.cell 0)
 clear hal hW0
 (refine hK.out _ _ (fun _ => HS.out) ?_; clear hK K)
 refine till_ready (rs := [8]) (by kernel_rfl) (by simp) ?_
 refine TillAll.cons rfl (fun K hK => ?_) TillAll.nil
 have CC0 := Lib.hid (ints_step B F tb 56 L1 ([vb] ++ L2) (off) st [x.br, x.cl] W0 y0.heap.size 2 FW0.out HT.out (by intro a ha; simp at ha; rcases ha with rfl | rfl <;> assumption) BW0.out HO.out HB.out (Nat.le_trans HBW.out ZW0.out) (kin_up KN0.out HUP.out) (by have h1 := RM0.out; have h2 := HRM.out; simp only [List.length_cons, List.length_nil]; omega) GP0.out (by have := HNT.out; omega) (by simp))
 go_simp
 go_wp2_with (go_at_call 74; refine CC0.out.mono ?_; rintro e w1 (⟨s1, r1, vs, hn, rfl, hf2, hb2, rfl, hfr⟩ | ⟨hn, ec, rfl, he, hbe⟩))
 rotate_left
 ·exact ⟨rfl, .inr ⟨(by simp only [tailF, hn, Option.bind_some, Option.bind_none]), ec, rfl, kin_err KN0.out he, FRW0.out.trans hbe⟩⟩
 have hlen := len2 (fine_run fine_num _ _ _ _ hn).2.2
 rw [hlen] at hb2
 clear hlen
 have HN1 := Lib.hid hn
 have FL1 := Lib.hid hf2
 have BL1 : Hid (Blk w1 tb 56 (L1 ++ ([Value.int .i64 (r1.getD 0 0), Value.int .i64 (r1.getD 1 0), vb] ++ L2)).toArray) := Lib.hid (by have h := hb2; simpa [I64, List.append_assoc] using h)
 have ST1 : Hid (Fr B tb w w1) := Lib.hid (SW0.out.trans hfr)
 have FR1 : Hid (Fr B tb w w1) := Lib.hid (FRW0.out.trans hfr)
 have GB1 : Hid (Blk w1 gB 105 #[.pointer (some ⟨F, 0, none⟩)]) := Lib.hid (hfr.2 _ _ _ HGN.out hot_pf GW0.out)
 have hfi := fine_runs (k := 2) rfl hn
 have KN1 : Hid (st.kin s1) := Lib.hid (kin_trans KN0.out hfi.2)
 have RM1 : Hid (s1.room ≤ st.room + 20) := Lib.hid (by have h1 := hfi.1; have h2 := RM0.out; omega)
 clear hn hf2 hb2 hfr hfi FL0 BL0 GB0 SF0 FY0 BY0 GY0 ZY0 SW0 FW0 BW0 GW0 ZW0 FRW0 HNT HBY GP0
 have g0 := GB1.out.cell 0
 have HS : Hid (w1.cell? ⟨gB, 0, none⟩ = some (.pointer (some ⟨F, 0, none⟩))) := Lib.hid (GB1.out.cell 0)
 (refine hK.out _ _ (fun _ => HS.out) ?_; clear hK K)
 refine till_done (by kernel_rfl) ?_ _
 clear HS
 try simp only [Exit.then]
 go_upto_region 1 with fail
 refine region_till (fun W => W.cell? ⟨gB, 0, none⟩ = some (.pointer (some ⟨F, 0, none⟩))) (fun j => !([0, 1, 2, 3, 4] : List Nat).contains j) (by kernel_rfl) ?_
 obtain ⟨y1, hy1⟩ : ∃ y1, y1 = World.drew w1 := ⟨_, rfl⟩
 rw [← hy1]
 have SF1 : Hid (Fr B tb w1 y1) := Lib.hid (by rw [hy1]; exact Fr.drew B tb w1)
 have FY1 : Hid (FlX B y1 F s1) := Lib.hid (by rw [hy1]; exact FL1.out.drew)
 have BY1 : Hid (Blk y1 tb 56 (L1 ++ ([Value.int .i64 (r1.getD 0 0), Value.int .i64 (r1.getD 1 0), vb] ++ L2)).toArray) := Lib.hid (by rw [hy1]; exact BL1.out)
 have GY1 : Hid (Blk y1 gB 105 #[.pointer (some ⟨F, 0, none⟩)]) := Lib.hid (by rw [hy1]; exact GB1.out)
 have ZY1 : Hid (w.heap.size ≤ y1.heap.size) := Lib.hid (Nat.le_trans FR1.out.size SF1.out.size)
 clear hy1 g0
 have HS : Hid (y1.cell? ⟨gB, 0, none⟩ = some (.pointer (some ⟨F, 0, none⟩))) := Lib.hid (GY1.out.cell 0)
 refine till_take (i := 0) (v := ?_) rfl (by kernel_rfl) (by kernel_rfl) (by kernel_rfl) (by kernel_rfl) (fun _ _ _ h => h) (Or.inl ⟨by kernel_rfl, ?_⟩) HS.out ?_
 rotate_left
 ·(intro w' hSw; obtain hc0 := hSw; go_simp; try with_reducible rfl)
 refine till_take (i := 1) (v := ?_) rfl (by kernel_rfl) (by kernel_rfl) (by kernel_rfl) (by kernel_rfl) (fun _ _ _ h => h) (Or.inl ⟨by kernel_rfl, ?_⟩) HS.out ?_
 rotate_left
 ·(intro w' hSw; obtain hc0 := hSw; go_simp; try with_reducible rfl)
 refine till_take (i := 2) (v := ?_) rfl (by kernel_rfl) (by kernel_rfl) (by kernel_rfl) (by kernel_rfl) (fun _ _ _ h => h) (Or.inl ⟨by kernel_rfl, ?_⟩) HS.out ?_
 rotate_left
 ·(intro w' hSw; obtain hc0 := hSw; go_simp; try with_reducible rfl)
 refine till_take (i := 3) (v := ?_) rfl (by kernel_rfl) (by kernel_rfl) (by kernel_rfl) (by kernel_rfl) (fun _ _ _ h => h) (Or.inl ⟨by kernel_rfl, ?_⟩) HS.out ?_
 rotate_left
 ·(intro w' hSw; obtain hc0 := hSw; go_simp; try with_reducible rfl)
 refine till_ready (rs := [4]) (by kernel_rfl) (by simp) ?_
 refine TillAll.cons rfl (fun K hK => ?_) TillAll.nil
 obtain ⟨W1, hW1⟩ : ∃ W1, W1 = y1 := ⟨_, rfl⟩
 have hal : Below y1.heap.size y1 W1 := by rw [hW1]; exact Below.refl _ _
 try rw [← hW1]
 have HBY : Hid (B ≤ y1.heap.size) := Lib.hid (Nat.le_trans HBW.out ZY1.out)
 have SW1 : Hid (Fr B tb w1 W1) := Lib.hid (SF1.out.trans (Fr.below HBY.out hal))
 have FW1 : Hid (FlX B W1 F s1) := Lib.hid (FY1.out.below hal)
 have BW1 : Hid (Blk W1 tb 56 ((L1 ++ [Value.int .i64 (r1.getD 0 0), Value.int .i64 (r1.getD 1 0)]) ++ ([vb] ++ L2)).toArray) := Lib.hid (by have h := BY1.out.below hal BY1.out.lt; simpa [List.append_assoc] using h)
 have GW1 : Hid (Blk W1 gB 105 #[.pointer (some ⟨F, 0, none⟩)]) := Lib.hid (GY1.out.below hal GY1.out.lt)
 have ZW1 : Hid (w.heap.size ≤ W1.heap.size) := Lib.hid (Nat.le_trans ZY1.out hal.size)
 have HNT : Hid (tb < y1.heap.size) := Lib.hid BY1.out.lt
 have FRW1 : Hid (Fr B tb w W1) := Lib.hid (FR1.out.trans SW1.out)
 have HS : Hid (W1.cell? ⟨gB, 0, none⟩ = some (.pointer (some ⟨F, 0, none⟩))) := Lib.hid (GW1.out.cell 0)
 clear hal hW1
 have CC1 := Lib.hid (stops_step B F tb 56 (L1 ++ [Value.int .i64 (r1.getD 0 0), Value.int .i64 (r1.getD 1 0)]) L2 (off + 2) s1 x.bars vb W1 FW1.out HT.out (slq_old HSB.out keeps_stop FRW1.out) BW1.out (by rw [List.length_append, HO.out]; rfl) HB.out (Nat.le_trans HBW.out ZW1.out) (kin_up KN1.out HUP.out) (by have h1 := RM1.out; have h2 := HRM.out; omega))
 go_simp
 go_wp2_with (go_at_call 87; refine CC1.out.mono ?_; rintro e w2 (⟨s2, r2, vs, hn, rfl, hf2, hb2, ⟨v1, rfl, hsl⟩, hfr⟩ | ⟨hn, ec, rfl, he, hbe⟩))
 rotate_left
 ·exact ⟨rfl, .inr ⟨(by simp only [tailF, HN1.out, hn, Option.bind_some, Option.bind_none]), ec, rfl, kin_err KN1.out he, FRW1.out.trans hbe⟩⟩
 have HN2 := Lib.hid hn
 have FL2 := Lib.hid hf2
 have BL2 : Hid (Blk w2 tb 56 (L1 ++ ([Value.int .i64 (r1.getD 0 0), Value.int .i64 (r1.getD 1 0), v1] ++ L2)).toArray) := Lib.hid (by have h := hb2; simpa [I64, List.append_assoc] using h)
 have ST2 : Hid (Fr B tb w1 w2) := Lib.hid (SW1.out.trans hfr)
 have FR2 : Hid (Fr B tb w w2) := Lib.hid (FRW1.out.trans hfr)
 have GB2 : Hid (Blk w2 gB 105 #[.pointer (some ⟨F, 0, none⟩)]) := Lib.hid (hfr.2 _ _ _ HGN.out hot_pf GW1.out)
 have hfi := fine_list (zero := zStop) fine_stop _ _ _ _ hn
 have KN2 : Hid (st.kin s2) := Lib.hid (kin_trans KN1.out hfi.2)
 have RM2 : Hid (s2.room ≤ st.room + 20510) := Lib.hid (by have h1 := hfi.1; have h2 := RM1.out; omega)
 have NW1 := Lib.hid hsl
 have NF1_2 : Hid (Fr B tb w2 w2) := Lib.hid (Fr.refl _ _ _)
 have NZ1 : Hid (tb < W1.heap.size ∧ w.heap.size ≤ W1.heap.size) := Lib.hid ⟨BW1.out.lt, ZW1.out⟩
 clear hn hf2 hb2 hfr hfi hsl FL1 BL1 GB1 SF1 FY1 BY1 GY1 ZY1 SW1 FW1 BW1 GW1 ZW1 FRW1 HNT HBY
 have g0 := GB2.out.cell 0
 have HS : Hid (w2.cell? ⟨gB, 0, none⟩ = some (.pointer (some ⟨F, 0, none⟩))) := Lib.hid (GB2.out.cell 0)
 (refine hK.out _ _ (fun _ => HS.out) ?_; clear hK K)
 refine till_done (by kernel_rfl) ?_ _
 clear HS
 try simp only [Exit.then]
 go_wp2_with fail
 go_end0
 exact .inl ⟨s2, ⟨r1.getD 0 0, r1.getD 1 0, r2⟩, [Value.int .i64 (r1.getD 0 0), Value.int .i64 (r1.getD 1 0), v1], (by simp only [tailF, HN1.out, HN2.out, Option.bind_some]), rfl, FL2.out, BL2.out, ⟨rfl, _, rfl, (slq_next NW1.out keeps_stop NF1_2.out NZ1.out.1 NZ1.out.2), runs_wf HN1.out 0, runs_wf HN1.out 1⟩, FR2.out⟩
end Go.Proofs.Ytioocaicmiggoaa
namespace Go.Proofs.Ytioocaicmiggoaa
set_option linter.unusedVariables false
set_option linter.unusedSimpArgs false
open Go.RowKit Go.Deep
set_option maxRecDepth 100000 in
set_option maxHeartbeats 8000000 in
theorem one_R (B F : Nat) : OneC B F 46 8 RowQ noCap rowF (21600000) (fun p w Q => Calls Try.prog 81 #[.pointer (some ⟨F, 0, none⟩), p] w Q) := by
 intro tb L1 L2 vs off st x w hf hb ho hl hB hBw hup hroom hR hcap
 obtain ⟨vb, ve, rfl, hsb, hte, wx0, wx1, wx3, wx5, wx6⟩ := hR
 have HSB := Lib.hid hsb
 have HTE := Lib.hid hte
 have ht : ¬ hot 46 := by unfold hot; decide
 have HT := Lib.hid ht
 have HO := Lib.hid ho
 have HB := Lib.hid hB
 have HBW := Lib.hid hBw
 have HUP := Lib.hid hup
 have HRM := Lib.hid hroom
 have HFW := Lib.hid hf
 obtain ⟨w0, hw0⟩ : ∃ w0, w0 = w.alloc (.cells #[.pointer (some ⟨F, 0, none⟩)] 105) := ⟨_, rfl⟩
 have ha0 : Below w.heap.size w w0 := by rw [hw0]; exact (Below.refl _ _).alloc (Nat.le_refl _) _
 have GB0 : Hid (Blk w0 w.heap.size 105 #[.pointer (some ⟨F, 0, none⟩)]) := Lib.hid (by rw [hw0]; exact Blk.new _ _ _)
 have FL0 := Lib.hid (hf.below ha0)
 have BL0 := Lib.hid (hb.below ha0 hb.lt)
 have FR0 : Hid (Fr B tb w w0) := Lib.hid (Fr.below hBw ha0)
 have HGN : Hid (w.heap.size ≠ tb) := Lib.hid (by have := hb.lt; omega)
 have g0 := GB0.out.cell 0
 clear ht ho hB hBw hup hroom hf hb ha0
 go_enter Try.func81, Try.ntmps81
 go_upto_region 1 with fail
 rw [← hw0]
 clear hw0
 have KN0 : Hid (st.kin st) := Lib.hid (kin_refl st)
 have RM0 : Hid (st.room ≤ st.room + 0) := Lib.hid (Nat.le_refl _)
 go_upto_region 1 with fail
 refine region_till (fun W => W.cell? ⟨w.heap.size, 0, none⟩ = some (.pointer (some ⟨F, 0, none⟩))) (fun j => !([0, 1, 2, 3, 4, 5, 6, 7, 8] : List Nat).contains j) (by kernel_rfl) ?_
 obtain ⟨y0, hy0⟩ : ∃ y0, y0 = World.drew w0 := ⟨_, rfl⟩
 rw [← hy0]
 have SF0 : Hid (Fr B tb w0 y0) := Lib.hid (by rw [hy0]; exact Fr.drew B tb w0)
 have FY0 : Hid (FlX B y0 F st) := Lib.hid (by rw [hy0]; exact FL0.out.drew)
 have BY0 : Hid (Blk y0 tb 46 (L1 ++ ([Value.int .i64 x.par, Value.int .i64 x.ty, Value.bool x.many, Value.int .i64 x.win, vb, Value.int .i64 x.leave, Value.int .i64 x.guard, ve] ++ L2)).toArray) := Lib.hid (by rw [hy0]; exact BL0.out)
 have GY0 : Hid (Blk y0 w.heap.size 105 #[.pointer (some ⟨F, 0, none⟩)]) := Lib.hid (by rw [hy0]; exact GB0.out)
 have ZY0 : Hid (w.heap.size ≤ y0.heap.size) := Lib.hid (Nat.le_trans FR0.out.size SF0.out.size)
 clear hy0 g0
 have HS : Hid (y0.cell? ⟨w.heap.size, 0, none⟩ = some (.pointer (some ⟨F, 0, none⟩))) := Lib.hid (GY0.out.cell 0)
 refine till_take (i := 0) (v := ?_) rfl (by kernel_rfl) (by kernel_rfl) (by kernel_rfl) (by kernel_rfl) (fun _ _ _ h => h) (Or.inl ⟨by kernel_rfl, ?_⟩) HS.out ?_
 rotate_left
 ·(intro w' hSw; obtain hc0 := hSw; go_simp; try with_reducible rfl)
 refine till_take (i := 1) (v := ?_) rfl (by kernel_rfl) (by kernel_rfl) (by kernel_rfl) (by kernel_rfl) (fun _ _ _ h => h) (Or.inl ⟨by kernel_rfl, ?_⟩) HS.out ?_
 rotate_left
 ·(intro w' hSw; obtain hc0 := hSw; go_simp; try with_reducible rfl)
 refine till_take (i := 2) (v := ?_) rfl (by kernel_rfl) (by kernel_rfl) (by kernel_rfl) (by kernel_rfl) (fun _ _ _ h => h) (Or.inl ⟨by kernel_rfl, ?_⟩) HS.out ?_
 rotate_left
 ·(intro w' hSw; obtain hc0 := hSw; go_simp; try with_reducible rfl)
 refine till_take (i := 3) (v := ?_) rfl (by kernel_rfl) (by kernel_rfl) (by kernel_rfl) (by kernel_rfl) (fun _ _ _ h => h) (Or.inl ⟨by kernel_rfl, ?_⟩) HS.out ?_
 rotate_left
 ·(intro w' hSw; obtain hc0 := hSw; go_simp; try with_reducible rfl)
 refine till_take (i := 4) (v := ?_) rfl (by kernel_rfl) (by kernel_rfl) (by kernel_rfl) (by kernel_rfl) (fun _ _ _ h => h) (Or.inl ⟨by kernel_rfl, ?_⟩) HS.out ?_
 rotate_left
 ·(intro w' hSw; obtain hc0 := hSw; go_simp; try with_reducible rfl)
 refine till_take (i := 5) (v := ?_) rfl (by kernel_rfl) (by kernel_rfl) (by kernel_rfl) (by kernel_rfl) (fun _ _ _ h => h) (Or.inl ⟨by kernel_rfl, ?_⟩) HS.out ?_
 rotate_left
 ·(intro w' hSw; obtain hc0 := hSw; go_simp; try with_reducible rfl)
 refine till_take (i := 6) (v := ?_) rfl (by kernel_rfl) (by kernel_rfl) (by kernel_rfl) (by kernel_rfl) (fun _ _ _ h => h) (Or.inl ⟨by kernel_rfl, ?_⟩) HS.out ?_
 rotate_left
 ·(intro w' hSw; obtain hc0 := hSw; go_simp; try with_reducible rfl)
 refine till_ready (rs := [7]) (by kernel_rfl) (by simp) ?_
 refine TillAll.cons rfl (fun K hK => ?_) TillAll.nil
 go_simp
 obtain ⟨W0, hW0⟩ : ∃ W0, W0 = y0.alloc (.cells #[.pointer (some ⟨tb, off, none⟩), .pointer (some ⟨tb, off + 1, none⟩)] 139) := ⟨_, rfl⟩
 rw [← hW0]
 have hal : Below y0.heap.size y0 W0 := by rw [hW0]; exact (Below.refl _ _).alloc (Nat.le_refl _) _
 have GP0 : Hid (Blk W0 y0.heap.size 139 (ptrs tb (off) 2).toArray) := Lib.hid (by rw [hW0]; exact Blk.new _ _ _)
 have HBY : Hid (B ≤ y0.heap.size) := Lib.hid (Nat.le_trans HBW.out ZY0.out)
 have SW0 : Hid (Fr B tb w0 W0) := Lib.hid (SF0.out.trans (Fr.below HBY.out hal))
 have FW0 : Hid (FlX B W0 F st) := Lib.hid (FY0.out.below hal)
 have BW0 : Hid (Blk W0 tb 46 (L1 ++ ([Value.int .i64 x.par, Value.int .i64 x.ty] ++ ([Value.bool x.many, Value.int .i64 x.win, vb, Value.int .i64 x.leave, Value.int .i64 x.guard, ve] ++ L2))).toArray) := Lib.hid (by have h := BY0.out.below hal BY0.out.lt; simpa [List.append_assoc] using h)
 have GW0 : Hid (Blk W0 w.heap.size 105 #[.pointer (some ⟨F, 0, none⟩)]) := Lib.hid (GY0.out.below hal GY0.out.lt)
 have ZW0 : Hid (w.heap.size ≤ W0.heap.size) := Lib.hid (Nat.le_trans ZY0.out hal.size)
 have HNT : Hid (tb < y0.heap.size) := Lib.hid BY0.out.lt
 have FRW0 : Hid (Fr B tb w W0) := Lib.hid (FR0.out.trans SW0.out)
 have HS : Hid (W0.cell? ⟨w.heap.size, 0, none⟩ = some (.pointer (some ⟨F, 0, none⟩))) := Lib.hid (GW0.out.cell 0)
 clear hal hW0
 (refine hK.out _ _ (fun _ => HS.out) ?_; clear hK K)
 refine till_ready (rs := [8]) (by kernel_rfl) (by simp) ?_
 refine TillAll.cons rfl (fun K hK => ?_) TillAll.nil
 have CC0 := Lib.hid (ints_step B F tb 46 L1 ([Value.bool x.many, Value.int .i64 x.win, vb, Value.int .i64 x.leave, Value.int .i64 x.guard, ve] ++ L2) (off) st [x.par, x.ty] W0 y0.heap.size 2 FW0.out HT.out (by intro a ha; simp at ha; rcases ha with rfl | rfl <;> assumption) BW0.out HO.out HB.out (Nat.le_trans HBW.out ZW0.out) (kin_up KN0.out HUP.out) (by have h1 := RM0.out; have h2 := HRM.out; simp only [List.length_cons, List.length_nil]; omega) GP0.out (by have := HNT.out; omega) (by simp))
 go_simp
 go_wp2_with (go_at_call 74; refine CC0.out.mono ?_; rintro e w1 (⟨s1, r1, vs, hn, rfl, hf2, hb2, rfl, hfr⟩ | ⟨hn, ec, rfl, he, hbe⟩))
 rotate_left
 ·exact ⟨rfl, .inr ⟨(by simp only [rowF, hn, Option.bind_some, Option.bind_none]), ec, rfl, kin_err KN0.out he, FRW0.out.trans hbe⟩⟩
 have hlen := len2 (fine_run fine_num _ _ _ _ hn).2.2
 rw [hlen] at hb2
 clear hlen
 have HN1 := Lib.hid hn
 have FL1 := Lib.hid hf2
 have BL1 : Hid (Blk w1 tb 46 (L1 ++ ([Value.int .i64 (r1.getD 0 0), Value.int .i64 (r1.getD 1 0), Value.bool x.many, Value.int .i64 x.win, vb, Value.int .i64 x.leave, Value.int .i64 x.guard, ve] ++ L2)).toArray) := Lib.hid (by have h := hb2; simpa [I64, List.append_assoc] using h)
 have ST1 : Hid (Fr B tb w0 w1) := Lib.hid (SW0.out.trans hfr)
 have FR1 : Hid (Fr B tb w w1) := Lib.hid (FRW0.out.trans hfr)
 have GB1 : Hid (Blk w1 w.heap.size 105 #[.pointer (some ⟨F, 0, none⟩)]) := Lib.hid (hfr.2 _ _ _ HGN.out hot_pf GW0.out)
 have hfi := fine_runs (k := 2) rfl hn
 have KN1 : Hid (st.kin s1) := Lib.hid (kin_trans KN0.out hfi.2)
 have RM1 : Hid (s1.room ≤ st.room + 20) := Lib.hid (by have h1 := hfi.1; have h2 := RM0.out; omega)
 clear hn hf2 hb2 hfr hfi FL0 BL0 GB0 SF0 FY0 BY0 GY0 ZY0 SW0 FW0 BW0 GW0 ZW0 FRW0 HNT HBY GP0
 have g0 := GB1.out.cell 0
 have HS : Hid (w1.cell? ⟨w.heap.size, 0, none⟩ = some (.pointer (some ⟨F, 0, none⟩))) := Lib.hid (GB1.out.cell 0)
 (refine hK.out _ _ (fun _ => HS.out) ?_; clear hK K)
 refine till_done (by kernel_rfl) ?_ _
 clear HS
 try simp only [Exit.then]
 go_upto_region 2 with fail
 refine region_till (fun W => W.cell? ⟨w.heap.size, 0, none⟩ = some (.pointer (some ⟨F, 0, none⟩))) (fun j => !([0, 1, 2, 3, 4] : List Nat).contains j) (by kernel_rfl) ?_
 obtain ⟨y1, hy1⟩ : ∃ y1, y1 = World.drew w1 := ⟨_, rfl⟩
 rw [← hy1]
 have SF1 : Hid (Fr B tb w1 y1) := Lib.hid (by rw [hy1]; exact Fr.drew B tb w1)
 have FY1 : Hid (FlX B y1 F s1) := Lib.hid (by rw [hy1]; exact FL1.out.drew)
 have BY1 : Hid (Blk y1 tb 46 (L1 ++ ([Value.int .i64 (r1.getD 0 0), Value.int .i64 (r1.getD 1 0), Value.bool x.many, Value.int .i64 x.win, vb, Value.int .i64 x.leave, Value.int .i64 x.guard, ve] ++ L2)).toArray) := Lib.hid (by rw [hy1]; exact BL1.out)
 have GY1 : Hid (Blk y1 w.heap.size 105 #[.pointer (some ⟨F, 0, none⟩)]) := Lib.hid (by rw [hy1]; exact GB1.out)
 have ZY1 : Hid (w.heap.size ≤ y1.heap.size) := Lib.hid (Nat.le_trans FR1.out.size SF1.out.size)
 clear hy1 g0
 have HS : Hid (y1.cell? ⟨w.heap.size, 0, none⟩ = some (.pointer (some ⟨F, 0, none⟩))) := Lib.hid (GY1.out.cell 0)
 refine till_take (i := 0) (v := ?_) rfl (by kernel_rfl) (by kernel_rfl) (by kernel_rfl) (by kernel_rfl) (fun _ _ _ h => h) (Or.inl ⟨by kernel_rfl, ?_⟩) HS.out ?_
 rotate_left
 ·(intro w' hSw; obtain hc0 := hSw; go_simp; try with_reducible rfl)
 refine till_take (i := 1) (v := ?_) rfl (by kernel_rfl) (by kernel_rfl) (by kernel_rfl) (by kernel_rfl) (fun _ _ _ h => h) (Or.inl ⟨by kernel_rfl, ?_⟩) HS.out ?_
 rotate_left
 ·(intro w' hSw; obtain hc0 := hSw; go_simp; try with_reducible rfl)
 refine till_take (i := 2) (v := ?_) rfl (by kernel_rfl) (by kernel_rfl) (by kernel_rfl) (by kernel_rfl) (fun _ _ _ h => h) (Or.inl ⟨by kernel_rfl, ?_⟩) HS.out ?_
 rotate_left
 ·(intro w' hSw; obtain hc0 := hSw; go_simp; try with_reducible rfl)
 refine till_take (i := 3) (v := ?_) rfl (by kernel_rfl) (by kernel_rfl) (by kernel_rfl) (by kernel_rfl) (fun _ _ _ h => h) (Or.inl ⟨by kernel_rfl, ?_⟩) HS.out ?_
 rotate_left
 ·(intro w' hSw; obtain hc0 := hSw; go_simp; try with_reducible rfl)
 refine till_ready (rs := [4]) (by kernel_rfl) (by simp) ?_
 refine TillAll.cons rfl (fun K hK => ?_) TillAll.nil
 obtain ⟨W1, hW1⟩ : ∃ W1, W1 = y1 := ⟨_, rfl⟩
 have hal : Below y1.heap.size y1 W1 := by rw [hW1]; exact Below.refl _ _
 try rw [← hW1]
 have HBY : Hid (B ≤ y1.heap.size) := Lib.hid (Nat.le_trans HBW.out ZY1.out)
 have SW1 : Hid (Fr B tb w1 W1) := Lib.hid (SF1.out.trans (Fr.below HBY.out hal))
 have FW1 : Hid (FlX B W1 F s1) := Lib.hid (FY1.out.below hal)
 have BW1 : Hid (Blk W1 tb 46 ((L1 ++ [Value.int .i64 (r1.getD 0 0), Value.int .i64 (r1.getD 1 0)]) ++ ([Value.bool x.many] ++ ([Value.int .i64 x.win, vb, Value.int .i64 x.leave, Value.int .i64 x.guard, ve] ++ L2))).toArray) := Lib.hid (by have h := BY1.out.below hal BY1.out.lt; simpa [List.append_assoc] using h)
 have GW1 : Hid (Blk W1 w.heap.size 105 #[.pointer (some ⟨F, 0, none⟩)]) := Lib.hid (GY1.out.below hal GY1.out.lt)
 have ZW1 : Hid (w.heap.size ≤ W1.heap.size) := Lib.hid (Nat.le_trans ZY1.out hal.size)
 have HNT : Hid (tb < y1.heap.size) := Lib.hid BY1.out.lt
 have FRW1 : Hid (Fr B tb w W1) := Lib.hid (FR1.out.trans SW1.out)
 have HS : Hid (W1.cell? ⟨w.heap.size, 0, none⟩ = some (.pointer (some ⟨F, 0, none⟩))) := Lib.hid (GW1.out.cell 0)
 clear hal hW1
 have CC1 := Lib.hid (flag_step B F tb 46 (L1 ++ [Value.int .i64 (r1.getD 0 0), Value.int .i64 (r1.getD 1 0)]) ([Value.int .i64 x.win, vb, Value.int .i64 x.leave, Value.int .i64 x.guard, ve] ++ L2) (off + 2) s1 x.many W1 FW1.out HT.out BW1.out (by rw [List.length_append, HO.out]; rfl) HB.out (Nat.le_trans HBW.out ZW1.out) (kin_up KN1.out HUP.out) (by have h1 := RM1.out; have h2 := HRM.out; omega))
 go_simp
 go_wp2_with (go_at_call 86; refine CC1.out.mono ?_; rintro e w2 (⟨s2, r2, vs, hn, rfl, hf2, hb2, rfl, hfr⟩ | ⟨hn, ec, rfl, he, hbe⟩))
 rotate_left
 ·exact ⟨rfl, .inr ⟨(by simp only [rowF, HN1.out, hn, Option.bind_some, Option.bind_none]), ec, rfl, kin_err KN1.out he, FRW1.out.trans hbe⟩⟩
 have HN2 := Lib.hid hn
 have FL2 := Lib.hid hf2
 have BL2 : Hid (Blk w2 tb 46 (L1 ++ ([Value.int .i64 (r1.getD 0 0), Value.int .i64 (r1.getD 1 0), Value.bool r2, Value.int .i64 x.win, vb, Value.int .i64 x.leave, Value.int .i64 x.guard, ve] ++ L2)).toArray) := Lib.hid (by have h := hb2; simpa [I64, List.append_assoc] using h)
 have ST2 : Hid (Fr B tb w1 w2) := Lib.hid (SW1.out.trans hfr)
 have FR2 : Hid (Fr B tb w w2) := Lib.hid (FRW1.out.trans hfr)
 have GB2 : Hid (Blk w2 w.heap.size 105 #[.pointer (some ⟨F, 0, none⟩)]) := Lib.hid (hfr.2 _ _ _ HGN.out hot_pf GW1.out)
 have hfi := fine_flag _ _ _ _ hn
 have KN2 : Hid (st.kin s2) := Lib.hid (kin_trans KN1.out hfi.2)
 have RM2 : Hid (s2.room ≤ st.room + 30) := Lib.hid (by have h1 := hfi.1; have h2 := RM1.out; omega)
 clear hn hf2 hb2 hfr hfi FL1 BL1 GB1 SF1 FY1 BY1 GY1 ZY1 SW1 FW1 BW1 GW1 ZW1 FRW1 HNT HBY
 have g0 := GB2.out.cell 0
 have HS : Hid (w2.cell? ⟨w.heap.size, 0, none⟩ = some (.pointer (some ⟨F, 0, none⟩))) := Lib.hid (GB2.out.cell 0)
 (refine hK.out _ _ (fun _ => HS.out) ?_; clear hK K)
 refine till_done (by kernel_rfl) ?_ _
 clear HS
 try simp only [Exit.then]
 go_upto_region 3 with fail
 refine region_till (fun W => W.cell? ⟨w.heap.size, 0, none⟩ = some (.pointer (some ⟨F, 0, none⟩))) (fun j => !([0, 1, 2, 3, 4] : List Nat).contains j) (by kernel_rfl) ?_
 obtain ⟨y2, hy2⟩ : ∃ y2, y2 = World.drew w2 := ⟨_, rfl⟩
 rw [← hy2]
 have SF2 : Hid (Fr B tb w2 y2) := Lib.hid (by rw [hy2]; exact Fr.drew B tb w2)
 have FY2 : Hid (FlX B y2 F s2) := Lib.hid (by rw [hy2]; exact FL2.out.drew)
 have BY2 : Hid (Blk y2 tb 46 (L1 ++ ([Value.int .i64 (r1.getD 0 0), Value.int .i64 (r1.getD 1 0), Value.bool r2, Value.int .i64 x.win, vb, Value.int .i64 x.leave, Value.int .i64 x.guard, ve] ++ L2)).toArray) := Lib.hid (by rw [hy2]; exact BL2.out)
 have GY2 : Hid (Blk y2 w.heap.size 105 #[.pointer (some ⟨F, 0, none⟩)]) := Lib.hid (by rw [hy2]; exact GB2.out)
 have ZY2 : Hid (w.heap.size ≤ y2.heap.size) := Lib.hid (Nat.le_trans FR2.out.size SF2.out.size)
 clear hy2 g0
 have HS : Hid (y2.cell? ⟨w.heap.size, 0, none⟩ = some (.pointer (some ⟨F, 0, none⟩))) := Lib.hid (GY2.out.cell 0)
 refine till_take (i := 0) (v := ?_) rfl (by kernel_rfl) (by kernel_rfl) (by kernel_rfl) (by kernel_rfl) (fun _ _ _ h => h) (Or.inl ⟨by kernel_rfl, ?_⟩) HS.out ?_
 rotate_left
 ·(intro w' hSw; obtain hc0 := hSw; go_simp; try with_reducible rfl)
 refine till_take (i := 1) (v := ?_) rfl (by kernel_rfl) (by kernel_rfl) (by kernel_rfl) (by kernel_rfl) (fun _ _ _ h => h) (Or.inl ⟨by kernel_rfl, ?_⟩) HS.out ?_
 rotate_left
 ·(intro w' hSw; obtain hc0 := hSw; go_simp; try with_reducible rfl)
 refine till_take (i := 2) (v := ?_) rfl (by kernel_rfl) (by kernel_rfl) (by kernel_rfl) (by kernel_rfl) (fun _ _ _ h => h) (Or.inl ⟨by kernel_rfl, ?_⟩) HS.out ?_
 rotate_left
 ·(intro w' hSw; obtain hc0 := hSw; go_simp; try with_reducible rfl)
 refine till_take (i := 3) (v := ?_) rfl (by kernel_rfl) (by kernel_rfl) (by kernel_rfl) (by kernel_rfl) (fun _ _ _ h => h) (Or.inl ⟨by kernel_rfl, ?_⟩) HS.out ?_
 rotate_left
 ·(intro w' hSw; obtain hc0 := hSw; go_simp; try with_reducible rfl)
 refine till_ready (rs := [4]) (by kernel_rfl) (by simp) ?_
 refine TillAll.cons rfl (fun K hK => ?_) TillAll.nil
 obtain ⟨W2, hW2⟩ : ∃ W2, W2 = y2 := ⟨_, rfl⟩
 have hal : Below y2.heap.size y2 W2 := by rw [hW2]; exact Below.refl _ _
 try rw [← hW2]
 have HBY : Hid (B ≤ y2.heap.size) := Lib.hid (Nat.le_trans HBW.out ZY2.out)
 have SW2 : Hid (Fr B tb w2 W2) := Lib.hid (SF2.out.trans (Fr.below HBY.out hal))
 have FW2 : Hid (FlX B W2 F s2) := Lib.hid (FY2.out.below hal)
 have BW2 : Hid (Blk W2 tb 46 ((L1 ++ [Value.int .i64 (r1.getD 0 0), Value.int .i64 (r1.getD 1 0), Value.bool r2]) ++ ([Value.int .i64 x.win] ++ ([vb, Value.int .i64 x.leave, Value.int .i64 x.guard, ve] ++ L2))).toArray) := Lib.hid (by have h := BY2.out.below hal BY2.out.lt; simpa [List.append_assoc] using h)
 have GW2 : Hid (Blk W2 w.heap.size 105 #[.pointer (some ⟨F, 0, none⟩)]) := Lib.hid (GY2.out.below hal GY2.out.lt)
 have ZW2 : Hid (w.heap.size ≤ W2.heap.size) := Lib.hid (Nat.le_trans ZY2.out hal.size)
 have HNT : Hid (tb < y2.heap.size) := Lib.hid BY2.out.lt
 have FRW2 : Hid (Fr B tb w W2) := Lib.hid (FR2.out.trans SW2.out)
 have HS : Hid (W2.cell? ⟨w.heap.size, 0, none⟩ = some (.pointer (some ⟨F, 0, none⟩))) := Lib.hid (GW2.out.cell 0)
 clear hal hW2
 have CC2 := Lib.hid (number_step B F tb 46 (L1 ++ [Value.int .i64 (r1.getD 0 0), Value.int .i64 (r1.getD 1 0), Value.bool r2]) ([vb, Value.int .i64 x.leave, Value.int .i64 x.guard, ve] ++ L2) (off + 3) s2 x.win W2 FW2.out HT.out (by assumption) BW2.out (by rw [List.length_append, HO.out]; rfl) HB.out (Nat.le_trans HBW.out ZW2.out) (kin_up KN2.out HUP.out) (by have h1 := RM2.out; have h2 := HRM.out; omega))
 go_simp
 go_wp2_with (go_at_call 85; refine CC2.out.mono ?_; rintro e w3 (⟨s3, r3, vs, hn, rfl, hf2, hb2, rfl, hfr⟩ | ⟨hn, ec, rfl, he, hbe⟩))
 rotate_left
 ·exact ⟨rfl, .inr ⟨(by simp only [rowF, HN1.out, HN2.out, hn, Option.bind_some, Option.bind_none]), ec, rfl, kin_err KN2.out he, FRW2.out.trans hbe⟩⟩
 have HN3 := Lib.hid hn
 have FL3 := Lib.hid hf2
 have BL3 : Hid (Blk w3 tb 46 (L1 ++ ([Value.int .i64 (r1.getD 0 0), Value.int .i64 (r1.getD 1 0), Value.bool r2, Value.int .i64 r3, vb, Value.int .i64 x.leave, Value.int .i64 x.guard, ve] ++ L2)).toArray) := Lib.hid (by have h := hb2; simpa [I64, List.append_assoc] using h)
 have ST3 : Hid (Fr B tb w2 w3) := Lib.hid (SW2.out.trans hfr)
 have FR3 : Hid (Fr B tb w w3) := Lib.hid (FRW2.out.trans hfr)
 have GB3 : Hid (Blk w3 w.heap.size 105 #[.pointer (some ⟨F, 0, none⟩)]) := Lib.hid (hfr.2 _ _ _ HGN.out hot_pf GW2.out)
 have hfi := fine_num _ _ _ _ hn
 have KN3 : Hid (st.kin s3) := Lib.hid (kin_trans KN2.out hfi.2)
 have RM3 : Hid (s3.room ≤ st.room + 40) := Lib.hid (by have h1 := hfi.1; have h2 := RM2.out; omega)
 clear hn hf2 hb2 hfr hfi FL2 BL2 GB2 SF2 FY2 BY2 GY2 ZY2 SW2 FW2 BW2 GW2 ZW2 FRW2 HNT HBY
 have g0 := GB3.out.cell 0
 have HS : Hid (w3.cell? ⟨w.heap.size, 0, none⟩ = some (.pointer (some ⟨F, 0, none⟩))) := Lib.hid (GB3.out.cell 0)
 (refine hK.out _ _ (fun _ => HS.out) ?_; clear hK K)
 refine till_done (by kernel_rfl) ?_ _
 clear HS
 try simp only [Exit.then]
 go_upto_region 4 with fail
 refine region_till (fun W => W.cell? ⟨w.heap.size, 0, none⟩ = some (.pointer (some ⟨F, 0, none⟩))) (fun j => !([0, 1, 2, 3, 4] : List Nat).contains j) (by kernel_rfl) ?_
 obtain ⟨y3, hy3⟩ : ∃ y3, y3 = World.drew w3 := ⟨_, rfl⟩
 rw [← hy3]
 have SF3 : Hid (Fr B tb w3 y3) := Lib.hid (by rw [hy3]; exact Fr.drew B tb w3)
 have FY3 : Hid (FlX B y3 F s3) := Lib.hid (by rw [hy3]; exact FL3.out.drew)
 have BY3 : Hid (Blk y3 tb 46 (L1 ++ ([Value.int .i64 (r1.getD 0 0), Value.int .i64 (r1.getD 1 0), Value.bool r2, Value.int .i64 r3, vb, Value.int .i64 x.leave, Value.int .i64 x.guard, ve] ++ L2)).toArray) := Lib.hid (by rw [hy3]; exact BL3.out)
 have GY3 : Hid (Blk y3 w.heap.size 105 #[.pointer (some ⟨F, 0, none⟩)]) := Lib.hid (by rw [hy3]; exact GB3.out)
 have ZY3 : Hid (w.heap.size ≤ y3.heap.size) := Lib.hid (Nat.le_trans FR3.out.size SF3.out.size)
 clear hy3 g0
 have HS : Hid (y3.cell? ⟨w.heap.size, 0, none⟩ = some (.pointer (some ⟨F, 0, none⟩))) := Lib.hid (GY3.out.cell 0)
 refine till_take (i := 0) (v := ?_) rfl (by kernel_rfl) (by kernel_rfl) (by kernel_rfl) (by kernel_rfl) (fun _ _ _ h => h) (Or.inl ⟨by kernel_rfl, ?_⟩) HS.out ?_
 rotate_left
 ·(intro w' hSw; obtain hc0 := hSw; go_simp; try with_reducible rfl)
 refine till_take (i := 1) (v := ?_) rfl (by kernel_rfl) (by kernel_rfl) (by kernel_rfl) (by kernel_rfl) (fun _ _ _ h => h) (Or.inl ⟨by kernel_rfl, ?_⟩) HS.out ?_
 rotate_left
 ·(intro w' hSw; obtain hc0 := hSw; go_simp; try with_reducible rfl)
 refine till_take (i := 2) (v := ?_) rfl (by kernel_rfl) (by kernel_rfl) (by kernel_rfl) (by kernel_rfl) (fun _ _ _ h => h) (Or.inl ⟨by kernel_rfl, ?_⟩) HS.out ?_
 rotate_left
 ·(intro w' hSw; obtain hc0 := hSw; go_simp; try with_reducible rfl)
 refine till_take (i := 3) (v := ?_) rfl (by kernel_rfl) (by kernel_rfl) (by kernel_rfl) (by kernel_rfl) (fun _ _ _ h => h) (Or.inl ⟨by kernel_rfl, ?_⟩) HS.out ?_
 rotate_left
 ·(intro w' hSw; obtain hc0 := hSw; go_simp; try with_reducible rfl)
 refine till_ready (rs := [4]) (by kernel_rfl) (by simp) ?_
 refine TillAll.cons rfl (fun K hK => ?_) TillAll.nil
 obtain ⟨W3, hW3⟩ : ∃ W3, W3 = y3 := ⟨_, rfl⟩
 have hal : Below y3.heap.size y3 W3 := by rw [hW3]; exact Below.refl _ _
 try rw [← hW3]
 have HBY : Hid (B ≤ y3.heap.size) := Lib.hid (Nat.le_trans HBW.out ZY3.out)
 have SW3 : Hid (Fr B tb w3 W3) := Lib.hid (SF3.out.trans (Fr.below HBY.out hal))
 have FW3 : Hid (FlX B W3 F s3) := Lib.hid (FY3.out.below hal)
 have BW3 : Hid (Blk W3 tb 46 ((L1 ++ [Value.int .i64 (r1.getD 0 0), Value.int .i64 (r1.getD 1 0), Value.bool r2, Value.int .i64 r3]) ++ ([vb] ++ ([Value.int .i64 x.leave, Value.int .i64 x.guard, ve] ++ L2))).toArray) := Lib.hid (by have h := BY3.out.below hal BY3.out.lt; simpa [List.append_assoc] using h)
 have GW3 : Hid (Blk W3 w.heap.size 105 #[.pointer (some ⟨F, 0, none⟩)]) := Lib.hid (GY3.out.below hal GY3.out.lt)
 have ZW3 : Hid (w.heap.size ≤ W3.heap.size) := Lib.hid (Nat.le_trans ZY3.out hal.size)
 have HNT : Hid (tb < y3.heap.size) := Lib.hid BY3.out.lt
 have FRW3 : Hid (Fr B tb w W3) := Lib.hid (FR3.out.trans SW3.out)
 have HS : Hid (W3.cell? ⟨w.heap.size, 0, none⟩ = some (.pointer (some ⟨F, 0, none⟩))) := Lib.hid (GW3.out.cell 0)
 clear hal hW3
 have CC3 := Lib.hid (stops_step B F tb 46 (L1 ++ [Value.int .i64 (r1.getD 0 0), Value.int .i64 (r1.getD 1 0), Value.bool r2, Value.int .i64 r3]) ([Value.int .i64 x.leave, Value.int .i64 x.guard, ve] ++ L2) (off + 4) s3 x.bars vb W3 FW3.out HT.out (slq_old HSB.out keeps_stop FRW3.out) BW3.out (by rw [List.length_append, HO.out]; rfl) HB.out (Nat.le_trans HBW.out ZW3.out) (kin_up KN3.out HUP.out) (by have h1 := RM3.out; have h2 := HRM.out; omega))
 go_simp
 go_wp2_with (go_at_call 87; refine CC3.out.mono ?_; rintro e w4 (⟨s4, r4, vs, hn, rfl, hf2, hb2, ⟨v3, rfl, hsl⟩, hfr⟩ | ⟨hn, ec, rfl, he, hbe⟩))
 rotate_left
 ·exact ⟨rfl, .inr ⟨(by simp only [rowF, HN1.out, HN2.out, HN3.out, hn, Option.bind_some, Option.bind_none]), ec, rfl, kin_err KN3.out he, FRW3.out.trans hbe⟩⟩
 have HN4 := Lib.hid hn
 have FL4 := Lib.hid hf2
 have BL4 : Hid (Blk w4 tb 46 (L1 ++ ([Value.int .i64 (r1.getD 0 0), Value.int .i64 (r1.getD 1 0), Value.bool r2, Value.int .i64 r3, v3, Value.int .i64 x.leave, Value.int .i64 x.guard, ve] ++ L2)).toArray) := Lib.hid (by have h := hb2; simpa [I64, List.append_assoc] using h)
 have ST4 : Hid (Fr B tb w3 w4) := Lib.hid (SW3.out.trans hfr)
 have FR4 : Hid (Fr B tb w w4) := Lib.hid (FRW3.out.trans hfr)
 have GB4 : Hid (Blk w4 w.heap.size 105 #[.pointer (some ⟨F, 0, none⟩)]) := Lib.hid (hfr.2 _ _ _ HGN.out hot_pf GW3.out)
 have hfi := fine_list (zero := zStop) fine_stop _ _ _ _ hn
 have KN4 : Hid (st.kin s4) := Lib.hid (kin_trans KN3.out hfi.2)
 have RM4 : Hid (s4.room ≤ st.room + 20530) := Lib.hid (by have h1 := hfi.1; have h2 := RM3.out; omega)
 have NW3 := Lib.hid hsl
 have NF3_4 : Hid (Fr B tb w4 w4) := Lib.hid (Fr.refl _ _ _)
 have NZ3 : Hid (tb < W3.heap.size ∧ w.heap.size ≤ W3.heap.size) := Lib.hid ⟨BW3.out.lt, ZW3.out⟩
 clear hn hf2 hb2 hfr hfi hsl FL3 BL3 GB3 SF3 FY3 BY3 GY3 ZY3 SW3 FW3 BW3 GW3 ZW3 FRW3 HNT HBY
 have g0 := GB4.out.cell 0
 have HS : Hid (w4.cell? ⟨w.heap.size, 0, none⟩ = some (.pointer (some ⟨F, 0, none⟩))) := Lib.hid (GB4.out.cell 0)
 (refine hK.out _ _ (fun _ => HS.out) ?_; clear hK K)
 refine till_done (by kernel_rfl) ?_ _
 clear HS
 try simp only [Exit.then]
 go_upto_region 5 with fail
 refine region_till (fun W => W.cell? ⟨w.heap.size, 0, none⟩ = some (.pointer (some ⟨F, 0, none⟩))) (fun j => !([0, 1, 2, 3, 4, 5, 6, 7, 8] : List Nat).contains j) (by kernel_rfl) ?_
 obtain ⟨y4, hy4⟩ : ∃ y4, y4 = World.drew w4 := ⟨_, rfl⟩
 rw [← hy4]
 have SF4 : Hid (Fr B tb w4 y4) := Lib.hid (by rw [hy4]; exact Fr.drew B tb w4)
 have FY4 : Hid (FlX B y4 F s4) := Lib.hid (by rw [hy4]; exact FL4.out.drew)
 have BY4 : Hid (Blk y4 tb 46 (L1 ++ ([Value.int .i64 (r1.getD 0 0), Value.int .i64 (r1.getD 1 0), Value.bool r2, Value.int .i64 r3, v3, Value.int .i64 x.leave, Value.int .i64 x.guard, ve] ++ L2)).toArray) := Lib.hid (by rw [hy4]; exact BL4.out)
 have GY4 : Hid (Blk y4 w.heap.size 105 #[.pointer (some ⟨F, 0, none⟩)]) := Lib.hid (by rw [hy4]; exact GB4.out)
 have ZY4 : Hid (w.heap.size ≤ y4.heap.size) := Lib.hid (Nat.le_trans FR4.out.size SF4.out.size)
 clear hy4 g0
 have HS : Hid (y4.cell? ⟨w.heap.size, 0, none⟩ = some (.pointer (some ⟨F, 0, none⟩))) := Lib.hid (GY4.out.cell 0)
 refine till_take (i := 0) (v := ?_) rfl (by kernel_rfl) (by kernel_rfl) (by kernel_rfl) (by kernel_rfl) (fun _ _ _ h => h) (Or.inl ⟨by kernel_rfl, ?_⟩) HS.out ?_
 rotate_left
 ·(intro w' hSw; obtain hc0 := hSw; go_simp; try with_reducible rfl)
 refine till_take (i := 1) (v := ?_) rfl (by kernel_rfl) (by kernel_rfl) (by kernel_rfl) (by kernel_rfl) (fun _ _ _ h => h) (Or.inl ⟨by kernel_rfl, ?_⟩) HS.out ?_
 rotate_left
 ·(intro w' hSw; obtain hc0 := hSw; go_simp; try with_reducible rfl)
 refine till_take (i := 2) (v := ?_) rfl (by kernel_rfl) (by kernel_rfl) (by kernel_rfl) (by kernel_rfl) (fun _ _ _ h => h) (Or.inl ⟨by kernel_rfl, ?_⟩) HS.out ?_
 rotate_left
 ·(intro w' hSw; obtain hc0 := hSw; go_simp; try with_reducible rfl)
 refine till_take (i := 3) (v := ?_) rfl (by kernel_rfl) (by kernel_rfl) (by kernel_rfl) (by kernel_rfl) (fun _ _ _ h => h) (Or.inl ⟨by kernel_rfl, ?_⟩) HS.out ?_
 rotate_left
 ·(intro w' hSw; obtain hc0 := hSw; go_simp; try with_reducible rfl)
 refine till_take (i := 4) (v := ?_) rfl (by kernel_rfl) (by kernel_rfl) (by kernel_rfl) (by kernel_rfl) (fun _ _ _ h => h) (Or.inl ⟨by kernel_rfl, ?_⟩) HS.out ?_
 rotate_left
 ·(intro w' hSw; obtain hc0 := hSw; go_simp; try with_reducible rfl)
 refine till_take (i := 5) (v := ?_) rfl (by kernel_rfl) (by kernel_rfl) (by kernel_rfl) (by kernel_rfl) (fun _ _ _ h => h) (Or.inl ⟨by kernel_rfl, ?_⟩) HS.out ?_
 rotate_left
 ·(intro w' hSw; obtain hc0 := hSw; go_simp; try with_reducible rfl)
 refine till_take (i := 6) (v := ?_) rfl (by kernel_rfl) (by kernel_rfl) (by kernel_rfl) (by kernel_rfl) (fun _ _ _ h => h) (Or.inl ⟨by kernel_rfl, ?_⟩) HS.out ?_
 rotate_left
 ·(intro w' hSw; obtain hc0 := hSw; go_simp; try with_reducible rfl)
 refine till_ready (rs := [7]) (by kernel_rfl) (by simp) ?_
 refine TillAll.cons rfl (fun K hK => ?_) TillAll.nil
 go_simp
 obtain ⟨W4, hW4⟩ : ∃ W4, W4 = y4.alloc (.cells #[.pointer (some ⟨tb, off + 5, none⟩), .pointer (some ⟨tb, off + 6, none⟩)] 139) := ⟨_, rfl⟩
 rw [← hW4]
 have hal : Below y4.heap.size y4 W4 := by rw [hW4]; exact (Below.refl _ _).alloc (Nat.le_refl _) _
 have GP4 : Hid (Blk W4 y4.heap.size 139 (ptrs tb (off + 5) 2).toArray) := Lib.hid (by rw [hW4]; exact Blk.new _ _ _)
 have HBY : Hid (B ≤ y4.heap.size) := Lib.hid (Nat.le_trans HBW.out ZY4.out)
 have SW4 : Hid (Fr B tb w4 W4) := Lib.hid (SF4.out.trans (Fr.below HBY.out hal))
 have FW4 : Hid (FlX B W4 F s4) := Lib.hid (FY4.out.below hal)
 have BW4 : Hid (Blk W4 tb 46 ((L1 ++ [Value.int .i64 (r1.getD 0 0), Value.int .i64 (r1.getD 1 0), Value.bool r2, Value.int .i64 r3, v3]) ++ ([Value.int .i64 x.leave, Value.int .i64 x.guard] ++ ([ve] ++ L2))).toArray) := Lib.hid (by have h := BY4.out.below hal BY4.out.lt; simpa [List.append_assoc] using h)
 have GW4 : Hid (Blk W4 w.heap.size 105 #[.pointer (some ⟨F, 0, none⟩)]) := Lib.hid (GY4.out.below hal GY4.out.lt)
 have ZW4 : Hid (w.heap.size ≤ W4.heap.size) := Lib.hid (Nat.le_trans ZY4.out hal.size)
 have HNT : Hid (tb < y4.heap.size) := Lib.hid BY4.out.lt
 have FRW4 : Hid (Fr B tb w W4) := Lib.hid (FR4.out.trans SW4.out)
 have HS : Hid (W4.cell? ⟨w.heap.size, 0, none⟩ = some (.pointer (some ⟨F, 0, none⟩))) := Lib.hid (GW4.out.cell 0)
 clear hal hW4
 (refine hK.out _ _ (fun _ => HS.out) ?_; clear hK K)
 refine till_ready (rs := [8]) (by kernel_rfl) (by simp) ?_
 refine TillAll.cons rfl (fun K hK => ?_) TillAll.nil
 have CC4 := Lib.hid (ints_step B F tb 46 (L1 ++ [Value.int .i64 (r1.getD 0 0), Value.int .i64 (r1.getD 1 0), Value.bool r2, Value.int .i64 r3, v3]) ([ve] ++ L2) (off + 5) s4 [x.leave, x.guard] W4 y4.heap.size 2 FW4.out HT.out (by intro a ha; simp at ha; rcases ha with rfl | rfl <;> assumption) BW4.out (by rw [List.length_append, HO.out]; rfl) HB.out (Nat.le_trans HBW.out ZW4.out) (kin_up KN4.out HUP.out) (by have h1 := RM4.out; have h2 := HRM.out; simp only [List.length_cons, List.length_nil]; omega) GP4.out (by have := HNT.out; omega) (by simp))
 go_simp
 go_wp2_with (go_at_call 74; refine CC4.out.mono ?_; rintro e w5 (⟨s5, r5, vs, hn, rfl, hf2, hb2, rfl, hfr⟩ | ⟨hn, ec, rfl, he, hbe⟩))
 rotate_left
 ·exact ⟨rfl, .inr ⟨(by simp only [rowF, HN1.out, HN2.out, HN3.out, HN4.out, hn, Option.bind_some, Option.bind_none]), ec, rfl, kin_err KN4.out he, FRW4.out.trans hbe⟩⟩
 have hlen := len2 (fine_run fine_num _ _ _ _ hn).2.2
 rw [hlen] at hb2
 clear hlen
 have HN5 := Lib.hid hn
 have FL5 := Lib.hid hf2
 have BL5 : Hid (Blk w5 tb 46 (L1 ++ ([Value.int .i64 (r1.getD 0 0), Value.int .i64 (r1.getD 1 0), Value.bool r2, Value.int .i64 r3, v3, Value.int .i64 (r5.getD 0 0), Value.int .i64 (r5.getD 1 0), ve] ++ L2)).toArray) := Lib.hid (by have h := hb2; simpa [I64, List.append_assoc] using h)
 have ST5 : Hid (Fr B tb w4 w5) := Lib.hid (SW4.out.trans hfr)
 have FR5 : Hid (Fr B tb w w5) := Lib.hid (FRW4.out.trans hfr)
 have GB5 : Hid (Blk w5 w.heap.size 105 #[.pointer (some ⟨F, 0, none⟩)]) := Lib.hid (hfr.2 _ _ _ HGN.out hot_pf GW4.out)
 have hfi := fine_runs (k := 2) rfl hn
 have KN5 : Hid (st.kin s5) := Lib.hid (kin_trans KN4.out hfi.2)
 have RM5 : Hid (s5.room ≤ st.room + 20550) := Lib.hid (by have h1 := hfi.1; have h2 := RM4.out; omega)
 have NF3_5 : Hid (Fr B tb w4 w5) := Lib.hid (NF3_4.out.trans ST5.out)
 clear hn hf2 hb2 hfr hfi FL4 BL4 GB4 SF4 FY4 BY4 GY4 ZY4 SW4 FW4 BW4 GW4 ZW4 FRW4 HNT HBY GP4
 have g0 := GB5.out.cell 0
 have HS : Hid (w5.cell? ⟨w.heap.size, 0, none⟩ = some (.pointer (some ⟨F, 0, none⟩))) := Lib.hid (GB5.out.cell 0)
 (refine hK.out _ _ (fun _ => HS.out) ?_; clear hK K)
 refine till_done (by kernel_rfl) ?_ _
 clear HS
 try simp only [Exit.then]
 go_upto_region 6 with fail
 refine region_till (fun W => W.cell? ⟨w.heap.size, 0, none⟩ = some (.pointer (some ⟨F, 0, none⟩))) (fun j => !([0, 1, 2, 3, 4, 5] : List Nat).contains j) (by kernel_rfl) ?_
 obtain ⟨y5, hy5⟩ : ∃ y5, y5 = World.drew w5 := ⟨_, rfl⟩
 rw [← hy5]
 have SF5 : Hid (Fr B tb w5 y5) := Lib.hid (by rw [hy5]; exact Fr.drew B tb w5)
 have FY5 : Hid (FlX B y5 F s5) := Lib.hid (by rw [hy5]; exact FL5.out.drew)
 have BY5 : Hid (Blk y5 tb 46 (L1 ++ ([Value.int .i64 (r1.getD 0 0), Value.int .i64 (r1.getD 1 0), Value.bool r2, Value.int .i64 r3, v3, Value.int .i64 (r5.getD 0 0), Value.int .i64 (r5.getD 1 0), ve] ++ L2)).toArray) := Lib.hid (by rw [hy5]; exact BL5.out)
 have GY5 : Hid (Blk y5 w.heap.size 105 #[.pointer (some ⟨F, 0, none⟩)]) := Lib.hid (by rw [hy5]; exact GB5.out)
 have ZY5 : Hid (w.heap.size ≤ y5.heap.size) := Lib.hid (Nat.le_trans FR5.out.size SF5.out.size)
 clear hy5 g0
 have HS : Hid (y5.cell? ⟨w.heap.size, 0, none⟩ = some (.pointer (some ⟨F, 0, none⟩))) := Lib.hid (GY5.out.cell 0)
 refine till_take (i := 0) (v := ?_) rfl (by kernel_rfl) (by kernel_rfl) (by kernel_rfl) (by kernel_rfl) (fun _ _ _ h => h) (Or.inl ⟨by kernel_rfl, ?_⟩) HS.out ?_
 rotate_left
 ·(intro w' hSw; obtain hc0 := hSw; go_simp; try with_reducible rfl)
 refine till_take (i := 1) (v := ?_) rfl (by kernel_rfl) (by kernel_rfl) (by kernel_rfl) (by kernel_rfl) (fun _ _ _ h => h) (Or.inl ⟨by kernel_rfl, ?_⟩) HS.out ?_
 rotate_left
 ·(intro w' hSw; obtain hc0 := hSw; go_simp; try with_reducible rfl)
 refine till_take (i := 2) (v := ?_) rfl (by kernel_rfl) (by kernel_rfl) (by kernel_rfl) (by kernel_rfl) (fun _ _ _ h => h) (Or.inl ⟨by kernel_rfl, ?_⟩) HS.out ?_
 rotate_left
 ·(intro w' hSw; obtain hc0 := hSw; go_simp; try with_reducible rfl)
 refine till_take (i := 3) (v := ?_) rfl (by kernel_rfl) (by kernel_rfl) (by kernel_rfl) (by kernel_rfl) (fun _ _ _ h => h) (Or.inl ⟨by kernel_rfl, ?_⟩) HS.out ?_
 rotate_left
 ·(intro w' hSw; obtain hc0 := hSw; go_simp; try with_reducible rfl)
 refine till_take (i := 4) (v := ?_) rfl (by kernel_rfl) (by kernel_rfl) (by kernel_rfl) (by kernel_rfl) (fun _ _ _ h => h) (Or.inl ⟨by kernel_rfl, ?_⟩) HS.out ?_
 rotate_left
 ·(intro w' hSw; obtain hc0 := hSw; go_simp; try with_reducible rfl)
 refine till_ready (rs := [5]) (by kernel_rfl) (by simp) ?_
 refine TillAll.cons rfl (fun K hK => ?_) TillAll.nil
 obtain ⟨W5, hW5⟩ : ∃ W5, W5 = y5 := ⟨_, rfl⟩
 have hal : Below y5.heap.size y5 W5 := by rw [hW5]; exact Below.refl _ _
 try rw [← hW5]
 have HBY : Hid (B ≤ y5.heap.size) := Lib.hid (Nat.le_trans HBW.out ZY5.out)
 have SW5 : Hid (Fr B tb w5 W5) := Lib.hid (SF5.out.trans (Fr.below HBY.out hal))
 have FW5 : Hid (FlX B W5 F s5) := Lib.hid (FY5.out.below hal)
 have BW5 : Hid (Blk W5 tb 46 ((L1 ++ [Value.int .i64 (r1.getD 0 0), Value.int .i64 (r1.getD 1 0), Value.bool r2, Value.int .i64 r3, v3, Value.int .i64 (r5.getD 0 0), Value.int .i64 (r5.getD 1 0)]) ++ ([ve] ++ L2)).toArray) := Lib.hid (by have h := BY5.out.below hal BY5.out.lt; simpa [List.append_assoc] using h)
 have GW5 : Hid (Blk W5 w.heap.size 105 #[.pointer (some ⟨F, 0, none⟩)]) := Lib.hid (GY5.out.below hal GY5.out.lt)
 have ZW5 : Hid (w.heap.size ≤ W5.heap.size) := Lib.hid (Nat.le_trans ZY5.out hal.size)
 have HNT : Hid (tb < y5.heap.size) := Lib.hid BY5.out.lt
 have FRW5 : Hid (Fr B tb w W5) := Lib.hid (FR5.out.trans SW5.out)
 have HS : Hid (W5.cell? ⟨w.heap.size, 0, none⟩ = some (.pointer (some ⟨F, 0, none⟩))) := Lib.hid (GW5.out.cell 0)
 clear hal hW5
 have CC5 := Lib.hid (list_E B F tb 46 (L1 ++ [Value.int .i64 (r1.getD 0 0), Value.int .i64 (r1.getD 1 0), Value.bool r2, Value.int .i64 r3, v3, Value.int .i64 (r5.getD 0 0), Value.int .i64 (r5.getD 1 0)]) L2 (off + 7) s5 x.ends ve W5 (w.heap.size) TailQ (CapC w.heap.size F) tailF zTail (20 + (10 + 20 * 1024)) keeps_tail onec_E zero_E (one_E B F w.heap.size) fine_tail (capC_list HGN.out (Nat.lt_of_lt_of_le GW5.out.lt (Nat.le_refl _))) (capC_new GW5.out) FW5.out HT.out (slq_old HTE.out keeps_tail FRW5.out) BW5.out (by rw [List.length_append, HO.out]; rfl) HB.out (Nat.le_trans HBW.out ZW5.out) (kin_up KN5.out HUP.out) (by have h1 := RM5.out; have h2 := HRM.out; omega))
 go_simp
 go_wp2_with (go_at_call 88; refine CC5.out.mono ?_; rintro e w6 (⟨s6, r6, vs, hn, rfl, hf2, hb2, ⟨v5, rfl, hsl⟩, hfr⟩ | ⟨hn, ec, rfl, he, hbe⟩))
 rotate_left
 ·exact ⟨rfl, .inr ⟨(by simp only [rowF, HN1.out, HN2.out, HN3.out, HN4.out, HN5.out, hn, Option.bind_some, Option.bind_none]), ec, rfl, kin_err KN5.out he, FRW5.out.trans hbe⟩⟩
 have HN6 := Lib.hid hn
 have FL6 := Lib.hid hf2
 have BL6 : Hid (Blk w6 tb 46 (L1 ++ ([Value.int .i64 (r1.getD 0 0), Value.int .i64 (r1.getD 1 0), Value.bool r2, Value.int .i64 r3, v3, Value.int .i64 (r5.getD 0 0), Value.int .i64 (r5.getD 1 0), v5] ++ L2)).toArray) := Lib.hid (by have h := hb2; simpa [I64, List.append_assoc] using h)
 have ST6 : Hid (Fr B tb w5 w6) := Lib.hid (SW5.out.trans hfr)
 have FR6 : Hid (Fr B tb w w6) := Lib.hid (FRW5.out.trans hfr)
 have GB6 : Hid (Blk w6 w.heap.size 105 #[.pointer (some ⟨F, 0, none⟩)]) := Lib.hid (hfr.2 _ _ _ HGN.out hot_pf GW5.out)
 have hfi := fine_list (zero := zTail) fine_tail _ _ _ _ hn
 have KN6 : Hid (st.kin s6) := Lib.hid (kin_trans KN5.out hfi.2)
 have RM6 : Hid (s6.room ≤ st.room + 21022800) := Lib.hid (by have h1 := hfi.1; have h2 := RM5.out; omega)
 have NW5 := Lib.hid hsl
 have NF5_6 : Hid (Fr B tb w6 w6) := Lib.hid (Fr.refl _ _ _)
 have NZ5 : Hid (tb < W5.heap.size ∧ w.heap.size ≤ W5.heap.size) := Lib.hid ⟨BW5.out.lt, ZW5.out⟩
 have NF3_6 : Hid (Fr B tb w4 w6) := Lib.hid (NF3_5.out.trans ST6.out)
 clear hn hf2 hb2 hfr hfi hsl FL5 BL5 GB5 SF5 FY5 BY5 GY5 ZY5 SW5 FW5 BW5 GW5 ZW5 FRW5 HNT HBY
 have g0 := GB6.out.cell 0
 have HS : Hid (w6.cell? ⟨w.heap.size, 0, none⟩ = some (.pointer (some ⟨F, 0, none⟩))) := Lib.hid (GB6.out.cell 0)
 (refine hK.out _ _ (fun _ => HS.out) ?_; clear hK K)
 refine till_done (by kernel_rfl) ?_ _
 clear HS
 try simp only [Exit.then]
 go_wp2_with fail
 go_end0
 exact .inl ⟨s6, ⟨r1.getD 0 0, r1.getD 1 0, r2, r3, r4, r5.getD 0 0, r5.getD 1 0, r6⟩, [Value.int .i64 (r1.getD 0 0), Value.int .i64 (r1.getD 1 0), Value.bool r2, Value.int .i64 r3, v3, Value.int .i64 (r5.getD 0 0), Value.int .i64 (r5.getD 1 0), v5], (by simp only [rowF, HN1.out, HN2.out, HN3.out, HN4.out, HN5.out, HN6.out, Option.bind_some]), rfl, FL6.out, BL6.out, ⟨rfl, _, _, rfl, (slq_next NW3.out keeps_stop NF3_6.out NZ3.out.1 NZ3.out.2), (slq_next NW5.out keeps_tail NF5_6.out NZ5.out.1 NZ5.out.2), runs_wf HN1.out 0, runs_wf HN1.out 1, numOk_wf (num_ok HN3.out), runs_wf HN5.out 0, runs_wf HN5.out 1⟩, FR6.out⟩
end Go.Proofs.Ytioocaicmiggoaa
namespace Go.Proofs.Ytioocaicmiggoaa
set_option linter.unusedVariables false
set_option linter.unusedSimpArgs false
open Go.RowKit Go.Deep
set_option maxRecDepth 100000 in
set_option maxHeartbeats 8000000 in
theorem one_C (B F : Nat) : OneC B F 40 5 CodeQ noCap codeF (200000) (fun p w Q => Calls Try.prog 83 #[.pointer (some ⟨F, 0, none⟩), p] w Q) := by
 intro tb L1 L2 vs off st x w hf hb ho hl hB hBw hup hroom hR hcap
 obtain ⟨vi, vc, vl, rfl, hsi, hsc, hsl, wx0, wx1⟩ := hR
 have HSI := Lib.hid hsi
 have HSC := Lib.hid hsc
 have HSL := Lib.hid hsl
 clear hsl
 have ht : ¬ hot 40 := by unfold hot; decide
 have HT := Lib.hid ht
 have HO := Lib.hid ho
 have HB := Lib.hid hB
 have HBW := Lib.hid hBw
 have HUP := Lib.hid hup
 have HRM := Lib.hid hroom
 have HFW := Lib.hid hf
 obtain ⟨w0, hw0⟩ : ∃ w0, w0 = w.alloc (.cells #[.pointer (some ⟨F, 0, none⟩)] 105) := ⟨_, rfl⟩
 have ha0 : Below w.heap.size w w0 := by rw [hw0]; exact (Below.refl _ _).alloc (Nat.le_refl _) _
 have GB0 : Hid (Blk w0 w.heap.size 105 #[.pointer (some ⟨F, 0, none⟩)]) := Lib.hid (by rw [hw0]; exact Blk.new _ _ _)
 have FL0 := Lib.hid (hf.below ha0)
 have BL0 := Lib.hid (hb.below ha0 hb.lt)
 have FR0 : Hid (Fr B tb w w0) := Lib.hid (Fr.below hBw ha0)
 have HGN : Hid (w.heap.size ≠ tb) := Lib.hid (by have := hb.lt; omega)
 have g0 := GB0.out.cell 0
 clear ht ho hB hBw hup hroom hf hb ha0
 go_enter Try.func83, Try.ntmps83
 go_upto_region 1 with fail
 rw [← hw0]
 clear hw0
 have KN0 : Hid (st.kin st) := Lib.hid (kin_refl st)
 have RM0 : Hid (st.room ≤ st.room + 0) := Lib.hid (Nat.le_refl _)
 go_upto_region 1 with fail
 refine region_till (fun W => W.cell? ⟨w.heap.size, 0, none⟩ = some (.pointer (some ⟨F, 0, none⟩))) (fun j => !([0, 1, 2, 3, 4, 5, 6, 7, 8] : List Nat).contains j) (by kernel_rfl) ?_
 obtain ⟨y0, hy0⟩ : ∃ y0, y0 = World.drew w0 := ⟨_, rfl⟩
 rw [← hy0]
 have SF0 : Hid (Fr B tb w0 y0) := Lib.hid (by rw [hy0]; exact Fr.drew B tb w0)
 have FY0 : Hid (FlX B y0 F st) := Lib.hid (by rw [hy0]; exact FL0.out.drew)
 have BY0 : Hid (Blk y0 tb 40 (L1 ++ ([Value.int .i64 x.regs, Value.int .i64 x.slots, vi, vc, vl] ++ L2)).toArray) := Lib.hid (by rw [hy0]; exact BL0.out)
 have GY0 : Hid (Blk y0 w.heap.size 105 #[.pointer (some ⟨F, 0, none⟩)]) := Lib.hid (by rw [hy0]; exact GB0.out)
 have ZY0 : Hid (w.heap.size ≤ y0.heap.size) := Lib.hid (Nat.le_trans FR0.out.size SF0.out.size)
 clear hy0 g0
 have HS : Hid (y0.cell? ⟨w.heap.size, 0, none⟩ = some (.pointer (some ⟨F, 0, none⟩))) := Lib.hid (GY0.out.cell 0)
 refine till_take (i := 0) (v := ?_) rfl (by kernel_rfl) (by kernel_rfl) (by kernel_rfl) (by kernel_rfl) (fun _ _ _ h => h) (Or.inl ⟨by kernel_rfl, ?_⟩) HS.out ?_
 rotate_left
 ·(intro w' hSw; obtain hc0 := hSw; go_simp; try with_reducible rfl)
 refine till_take (i := 1) (v := ?_) rfl (by kernel_rfl) (by kernel_rfl) (by kernel_rfl) (by kernel_rfl) (fun _ _ _ h => h) (Or.inl ⟨by kernel_rfl, ?_⟩) HS.out ?_
 rotate_left
 ·(intro w' hSw; obtain hc0 := hSw; go_simp; try with_reducible rfl)
 refine till_take (i := 2) (v := ?_) rfl (by kernel_rfl) (by kernel_rfl) (by kernel_rfl) (by kernel_rfl) (fun _ _ _ h => h) (Or.inl ⟨by kernel_rfl, ?_⟩) HS.out ?_
 rotate_left
 ·(intro w' hSw; obtain hc0 := hSw; go_simp; try with_reducible rfl)
 refine till_take (i := 3) (v := ?_) rfl (by kernel_rfl) (by kernel_rfl) (by kernel_rfl) (by kernel_rfl) (fun _ _ _ h => h) (Or.inl ⟨by kernel_rfl, ?_⟩) HS.out ?_
 rotate_left
 ·(intro w' hSw; obtain hc0 := hSw; go_simp; try with_reducible rfl)
 refine till_take (i := 4) (v := ?_) rfl (by kernel_rfl) (by kernel_rfl) (by kernel_rfl) (by kernel_rfl) (fun _ _ _ h => h) (Or.inl ⟨by kernel_rfl, ?_⟩) HS.out ?_
 rotate_left
 ·(intro w' hSw; obtain hc0 := hSw; go_simp; try with_reducible rfl)
 refine till_take (i := 5) (v := ?_) rfl (by kernel_rfl) (by kernel_rfl) (by kernel_rfl) (by kernel_rfl) (fun _ _ _ h => h) (Or.inl ⟨by kernel_rfl, ?_⟩) HS.out ?_
 rotate_left
 ·(intro w' hSw; obtain hc0 := hSw; go_simp; try with_reducible rfl)
 refine till_take (i := 6) (v := ?_) rfl (by kernel_rfl) (by kernel_rfl) (by kernel_rfl) (by kernel_rfl) (fun _ _ _ h => h) (Or.inl ⟨by kernel_rfl, ?_⟩) HS.out ?_
 rotate_left
 ·(intro w' hSw; obtain hc0 := hSw; go_simp; try with_reducible rfl)
 refine till_ready (rs := [7]) (by kernel_rfl) (by simp) ?_
 refine TillAll.cons rfl (fun K hK => ?_) TillAll.nil
 go_simp
 obtain ⟨W0, hW0⟩ : ∃ W0, W0 = y0.alloc (.cells #[.pointer (some ⟨tb, off, none⟩), .pointer (some ⟨tb, off + 1, none⟩)] 139) := ⟨_, rfl⟩
 rw [← hW0]
 have hal : Below y0.heap.size y0 W0 := by rw [hW0]; exact (Below.refl _ _).alloc (Nat.le_refl _) _
 have GP0 : Hid (Blk W0 y0.heap.size 139 (ptrs tb (off) 2).toArray) := Lib.hid (by rw [hW0]; exact Blk.new _ _ _)
 have HBY : Hid (B ≤ y0.heap.size) := Lib.hid (Nat.le_trans HBW.out ZY0.out)
 have SW0 : Hid (Fr B tb w0 W0) := Lib.hid (SF0.out.trans (Fr.below HBY.out hal))
 have FW0 : Hid (FlX B W0 F st) := Lib.hid (FY0.out.below hal)
 have BW0 : Hid (Blk W0 tb 40 (L1 ++ ([Value.int .i64 x.regs, Value.int .i64 x.slots] ++ ([vi, vc, vl] ++ L2))).toArray) := Lib.hid (by have h := BY0.out.below hal BY0.out.lt; simpa [List.append_assoc] using h)
 have GW0 : Hid (Blk W0 w.heap.size 105 #[.pointer (some ⟨F, 0, none⟩)]) := Lib.hid (GY0.out.below hal GY0.out.lt)
 have ZW0 : Hid (w.heap.size ≤ W0.heap.size) := Lib.hid (Nat.le_trans ZY0.out hal.size)
 have HNT : Hid (tb < y0.heap.size) := Lib.hid BY0.out.lt
 have FRW0 : Hid (Fr B tb w W0) := Lib.hid (FR0.out.trans SW0.out)
 have HS : Hid (W0.cell? ⟨w.heap.size, 0, none⟩ = some (.pointer (some ⟨F, 0, none⟩))) := Lib.hid (GW0.out.cell 0)
 clear hal hW0
 (refine hK.out _ _ (fun _ => HS.out) ?_; clear hK K)
 refine till_ready (rs := [8]) (by kernel_rfl) (by simp) ?_
 refine TillAll.cons rfl (fun K hK => ?_) TillAll.nil
 have CC0 := Lib.hid (ints_step B F tb 40 L1 ([vi, vc, vl] ++ L2) (off) st [x.regs, x.slots] W0 y0.heap.size 2 FW0.out HT.out (by intro a ha; simp at ha; rcases ha with rfl | rfl <;> assumption) BW0.out HO.out HB.out (Nat.le_trans HBW.out ZW0.out) (kin_up KN0.out HUP.out) (by have h1 := RM0.out; have h2 := HRM.out; simp only [List.length_cons, List.length_nil]; omega) GP0.out (by have := HNT.out; omega) (by simp))
 go_simp
 go_wp2_with (go_at_call 74; refine CC0.out.mono ?_; rintro e w1 (⟨s1, r1, vs, hn, rfl, hf2, hb2, rfl, hfr⟩ | ⟨hn, ec, rfl, he, hbe⟩))
 rotate_left
 ·exact ⟨rfl, .inr ⟨(by simp only [codeF, hn, Option.bind_some, Option.bind_none]), ec, rfl, kin_err KN0.out he, FRW0.out.trans hbe⟩⟩
 have hlen := len2 (fine_run fine_num _ _ _ _ hn).2.2
 rw [hlen] at hb2
 clear hlen
 have HN1 := Lib.hid hn
 have FL1 := Lib.hid hf2
 have BL1 : Hid (Blk w1 tb 40 (L1 ++ ([Value.int .i64 (r1.getD 0 0), Value.int .i64 (r1.getD 1 0), vi, vc, vl] ++ L2)).toArray) := Lib.hid (by have h := hb2; simpa [I64, List.append_assoc] using h)
 have ST1 : Hid (Fr B tb w0 w1) := Lib.hid (SW0.out.trans hfr)
 have FR1 : Hid (Fr B tb w w1) := Lib.hid (FRW0.out.trans hfr)
 have GB1 : Hid (Blk w1 w.heap.size 105 #[.pointer (some ⟨F, 0, none⟩)]) := Lib.hid (hfr.2 _ _ _ HGN.out hot_pf GW0.out)
 have hfi := fine_runs (k := 2) rfl hn
 have KN1 : Hid (st.kin s1) := Lib.hid (kin_trans KN0.out hfi.2)
 have RM1 : Hid (s1.room ≤ st.room + 20) := Lib.hid (by have h1 := hfi.1; have h2 := RM0.out; omega)
 clear hn hf2 hb2 hfr hfi FL0 BL0 GB0 SF0 FY0 BY0 GY0 ZY0 SW0 FW0 BW0 GW0 ZW0 FRW0 HNT HBY GP0
 have g0 := GB1.out.cell 0
 have HS : Hid (w1.cell? ⟨w.heap.size, 0, none⟩ = some (.pointer (some ⟨F, 0, none⟩))) := Lib.hid (GB1.out.cell 0)
 (refine hK.out _ _ (fun _ => HS.out) ?_; clear hK K)
 refine till_done (by kernel_rfl) ?_ _
 clear HS
 try simp only [Exit.then]
 go_upto_region 2 with fail
 refine region_till (fun W => W.cell? ⟨w.heap.size, 0, none⟩ = some (.pointer (some ⟨F, 0, none⟩))) (fun j => !([0, 1, 2, 3, 4, 5] : List Nat).contains j) (by kernel_rfl) ?_
 obtain ⟨y1, hy1⟩ : ∃ y1, y1 = World.drew w1 := ⟨_, rfl⟩
 rw [← hy1]
 have SF1 : Hid (Fr B tb w1 y1) := Lib.hid (by rw [hy1]; exact Fr.drew B tb w1)
 have FY1 : Hid (FlX B y1 F s1) := Lib.hid (by rw [hy1]; exact FL1.out.drew)
 have BY1 : Hid (Blk y1 tb 40 (L1 ++ ([Value.int .i64 (r1.getD 0 0), Value.int .i64 (r1.getD 1 0), vi, vc, vl] ++ L2)).toArray) := Lib.hid (by rw [hy1]; exact BL1.out)
 have GY1 : Hid (Blk y1 w.heap.size 105 #[.pointer (some ⟨F, 0, none⟩)]) := Lib.hid (by rw [hy1]; exact GB1.out)
 have ZY1 : Hid (w.heap.size ≤ y1.heap.size) := Lib.hid (Nat.le_trans FR1.out.size SF1.out.size)
 clear hy1 g0
 have HS : Hid (y1.cell? ⟨w.heap.size, 0, none⟩ = some (.pointer (some ⟨F, 0, none⟩))) := Lib.hid (GY1.out.cell 0)
 refine till_take (i := 0) (v := ?_) rfl (by kernel_rfl) (by kernel_rfl) (by kernel_rfl) (by kernel_rfl) (fun _ _ _ h => h) (Or.inl ⟨by kernel_rfl, ?_⟩) HS.out ?_
 rotate_left
 ·(intro w' hSw; obtain hc0 := hSw; go_simp; try with_reducible rfl)
 refine till_take (i := 1) (v := ?_) rfl (by kernel_rfl) (by kernel_rfl) (by kernel_rfl) (by kernel_rfl) (fun _ _ _ h => h) (Or.inl ⟨by kernel_rfl, ?_⟩) HS.out ?_
 rotate_left
 ·(intro w' hSw; obtain hc0 := hSw; go_simp; try with_reducible rfl)
 refine till_take (i := 2) (v := ?_) rfl (by kernel_rfl) (by kernel_rfl) (by kernel_rfl) (by kernel_rfl) (fun _ _ _ h => h) (Or.inl ⟨by kernel_rfl, ?_⟩) HS.out ?_
 rotate_left
 ·(intro w' hSw; obtain hc0 := hSw; go_simp; try with_reducible rfl)
 refine till_take (i := 3) (v := ?_) rfl (by kernel_rfl) (by kernel_rfl) (by kernel_rfl) (by kernel_rfl) (fun _ _ _ h => h) (Or.inl ⟨by kernel_rfl, ?_⟩) HS.out ?_
 rotate_left
 ·(intro w' hSw; obtain hc0 := hSw; go_simp; try with_reducible rfl)
 refine till_take (i := 4) (v := ?_) rfl (by kernel_rfl) (by kernel_rfl) (by kernel_rfl) (by kernel_rfl) (fun _ _ _ h => h) (Or.inl ⟨by kernel_rfl, ?_⟩) HS.out ?_
 rotate_left
 ·(intro w' hSw; obtain hc0 := hSw; go_simp; try with_reducible rfl)
 refine till_ready (rs := [5]) (by kernel_rfl) (by simp) ?_
 refine TillAll.cons rfl (fun K hK => ?_) TillAll.nil
 obtain ⟨W1, hW1⟩ : ∃ W1, W1 = y1 := ⟨_, rfl⟩
 have hal : Below y1.heap.size y1 W1 := by rw [hW1]; exact Below.refl _ _
 try rw [← hW1]
 have HBY : Hid (B ≤ y1.heap.size) := Lib.hid (Nat.le_trans HBW.out ZY1.out)
 have SW1 : Hid (Fr B tb w1 W1) := Lib.hid (SF1.out.trans (Fr.below HBY.out hal))
 have FW1 : Hid (FlX B W1 F s1) := Lib.hid (FY1.out.below hal)
 have BW1 : Hid (Blk W1 tb 40 ((L1 ++ [Value.int .i64 (r1.getD 0 0), Value.int .i64 (r1.getD 1 0)]) ++ ([vi] ++ ([vc, vl] ++ L2))).toArray) := Lib.hid (by have h := BY1.out.below hal BY1.out.lt; simpa [List.append_assoc] using h)
 have GW1 : Hid (Blk W1 w.heap.size 105 #[.pointer (some ⟨F, 0, none⟩)]) := Lib.hid (GY1.out.below hal GY1.out.lt)
 have ZW1 : Hid (w.heap.size ≤ W1.heap.size) := Lib.hid (Nat.le_trans ZY1.out hal.size)
 have HNT : Hid (tb < y1.heap.size) := Lib.hid BY1.out.lt
 have FRW1 : Hid (Fr B tb w W1) := Lib.hid (FR1.out.trans SW1.out)
 have HS : Hid (W1.cell? ⟨w.heap.size, 0, none⟩ = some (.pointer (some ⟨F, 0, none⟩))) := Lib.hid (GW1.out.cell 0)
 clear hal hW1
 have CC1 := Lib.hid (list_I B F tb 40 (L1 ++ [Value.int .i64 (r1.getD 0 0), Value.int .i64 (r1.getD 1 0)]) ([vc, vl] ++ L2) (off + 2) s1 x.inputs vi W1 (w.heap.size) (fun _ => InpC) (CapC w.heap.size F) inpF zInp (40) keeps_inp onec_I zero_I (one_I B F w.heap.size) fine_inp (capC_list HGN.out (Nat.lt_of_lt_of_le GW1.out.lt (Nat.le_refl _))) (capC_new GW1.out) FW1.out HT.out (slq_old HSI.out keeps_inp FRW1.out) BW1.out (by rw [List.length_append, HO.out]; rfl) HB.out (Nat.le_trans HBW.out ZW1.out) (kin_up KN1.out HUP.out) (by have h1 := RM1.out; have h2 := HRM.out; omega))
 go_simp
 go_wp2_with (go_at_call 90; refine CC1.out.mono ?_; rintro e w2 (⟨s2, r2, vs, hn, rfl, hf2, hb2, ⟨v1, rfl, hsl⟩, hfr⟩ | ⟨hn, ec, rfl, he, hbe⟩))
 rotate_left
 ·exact ⟨rfl, .inr ⟨(by simp only [codeF, HN1.out, hn, Option.bind_some, Option.bind_none]), ec, rfl, kin_err KN1.out he, FRW1.out.trans hbe⟩⟩
 have HN2 := Lib.hid hn
 have FL2 := Lib.hid hf2
 have BL2 : Hid (Blk w2 tb 40 (L1 ++ ([Value.int .i64 (r1.getD 0 0), Value.int .i64 (r1.getD 1 0), v1, vc, vl] ++ L2)).toArray) := Lib.hid (by have h := hb2; simpa [I64, List.append_assoc] using h)
 have ST2 : Hid (Fr B tb w1 w2) := Lib.hid (SW1.out.trans hfr)
 have FR2 : Hid (Fr B tb w w2) := Lib.hid (FRW1.out.trans hfr)
 have GB2 : Hid (Blk w2 w.heap.size 105 #[.pointer (some ⟨F, 0, none⟩)]) := Lib.hid (hfr.2 _ _ _ HGN.out hot_pf GW1.out)
 have hfi := fine_list (zero := zInp) fine_inp _ _ _ _ hn
 have KN2 : Hid (st.kin s2) := Lib.hid (kin_trans KN1.out hfi.2)
 have RM2 : Hid (s2.room ≤ st.room + 40990) := Lib.hid (by have h1 := hfi.1; have h2 := RM1.out; omega)
 have NW1 := Lib.hid hsl
 have NF1_2 : Hid (Fr B tb w2 w2) := Lib.hid (Fr.refl _ _ _)
 have NZ1 : Hid (tb < W1.heap.size ∧ w.heap.size ≤ W1.heap.size) := Lib.hid ⟨BW1.out.lt, ZW1.out⟩
 clear hn hf2 hb2 hfr hfi hsl FL1 BL1 GB1 SF1 FY1 BY1 GY1 ZY1 SW1 FW1 BW1 GW1 ZW1 FRW1 HNT HBY
 have g0 := GB2.out.cell 0
 have HS : Hid (w2.cell? ⟨w.heap.size, 0, none⟩ = some (.pointer (some ⟨F, 0, none⟩))) := Lib.hid (GB2.out.cell 0)
 (refine hK.out _ _ (fun _ => HS.out) ?_; clear hK K)
 refine till_done (by kernel_rfl) ?_ _
 clear HS
 try simp only [Exit.then]
 go_upto_region 3 with fail
 refine region_till (fun W => W.cell? ⟨w.heap.size, 0, none⟩ = some (.pointer (some ⟨F, 0, none⟩))) (fun j => !([0, 1, 2, 3, 4, 5] : List Nat).contains j) (by kernel_rfl) ?_
 obtain ⟨y2, hy2⟩ : ∃ y2, y2 = World.drew w2 := ⟨_, rfl⟩
 rw [← hy2]
 have SF2 : Hid (Fr B tb w2 y2) := Lib.hid (by rw [hy2]; exact Fr.drew B tb w2)
 have FY2 : Hid (FlX B y2 F s2) := Lib.hid (by rw [hy2]; exact FL2.out.drew)
 have BY2 : Hid (Blk y2 tb 40 (L1 ++ ([Value.int .i64 (r1.getD 0 0), Value.int .i64 (r1.getD 1 0), v1, vc, vl] ++ L2)).toArray) := Lib.hid (by rw [hy2]; exact BL2.out)
 have GY2 : Hid (Blk y2 w.heap.size 105 #[.pointer (some ⟨F, 0, none⟩)]) := Lib.hid (by rw [hy2]; exact GB2.out)
 have ZY2 : Hid (w.heap.size ≤ y2.heap.size) := Lib.hid (Nat.le_trans FR2.out.size SF2.out.size)
 clear hy2 g0
 have HS : Hid (y2.cell? ⟨w.heap.size, 0, none⟩ = some (.pointer (some ⟨F, 0, none⟩))) := Lib.hid (GY2.out.cell 0)
 refine till_take (i := 0) (v := ?_) rfl (by kernel_rfl) (by kernel_rfl) (by kernel_rfl) (by kernel_rfl) (fun _ _ _ h => h) (Or.inl ⟨by kernel_rfl, ?_⟩) HS.out ?_
 rotate_left
 ·(intro w' hSw; obtain hc0 := hSw; go_simp; try with_reducible rfl)
 refine till_take (i := 1) (v := ?_) rfl (by kernel_rfl) (by kernel_rfl) (by kernel_rfl) (by kernel_rfl) (fun _ _ _ h => h) (Or.inl ⟨by kernel_rfl, ?_⟩) HS.out ?_
 rotate_left
 ·(intro w' hSw; obtain hc0 := hSw; go_simp; try with_reducible rfl)
 refine till_take (i := 2) (v := ?_) rfl (by kernel_rfl) (by kernel_rfl) (by kernel_rfl) (by kernel_rfl) (fun _ _ _ h => h) (Or.inl ⟨by kernel_rfl, ?_⟩) HS.out ?_
 rotate_left
 ·(intro w' hSw; obtain hc0 := hSw; go_simp; try with_reducible rfl)
 refine till_take (i := 3) (v := ?_) rfl (by kernel_rfl) (by kernel_rfl) (by kernel_rfl) (by kernel_rfl) (fun _ _ _ h => h) (Or.inl ⟨by kernel_rfl, ?_⟩) HS.out ?_
 rotate_left
 ·(intro w' hSw; obtain hc0 := hSw; go_simp; try with_reducible rfl)
 refine till_take (i := 4) (v := ?_) rfl (by kernel_rfl) (by kernel_rfl) (by kernel_rfl) (by kernel_rfl) (fun _ _ _ h => h) (Or.inl ⟨by kernel_rfl, ?_⟩) HS.out ?_
 rotate_left
 ·(intro w' hSw; obtain hc0 := hSw; go_simp; try with_reducible rfl)
 refine till_ready (rs := [5]) (by kernel_rfl) (by simp) ?_
 refine TillAll.cons rfl (fun K hK => ?_) TillAll.nil
 obtain ⟨W2, hW2⟩ : ∃ W2, W2 = y2 := ⟨_, rfl⟩
 have hal : Below y2.heap.size y2 W2 := by rw [hW2]; exact Below.refl _ _
 try rw [← hW2]
 have HBY : Hid (B ≤ y2.heap.size) := Lib.hid (Nat.le_trans HBW.out ZY2.out)
 have SW2 : Hid (Fr B tb w2 W2) := Lib.hid (SF2.out.trans (Fr.below HBY.out hal))
 have FW2 : Hid (FlX B W2 F s2) := Lib.hid (FY2.out.below hal)
 have BW2 : Hid (Blk W2 tb 40 ((L1 ++ [Value.int .i64 (r1.getD 0 0), Value.int .i64 (r1.getD 1 0), v1]) ++ ([vc] ++ ([vl] ++ L2))).toArray) := Lib.hid (by have h := BY2.out.below hal BY2.out.lt; simpa [List.append_assoc] using h)
 have GW2 : Hid (Blk W2 w.heap.size 105 #[.pointer (some ⟨F, 0, none⟩)]) := Lib.hid (GY2.out.below hal GY2.out.lt)
 have ZW2 : Hid (w.heap.size ≤ W2.heap.size) := Lib.hid (Nat.le_trans ZY2.out hal.size)
 have HNT : Hid (tb < y2.heap.size) := Lib.hid BY2.out.lt
 have FRW2 : Hid (Fr B tb w W2) := Lib.hid (FR2.out.trans SW2.out)
 have HS : Hid (W2.cell? ⟨w.heap.size, 0, none⟩ = some (.pointer (some ⟨F, 0, none⟩))) := Lib.hid (GW2.out.cell 0)
 clear hal hW2
 have CC2 := Lib.hid (list_V B F tb 40 (L1 ++ [Value.int .i64 (r1.getD 0 0), Value.int .i64 (r1.getD 1 0), v1]) ([vl] ++ L2) (off + 3) s2 x.consts vc W2 (w.heap.size) (fun _ => ValC) (CapC w.heap.size F) valF zVal (20) keeps_val onec_V zero_V (one_V B F w.heap.size) fine_val (capC_list HGN.out (Nat.lt_of_lt_of_le GW2.out.lt (Nat.le_refl _))) (capC_new GW2.out) FW2.out HT.out (slq_old HSC.out keeps_val FRW2.out) BW2.out (by rw [List.length_append, HO.out]; rfl) HB.out (Nat.le_trans HBW.out ZW2.out) (kin_up KN2.out HUP.out) (by have h1 := RM2.out; have h2 := HRM.out; omega))
 go_simp
 go_wp2_with (go_at_call 92; refine CC2.out.mono ?_; rintro e w3 (⟨s3, r3, vs, hn, rfl, hf2, hb2, ⟨v2, rfl, hsl⟩, hfr⟩ | ⟨hn, ec, rfl, he, hbe⟩))
 rotate_left
 ·exact ⟨rfl, .inr ⟨(by simp only [codeF, HN1.out, HN2.out, hn, Option.bind_some, Option.bind_none]), ec, rfl, kin_err KN2.out he, FRW2.out.trans hbe⟩⟩
 have HN3 := Lib.hid hn
 have FL3 := Lib.hid hf2
 have BL3 : Hid (Blk w3 tb 40 (L1 ++ ([Value.int .i64 (r1.getD 0 0), Value.int .i64 (r1.getD 1 0), v1, v2, vl] ++ L2)).toArray) := Lib.hid (by have h := hb2; simpa [I64, List.append_assoc] using h)
 have ST3 : Hid (Fr B tb w2 w3) := Lib.hid (SW2.out.trans hfr)
 have FR3 : Hid (Fr B tb w w3) := Lib.hid (FRW2.out.trans hfr)
 have GB3 : Hid (Blk w3 w.heap.size 105 #[.pointer (some ⟨F, 0, none⟩)]) := Lib.hid (hfr.2 _ _ _ HGN.out hot_pf GW2.out)
 have hfi := fine_list (zero := zVal) fine_val _ _ _ _ hn
 have KN3 : Hid (st.kin s3) := Lib.hid (kin_trans KN2.out hfi.2)
 have RM3 : Hid (s3.room ≤ st.room + 61480) := Lib.hid (by have h1 := hfi.1; have h2 := RM2.out; omega)
 have NW2 := Lib.hid hsl
 have NF2_3 : Hid (Fr B tb w3 w3) := Lib.hid (Fr.refl _ _ _)
 have NZ2 : Hid (tb < W2.heap.size ∧ w.heap.size ≤ W2.heap.size) := Lib.hid ⟨BW2.out.lt, ZW2.out⟩
 have NF1_3 : Hid (Fr B tb w2 w3) := Lib.hid (NF1_2.out.trans ST3.out)
 clear hn hf2 hb2 hfr hfi hsl FL2 BL2 GB2 SF2 FY2 BY2 GY2 ZY2 SW2 FW2 BW2 GW2 ZW2 FRW2 HNT HBY
 have g0 := GB3.out.cell 0
 have HS : Hid (w3.cell? ⟨w.heap.size, 0, none⟩ = some (.pointer (some ⟨F, 0, none⟩))) := Lib.hid (GB3.out.cell 0)
 (refine hK.out _ _ (fun _ => HS.out) ?_; clear hK K)
 refine till_done (by kernel_rfl) ?_ _
 clear HS
 try simp only [Exit.then]
 go_upto_region 4 with fail
 refine region_till (fun W => W.cell? ⟨w.heap.size, 0, none⟩ = some (.pointer (some ⟨F, 0, none⟩))) (fun j => !([0, 1, 2, 3, 4, 5] : List Nat).contains j) (by kernel_rfl) ?_
 obtain ⟨y3, hy3⟩ : ∃ y3, y3 = World.drew w3 := ⟨_, rfl⟩
 rw [← hy3]
 have SF3 : Hid (Fr B tb w3 y3) := Lib.hid (by rw [hy3]; exact Fr.drew B tb w3)
 have FY3 : Hid (FlX B y3 F s3) := Lib.hid (by rw [hy3]; exact FL3.out.drew)
 have BY3 : Hid (Blk y3 tb 40 (L1 ++ ([Value.int .i64 (r1.getD 0 0), Value.int .i64 (r1.getD 1 0), v1, v2, vl] ++ L2)).toArray) := Lib.hid (by rw [hy3]; exact BL3.out)
 have GY3 : Hid (Blk y3 w.heap.size 105 #[.pointer (some ⟨F, 0, none⟩)]) := Lib.hid (by rw [hy3]; exact GB3.out)
 have ZY3 : Hid (w.heap.size ≤ y3.heap.size) := Lib.hid (Nat.le_trans FR3.out.size SF3.out.size)
 clear hy3 g0
 have HS : Hid (y3.cell? ⟨w.heap.size, 0, none⟩ = some (.pointer (some ⟨F, 0, none⟩))) := Lib.hid (GY3.out.cell 0)
 refine till_take (i := 0) (v := ?_) rfl (by kernel_rfl) (by kernel_rfl) (by kernel_rfl) (by kernel_rfl) (fun _ _ _ h => h) (Or.inl ⟨by kernel_rfl, ?_⟩) HS.out ?_
 rotate_left
 ·(intro w' hSw; obtain hc0 := hSw; go_simp; try with_reducible rfl)
 refine till_take (i := 1) (v := ?_) rfl (by kernel_rfl) (by kernel_rfl) (by kernel_rfl) (by kernel_rfl) (fun _ _ _ h => h) (Or.inl ⟨by kernel_rfl, ?_⟩) HS.out ?_
 rotate_left
 ·(intro w' hSw; obtain hc0 := hSw; go_simp; try with_reducible rfl)
 refine till_take (i := 2) (v := ?_) rfl (by kernel_rfl) (by kernel_rfl) (by kernel_rfl) (by kernel_rfl) (fun _ _ _ h => h) (Or.inl ⟨by kernel_rfl, ?_⟩) HS.out ?_
 rotate_left
 ·(intro w' hSw; obtain hc0 := hSw; go_simp; try with_reducible rfl)
 refine till_take (i := 3) (v := ?_) rfl (by kernel_rfl) (by kernel_rfl) (by kernel_rfl) (by kernel_rfl) (fun _ _ _ h => h) (Or.inl ⟨by kernel_rfl, ?_⟩) HS.out ?_
 rotate_left
 ·(intro w' hSw; obtain hc0 := hSw; go_simp; try with_reducible rfl)
 refine till_take (i := 4) (v := ?_) rfl (by kernel_rfl) (by kernel_rfl) (by kernel_rfl) (by kernel_rfl) (fun _ _ _ h => h) (Or.inl ⟨by kernel_rfl, ?_⟩) HS.out ?_
 rotate_left
 ·(intro w' hSw; obtain hc0 := hSw; go_simp; try with_reducible rfl)
 refine till_ready (rs := [5]) (by kernel_rfl) (by simp) ?_
 refine TillAll.cons rfl (fun K hK => ?_) TillAll.nil
 obtain ⟨W3, hW3⟩ : ∃ W3, W3 = y3 := ⟨_, rfl⟩
 have hal : Below y3.heap.size y3 W3 := by rw [hW3]; exact Below.refl _ _
 try rw [← hW3]
 have HBY : Hid (B ≤ y3.heap.size) := Lib.hid (Nat.le_trans HBW.out ZY3.out)
 have SW3 : Hid (Fr B tb w3 W3) := Lib.hid (SF3.out.trans (Fr.below HBY.out hal))
 have FW3 : Hid (FlX B W3 F s3) := Lib.hid (FY3.out.below hal)
 have BW3 : Hid (Blk W3 tb 40 ((L1 ++ [Value.int .i64 (r1.getD 0 0), Value.int .i64 (r1.getD 1 0), v1, v2]) ++ ([vl] ++ L2)).toArray) := Lib.hid (by have h := BY3.out.below hal BY3.out.lt; simpa [List.append_assoc] using h)
 have GW3 : Hid (Blk W3 w.heap.size 105 #[.pointer (some ⟨F, 0, none⟩)]) := Lib.hid (GY3.out.below hal GY3.out.lt)
 have ZW3 : Hid (w.heap.size ≤ W3.heap.size) := Lib.hid (Nat.le_trans ZY3.out hal.size)
 have HNT : Hid (tb < y3.heap.size) := Lib.hid BY3.out.lt
 have FRW3 : Hid (Fr B tb w W3) := Lib.hid (FR3.out.trans SW3.out)
 have HS : Hid (W3.cell? ⟨w.heap.size, 0, none⟩ = some (.pointer (some ⟨F, 0, none⟩))) := Lib.hid (GW3.out.cell 0)
 clear hal hW3
 have CC3 := Lib.hid (list_N B F tb 40 (L1 ++ [Value.int .i64 (r1.getD 0 0), Value.int .i64 (r1.getD 1 0), v1, v2]) L2 (off + 4) s3 x.list vl W3 (w.heap.size) (fun _ => InsC) (CapC w.heap.size F) insF zIns (40) keeps_ins onec_N zero_N (one_N B F w.heap.size) fine_ins (capC_list HGN.out (Nat.lt_of_lt_of_le GW3.out.lt (Nat.le_refl _))) (capC_new GW3.out) FW3.out HT.out (slq_old HSL.out keeps_ins FRW3.out) BW3.out (by rw [List.length_append, HO.out]; rfl) HB.out (Nat.le_trans HBW.out ZW3.out) (kin_up KN3.out HUP.out) (by have h1 := RM3.out; have h2 := HRM.out; omega))
 go_simp
 go_wp2_with (go_at_call 95; refine CC3.out.mono ?_; rintro e w4 (⟨s4, r4, vs, hn, rfl, hf2, hb2, ⟨v3, rfl, hsl⟩, hfr⟩ | ⟨hn, ec, rfl, he, hbe⟩))
 rotate_left
 ·exact ⟨rfl, .inr ⟨(by simp only [codeF, HN1.out, HN2.out, HN3.out, hn, Option.bind_some, Option.bind_none]), ec, rfl, kin_err KN3.out he, FRW3.out.trans hbe⟩⟩
 have HN4 := Lib.hid hn
 have FL4 := Lib.hid hf2
 have BL4 : Hid (Blk w4 tb 40 (L1 ++ ([Value.int .i64 (r1.getD 0 0), Value.int .i64 (r1.getD 1 0), v1, v2, v3] ++ L2)).toArray) := Lib.hid (by have h := hb2; simpa [I64, List.append_assoc] using h)
 have ST4 : Hid (Fr B tb w3 w4) := Lib.hid (SW3.out.trans hfr)
 have FR4 : Hid (Fr B tb w w4) := Lib.hid (FRW3.out.trans hfr)
 have GB4 : Hid (Blk w4 w.heap.size 105 #[.pointer (some ⟨F, 0, none⟩)]) := Lib.hid (hfr.2 _ _ _ HGN.out hot_pf GW3.out)
 have hfi := fine_list (zero := zIns) fine_ins _ _ _ _ hn
 have KN4 : Hid (st.kin s4) := Lib.hid (kin_trans KN3.out hfi.2)
 have RM4 : Hid (s4.room ≤ st.room + 102450) := Lib.hid (by have h1 := hfi.1; have h2 := RM3.out; omega)
 have NW3 := Lib.hid hsl
 have NF3_4 : Hid (Fr B tb w4 w4) := Lib.hid (Fr.refl _ _ _)
 have NZ3 : Hid (tb < W3.heap.size ∧ w.heap.size ≤ W3.heap.size) := Lib.hid ⟨BW3.out.lt, ZW3.out⟩
 have NF1_4 : Hid (Fr B tb w2 w4) := Lib.hid (NF1_3.out.trans ST4.out)
 have NF2_4 : Hid (Fr B tb w3 w4) := Lib.hid (NF2_3.out.trans ST4.out)
 clear hn hf2 hb2 hfr hfi hsl FL3 BL3 GB3 SF3 FY3 BY3 GY3 ZY3 SW3 FW3 BW3 GW3 ZW3 FRW3 HNT HBY
 have g0 := GB4.out.cell 0
 have HS : Hid (w4.cell? ⟨w.heap.size, 0, none⟩ = some (.pointer (some ⟨F, 0, none⟩))) := Lib.hid (GB4.out.cell 0)
 (refine hK.out _ _ (fun _ => HS.out) ?_; clear hK K)
 refine till_done (by kernel_rfl) ?_ _
 clear HS
 try simp only [Exit.then]
 go_wp2_with fail
 go_end0
 exact .inl ⟨s4, ⟨r1.getD 0 0, r1.getD 1 0, r2, r3, r4⟩, [Value.int .i64 (r1.getD 0 0), Value.int .i64 (r1.getD 1 0), v1, v2, v3], (by simp only [codeF, HN1.out, HN2.out, HN3.out, HN4.out, Option.bind_some]), rfl, FL4.out, BL4.out, ⟨rfl, _, _, _, rfl, (slq_next NW1.out keeps_inp NF1_4.out NZ1.out.1 NZ1.out.2), (slq_next NW2.out keeps_val NF2_4.out NZ2.out.1 NZ2.out.2), (slq_next NW3.out keeps_ins NF3_4.out NZ3.out.1 NZ3.out.2), runs_wf HN1.out 0, runs_wf HN1.out 1⟩, FR4.out⟩
end Go.Proofs.Ytioocaicmiggoaa
namespace Go.Proofs.Ytioocaicmiggoaa
set_option linter.unusedVariables false
set_option linter.unusedSimpArgs false
open Go.RowKit Go.Deep
set_option maxRecDepth 100000 in
set_option maxHeartbeats 8000000 in
theorem one_Z (B F : Nat) : OneC B F 27 8 TabQ noCap tabF (22500000000) (fun p w Q => Calls Try.prog 68 #[.pointer (some ⟨F, 0, none⟩), p] w Q) := by
 intro tb L1 L2 vs off st x w hf hb ho hl hB hBw hup hroom hR hcap
 obtain ⟨vk, vkk, vs, vc, rfl, hsk, hskk, hss, hsc, wx0, wx3, wx4, wx5⟩ := hR
 have HSK := Lib.hid hsk
 have HSKK := Lib.hid hskk
 have HSS := Lib.hid hss
 have HSC := Lib.hid hsc
 have ht : ¬ hot 27 := by unfold hot; decide
 have HT := Lib.hid ht
 have HO := Lib.hid ho
 have HB := Lib.hid hB
 have HBW := Lib.hid hBw
 have HUP := Lib.hid hup
 have HRM := Lib.hid hroom
 have HFW := Lib.hid hf
 obtain ⟨w0, hw0⟩ : ∃ w0, w0 = w.alloc (.cells #[.pointer (some ⟨F, 0, none⟩)] 105) := ⟨_, rfl⟩
 have ha0 : Below w.heap.size w w0 := by rw [hw0]; exact (Below.refl _ _).alloc (Nat.le_refl _) _
 have GB0 : Hid (Blk w0 w.heap.size 105 #[.pointer (some ⟨F, 0, none⟩)]) := Lib.hid (by rw [hw0]; exact Blk.new _ _ _)
 have FL0 := Lib.hid (hf.below ha0)
 have BL0 := Lib.hid (hb.below ha0 hb.lt)
 have FR0 : Hid (Fr B tb w w0) := Lib.hid (Fr.below hBw ha0)
 have HGN : Hid (w.heap.size ≠ tb) := Lib.hid (by have := hb.lt; omega)
 have g0 := GB0.out.cell 0
 clear ht ho hB hBw hup hroom hf hb ha0
 go_enter Try.func68, Try.ntmps68
 go_upto_region 1 with fail
 rw [← hw0]
 clear hw0
 have KN0 : Hid (st.kin st) := Lib.hid (kin_refl st)
 have RM0 : Hid (st.room ≤ st.room + 0) := Lib.hid (Nat.le_refl _)
 go_upto_region 1 with fail
 refine region_till (fun W => W.cell? ⟨w.heap.size, 0, none⟩ = some (.pointer (some ⟨F, 0, none⟩))) (fun j => !([0, 1, 2, 3, 4, 5] : List Nat).contains j) (by kernel_rfl) ?_
 obtain ⟨y0, hy0⟩ : ∃ y0, y0 = World.drew w0 := ⟨_, rfl⟩
 rw [← hy0]
 have SF0 : Hid (Fr B tb w0 y0) := Lib.hid (by rw [hy0]; exact Fr.drew B tb w0)
 have FY0 : Hid (FlX B y0 F st) := Lib.hid (by rw [hy0]; exact FL0.out.drew)
 have BY0 : Hid (Blk y0 tb 27 (L1 ++ ([Value.int .i64 x.strategy, vk, vkk, Value.int .i64 x.syms, Value.int .i64 x.runs, Value.int .i64 x.cells, vs, vc] ++ L2)).toArray) := Lib.hid (by rw [hy0]; exact BL0.out)
 have GY0 : Hid (Blk y0 w.heap.size 105 #[.pointer (some ⟨F, 0, none⟩)]) := Lib.hid (by rw [hy0]; exact GB0.out)
 have ZY0 : Hid (w.heap.size ≤ y0.heap.size) := Lib.hid (Nat.le_trans FR0.out.size SF0.out.size)
 clear hy0 g0
 have HS : Hid (y0.cell? ⟨w.heap.size, 0, none⟩ = some (.pointer (some ⟨F, 0, none⟩))) := Lib.hid (GY0.out.cell 0)
 refine till_take (i := 0) (v := ?_) rfl (by kernel_rfl) (by kernel_rfl) (by kernel_rfl) (by kernel_rfl) (fun _ _ _ h => h) (Or.inl ⟨by kernel_rfl, ?_⟩) HS.out ?_
 rotate_left
 ·(intro w' hSw; obtain hc0 := hSw; go_simp; try with_reducible rfl)
 refine till_take (i := 1) (v := ?_) rfl (by kernel_rfl) (by kernel_rfl) (by kernel_rfl) (by kernel_rfl) (fun _ _ _ h => h) (Or.inl ⟨by kernel_rfl, ?_⟩) HS.out ?_
 rotate_left
 ·(intro w' hSw; obtain hc0 := hSw; go_simp; try with_reducible rfl)
 refine till_take (i := 2) (v := ?_) rfl (by kernel_rfl) (by kernel_rfl) (by kernel_rfl) (by kernel_rfl) (fun _ _ _ h => h) (Or.inl ⟨by kernel_rfl, ?_⟩) HS.out ?_
 rotate_left
 ·(intro w' hSw; obtain hc0 := hSw; go_simp; try with_reducible rfl)
 refine till_take (i := 3) (v := ?_) rfl (by kernel_rfl) (by kernel_rfl) (by kernel_rfl) (by kernel_rfl) (fun _ _ _ h => h) (Or.inl ⟨by kernel_rfl, ?_⟩) HS.out ?_
 rotate_left
 ·(intro w' hSw; obtain hc0 := hSw; go_simp; try with_reducible rfl)
 refine till_ready (rs := [4]) (by kernel_rfl) (by simp) ?_
 refine TillAll.cons rfl (fun K hK => ?_) TillAll.nil
 go_simp
 obtain ⟨W0, hW0⟩ : ∃ W0, W0 = y0.alloc (.cells #[.pointer (some ⟨tb, off, none⟩)] 139) := ⟨_, rfl⟩
 rw [← hW0]
 have hal : Below y0.heap.size y0 W0 := by rw [hW0]; exact (Below.refl _ _).alloc (Nat.le_refl _) _
 have GP0 : Hid (Blk W0 y0.heap.size 139 (ptrs tb (off) 1).toArray) := Lib.hid (by rw [hW0]; exact Blk.new _ _ _)
 have HBY : Hid (B ≤ y0.heap.size) := Lib.hid (Nat.le_trans HBW.out ZY0.out)
 have SW0 : Hid (Fr B tb w0 W0) := Lib.hid (SF0.out.trans (Fr.below HBY.out hal))
 have FW0 : Hid (FlX B W0 F st) := Lib.hid (FY0.out.below hal)
 have BW0 : Hid (Blk W0 tb 27 (L1 ++ ([Value.int .i64 x.strategy] ++ ([vk, vkk, Value.int .i64 x.syms, Value.int .i64 x.runs, Value.int .i64 x.cells, vs, vc] ++ L2))).toArray) := Lib.hid (by have h := BY0.out.below hal BY0.out.lt; simpa [List.append_assoc] using h)
 have GW0 : Hid (Blk W0 w.heap.size 105 #[.pointer (some ⟨F, 0, none⟩)]) := Lib.hid (GY0.out.below hal GY0.out.lt)
 have ZW0 : Hid (w.heap.size ≤ W0.heap.size) := Lib.hid (Nat.le_trans ZY0.out hal.size)
 have HNT : Hid (tb < y0.heap.size) := Lib.hid BY0.out.lt
 have FRW0 : Hid (Fr B tb w W0) := Lib.hid (FR0.out.trans SW0.out)
 have HS : Hid (W0.cell? ⟨w.heap.size, 0, none⟩ = some (.pointer (some ⟨F, 0, none⟩))) := Lib.hid (GW0.out.cell 0)
 clear hal hW0
 (refine hK.out _ _ (fun _ => HS.out) ?_; clear hK K)
 refine till_ready (rs := [5]) (by kernel_rfl) (by simp) ?_
 refine TillAll.cons rfl (fun K hK => ?_) TillAll.nil
 have CC0 := Lib.hid (ints_step B F tb 27 L1 ([vk, vkk, Value.int .i64 x.syms, Value.int .i64 x.runs, Value.int .i64 x.cells, vs, vc] ++ L2) (off) st [x.strategy] W0 y0.heap.size 1 FW0.out HT.out (by intro a ha; simp at ha; rcases ha with rfl <;> assumption) BW0.out HO.out HB.out (Nat.le_trans HBW.out ZW0.out) (kin_up KN0.out HUP.out) (by have h1 := RM0.out; have h2 := HRM.out; simp only [List.length_cons, List.length_nil]; omega) GP0.out (by have := HNT.out; omega) (by simp))
 go_simp
 go_wp2_with (go_at_call 74; refine CC0.out.mono ?_; rintro e w1 (⟨s1, r1, vs, hn, rfl, hf2, hb2, rfl, hfr⟩ | ⟨hn, ec, rfl, he, hbe⟩))
 rotate_left
 ·exact ⟨rfl, .inr ⟨(by simp only [tabF, hn, Option.bind_some, Option.bind_none]), ec, rfl, kin_err KN0.out he, FRW0.out.trans hbe⟩⟩
 have hlen := len1 (fine_run fine_num _ _ _ _ hn).2.2
 rw [hlen] at hb2
 clear hlen
 have HN1 := Lib.hid hn
 have FL1 := Lib.hid hf2
 have BL1 : Hid (Blk w1 tb 27 (L1 ++ ([Value.int .i64 (r1.getD 0 0), vk, vkk, Value.int .i64 x.syms, Value.int .i64 x.runs, Value.int .i64 x.cells, vs, vc] ++ L2)).toArray) := Lib.hid (by have h := hb2; simpa [I64, List.append_assoc] using h)
 have ST1 : Hid (Fr B tb w0 w1) := Lib.hid (SW0.out.trans hfr)
 have FR1 : Hid (Fr B tb w w1) := Lib.hid (FRW0.out.trans hfr)
 have GB1 : Hid (Blk w1 w.heap.size 105 #[.pointer (some ⟨F, 0, none⟩)]) := Lib.hid (hfr.2 _ _ _ HGN.out hot_pf GW0.out)
 have hfi := fine_runs (k := 1) rfl hn
 have KN1 : Hid (st.kin s1) := Lib.hid (kin_trans KN0.out hfi.2)
 have RM1 : Hid (s1.room ≤ st.room + 10) := Lib.hid (by have h1 := hfi.1; have h2 := RM0.out; omega)
 clear hn hf2 hb2 hfr hfi FL0 BL0 GB0 SF0 FY0 BY0 GY0 ZY0 SW0 FW0 BW0 GW0 ZW0 FRW0 HNT HBY GP0
 have g0 := GB1.out.cell 0
 have HS : Hid (w1.cell? ⟨w.heap.size, 0, none⟩ = some (.pointer (some ⟨F, 0, none⟩))) := Lib.hid (GB1.out.cell 0)
 (refine hK.out _ _ (fun _ => HS.out) ?_; clear hK K)
 refine till_done (by kernel_rfl) ?_ _
 clear HS
 try simp only [Exit.then]
 go_upto_region 2 with fail
 refine region_till (fun W => W.cell? ⟨w.heap.size, 0, none⟩ = some (.pointer (some ⟨F, 0, none⟩))) (fun j => !([0, 1, 2, 3, 4, 5] : List Nat).contains j) (by kernel_rfl) ?_
 obtain ⟨y1, hy1⟩ : ∃ y1, y1 = World.drew w1 := ⟨_, rfl⟩
 rw [← hy1]
 have SF1 : Hid (Fr B tb w1 y1) := Lib.hid (by rw [hy1]; exact Fr.drew B tb w1)
 have FY1 : Hid (FlX B y1 F s1) := Lib.hid (by rw [hy1]; exact FL1.out.drew)
 have BY1 : Hid (Blk y1 tb 27 (L1 ++ ([Value.int .i64 (r1.getD 0 0), vk, vkk, Value.int .i64 x.syms, Value.int .i64 x.runs, Value.int .i64 x.cells, vs, vc] ++ L2)).toArray) := Lib.hid (by rw [hy1]; exact BL1.out)
 have GY1 : Hid (Blk y1 w.heap.size 105 #[.pointer (some ⟨F, 0, none⟩)]) := Lib.hid (by rw [hy1]; exact GB1.out)
 have ZY1 : Hid (w.heap.size ≤ y1.heap.size) := Lib.hid (Nat.le_trans FR1.out.size SF1.out.size)
 clear hy1 g0
 have HS : Hid (y1.cell? ⟨w.heap.size, 0, none⟩ = some (.pointer (some ⟨F, 0, none⟩))) := Lib.hid (GY1.out.cell 0)
 refine till_take (i := 0) (v := ?_) rfl (by kernel_rfl) (by kernel_rfl) (by kernel_rfl) (by kernel_rfl) (fun _ _ _ h => h) (Or.inl ⟨by kernel_rfl, ?_⟩) HS.out ?_
 rotate_left
 ·(intro w' hSw; obtain hc0 := hSw; go_simp; try with_reducible rfl)
 refine till_take (i := 1) (v := ?_) rfl (by kernel_rfl) (by kernel_rfl) (by kernel_rfl) (by kernel_rfl) (fun _ _ _ h => h) (Or.inl ⟨by kernel_rfl, ?_⟩) HS.out ?_
 rotate_left
 ·(intro w' hSw; obtain hc0 := hSw; go_simp; try with_reducible rfl)
 refine till_take (i := 2) (v := ?_) rfl (by kernel_rfl) (by kernel_rfl) (by kernel_rfl) (by kernel_rfl) (fun _ _ _ h => h) (Or.inl ⟨by kernel_rfl, ?_⟩) HS.out ?_
 rotate_left
 ·(intro w' hSw; obtain hc0 := hSw; go_simp; try with_reducible rfl)
 refine till_take (i := 3) (v := ?_) rfl (by kernel_rfl) (by kernel_rfl) (by kernel_rfl) (by kernel_rfl) (fun _ _ _ h => h) (Or.inl ⟨by kernel_rfl, ?_⟩) HS.out ?_
 rotate_left
 ·(intro w' hSw; obtain hc0 := hSw; go_simp; try with_reducible rfl)
 refine till_take (i := 4) (v := ?_) rfl (by kernel_rfl) (by kernel_rfl) (by kernel_rfl) (by kernel_rfl) (fun _ _ _ h => h) (Or.inl ⟨by kernel_rfl, ?_⟩) HS.out ?_
 rotate_left
 ·(intro w' hSw; obtain hc0 := hSw; go_simp; try with_reducible rfl)
 refine till_ready (rs := [5]) (by kernel_rfl) (by simp) ?_
 refine TillAll.cons rfl (fun K hK => ?_) TillAll.nil
 obtain ⟨W1, hW1⟩ : ∃ W1, W1 = y1 := ⟨_, rfl⟩
 have hal : Below y1.heap.size y1 W1 := by rw [hW1]; exact Below.refl _ _
 try rw [← hW1]
 have HBY : Hid (B ≤ y1.heap.size) := Lib.hid (Nat.le_trans HBW.out ZY1.out)
 have SW1 : Hid (Fr B tb w1 W1) := Lib.hid (SF1.out.trans (Fr.below HBY.out hal))
 have FW1 : Hid (FlX B W1 F s1) := Lib.hid (FY1.out.below hal)
 have BW1 : Hid (Blk W1 tb 27 ((L1 ++ [Value.int .i64 (r1.getD 0 0)]) ++ ([vk] ++ ([vkk, Value.int .i64 x.syms, Value.int .i64 x.runs, Value.int .i64 x.cells, vs, vc] ++ L2))).toArray) := Lib.hid (by have h := BY1.out.below hal BY1.out.lt; simpa [List.append_assoc] using h)
 have GW1 : Hid (Blk W1 w.heap.size 105 #[.pointer (some ⟨F, 0, none⟩)]) := Lib.hid (GY1.out.below hal GY1.out.lt)
 have ZW1 : Hid (w.heap.size ≤ W1.heap.size) := Lib.hid (Nat.le_trans ZY1.out hal.size)
 have HNT : Hid (tb < y1.heap.size) := Lib.hid BY1.out.lt
 have FRW1 : Hid (Fr B tb w W1) := Lib.hid (FR1.out.trans SW1.out)
 have HS : Hid (W1.cell? ⟨w.heap.size, 0, none⟩ = some (.pointer (some ⟨F, 0, none⟩))) := Lib.hid (GW1.out.cell 0)
 clear hal hW1
 have CC1 := Lib.hid (list_K B F tb 27 (L1 ++ [Value.int .i64 (r1.getD 0 0)]) ([vkk, Value.int .i64 x.syms, Value.int .i64 x.runs, Value.int .i64 x.cells, vs, vc] ++ L2) (off + 1) s1 x.keys vk W1 (w.heap.size) (fun _ => IntC) (CapC w.heap.size F) intF (0 : Int) (10) keeps_int onec_K zero_K (one_K B F w.heap.size) fine_int (capC_list HGN.out (Nat.lt_of_lt_of_le GW1.out.lt (Nat.le_refl _))) (capC_new GW1.out) FW1.out HT.out (slq_old HSK.out keeps_int FRW1.out) BW1.out (by rw [List.length_append, HO.out]; rfl) HB.out (Nat.le_trans HBW.out ZW1.out) (kin_up KN1.out HUP.out) (by have h1 := RM1.out; have h2 := HRM.out; omega))
 go_simp
 go_wp2_with (go_at_call 75; refine CC1.out.mono ?_; rintro e w2 (⟨s2, r2, vs, hn, rfl, hf2, hb2, ⟨v1, rfl, hsl⟩, hfr⟩ | ⟨hn, ec, rfl, he, hbe⟩))
 rotate_left
 ·exact ⟨rfl, .inr ⟨(by simp only [tabF, HN1.out, hn, Option.bind_some, Option.bind_none]), ec, rfl, kin_err KN1.out he, FRW1.out.trans hbe⟩⟩
 have HN2 := Lib.hid hn
 have FL2 := Lib.hid hf2
 have BL2 : Hid (Blk w2 tb 27 (L1 ++ ([Value.int .i64 (r1.getD 0 0), v1, vkk, Value.int .i64 x.syms, Value.int .i64 x.runs, Value.int .i64 x.cells, vs, vc] ++ L2)).toArray) := Lib.hid (by have h := hb2; simpa [I64, List.append_assoc] using h)
 have ST2 : Hid (Fr B tb w1 w2) := Lib.hid (SW1.out.trans hfr)
 have FR2 : Hid (Fr B tb w w2) := Lib.hid (FRW1.out.trans hfr)
 have GB2 : Hid (Blk w2 w.heap.size 105 #[.pointer (some ⟨F, 0, none⟩)]) := Lib.hid (hfr.2 _ _ _ HGN.out hot_pf GW1.out)
 have hfi := fine_list (zero := (0 : Int)) fine_int _ _ _ _ hn
 have KN2 : Hid (st.kin s2) := Lib.hid (kin_trans KN1.out hfi.2)
 have RM2 : Hid (s2.room ≤ st.room + 10260) := Lib.hid (by have h1 := hfi.1; have h2 := RM1.out; omega)
 have NW1 := Lib.hid hsl
 have NF1_2 : Hid (Fr B tb w2 w2) := Lib.hid (Fr.refl _ _ _)
 have NZ1 : Hid (tb < W1.heap.size ∧ w.heap.size ≤ W1.heap.size) := Lib.hid ⟨BW1.out.lt, ZW1.out⟩
 clear hn hf2 hb2 hfr hfi hsl FL1 BL1 GB1 SF1 FY1 BY1 GY1 ZY1 SW1 FW1 BW1 GW1 ZW1 FRW1 HNT HBY
 have g0 := GB2.out.cell 0
 have HS : Hid (w2.cell? ⟨w.heap.size, 0, none⟩ = some (.pointer (some ⟨F, 0, none⟩))) := Lib.hid (GB2.out.cell 0)
 (refine hK.out _ _ (fun _ => HS.out) ?_; clear hK K)
 refine till_done (by kernel_rfl) ?_ _
 clear HS
 try simp only [Exit.then]
 go_upto_region 3 with fail
 refine region_till (fun W => W.cell? ⟨w.heap.size, 0, none⟩ = some (.pointer (some ⟨F, 0, none⟩))) (fun j => !([0, 1, 2, 3, 4, 5] : List Nat).contains j) (by kernel_rfl) ?_
 obtain ⟨y2, hy2⟩ : ∃ y2, y2 = World.drew w2 := ⟨_, rfl⟩
 rw [← hy2]
 have SF2 : Hid (Fr B tb w2 y2) := Lib.hid (by rw [hy2]; exact Fr.drew B tb w2)
 have FY2 : Hid (FlX B y2 F s2) := Lib.hid (by rw [hy2]; exact FL2.out.drew)
 have BY2 : Hid (Blk y2 tb 27 (L1 ++ ([Value.int .i64 (r1.getD 0 0), v1, vkk, Value.int .i64 x.syms, Value.int .i64 x.runs, Value.int .i64 x.cells, vs, vc] ++ L2)).toArray) := Lib.hid (by rw [hy2]; exact BL2.out)
 have GY2 : Hid (Blk y2 w.heap.size 105 #[.pointer (some ⟨F, 0, none⟩)]) := Lib.hid (by rw [hy2]; exact GB2.out)
 have ZY2 : Hid (w.heap.size ≤ y2.heap.size) := Lib.hid (Nat.le_trans FR2.out.size SF2.out.size)
 clear hy2 g0
 have HS : Hid (y2.cell? ⟨w.heap.size, 0, none⟩ = some (.pointer (some ⟨F, 0, none⟩))) := Lib.hid (GY2.out.cell 0)
 refine till_take (i := 0) (v := ?_) rfl (by kernel_rfl) (by kernel_rfl) (by kernel_rfl) (by kernel_rfl) (fun _ _ _ h => h) (Or.inl ⟨by kernel_rfl, ?_⟩) HS.out ?_
 rotate_left
 ·(intro w' hSw; obtain hc0 := hSw; go_simp; try with_reducible rfl)
 refine till_take (i := 1) (v := ?_) rfl (by kernel_rfl) (by kernel_rfl) (by kernel_rfl) (by kernel_rfl) (fun _ _ _ h => h) (Or.inl ⟨by kernel_rfl, ?_⟩) HS.out ?_
 rotate_left
 ·(intro w' hSw; obtain hc0 := hSw; go_simp; try with_reducible rfl)
 refine till_take (i := 2) (v := ?_) rfl (by kernel_rfl) (by kernel_rfl) (by kernel_rfl) (by kernel_rfl) (fun _ _ _ h => h) (Or.inl ⟨by kernel_rfl, ?_⟩) HS.out ?_
 rotate_left
 ·(intro w' hSw; obtain hc0 := hSw; go_simp; try with_reducible rfl)
 refine till_take (i := 3) (v := ?_) rfl (by kernel_rfl) (by kernel_rfl) (by kernel_rfl) (by kernel_rfl) (fun _ _ _ h => h) (Or.inl ⟨by kernel_rfl, ?_⟩) HS.out ?_
 rotate_left
 ·(intro w' hSw; obtain hc0 := hSw; go_simp; try with_reducible rfl)
 refine till_take (i := 4) (v := ?_) rfl (by kernel_rfl) (by kernel_rfl) (by kernel_rfl) (by kernel_rfl) (fun _ _ _ h => h) (Or.inl ⟨by kernel_rfl, ?_⟩) HS.out ?_
 rotate_left
 ·(intro w' hSw; obtain hc0 := hSw; go_simp; try with_reducible rfl)
 refine till_ready (rs := [5]) (by kernel_rfl) (by simp) ?_
 refine TillAll.cons rfl (fun K hK => ?_) TillAll.nil
 obtain ⟨W2, hW2⟩ : ∃ W2, W2 = y2 := ⟨_, rfl⟩
 have hal : Below y2.heap.size y2 W2 := by rw [hW2]; exact Below.refl _ _
 try rw [← hW2]
 have HBY : Hid (B ≤ y2.heap.size) := Lib.hid (Nat.le_trans HBW.out ZY2.out)
 have SW2 : Hid (Fr B tb w2 W2) := Lib.hid (SF2.out.trans (Fr.below HBY.out hal))
 have FW2 : Hid (FlX B W2 F s2) := Lib.hid (FY2.out.below hal)
 have BW2 : Hid (Blk W2 tb 27 ((L1 ++ [Value.int .i64 (r1.getD 0 0), v1]) ++ ([vkk] ++ ([Value.int .i64 x.syms, Value.int .i64 x.runs, Value.int .i64 x.cells, vs, vc] ++ L2))).toArray) := Lib.hid (by have h := BY2.out.below hal BY2.out.lt; simpa [List.append_assoc] using h)
 have GW2 : Hid (Blk W2 w.heap.size 105 #[.pointer (some ⟨F, 0, none⟩)]) := Lib.hid (GY2.out.below hal GY2.out.lt)
 have ZW2 : Hid (w.heap.size ≤ W2.heap.size) := Lib.hid (Nat.le_trans ZY2.out hal.size)
 have HNT : Hid (tb < y2.heap.size) := Lib.hid BY2.out.lt
 have FRW2 : Hid (Fr B tb w W2) := Lib.hid (FR2.out.trans SW2.out)
 have HS : Hid (W2.cell? ⟨w.heap.size, 0, none⟩ = some (.pointer (some ⟨F, 0, none⟩))) := Lib.hid (GW2.out.cell 0)
 clear hal hW2
 have CC2 := Lib.hid (list_G B F tb 27 (L1 ++ [Value.int .i64 (r1.getD 0 0), v1]) ([Value.int .i64 x.syms, Value.int .i64 x.runs, Value.int .i64 x.cells, vs, vc] ++ L2) (off + 2) s2 x.kinds vkk W2 (w.heap.size) IntsQ (CapC w.heap.size F) (listF intF 0) ([] : List Int) (10 + 10 * 1024) keeps_ints onec_G zero_G (one_G B F w.heap.size) (fine_list fine_int) (capC_list HGN.out (Nat.lt_of_lt_of_le GW2.out.lt (Nat.le_refl _))) (capC_new GW2.out) FW2.out HT.out (slq_old HSKK.out keeps_ints FRW2.out) BW2.out (by rw [List.length_append, HO.out]; rfl) HB.out (Nat.le_trans HBW.out ZW2.out) (kin_up KN2.out HUP.out) (by have h1 := RM2.out; have h2 := HRM.out; omega))
 go_simp
 go_wp2_with (go_at_call 77; refine CC2.out.mono ?_; rintro e w3 (⟨s3, r3, vs, hn, rfl, hf2, hb2, ⟨v2, rfl, hsl⟩, hfr⟩ | ⟨hn, ec, rfl, he, hbe⟩))
 rotate_left
 ·exact ⟨rfl, .inr ⟨(by simp only [tabF, HN1.out, HN2.out, hn, Option.bind_some, Option.bind_none]), ec, rfl, kin_err KN2.out he, FRW2.out.trans hbe⟩⟩
 have HN3 := Lib.hid hn
 have FL3 := Lib.hid hf2
 have BL3 : Hid (Blk w3 tb 27 (L1 ++ ([Value.int .i64 (r1.getD 0 0), v1, v2, Value.int .i64 x.syms, Value.int .i64 x.runs, Value.int .i64 x.cells, vs, vc] ++ L2)).toArray) := Lib.hid (by have h := hb2; simpa [I64, List.append_assoc] using h)
 have ST3 : Hid (Fr B tb w2 w3) := Lib.hid (SW2.out.trans hfr)
 have FR3 : Hid (Fr B tb w w3) := Lib.hid (FRW2.out.trans hfr)
 have GB3 : Hid (Blk w3 w.heap.size 105 #[.pointer (some ⟨F, 0, none⟩)]) := Lib.hid (hfr.2 _ _ _ HGN.out hot_pf GW2.out)
 have hfi := fine_list (zero := ([] : List Int)) (fine_list fine_int) _ _ _ _ hn
 have KN3 : Hid (st.kin s3) := Lib.hid (kin_trans KN2.out hfi.2)
 have RM3 : Hid (s3.room ≤ st.room + 10506270) := Lib.hid (by have h1 := hfi.1; have h2 := RM2.out; omega)
 have NW2 := Lib.hid hsl
 have NF2_3 : Hid (Fr B tb w3 w3) := Lib.hid (Fr.refl _ _ _)
 have NZ2 : Hid (tb < W2.heap.size ∧ w.heap.size ≤ W2.heap.size) := Lib.hid ⟨BW2.out.lt, ZW2.out⟩
 have NF1_3 : Hid (Fr B tb w2 w3) := Lib.hid (NF1_2.out.trans ST3.out)
 clear hn hf2 hb2 hfr hfi hsl FL2 BL2 GB2 SF2 FY2 BY2 GY2 ZY2 SW2 FW2 BW2 GW2 ZW2 FRW2 HNT HBY
 have g0 := GB3.out.cell 0
 have HS : Hid (w3.cell? ⟨w.heap.size, 0, none⟩ = some (.pointer (some ⟨F, 0, none⟩))) := Lib.hid (GB3.out.cell 0)
 (refine hK.out _ _ (fun _ => HS.out) ?_; clear hK K)
 refine till_done (by kernel_rfl) ?_ _
 clear HS
 try simp only [Exit.then]
 go_upto_region 4 with fail
 refine region_till (fun W => W.cell? ⟨w.heap.size, 0, none⟩ = some (.pointer (some ⟨F, 0, none⟩))) (fun j => !([0, 1, 2, 3, 4, 5, 6, 7, 8, 9, 10, 11] : List Nat).contains j) (by kernel_rfl) ?_
 obtain ⟨y3, hy3⟩ : ∃ y3, y3 = World.drew w3 := ⟨_, rfl⟩
 rw [← hy3]
 have SF3 : Hid (Fr B tb w3 y3) := Lib.hid (by rw [hy3]; exact Fr.drew B tb w3)
 have FY3 : Hid (FlX B y3 F s3) := Lib.hid (by rw [hy3]; exact FL3.out.drew)
 have BY3 : Hid (Blk y3 tb 27 (L1 ++ ([Value.int .i64 (r1.getD 0 0), v1, v2, Value.int .i64 x.syms, Value.int .i64 x.runs, Value.int .i64 x.cells, vs, vc] ++ L2)).toArray) := Lib.hid (by rw [hy3]; exact BL3.out)
 have GY3 : Hid (Blk y3 w.heap.size 105 #[.pointer (some ⟨F, 0, none⟩)]) := Lib.hid (by rw [hy3]; exact GB3.out)
 have ZY3 : Hid (w.heap.size ≤ y3.heap.size) := Lib.hid (Nat.le_trans FR3.out.size SF3.out.size)
 clear hy3 g0
 have HS : Hid (y3.cell? ⟨w.heap.size, 0, none⟩ = some (.pointer (some ⟨F, 0, none⟩))) := Lib.hid (GY3.out.cell 0)
 refine till_take (i := 0) (v := ?_) rfl (by kernel_rfl) (by kernel_rfl) (by kernel_rfl) (by kernel_rfl) (fun _ _ _ h => h) (Or.inl ⟨by kernel_rfl, ?_⟩) HS.out ?_
 rotate_left
 ·(intro w' hSw; obtain hc0 := hSw; go_simp; try with_reducible rfl)
 refine till_take (i := 1) (v := ?_) rfl (by kernel_rfl) (by kernel_rfl) (by kernel_rfl) (by kernel_rfl) (fun _ _ _ h => h) (Or.inl ⟨by kernel_rfl, ?_⟩) HS.out ?_
 rotate_left
 ·(intro w' hSw; obtain hc0 := hSw; go_simp; try with_reducible rfl)
 refine till_take (i := 2) (v := ?_) rfl (by kernel_rfl) (by kernel_rfl) (by kernel_rfl) (by kernel_rfl) (fun _ _ _ h => h) (Or.inl ⟨by kernel_rfl, ?_⟩) HS.out ?_
 rotate_left
 ·(intro w' hSw; obtain hc0 := hSw; go_simp; try with_reducible rfl)
 refine till_take (i := 3) (v := ?_) rfl (by kernel_rfl) (by kernel_rfl) (by kernel_rfl) (by kernel_rfl) (fun _ _ _ h => h) (Or.inl ⟨by kernel_rfl, ?_⟩) HS.out ?_
 rotate_left
 ·(intro w' hSw; obtain hc0 := hSw; go_simp; try with_reducible rfl)
 refine till_take (i := 4) (v := ?_) rfl (by kernel_rfl) (by kernel_rfl) (by kernel_rfl) (by kernel_rfl) (fun _ _ _ h => h) (Or.inl ⟨by kernel_rfl, ?_⟩) HS.out ?_
 rotate_left
 ·(intro w' hSw; obtain hc0 := hSw; go_simp; try with_reducible rfl)
 refine till_take (i := 5) (v := ?_) rfl (by kernel_rfl) (by kernel_rfl) (by kernel_rfl) (by kernel_rfl) (fun _ _ _ h => h) (Or.inl ⟨by kernel_rfl, ?_⟩) HS.out ?_
 rotate_left
 ·(intro w' hSw; obtain hc0 := hSw; go_simp; try with_reducible rfl)
 refine till_take (i := 6) (v := ?_) rfl (by kernel_rfl) (by kernel_rfl) (by kernel_rfl) (by kernel_rfl) (fun _ _ _ h => h) (Or.inl ⟨by kernel_rfl, ?_⟩) HS.out ?_
 rotate_left
 ·(intro w' hSw; obtain hc0 := hSw; go_simp; try with_reducible rfl)
 refine till_take (i := 7) (v := ?_) rfl (by kernel_rfl) (by kernel_rfl) (by kernel_rfl) (by kernel_rfl) (fun _ _ _ h => h) (Or.inl ⟨by kernel_rfl, ?_⟩) HS.out ?_
 rotate_left
 ·(intro w' hSw; obtain hc0 := hSw; go_simp; try with_reducible rfl)
 refine till_take (i := 8) (v := ?_) rfl (by kernel_rfl) (by kernel_rfl) (by kernel_rfl) (by kernel_rfl) (fun _ _ _ h => h) (Or.inl ⟨by kernel_rfl, ?_⟩) HS.out ?_
 rotate_left
 ·(intro w' hSw; obtain hc0 := hSw; go_simp; try with_reducible rfl)
 refine till_take (i := 9) (v := ?_) rfl (by kernel_rfl) (by kernel_rfl) (by kernel_rfl) (by kernel_rfl) (fun _ _ _ h => h) (Or.inl ⟨by kernel_rfl, ?_⟩) HS.out ?_
 rotate_left
 ·(intro w' hSw; obtain hc0 := hSw; go_simp; try with_reducible rfl)
 refine till_ready (rs := [10]) (by kernel_rfl) (by simp) ?_
 refine TillAll.cons rfl (fun K hK => ?_) TillAll.nil
 go_simp
 obtain ⟨W3, hW3⟩ : ∃ W3, W3 = y3.alloc (.cells #[.pointer (some ⟨tb, off + 3, none⟩), .pointer (some ⟨tb, off + 4, none⟩), .pointer (some ⟨tb, off + 5, none⟩)] 139) := ⟨_, rfl⟩
 rw [← hW3]
 have hal : Below y3.heap.size y3 W3 := by rw [hW3]; exact (Below.refl _ _).alloc (Nat.le_refl _) _
 have GP3 : Hid (Blk W3 y3.heap.size 139 (ptrs tb (off + 3) 3).toArray) := Lib.hid (by rw [hW3]; exact Blk.new _ _ _)
 have HBY : Hid (B ≤ y3.heap.size) := Lib.hid (Nat.le_trans HBW.out ZY3.out)
 have SW3 : Hid (Fr B tb w3 W3) := Lib.hid (SF3.out.trans (Fr.below HBY.out hal))
 have FW3 : Hid (FlX B W3 F s3) := Lib.hid (FY3.out.below hal)
 have BW3 : Hid (Blk W3 tb 27 ((L1 ++ [Value.int .i64 (r1.getD 0 0), v1, v2]) ++ ([Value.int .i64 x.syms, Value.int .i64 x.runs, Value.int .i64 x.cells] ++ ([vs, vc] ++ L2))).toArray) := Lib.hid (by have h := BY3.out.below hal BY3.out.lt; simpa [List.append_assoc] using h)
 have GW3 : Hid (Blk W3 w.heap.size 105 #[.pointer (some ⟨F, 0, none⟩)]) := Lib.hid (GY3.out.below hal GY3.out.lt)
 have ZW3 : Hid (w.heap.size ≤ W3.heap.size) := Lib.hid (Nat.le_trans ZY3.out hal.size)
 have HNT : Hid (tb < y3.heap.size) := Lib.hid BY3.out.lt
 have FRW3 : Hid (Fr B tb w W3) := Lib.hid (FR3.out.trans SW3.out)
 have HS : Hid (W3.cell? ⟨w.heap.size, 0, none⟩ = some (.pointer (some ⟨F, 0, none⟩))) := Lib.hid (GW3.out.cell 0)
 clear hal hW3
 (refine hK.out _ _ (fun _ => HS.out) ?_; clear hK K)
 refine till_ready (rs := [11]) (by kernel_rfl) (by simp) ?_
 refine TillAll.cons rfl (fun K hK => ?_) TillAll.nil
 have CC3 := Lib.hid (ints_step B F tb 27 (L1 ++ [Value.int .i64 (r1.getD 0 0), v1, v2]) ([vs, vc] ++ L2) (off + 3) s3 [x.syms, x.runs, x.cells] W3 y3.heap.size 3 FW3.out HT.out (by intro a ha; simp at ha; rcases ha with rfl | rfl | rfl <;> assumption) BW3.out (by rw [List.length_append, HO.out]; rfl) HB.out (Nat.le_trans HBW.out ZW3.out) (kin_up KN3.out HUP.out) (by have h1 := RM3.out; have h2 := HRM.out; simp only [List.length_cons, List.length_nil]; omega) GP3.out (by have := HNT.out; omega) (by simp))
 go_simp
 go_wp2_with (go_at_call 74; refine CC3.out.mono ?_; rintro e w4 (⟨s4, r4, vs, hn, rfl, hf2, hb2, rfl, hfr⟩ | ⟨hn, ec, rfl, he, hbe⟩))
 rotate_left
 ·exact ⟨rfl, .inr ⟨(by simp only [tabF, HN1.out, HN2.out, HN3.out, hn, Option.bind_some, Option.bind_none]), ec, rfl, kin_err KN3.out he, FRW3.out.trans hbe⟩⟩
 have hlen := len3 (fine_run fine_num _ _ _ _ hn).2.2
 rw [hlen] at hb2
 clear hlen
 have HN4 := Lib.hid hn
 have FL4 := Lib.hid hf2
 have BL4 : Hid (Blk w4 tb 27 (L1 ++ ([Value.int .i64 (r1.getD 0 0), v1, v2, Value.int .i64 (r4.getD 0 0), Value.int .i64 (r4.getD 1 0), Value.int .i64 (r4.getD 2 0), vs, vc] ++ L2)).toArray) := Lib.hid (by have h := hb2; simpa [I64, List.append_assoc] using h)
 have ST4 : Hid (Fr B tb w3 w4) := Lib.hid (SW3.out.trans hfr)
 have FR4 : Hid (Fr B tb w w4) := Lib.hid (FRW3.out.trans hfr)
 have GB4 : Hid (Blk w4 w.heap.size 105 #[.pointer (some ⟨F, 0, none⟩)]) := Lib.hid (hfr.2 _ _ _ HGN.out hot_pf GW3.out)
 have hfi := fine_runs (k := 3) rfl hn
 have KN4 : Hid (st.kin s4) := Lib.hid (kin_trans KN3.out hfi.2)
 have RM4 : Hid (s4.room ≤ st.room + 10506300) := Lib.hid (by have h1 := hfi.1; have h2 := RM3.out; omega)
 have NF1_4 : Hid (Fr B tb w2 w4) := Lib.hid (NF1_3.out.trans ST4.out)
 have NF2_4 : Hid (Fr B tb w3 w4) := Lib.hid (NF2_3.out.trans ST4.out)
 clear hn hf2 hb2 hfr hfi FL3 BL3 GB3 SF3 FY3 BY3 GY3 ZY3 SW3 FW3 BW3 GW3 ZW3 FRW3 HNT HBY GP3
 have g0 := GB4.out.cell 0
 have HS : Hid (w4.cell? ⟨w.heap.size, 0, none⟩ = some (.pointer (some ⟨F, 0, none⟩))) := Lib.hid (GB4.out.cell 0)
 (refine hK.out _ _ (fun _ => HS.out) ?_; clear hK K)
 refine till_done (by kernel_rfl) ?_ _
 clear HS
 try simp only [Exit.then]
 go_upto_region 5 with fail
 refine region_till (fun W => W.cell? ⟨w.heap.size, 0, none⟩ = some (.pointer (some ⟨F, 0, none⟩))) (fun j => !([0, 1, 2, 3, 4, 5, 6] : List Nat).contains j) (by kernel_rfl) ?_
 obtain ⟨y4, hy4⟩ : ∃ y4, y4 = World.drew w4 := ⟨_, rfl⟩
 rw [← hy4]
 have SF4 : Hid (Fr B tb w4 y4) := Lib.hid (by rw [hy4]; exact Fr.drew B tb w4)
 have FY4 : Hid (FlX B y4 F s4) := Lib.hid (by rw [hy4]; exact FL4.out.drew)
 have BY4 : Hid (Blk y4 tb 27 (L1 ++ ([Value.int .i64 (r1.getD 0 0), v1, v2, Value.int .i64 (r4.getD 0 0), Value.int .i64 (r4.getD 1 0), Value.int .i64 (r4.getD 2 0), vs, vc] ++ L2)).toArray) := Lib.hid (by rw [hy4]; exact BL4.out)
 have GY4 : Hid (Blk y4 w.heap.size 105 #[.pointer (some ⟨F, 0, none⟩)]) := Lib.hid (by rw [hy4]; exact GB4.out)
 have ZY4 : Hid (w.heap.size ≤ y4.heap.size) := Lib.hid (Nat.le_trans FR4.out.size SF4.out.size)
 clear hy4 g0
 have HS : Hid (y4.cell? ⟨w.heap.size, 0, none⟩ = some (.pointer (some ⟨F, 0, none⟩))) := Lib.hid (GY4.out.cell 0)
 refine till_take (i := 0) (v := ?_) rfl (by kernel_rfl) (by kernel_rfl) (by kernel_rfl) (by kernel_rfl) (fun _ _ _ h => h) (Or.inl ⟨by kernel_rfl, ?_⟩) HS.out ?_
 rotate_left
 ·(intro w' hSw; obtain hc0 := hSw; go_simp; try with_reducible rfl)
 refine till_take (i := 1) (v := ?_) rfl (by kernel_rfl) (by kernel_rfl) (by kernel_rfl) (by kernel_rfl) (fun _ _ _ h => h) (Or.inl ⟨by kernel_rfl, ?_⟩) HS.out ?_
 rotate_left
 ·(intro w' hSw; obtain hc0 := hSw; go_simp; try with_reducible rfl)
 refine till_take (i := 2) (v := ?_) rfl (by kernel_rfl) (by kernel_rfl) (by kernel_rfl) (by kernel_rfl) (fun _ _ _ h => h) (Or.inl ⟨by kernel_rfl, ?_⟩) HS.out ?_
 rotate_left
 ·(intro w' hSw; obtain hc0 := hSw; go_simp; try with_reducible rfl)
 refine till_take (i := 3) (v := ?_) rfl (by kernel_rfl) (by kernel_rfl) (by kernel_rfl) (by kernel_rfl) (fun _ _ _ h => h) (Or.inl ⟨by kernel_rfl, ?_⟩) HS.out ?_
 rotate_left
 ·(intro w' hSw; obtain hc0 := hSw; go_simp; try with_reducible rfl)
 refine till_take (i := 4) (v := ?_) rfl (by kernel_rfl) (by kernel_rfl) (by kernel_rfl) (by kernel_rfl) (fun _ _ _ h => h) (Or.inl ⟨by kernel_rfl, ?_⟩) HS.out ?_
 rotate_left
 ·(intro w' hSw; obtain hc0 := hSw; go_simp; try with_reducible rfl)
 refine till_take (i := 5) (v := ?_) rfl (by kernel_rfl) (by kernel_rfl) (by kernel_rfl) (by kernel_rfl) (fun _ _ _ h => h) (Or.inl ⟨by kernel_rfl, ?_⟩) HS.out ?_
 rotate_left
 ·(intro w' hSw; obtain hc0 := hSw; go_simp; try with_reducible rfl)
 refine till_ready (rs := [6]) (by kernel_rfl) (by simp) ?_
 refine TillAll.cons rfl (fun K hK => ?_) TillAll.nil
 obtain ⟨W4, hW4⟩ : ∃ W4, W4 = y4 := ⟨_, rfl⟩
 have hal : Below y4.heap.size y4 W4 := by rw [hW4]; exact Below.refl _ _
 try rw [← hW4]
 have HBY : Hid (B ≤ y4.heap.size) := Lib.hid (Nat.le_trans HBW.out ZY4.out)
 have SW4 : Hid (Fr B tb w4 W4) := Lib.hid (SF4.out.trans (Fr.below HBY.out hal))
 have FW4 : Hid (FlX B W4 F s4) := Lib.hid (FY4.out.below hal)
 have BW4 : Hid (Blk W4 tb 27 ((L1 ++ [Value.int .i64 (r1.getD 0 0), v1, v2, Value.int .i64 (r4.getD 0 0), Value.int .i64 (r4.getD 1 0), Value.int .i64 (r4.getD 2 0)]) ++ ([vs] ++ ([vc] ++ L2))).toArray) := Lib.hid (by have h := BY4.out.below hal BY4.out.lt; simpa [List.append_assoc] using h)
 have GW4 : Hid (Blk W4 w.heap.size 105 #[.pointer (some ⟨F, 0, none⟩)]) := Lib.hid (GY4.out.below hal GY4.out.lt)
 have ZW4 : Hid (w.heap.size ≤ W4.heap.size) := Lib.hid (Nat.le_trans ZY4.out hal.size)
 have HNT : Hid (tb < y4.heap.size) := Lib.hid BY4.out.lt
 have FRW4 : Hid (Fr B tb w W4) := Lib.hid (FR4.out.trans SW4.out)
 have HS : Hid (W4.cell? ⟨w.heap.size, 0, none⟩ = some (.pointer (some ⟨F, 0, none⟩))) := Lib.hid (GW4.out.cell 0)
 clear hal hW4
 have CC4 := Lib.hid (list_R B F tb 27 (L1 ++ [Value.int .i64 (r1.getD 0 0), v1, v2, Value.int .i64 (r4.getD 0 0), Value.int .i64 (r4.getD 1 0), Value.int .i64 (r4.getD 2 0)]) ([vc] ++ L2) (off + 6) s4 x.states vs W4  RowQ noCap rowF zRow (21600000) keeps_row onec_R zero_R (one_R B F) fine_row noCap_list noCap_new FW4.out HT.out (slq_old HSS.out keeps_row FRW4.out) BW4.out (by rw [List.length_append, HO.out]; rfl) HB.out (Nat.le_trans HBW.out ZW4.out) (kin_up KN4.out HUP.out) (by have h1 := RM4.out; have h2 := HRM.out; omega))
 go_simp
 go_wp2_with (go_at_call 80; refine CC4.out.mono ?_; rintro e w5 (⟨s5, r5, vs, hn, rfl, hf2, hb2, ⟨v4, rfl, hsl⟩, hfr⟩ | ⟨hn, ec, rfl, he, hbe⟩))
 rotate_left
 ·exact ⟨rfl, .inr ⟨(by simp only [tabF, HN1.out, HN2.out, HN3.out, HN4.out, hn, Option.bind_some, Option.bind_none]), ec, rfl, kin_err KN4.out he, FRW4.out.trans hbe⟩⟩
 have HN5 := Lib.hid hn
 have FL5 := Lib.hid hf2
 have BL5 : Hid (Blk w5 tb 27 (L1 ++ ([Value.int .i64 (r1.getD 0 0), v1, v2, Value.int .i64 (r4.getD 0 0), Value.int .i64 (r4.getD 1 0), Value.int .i64 (r4.getD 2 0), v4, vc] ++ L2)).toArray) := Lib.hid (by have h := hb2; simpa [I64, List.append_assoc] using h)
 have ST5 : Hid (Fr B tb w4 w5) := Lib.hid (SW4.out.trans hfr)
 have FR5 : Hid (Fr B tb w w5) := Lib.hid (FRW4.out.trans hfr)
 have GB5 : Hid (Blk w5 w.heap.size 105 #[.pointer (some ⟨F, 0, none⟩)]) := Lib.hid (hfr.2 _ _ _ HGN.out hot_pf GW4.out)
 have hfi := fine_list (zero := zRow) fine_row _ _ _ _ hn
 have KN5 : Hid (st.kin s5) := Lib.hid (kin_trans KN4.out hfi.2)
 have RM5 : Hid (s5.room ≤ st.room + 22128906310) := Lib.hid (by have h1 := hfi.1; have h2 := RM4.out; omega)
 have NW4 := Lib.hid hsl
 have NF4_5 : Hid (Fr B tb w5 w5) := Lib.hid (Fr.refl _ _ _)
 have NZ4 : Hid (tb < W4.heap.size ∧ w.heap.size ≤ W4.heap.size) := Lib.hid ⟨BW4.out.lt, ZW4.out⟩
 have NF1_5 : Hid (Fr B tb w2 w5) := Lib.hid (NF1_4.out.trans ST5.out)
 have NF2_5 : Hid (Fr B tb w3 w5) := Lib.hid (NF2_4.out.trans ST5.out)
 clear hn hf2 hb2 hfr hfi hsl FL4 BL4 GB4 SF4 FY4 BY4 GY4 ZY4 SW4 FW4 BW4 GW4 ZW4 FRW4 HNT HBY
 have g0 := GB5.out.cell 0
 have HS : Hid (w5.cell? ⟨w.heap.size, 0, none⟩ = some (.pointer (some ⟨F, 0, none⟩))) := Lib.hid (GB5.out.cell 0)
 (refine hK.out _ _ (fun _ => HS.out) ?_; clear hK K)
 refine till_done (by kernel_rfl) ?_ _
 clear HS
 try simp only [Exit.then]
 go_upto_region 6 with fail
 refine region_till (fun W => W.cell? ⟨w.heap.size, 0, none⟩ = some (.pointer (some ⟨F, 0, none⟩))) (fun j => !([0, 1, 2, 3, 4, 5, 6] : List Nat).contains j) (by kernel_rfl) ?_
 obtain ⟨y5, hy5⟩ : ∃ y5, y5 = World.drew w5 := ⟨_, rfl⟩
 rw [← hy5]
 have SF5 : Hid (Fr B tb w5 y5) := Lib.hid (by rw [hy5]; exact Fr.drew B tb w5)
 have FY5 : Hid (FlX B y5 F s5) := Lib.hid (by rw [hy5]; exact FL5.out.drew)
 have BY5 : Hid (Blk y5 tb 27 (L1 ++ ([Value.int .i64 (r1.getD 0 0), v1, v2, Value.int .i64 (r4.getD 0 0), Value.int .i64 (r4.getD 1 0), Value.int .i64 (r4.getD 2 0), v4, vc] ++ L2)).toArray) := Lib.hid (by rw [hy5]; exact BL5.out)
 have GY5 : Hid (Blk y5 w.heap.size 105 #[.pointer (some ⟨F, 0, none⟩)]) := Lib.hid (by rw [hy5]; exact GB5.out)
 have ZY5 : Hid (w.heap.size ≤ y5.heap.size) := Lib.hid (Nat.le_trans FR5.out.size SF5.out.size)
 clear hy5 g0
 have HS : Hid (y5.cell? ⟨w.heap.size, 0, none⟩ = some (.pointer (some ⟨F, 0, none⟩))) := Lib.hid (GY5.out.cell 0)
 refine till_take (i := 0) (v := ?_) rfl (by kernel_rfl) (by kernel_rfl) (by kernel_rfl) (by kernel_rfl) (fun _ _ _ h => h) (Or.inl ⟨by kernel_rfl, ?_⟩) HS.out ?_
 rotate_left
 ·(intro w' hSw; obtain hc0 := hSw; go_simp; try with_reducible rfl)
 refine till_take (i := 1) (v := ?_) rfl (by kernel_rfl) (by kernel_rfl) (by kernel_rfl) (by kernel_rfl) (fun _ _ _ h => h) (Or.inl ⟨by kernel_rfl, ?_⟩) HS.out ?_
 rotate_left
 ·(intro w' hSw; obtain hc0 := hSw; go_simp; try with_reducible rfl)
 refine till_take (i := 2) (v := ?_) rfl (by kernel_rfl) (by kernel_rfl) (by kernel_rfl) (by kernel_rfl) (fun _ _ _ h => h) (Or.inl ⟨by kernel_rfl, ?_⟩) HS.out ?_
 rotate_left
 ·(intro w' hSw; obtain hc0 := hSw; go_simp; try with_reducible rfl)
 refine till_take (i := 3) (v := ?_) rfl (by kernel_rfl) (by kernel_rfl) (by kernel_rfl) (by kernel_rfl) (fun _ _ _ h => h) (Or.inl ⟨by kernel_rfl, ?_⟩) HS.out ?_
 rotate_left
 ·(intro w' hSw; obtain hc0 := hSw; go_simp; try with_reducible rfl)
 refine till_take (i := 4) (v := ?_) rfl (by kernel_rfl) (by kernel_rfl) (by kernel_rfl) (by kernel_rfl) (fun _ _ _ h => h) (Or.inl ⟨by kernel_rfl, ?_⟩) HS.out ?_
 rotate_left
 ·(intro w' hSw; obtain hc0 := hSw; go_simp; try with_reducible rfl)
 refine till_take (i := 5) (v := ?_) rfl (by kernel_rfl) (by kernel_rfl) (by kernel_rfl) (by kernel_rfl) (fun _ _ _ h => h) (Or.inl ⟨by kernel_rfl, ?_⟩) HS.out ?_
 rotate_left
 ·(intro w' hSw; obtain hc0 := hSw; go_simp; try with_reducible rfl)
 refine till_ready (rs := [6]) (by kernel_rfl) (by simp) ?_
 refine TillAll.cons rfl (fun K hK => ?_) TillAll.nil
 obtain ⟨W5, hW5⟩ : ∃ W5, W5 = y5 := ⟨_, rfl⟩
 have hal : Below y5.heap.size y5 W5 := by rw [hW5]; exact Below.refl _ _
 try rw [← hW5]
 have HBY : Hid (B ≤ y5.heap.size) := Lib.hid (Nat.le_trans HBW.out ZY5.out)
 have SW5 : Hid (Fr B tb w5 W5) := Lib.hid (SF5.out.trans (Fr.below HBY.out hal))
 have FW5 : Hid (FlX B W5 F s5) := Lib.hid (FY5.out.below hal)
 have BW5 : Hid (Blk W5 tb 27 ((L1 ++ [Value.int .i64 (r1.getD 0 0), v1, v2, Value.int .i64 (r4.getD 0 0), Value.int .i64 (r4.getD 1 0), Value.int .i64 (r4.getD 2 0), v4]) ++ ([vc] ++ L2)).toArray) := Lib.hid (by have h := BY5.out.below hal BY5.out.lt; simpa [List.append_assoc] using h)
 have GW5 : Hid (Blk W5 w.heap.size 105 #[.pointer (some ⟨F, 0, none⟩)]) := Lib.hid (GY5.out.below hal GY5.out.lt)
 have ZW5 : Hid (w.heap.size ≤ W5.heap.size) := Lib.hid (Nat.le_trans ZY5.out hal.size)
 have HNT : Hid (tb < y5.heap.size) := Lib.hid BY5.out.lt
 have FRW5 : Hid (Fr B tb w W5) := Lib.hid (FR5.out.trans SW5.out)
 have HS : Hid (W5.cell? ⟨w.heap.size, 0, none⟩ = some (.pointer (some ⟨F, 0, none⟩))) := Lib.hid (GW5.out.cell 0)
 clear hal hW5
 have CC5 := Lib.hid (list_C B F tb 27 (L1 ++ [Value.int .i64 (r1.getD 0 0), v1, v2, Value.int .i64 (r4.getD 0 0), Value.int .i64 (r4.getD 1 0), Value.int .i64 (r4.getD 2 0), v4]) L2 (off + 7) s5 x.codes vc W5  CodeQ noCap codeF zCode (200000) keeps_code onec_C zero_C (one_C B F) fine_code noCap_list noCap_new FW5.out HT.out (slq_old HSC.out keeps_code FRW5.out) BW5.out (by rw [List.length_append, HO.out]; rfl) HB.out (Nat.le_trans HBW.out ZW5.out) (kin_up KN5.out HUP.out) (by have h1 := RM5.out; have h2 := HRM.out; omega))
 go_simp
 go_wp2_with (go_at_call 82; refine CC5.out.mono ?_; rintro e w6 (⟨s6, r6, vs, hn, rfl, hf2, hb2, ⟨v5, rfl, hsl⟩, hfr⟩ | ⟨hn, ec, rfl, he, hbe⟩))
 rotate_left
 ·exact ⟨rfl, .inr ⟨(by simp only [tabF, HN1.out, HN2.out, HN3.out, HN4.out, HN5.out, hn, Option.bind_some, Option.bind_none]), ec, rfl, kin_err KN5.out he, FRW5.out.trans hbe⟩⟩
 have HN6 := Lib.hid hn
 have FL6 := Lib.hid hf2
 have BL6 : Hid (Blk w6 tb 27 (L1 ++ ([Value.int .i64 (r1.getD 0 0), v1, v2, Value.int .i64 (r4.getD 0 0), Value.int .i64 (r4.getD 1 0), Value.int .i64 (r4.getD 2 0), v4, v5] ++ L2)).toArray) := Lib.hid (by have h := hb2; simpa [I64, List.append_assoc] using h)
 have ST6 : Hid (Fr B tb w5 w6) := Lib.hid (SW5.out.trans hfr)
 have FR6 : Hid (Fr B tb w w6) := Lib.hid (FRW5.out.trans hfr)
 have GB6 : Hid (Blk w6 w.heap.size 105 #[.pointer (some ⟨F, 0, none⟩)]) := Lib.hid (hfr.2 _ _ _ HGN.out hot_pf GW5.out)
 have hfi := fine_list (zero := zCode) fine_code _ _ _ _ hn
 have KN6 : Hid (st.kin s6) := Lib.hid (kin_trans KN5.out hfi.2)
 have RM6 : Hid (s6.room ≤ st.room + 22333706320) := Lib.hid (by have h1 := hfi.1; have h2 := RM5.out; omega)
 have NW5 := Lib.hid hsl
 have NF5_6 : Hid (Fr B tb w6 w6) := Lib.hid (Fr.refl _ _ _)
 have NZ5 : Hid (tb < W5.heap.size ∧ w.heap.size ≤ W5.heap.size) := Lib.hid ⟨BW5.out.lt, ZW5.out⟩
 have NF1_6 : Hid (Fr B tb w2 w6) := Lib.hid (NF1_5.out.trans ST6.out)
 have NF2_6 : Hid (Fr B tb w3 w6) := Lib.hid (NF2_5.out.trans ST6.out)
 have NF4_6 : Hid (Fr B tb w5 w6) := Lib.hid (NF4_5.out.trans ST6.out)
 clear hn hf2 hb2 hfr hfi hsl FL5 BL5 GB5 SF5 FY5 BY5 GY5 ZY5 SW5 FW5 BW5 GW5 ZW5 FRW5 HNT HBY
 have g0 := GB6.out.cell 0
 have HS : Hid (w6.cell? ⟨w.heap.size, 0, none⟩ = some (.pointer (some ⟨F, 0, none⟩))) := Lib.hid (GB6.out.cell 0)
 (refine hK.out _ _ (fun _ => HS.out) ?_; clear hK K)
 refine till_done (by kernel_rfl) ?_ _
 clear HS
 try simp only [Exit.then]
 go_wp2_with fail
 go_end0
 exact .inl ⟨s6, ⟨r1.getD 0 0, r2, r3, r4.getD 0 0, r4.getD 1 0, r4.getD 2 0, r5, r6⟩, [Value.int .i64 (r1.getD 0 0), v1, v2, Value.int .i64 (r4.getD 0 0), Value.int .i64 (r4.getD 1 0), Value.int .i64 (r4.getD 2 0), v4, v5], (by simp only [tabF, HN1.out, HN2.out, HN3.out, HN4.out, HN5.out, HN6.out, Option.bind_some]), rfl, FL6.out, BL6.out, ⟨rfl, _, _, _, _, rfl, (slq_next NW1.out keeps_int NF1_6.out NZ1.out.1 NZ1.out.2), (slq_next NW2.out keeps_ints NF2_6.out NZ2.out.1 NZ2.out.2), (slq_next NW4.out keeps_row NF4_6.out NZ4.out.1 NZ4.out.2), (slq_next NW5.out keeps_code NF5_6.out NZ5.out.1 NZ5.out.2), runs_wf HN1.out 0, runs_wf HN4.out 0, runs_wf HN4.out 1, runs_wf HN4.out 2⟩, FR6.out⟩
end Go.Proofs.Ytioocaicmiggoaa

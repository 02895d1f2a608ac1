/-
  The walks of the flow's number and bits.
-/
import Derived.Test.YtabndfkkbmhhjaaFst
namespace Go.Proofs.Ytabndfkkbmhhjaa
set_option linter.unusedVariables false
set_option linter.unusedSimpArgs false
open Go.RowKit Go.Deep

theorem wr_out {B F tb : Nat} {t : TypeId} {cs : Array Value} {w wi w2 : World} {bs m : List UInt8} {v v' : Value} {n : Nat} (hF : B ≤ F) (h1 : Blk w F 62 #[.pointer none, v, .bool false]) (h2 : OwnB B w v bs) (hB : B ≤ w.heap.size) (hb : Below w.heap.size w wi)
    (ho : w2.ownsRow B 5 1 v' n (bv bs ++ bv m)) (hn : n = bs.length + m.length) (hg : wi.grownBy w2 v.ownBlock) (ht : ¬ hot t) (hc : Blk w tb t cs) : FlX B (w2.setCell ⟨F, 1, none⟩ v') F (.wr (bs ++ m)) ∧ Blk (w2.setCell ⟨F, 1, none⟩ v') tb t cs ∧ Fr B tb w (w2.setCell ⟨F, 1, none⟩ v') := by
  have t1 : 5 ≠ t := fun e => ht (.inl e.symm)
  have t2 : t ≠ 62 := fun e => ht (.inr (.inl e))
  have k1 : Blk w2 F 62 #[.pointer none, v, .bool false] := (h1.below hb h1.lt).grown hg (fun e => h2.ne h1 (by decide) e.symm)
  subst hn
  have ty : ∀ b t cs, ¬ hot t → Blk w b t cs → Blk (w2.setCell ⟨F, 1, none⟩ v') b t cs := fun b t cs ht hb1 => by
    have u1 : 5 ≠ t := fun e => ht (.inl e.symm)
    have u2 : t ≠ 62 := fun e => ht (.inr (.inl e))
    exact ((hb1.below hb hb1.lt).grown hg (fun e => h2.ne hb1 u1 e.symm)).far (p := ⟨F, 1, none⟩) (Blk.ne_ hb1 h1 u2) v'
  refine ⟨⟨hF, v', k1.set_ 1 _, ?_⟩, ty tb t cs ht hc, ⟨?_, fun b t cs _ ht hb1 => ty b t cs ht hb1⟩⟩
  · refine .inl ?_
    rw [bv_app, List.length_append]
    exact own_far2 ho (own_blk_ne ho k1 (by decide)) _
  · exact ((hb.mono hB).grown hg (Nat.le_trans hB hb.size) (fun q hq => (h2.lt hq).2)).setCell hF _
theorem rd_out {B F tb : Nat} {t : TypeId} {cs : Array Value} {w w2 : World} {R : Nat} {A : Option Addr} {n c p q : Nat} {l : List UInt8} (h : FlX B w F (.rd R A n c l p)) (hg : w.grownBy w2 (some R)) (hr : Rdr w2 R A n c q) (hq : q ≤ n) (ht : ¬ hot t) (hc : Blk w tb t cs) (hB : B ≤ tb) (hup : R ≤ tb) (i : Nat) (u : Value) :
    FlX B (w2.setCell ⟨tb, i, none⟩ u) F (.rd R A n c l q) ∧ Blk (w2.setCell ⟨tb, i, none⟩ u) tb t (cs.setIfInBounds i u) ∧ Fr B tb w (w2.setCell ⟨tb, i, none⟩ u) := by
  obtain ⟨h1, h2, h3, h4, h5, h6, h7, h8⟩ := h
  have t3 : t ≠ 99 := fun e => ht (.inr (.inr e))
  have hR : R < w.heap.size := Blk.lt h4
  have ne3 : F ≠ R := Blk.ne_ h3 h4 (by decide)
  have ty : ∀ b t cs, ¬ hot t → Blk w b t cs → Blk w2 b t cs := fun b t cs ht hb1 => hb1.grown hg (fun e => by injection e with e; exact Blk.ne_ hb1 h4 (fun e => ht (.inr (.inr e))) e)
  have hc2 := ty tb t cs ht hc
  have hf : FlX B w2 F (.rd R A n c l q) := ⟨h1, h2, h3.grown hg (fun e => by injection e with e; exact ne3 e), hr, h5.grown hg (by omega) (fun g hg => by injection hg with hg; omega), h6, hq, h8⟩
  exact ⟨hf.set_ ht hc2 (fun _ _ _ _ _ _ e => by injection e with e; omega) i u, hc2.set_ i u, ⟨(Below.refl _ _).grown hg (by have := hc.lt; omega) (fun g hg => by injection hg with hg; omega) |>.setCell hB u, fun b t cs hne ht hb1 => (ty b t cs ht hb1).far (p := ⟨tb, i, none⟩) hne u⟩⟩
theorem rd_fail {B F : Nat} {w w2 : World} {R : Nat} {A : Option Addr} {n c p : Nat} {l : List UInt8} (h : FlX B w F (.rd R A n c l p)) (hg : w.grownBy w2 (some R)) (tb : Nat) : Fr B tb w w2 := by
  obtain ⟨h1, h2, h3, h4, _⟩ := h
  exact ⟨(Below.refl _ _).grown hg (by have := Blk.lt h4; omega) (fun g hg => by injection hg with hg; omega), fun b t cs _ ht hb1 => hb1.grown hg (fun e => by injection e with e; exact Blk.ne_ hb1 h4 (fun e => ht (.inr (.inr e))) e)⟩
theorem num_rd {R : Nat} {A : Option Addr} {n c p : Nat} {l : List UInt8} (a : Int) : num (.rd R A n c l p) a = if 0 < fstK (l.drop p) ∧ -1 ≤ zag (fstV (l.drop p)) ∧ zag (fstV (l.drop p)) ≤ 1152921504606846976 then some (.rd R A n c l (p + fstK (l.drop p)), zag (fstV (l.drop p))) else none := by
  unfold num
  rcases hd : dec (l.drop p) with _ | ⟨v, k⟩
  · obtain ⟨e1, e2⟩ := fst_none hd
    rw [e2]; simp [hd]
  · obtain ⟨e1, e2⟩ := fst_some hd
    have hk := dec_pos hd
    rw [e1, e2]
    simp only [hd]
    by_cases h : -1 ≤ zag v ∧ zag v ≤ 1152921504606846976
    · rw [if_pos (by simp [numOk, h.1, h.2]), if_pos ⟨by omega, h⟩]
    · rw [if_neg (by simpa [numOk] using h), if_neg (fun h2 => h h2.2)]
theorem fst_le (l : List UInt8) (p n : Nat) (hn : l.length = n) (hp : p ≤ n) : p + fstK (l.drop p) ≤ n := by
  rcases hd : dec (l.drop p) with _ | ⟨v, k⟩
  · rw [(fst_none hd).2]; omega
  · rw [(fst_some hd).2]
    have := (dec_take hd).1
    rw [List.length_drop] at this
    omega

set_option maxRecDepth 100000 in
set_option maxHeartbeats 4000000 in
theorem number_step (B F tb : Nat) (t : TypeId) (L1 L2 : List Value) (off : Nat) (st : FSt) (a : Int) (w : World) (hf : FlX B w F st) (ht : ¬ hot t) (hw : wfi a) (hc : Blk w tb t (L1 ++ ([Value.int .i64 a] ++ L2)).toArray) (ho : L1.length = off) (hB : B ≤ tb) (hBw : B ≤ w.heap.size) (hup : st.rdUp tb) (hroom : st.room + 10 ≤ 1000000000000) :
    Calls Try.prog 54 #[.pointer (some ⟨F, 0, none⟩), .pointer (some ⟨tb, off, none⟩)] w (FlP B F tb t L1 L2 IntR st (num st a) w) := by
  have c0 : w.cell? ⟨tb, off, none⟩ = some (.int .i64 a) := (hc.cell off).trans (list_at ho)
  have z0 := hc.frozen off
  have HC := Lib.hid hc
  have HFL := Lib.hid hf
  have HT := Lib.hid ht
  have HO := Lib.hid ho
  have HB := Lib.hid hB
  have HUP := Lib.hid hup
  have HRM0 := Lib.hid hroom
  have HBW := Lib.hid hBw
  have HWW := Lib.hid hw
  clear hc hf ht ho hB hup hroom hBw hw
  cases st with
  | rd R A n c l p =>
    obtain ⟨h1, h2, h3, h4, h5, h6, h7, h8⟩ := HFL.out
    have f0 := h3.cell 0
    have f2 := h3.cell 2
    have CY := Lib.hid (upto_yes (-1) 1152921504606846976 A n c p R l w h6 h7 (by omega) h4 h5)
    have CN := Lib.hid (upto_no (-1) 1152921504606846976 A n c p R l w h6 h7 (by omega) h4 h5)
    have HLE := Lib.hid (fst_le l p n h6 h7)
    have hRup : Hid (R ≤ tb) := Lib.hid (HUP.out _ _ _ _ _ _ rfl)
    rw [num_rd]
    clear h1 h2 h3 h4 h5 h6 h7 h8
    by_cases hv : 0 < fstK (l.drop p) ∧ -1 ≤ zag (fstV (l.drop p)) ∧ zag (fstV (l.drop p)) ≤ 1152921504606846976
    · rw [if_pos hv]
      have C := Lib.hid (CY.out hv)
      obtain ⟨V, hV⟩ : ∃ V, zag (fstV (l.drop p)) = V := ⟨_, rfl⟩
      rw [hV] at C ⊢
      clear CY CN hv hV
      go_enter Try.func54, Try.ntmps54
      go_wp2_with fail
      refine C.out.mono ?_
      rintro e w2 ⟨rfl, hg, hr⟩
      have D := Lib.hid (fun u => rd_out HFL.out hg hr HLE.out HT.out HC.out HB.out hRup.out off u)
      have y0 : w2.cell? ⟨tb, off, none⟩ = some (.int .i64 a) := by
        have hb : Blk w2 tb t _ := HC.out.grown hg (fun e => by injection e with e; exact Blk.ne_ HC.out HFL.out.2.2.2.1 (fun e => HT.out (.inr (.inr e))) e)
        exact (hb.cell off).trans (list_at HO.out)
      have y1 : w2.frozen? ⟨tb, off, none⟩ = false := by
        have hb : Blk w2 tb t _ := HC.out.grown hg (fun e => by injection e with e; exact Blk.ne_ HC.out HFL.out.2.2.2.1 (fun e => HT.out (.inr (.inr e))) e)
        exact hb.frozen off
      clear hg hr c0 z0 f0 f2
      go_wp2_with fail
      go_end0
      refine .inl ⟨_, _, [.int .i64 V], rfl, rfl, (D.out _).1, ?_, rfl, (D.out _).2.2⟩
      have h := (D.out (.int .i64 V)).2.1
      rw [list_set HO.out] at h
      exact h
    · rw [if_neg hv]
      have C := Lib.hid (CN.out hv)
      clear CY CN hv
      go_enter Try.func54, Try.ntmps54
      go_wp2_with fail
      refine C.out.mono ?_
      rintro e w2 ⟨rfl, hg, hr⟩
      have D := Lib.hid (rd_fail HFL.out hg tb)
      clear hg hr c0 z0 f0 f2
      go_wp2_with fail
      exact ⟨rfl, .inr ⟨rfl, 32, rfl, ⟨.inr rfl, fun _ h => by cases h⟩, D.out⟩⟩
  | wr bs =>
    obtain ⟨h1, v, h3, h4⟩ := HFL.out
    have f0 := h3.cell 0
    have f1 := h3.cell 1
    have f2 := h3.cell 2
    have H1 := Lib.hid h1
    have H3 := Lib.hid h3
    have H4 := Lib.hid h4
    obtain ⟨w0, w1⟩ : -9223372036854775808 ≤ a ∧ a ≤ 9223372036854775807 := by have hw := HWW.out; unfold wfi at hw; simp only [Lit.wf, Bool.and_eq_true, decide_eq_true_eq] at hw; exact hw
    have CI := Lib.hid (fun W => int_any a W w0 w1)
    have HRM : Hid (bs.length + 10 ≤ 1000000000000) := HRM0
    clear h1 h3 h4
    by_cases q1 : -1 ≤ a
    · by_cases q2 : a ≤ 1152921504606846976
      · have e : num (.wr bs) a = some (.wr (bs ++ vb (zig a)), a) := by simp [num, numOk, q1, q2]
        rw [e]
        clear e
        obtain ⟨i0, hi, hz0, hz1, hz2⟩ := info_parts infoU8
        go_enter Try.func54, Try.ntmps54
        go_upto_region 7 with fail
        refine wp_region_any (by kernel_rfl) ?_
        change wpAny _ _ _ _ _ _ _ (World.drew _)
        obtain ⟨yo, hyo⟩ : ∃ yo, yo = World.drew w := ⟨_, rfl⟩
        rw [← hyo]
        have HCY : Hid (Blk yo tb t _) := Lib.hid (by rw [hyo]; exact HC.out)
        have H3Y : Hid (Blk yo F 62 _) := Lib.hid (by rw [hyo]; exact H3.out)
        have H4Y : Hid (OwnB B yo v bs) := Lib.hid (by rw [hyo]; exact H4.out)
        have HSZ : Hid (B ≤ yo.heap.size) := Lib.hid (by rw [hyo]; exact HBW.out)
        have HFY : Hid (Fr B tb w yo) := Lib.hid (by rw [hyo]; exact ⟨⟨rfl, rfl, rfl, Nat.le_refl _, fun _ _ => rfl⟩, fun _ _ _ _ _ h => h⟩)
        clear hyo c0 z0 f0 f1 f2
        have c0 : yo.cell? ⟨tb, off, none⟩ = some (.int .i64 a) := (HCY.out.cell off).trans (list_at HO.out)
        have f1 := H3Y.out.cell 1
        refine wpAny_take (i := 0) (v := ?_) rfl (by kernel_rfl) (by kernel_rfl) (by kernel_rfl) (fun _ _ _ h => h) (Or.inl ⟨by kernel_rfl, ?_⟩) ?_
        rotate_left
        · (intro w'; go_simp; try with_reducible rfl)
        refine wpAny_take (i := 1) (v := ?_) rfl (by kernel_rfl) (by kernel_rfl) (by kernel_rfl) (fun _ _ _ h => h) (Or.inl ⟨by kernel_rfl, ?_⟩) ?_
        rotate_left
        · (intro w'; go_simp; try with_reducible rfl)
        refine wpAny_take (i := 2) (v := ?_) rfl (by kernel_rfl) (by kernel_rfl) (by kernel_rfl) (fun _ _ _ h => h) (Or.inl ⟨by kernel_rfl, ?_⟩) ?_
        rotate_left
        · (intro w'; go_simp; try with_reducible rfl)
        refine wpAny_take (i := 3) (v := ?_) rfl (by kernel_rfl) (by kernel_rfl) (by kernel_rfl) (fun _ _ _ h => h) (Or.inl ⟨by kernel_rfl, ?_⟩) ?_
        rotate_left
        · (intro w'; go_simp; try with_reducible rfl)
        refine wpAny_take (i := 5) (v := ?_) rfl (by kernel_rfl) (by kernel_rfl) (by kernel_rfl) (fun _ _ _ h => h) (Or.inl ⟨by kernel_rfl, ?_⟩) ?_
        rotate_left
        · (intro w'; go_simp; try with_reducible rfl)
        refine wpAny_take (i := 6) (v := ?_) rfl (by kernel_rfl) (by kernel_rfl) (by kernel_rfl) (fun _ _ _ h => h) (Or.inl ⟨by kernel_rfl, ?_⟩) ?_
        rotate_left
        · (intro w'; go_simp; try with_reducible rfl)
        refine wpAny_ready (rs := [4, 7]) (by kernel_rfl) (by simp) ?_
        refine AllReady.cons rfl (fun K hK => ?_) ?_
        · skip
          go_simp
          (refine hK _ _ ?_; clear hK K)
          refine wpAny_ready (rs := [7]) (by kernel_rfl) (by simp) ?_
          refine AllReady.cons rfl (fun K hK => ?_) AllReady.nil
          go_simp
          (refine hK _ _ ?_; clear hK K)
          refine wpAny_ready (rs := [8]) (by kernel_rfl) (by simp) ?_
          refine AllReady.cons rfl (fun K hK => ?_) AllReady.nil
          go_simp
          go_wp2_with (go_at_call 67; refine (CI.out _).mono ?_; rintro e wi ⟨gi, ci, rfl, hoi, hbi⟩)
          have HBI : Hid (Below yo.heap.size yo wi) := Lib.hid hbi
          have HOI := Lib.hid hoi
          clear hoi hbi c0 f1
          have c0 : wi.cell? ⟨tb, off, none⟩ = some (.int .i64 a) := ((HCY.out.below HBI.out HCY.out.lt).cell off).trans (list_at HO.out)
          have BI := Lib.hid (H3Y.out.below HBI.out H3Y.out.lt)
          have f1 := BI.out.cell 1
          refine wpAny_ready (rs := [9]) (by kernel_rfl) (by simp) ?_
          refine AllReady.cons rfl (fun K hK => ?_) AllReady.nil
          refine step_append_b (by rfl) (.tmp 41) (.tmp 45) 31 (by rfl) (B := B) (v := v) (l := bs) i0 Try.underlying31 hi hz0 hz1 hz2 (by rfl) (H4Y.out.below HBI.out) wi.heap.size (some ⟨gi, 0, none⟩) (vb (zig a)).length ci (vb (zig a)) (by rfl) (Reads.of_own HOI.out) (vb_len _).1 (by have := HRM.out; have := (vb_len ((zig a))).2; omega) (by have := HBI.out.size; have := HSZ.out; omega) ?_
          intro v' w2 ho hg
          obtain ⟨Av, cv, rfl⟩ := own_slice ho
          have HO2 := Lib.hid ho
          have HG2 := Lib.hid hg
          clear ho hg f1 c0
          have B2 : Hid (Blk w2 F 62 #[.pointer none, v, .bool false]) := Lib.hid (BI.out.grown HG2.out (fun e => H4Y.out.ne H3Y.out (by decide) e.symm))
          have f1 := B2.out.cell 1
          have fz := B2.out.frozen 1
          (refine hK _ _ ?_; clear hK K)
          refine wpAny_take (i := 10) (v := ?_) rfl (by kernel_rfl) (by kernel_rfl) (by kernel_rfl) (fun _ _ _ h => h) (Or.inl ⟨by kernel_rfl, ?_⟩) ?_
          rotate_left
          · (intro w'; go_simp; try with_reducible rfl)
          refine wpAny_take (i := 11) (v := ?_) rfl (by kernel_rfl) (by kernel_rfl) (by kernel_rfl) (fun _ _ _ h => h) (Or.inl ⟨by kernel_rfl, ?_⟩) ?_
          rotate_left
          · (intro w'; go_simp; try with_reducible rfl)
          refine wpAny_ready (rs := [12]) (by kernel_rfl) (by simp) ?_
          refine AllReady.cons rfl (fun K hK => ?_) AllReady.nil
          go_simp
          (refine hK _ _ ?_; clear hK K)
          refine wpAny_done (by kernel_rfl) ?_ _
          go_wp2_with fail
          go_end0
          have D := wr_out H1.out H3Y.out H4Y.out HSZ.out HBI.out HO2.out rfl HG2.out HT.out HCY.out
          exact .inl ⟨_, _, [.int .i64 a], rfl, rfl, D.1, D.2.1, rfl, HFY.out.trans D.2.2⟩
        refine AllReady.cons rfl (fun K hK => ?_) AllReady.nil
        go_simp
        (refine hK _ _ ?_; clear hK K)
        refine wpAny_ready (rs := [4, 8]) (by kernel_rfl) (by simp) ?_
        refine AllReady.cons rfl (fun K hK => ?_) ?_
        · skip
          go_simp
          (refine hK _ _ ?_; clear hK K)
          refine wpAny_ready (rs := [8]) (by kernel_rfl) (by simp) ?_
          refine AllReady.cons rfl (fun K hK => ?_) AllReady.nil
          go_simp
          go_wp2_with (go_at_call 67; refine (CI.out _).mono ?_; rintro e wi ⟨gi, ci, rfl, hoi, hbi⟩)
          have HBI : Hid (Below yo.heap.size yo wi) := Lib.hid hbi
          have HOI := Lib.hid hoi
          clear hoi hbi c0 f1
          have c0 : wi.cell? ⟨tb, off, none⟩ = some (.int .i64 a) := ((HCY.out.below HBI.out HCY.out.lt).cell off).trans (list_at HO.out)
          have BI := Lib.hid (H3Y.out.below HBI.out H3Y.out.lt)
          have f1 := BI.out.cell 1
          refine wpAny_ready (rs := [9]) (by kernel_rfl) (by simp) ?_
          refine AllReady.cons rfl (fun K hK => ?_) AllReady.nil
          refine step_append_b (by rfl) (.tmp 41) (.tmp 45) 31 (by rfl) (B := B) (v := v) (l := bs) i0 Try.underlying31 hi hz0 hz1 hz2 (by rfl) (H4Y.out.below HBI.out) wi.heap.size (some ⟨gi, 0, none⟩) (vb (zig a)).length ci (vb (zig a)) (by rfl) (Reads.of_own HOI.out) (vb_len _).1 (by have := HRM.out; have := (vb_len ((zig a))).2; omega) (by have := HBI.out.size; have := HSZ.out; omega) ?_
          intro v' w2 ho hg
          obtain ⟨Av, cv, rfl⟩ := own_slice ho
          have HO2 := Lib.hid ho
          have HG2 := Lib.hid hg
          clear ho hg f1 c0
          have B2 : Hid (Blk w2 F 62 #[.pointer none, v, .bool false]) := Lib.hid (BI.out.grown HG2.out (fun e => H4Y.out.ne H3Y.out (by decide) e.symm))
          have f1 := B2.out.cell 1
          have fz := B2.out.frozen 1
          (refine hK _ _ ?_; clear hK K)
          refine wpAny_take (i := 10) (v := ?_) rfl (by kernel_rfl) (by kernel_rfl) (by kernel_rfl) (fun _ _ _ h => h) (Or.inl ⟨by kernel_rfl, ?_⟩) ?_
          rotate_left
          · (intro w'; go_simp; try with_reducible rfl)
          refine wpAny_take (i := 11) (v := ?_) rfl (by kernel_rfl) (by kernel_rfl) (by kernel_rfl) (fun _ _ _ h => h) (Or.inl ⟨by kernel_rfl, ?_⟩) ?_
          rotate_left
          · (intro w'; go_simp; try with_reducible rfl)
          refine wpAny_ready (rs := [12]) (by kernel_rfl) (by simp) ?_
          refine AllReady.cons rfl (fun K hK => ?_) AllReady.nil
          go_simp
          (refine hK _ _ ?_; clear hK K)
          refine wpAny_done (by kernel_rfl) ?_ _
          go_wp2_with fail
          go_end0
          have D := wr_out H1.out H3Y.out H4Y.out HSZ.out HBI.out HO2.out rfl HG2.out HT.out HCY.out
          exact .inl ⟨_, _, [.int .i64 a], rfl, rfl, D.1, D.2.1, rfl, HFY.out.trans D.2.2⟩
        refine AllReady.cons rfl (fun K hK => ?_) AllReady.nil
        go_simp
        go_wp2_with (go_at_call 67; refine (CI.out _).mono ?_; rintro e wi ⟨gi, ci, rfl, hoi, hbi⟩)
        have HBI : Hid (Below yo.heap.size yo wi) := Lib.hid hbi
        have HOI := Lib.hid hoi
        clear hoi hbi c0 f1
        have c0 : wi.cell? ⟨tb, off, none⟩ = some (.int .i64 a) := ((HCY.out.below HBI.out HCY.out.lt).cell off).trans (list_at HO.out)
        have BI := Lib.hid (H3Y.out.below HBI.out H3Y.out.lt)
        have f1 := BI.out.cell 1
        refine wpAny_ready (rs := [4]) (by kernel_rfl) (by simp) ?_
        refine AllReady.cons rfl (fun K hK => ?_) AllReady.nil
        go_simp
        (refine hK _ _ ?_; clear hK K)
        refine wpAny_ready (rs := [9]) (by kernel_rfl) (by simp) ?_
        refine AllReady.cons rfl (fun K hK => ?_) AllReady.nil
        refine step_append_b (by rfl) (.tmp 41) (.tmp 45) 31 (by rfl) (B := B) (v := v) (l := bs) i0 Try.underlying31 hi hz0 hz1 hz2 (by rfl) (H4Y.out.below HBI.out) wi.heap.size (some ⟨gi, 0, none⟩) (vb (zig a)).length ci (vb (zig a)) (by rfl) (Reads.of_own HOI.out) (vb_len _).1 (by have := HRM.out; have := (vb_len ((zig a))).2; omega) (by have := HBI.out.size; have := HSZ.out; omega) ?_
        intro v' w2 ho hg
        obtain ⟨Av, cv, rfl⟩ := own_slice ho
        have HO2 := Lib.hid ho
        have HG2 := Lib.hid hg
        clear ho hg f1 c0
        have B2 : Hid (Blk w2 F 62 #[.pointer none, v, .bool false]) := Lib.hid (BI.out.grown HG2.out (fun e => H4Y.out.ne H3Y.out (by decide) e.symm))
        have f1 := B2.out.cell 1
        have fz := B2.out.frozen 1
        (refine hK _ _ ?_; clear hK K)
        refine wpAny_take (i := 10) (v := ?_) rfl (by kernel_rfl) (by kernel_rfl) (by kernel_rfl) (fun _ _ _ h => h) (Or.inl ⟨by kernel_rfl, ?_⟩) ?_
        rotate_left
        · (intro w'; go_simp; try with_reducible rfl)
        refine wpAny_take (i := 11) (v := ?_) rfl (by kernel_rfl) (by kernel_rfl) (by kernel_rfl) (fun _ _ _ h => h) (Or.inl ⟨by kernel_rfl, ?_⟩) ?_
        rotate_left
        · (intro w'; go_simp; try with_reducible rfl)
        refine wpAny_ready (rs := [12]) (by kernel_rfl) (by simp) ?_
        refine AllReady.cons rfl (fun K hK => ?_) AllReady.nil
        go_simp
        (refine hK _ _ ?_; clear hK K)
        refine wpAny_done (by kernel_rfl) ?_ _
        go_wp2_with fail
        go_end0
        have D := wr_out H1.out H3Y.out H4Y.out HSZ.out HBI.out HO2.out rfl HG2.out HT.out HCY.out
        exact .inl ⟨_, _, [.int .i64 a], rfl, rfl, D.1, D.2.1, rfl, HFY.out.trans D.2.2⟩
      · have q2 : 1152921504606846976 < a := by omega
        have e : num (.wr bs) a = none := by
          have h : ¬ numOk a = true := by simp [numOk]; omega
          simp only [num, if_neg h]
        rw [e]
        clear e
        go_enter Try.func54, Try.ntmps54
        go_wp2_with fail
        exact ⟨rfl, .inr ⟨rfl, 3, rfl, ⟨.inl rfl, fun _ _ => rfl⟩, Fr.refl _ _ _⟩⟩
    · have q1 : a < -1 := by omega
      have e : num (.wr bs) a = none := by
        have h : ¬ numOk a = true := by simp [numOk]; omega
        simp only [num, if_neg h]
      rw [e]
      clear e
      go_enter Try.func54, Try.ntmps54
      go_wp2_with fail
      exact ⟨rfl, .inr ⟨rfl, 3, rfl, ⟨.inl rfl, fun _ _ => rfl⟩, Fr.refl _ _ _⟩⟩

set_option maxRecDepth 100000 in
set_option maxHeartbeats 4000000 in
theorem bits_step (B F tb : Nat) (t : TypeId) (L1 L2 : List Value) (off : Nat) (st : FSt) (a : Int) (w : World) (hf : FlX B w F st) (ht : ¬ hot t) (hw : wfu a) (hc : Blk w tb t (L1 ++ ([Value.int .u64 a] ++ L2)).toArray) (ho : L1.length = off) (hB : B ≤ tb) (hBw : B ≤ w.heap.size) (hup : st.rdUp tb) (hroom : st.room + 10 ≤ 1000000000000) :
    Calls Try.prog 63 #[.pointer (some ⟨F, 0, none⟩), .pointer (some ⟨tb, off, none⟩)] w (FlP B F tb t L1 L2 BitR st (bitsF st a) w) := by
  have c0 : w.cell? ⟨tb, off, none⟩ = some (.int .u64 a) := (hc.cell off).trans (list_at ho)
  have z0 := hc.frozen off
  have HC := Lib.hid hc
  have HFL := Lib.hid hf
  have HT := Lib.hid ht
  have HO := Lib.hid ho
  have HB := Lib.hid hB
  have HUP := Lib.hid hup
  have HRM0 := Lib.hid hroom
  have HBW := Lib.hid hBw
  have HWW := Lib.hid hw
  clear hc hf ht ho hB hup hroom hBw hw
  cases st with
  | rd R A n c l p =>
    obtain ⟨h1, h2, h3, h4, h5, h6, h7, h8⟩ := HFL.out
    have f0 := h3.cell 0
    have f2 := h3.cell 2
    have C0 := Lib.hid (runint_any A n c p R l w h6 h7 (by omega) h4 h5)
    have HLE := Lib.hid (fst_le l p n h6 h7)
    have hRup : Hid (R ≤ tb) := Lib.hid (HUP.out _ _ _ _ _ _ rfl)
    clear h1 h2 h3 h4 h5 h6 h7 h8
    rcases hd : dec (l.drop p) with _ | ⟨V, k⟩
    · have e : bitsF (.rd R A n c l p) a = none := by simp only [bitsF, hd]
      rw [e]
      obtain ⟨e1, e2⟩ := fst_none hd
      unfold UPost at C0
      rw [e1, e2, decide_eq_false (by omega)] at C0
      clear e e1 e2 hd
      go_enter Try.func63, Try.ntmps63
      go_wp2_with fail
      refine C0.out.mono ?_
      rintro e w2 ⟨rfl, hg, hr⟩
      have D := Lib.hid (rd_fail HFL.out hg tb)
      clear hg hr c0 z0 f0 f2
      go_wp2_with fail
      exact ⟨rfl, .inr ⟨rfl, 32, rfl, ⟨.inr rfl, fun _ h => by cases h⟩, D.out⟩⟩
    · have e : bitsF (.rd R A n c l p) a = some (FSt.rd R A n c l (p + k), (V : Int)) := by simp only [bitsF, hd]
      rw [e]
      obtain ⟨e1, e2⟩ := fst_some hd
      have hk := dec_pos hd
      have hVl := (dec_take hd).2.2.2
      unfold UPost at C0
      rw [e1, e2, decide_eq_true (by omega)] at C0
      rw [e2] at HLE
      clear e e1 e2 hd
      go_enter Try.func63, Try.ntmps63
      go_wp2_with fail
      refine C0.out.mono ?_
      rintro e w2 ⟨rfl, hg, hr⟩
      have D := Lib.hid (fun u => rd_out HFL.out hg hr HLE.out HT.out HC.out HB.out hRup.out off u)
      have hbt : Blk w2 tb t _ := HC.out.grown hg (fun e => by injection e with e; exact Blk.ne_ HC.out HFL.out.2.2.2.1 (fun e => HT.out (.inr (.inr e))) e)
      have y0 : w2.cell? ⟨tb, off, none⟩ = some (.int .u64 a) := (hbt.cell off).trans (list_at HO.out)
      have y1 : w2.frozen? ⟨tb, off, none⟩ = false := hbt.frozen off
      clear hg hr c0 z0 f0 f2 hbt
      go_wp2_with fail
      go_end0
      refine .inl ⟨_, _, [.int .u64 V], rfl, rfl, (D.out _).1, ?_, ⟨rfl, ?_⟩, (D.out _).2.2⟩
      · have h := (D.out (.int .u64 V)).2.1
        rw [list_set HO.out] at h
        exact h
      · unfold wfu; simp only [Lit.wf, Bool.and_eq_true, decide_eq_true_eq]; exact ⟨show (0 : Int) ≤ V by omega, show (V : Int) ≤ 18446744073709551615 by omega⟩
  | wr bs =>
    obtain ⟨h1, v, h3, h4⟩ := HFL.out
    have f0 := h3.cell 0
    have f1 := h3.cell 1
    have f2 := h3.cell 2
    have H1 := Lib.hid h1
    have H3 := Lib.hid h3
    have H4 := Lib.hid h4
    obtain ⟨w0, w1⟩ : 0 ≤ a ∧ a ≤ 18446744073709551615 := by have hw := HWW.out; unfold wfu at hw; simp only [Lit.wf, Bool.and_eq_true, decide_eq_true_eq] at hw; exact hw
    have HWU := HWW
    obtain ⟨an, rfl⟩ : ∃ an : Nat, a = an := ⟨a.toNat, by omega⟩
    have CI := Lib.hid (fun W => uint_any an W (by omega))
    have HRM : Hid (bs.length + 10 ≤ 1000000000000) := HRM0
    have e : bitsF (.wr bs) an = some (.wr (bs ++ vb an), (an : Int)) := by simp [bitsF]
    rw [e]
    obtain ⟨i0, hi, hz0, hz1, hz2⟩ := info_parts infoU8
    clear h1 h3 h4 e
    go_enter Try.func63, Try.ntmps63
    go_upto_region 1 with fail
    refine wp_region_any (by kernel_rfl) ?_
    change wpAny _ _ _ _ _ _ _ (World.drew _)
    obtain ⟨yo, hyo⟩ : ∃ yo, yo = World.drew w := ⟨_, rfl⟩
    rw [← hyo]
    have HCY : Hid (Blk yo tb t _) := Lib.hid (by rw [hyo]; exact HC.out)
    have H3Y : Hid (Blk yo F 62 _) := Lib.hid (by rw [hyo]; exact H3.out)
    have H4Y : Hid (OwnB B yo v bs) := Lib.hid (by rw [hyo]; exact H4.out)
    have HSZ : Hid (B ≤ yo.heap.size) := Lib.hid (by rw [hyo]; exact HBW.out)
    have HFY : Hid (Fr B tb w yo) := Lib.hid (by rw [hyo]; exact ⟨⟨rfl, rfl, rfl, Nat.le_refl _, fun _ _ => rfl⟩, fun _ _ _ _ _ h => h⟩)
    clear hyo c0 z0 f0 f1 f2
    have c0 : yo.cell? ⟨tb, off, none⟩ = some (.int .u64 an) := (HCY.out.cell off).trans (list_at HO.out)
    have f1 := H3Y.out.cell 1
    refine wpAny_take (i := 0) (v := ?_) rfl (by kernel_rfl) (by kernel_rfl) (by kernel_rfl) (fun _ _ _ h => h) (Or.inl ⟨by kernel_rfl, ?_⟩) ?_
    rotate_left
    · (intro w'; go_simp; try with_reducible rfl)
    refine wpAny_take (i := 1) (v := ?_) rfl (by kernel_rfl) (by kernel_rfl) (by kernel_rfl) (fun _ _ _ h => h) (Or.inl ⟨by kernel_rfl, ?_⟩) ?_
    rotate_left
    · (intro w'; go_simp; try with_reducible rfl)
    refine wpAny_take (i := 2) (v := ?_) rfl (by kernel_rfl) (by kernel_rfl) (by kernel_rfl) (fun _ _ _ h => h) (Or.inl ⟨by kernel_rfl, ?_⟩) ?_
    rotate_left
    · (intro w'; go_simp; try with_reducible rfl)
    refine wpAny_take (i := 3) (v := ?_) rfl (by kernel_rfl) (by kernel_rfl) (by kernel_rfl) (fun _ _ _ h => h) (Or.inl ⟨by kernel_rfl, ?_⟩) ?_
    rotate_left
    · (intro w'; go_simp; try with_reducible rfl)
    refine wpAny_take (i := 5) (v := ?_) rfl (by kernel_rfl) (by kernel_rfl) (by kernel_rfl) (fun _ _ _ h => h) (Or.inl ⟨by kernel_rfl, ?_⟩) ?_
    rotate_left
    · (intro w'; go_simp; try with_reducible rfl)
    refine wpAny_take (i := 6) (v := ?_) rfl (by kernel_rfl) (by kernel_rfl) (by kernel_rfl) (fun _ _ _ h => h) (Or.inl ⟨by kernel_rfl, ?_⟩) ?_
    rotate_left
    · (intro w'; go_simp; try with_reducible rfl)
    refine wpAny_ready (rs := [4, 7]) (by kernel_rfl) (by simp) ?_
    refine AllReady.cons rfl (fun K hK => ?_) ?_
    · skip
      go_simp
      (refine hK _ _ ?_; clear hK K)
      refine wpAny_ready (rs := [7]) (by kernel_rfl) (by simp) ?_
      refine AllReady.cons rfl (fun K hK => ?_) AllReady.nil
      go_simp
      (refine hK _ _ ?_; clear hK K)
      refine wpAny_ready (rs := [8]) (by kernel_rfl) (by simp) ?_
      refine AllReady.cons rfl (fun K hK => ?_) AllReady.nil
      go_simp
      go_wp2_with (go_at_call 70; refine (CI.out _).mono ?_; rintro e wi ⟨gi, ci, rfl, hoi, hbi⟩)
      have HBI : Hid (Below yo.heap.size yo wi) := Lib.hid hbi
      have HOI := Lib.hid hoi
      clear hoi hbi c0 f1
      have c0 : wi.cell? ⟨tb, off, none⟩ = some (.int .u64 an) := ((HCY.out.below HBI.out HCY.out.lt).cell off).trans (list_at HO.out)
      have BI := Lib.hid (H3Y.out.below HBI.out H3Y.out.lt)
      have f1 := BI.out.cell 1
      refine wpAny_ready (rs := [9]) (by kernel_rfl) (by simp) ?_
      refine AllReady.cons rfl (fun K hK => ?_) AllReady.nil
      refine step_append_b (by rfl) (.tmp 15) (.tmp 19) 31 (by rfl) (B := B) (v := v) (l := bs) i0 Try.underlying31 hi hz0 hz1 hz2 (by rfl) (H4Y.out.below HBI.out) wi.heap.size (some ⟨gi, 0, none⟩) (vb an).length ci (vb an) (by rfl) (Reads.of_own HOI.out) (vb_len _).1 (by have := HRM.out; have := (vb_len (an)).2; omega) (by have := HBI.out.size; have := HSZ.out; omega) ?_
      intro v' w2 ho hg
      obtain ⟨Av, cv, rfl⟩ := own_slice ho
      have HO2 := Lib.hid ho
      have HG2 := Lib.hid hg
      clear ho hg f1 c0
      have B2 : Hid (Blk w2 F 62 #[.pointer none, v, .bool false]) := Lib.hid (BI.out.grown HG2.out (fun e => H4Y.out.ne H3Y.out (by decide) e.symm))
      have f1 := B2.out.cell 1
      have fz := B2.out.frozen 1
      (refine hK _ _ ?_; clear hK K)
      refine wpAny_take (i := 10) (v := ?_) rfl (by kernel_rfl) (by kernel_rfl) (by kernel_rfl) (fun _ _ _ h => h) (Or.inl ⟨by kernel_rfl, ?_⟩) ?_
      rotate_left
      · (intro w'; go_simp; try with_reducible rfl)
      refine wpAny_take (i := 11) (v := ?_) rfl (by kernel_rfl) (by kernel_rfl) (by kernel_rfl) (fun _ _ _ h => h) (Or.inl ⟨by kernel_rfl, ?_⟩) ?_
      rotate_left
      · (intro w'; go_simp; try with_reducible rfl)
      refine wpAny_ready (rs := [12]) (by kernel_rfl) (by simp) ?_
      refine AllReady.cons rfl (fun K hK => ?_) AllReady.nil
      go_simp
      (refine hK _ _ ?_; clear hK K)
      refine wpAny_done (by kernel_rfl) ?_ _
      go_wp2_with fail
      go_end0
      have D := wr_out H1.out H3Y.out H4Y.out HSZ.out HBI.out HO2.out rfl HG2.out HT.out HCY.out
      exact .inl ⟨_, _, [.int .u64 an], rfl, rfl, D.1, D.2.1, ⟨rfl, HWU.out⟩, HFY.out.trans D.2.2⟩
    refine AllReady.cons rfl (fun K hK => ?_) AllReady.nil
    go_simp
    (refine hK _ _ ?_; clear hK K)
    refine wpAny_ready (rs := [4, 8]) (by kernel_rfl) (by simp) ?_
    refine AllReady.cons rfl (fun K hK => ?_) ?_
    · skip
      go_simp
      (refine hK _ _ ?_; clear hK K)
      refine wpAny_ready (rs := [8]) (by kernel_rfl) (by simp) ?_
      refine AllReady.cons rfl (fun K hK => ?_) AllReady.nil
      go_simp
      go_wp2_with (go_at_call 70; refine (CI.out _).mono ?_; rintro e wi ⟨gi, ci, rfl, hoi, hbi⟩)
      have HBI : Hid (Below yo.heap.size yo wi) := Lib.hid hbi
      have HOI := Lib.hid hoi
      clear hoi hbi c0 f1
      have c0 : wi.cell? ⟨tb, off, none⟩ = some (.int .u64 an) := ((HCY.out.below HBI.out HCY.out.lt).cell off).trans (list_at HO.out)
      have BI := Lib.hid (H3Y.out.below HBI.out H3Y.out.lt)
      have f1 := BI.out.cell 1
      refine wpAny_ready (rs := [9]) (by kernel_rfl) (by simp) ?_
      refine AllReady.cons rfl (fun K hK => ?_) AllReady.nil
      refine step_append_b (by rfl) (.tmp 15) (.tmp 19) 31 (by rfl) (B := B) (v := v) (l := bs) i0 Try.underlying31 hi hz0 hz1 hz2 (by rfl) (H4Y.out.below HBI.out) wi.heap.size (some ⟨gi, 0, none⟩) (vb an).length ci (vb an) (by rfl) (Reads.of_own HOI.out) (vb_len _).1 (by have := HRM.out; have := (vb_len (an)).2; omega) (by have := HBI.out.size; have := HSZ.out; omega) ?_
      intro v' w2 ho hg
      obtain ⟨Av, cv, rfl⟩ := own_slice ho
      have HO2 := Lib.hid ho
      have HG2 := Lib.hid hg
      clear ho hg f1 c0
      have B2 : Hid (Blk w2 F 62 #[.pointer none, v, .bool false]) := Lib.hid (BI.out.grown HG2.out (fun e => H4Y.out.ne H3Y.out (by decide) e.symm))
      have f1 := B2.out.cell 1
      have fz := B2.out.frozen 1
      (refine hK _ _ ?_; clear hK K)
      refine wpAny_take (i := 10) (v := ?_) rfl (by kernel_rfl) (by kernel_rfl) (by kernel_rfl) (fun _ _ _ h => h) (Or.inl ⟨by kernel_rfl, ?_⟩) ?_
      rotate_left
      · (intro w'; go_simp; try with_reducible rfl)
      refine wpAny_take (i := 11) (v := ?_) rfl (by kernel_rfl) (by kernel_rfl) (by kernel_rfl) (fun _ _ _ h => h) (Or.inl ⟨by kernel_rfl, ?_⟩) ?_
      rotate_left
      · (intro w'; go_simp; try with_reducible rfl)
      refine wpAny_ready (rs := [12]) (by kernel_rfl) (by simp) ?_
      refine AllReady.cons rfl (fun K hK => ?_) AllReady.nil
      go_simp
      (refine hK _ _ ?_; clear hK K)
      refine wpAny_done (by kernel_rfl) ?_ _
      go_wp2_with fail
      go_end0
      have D := wr_out H1.out H3Y.out H4Y.out HSZ.out HBI.out HO2.out rfl HG2.out HT.out HCY.out
      exact .inl ⟨_, _, [.int .u64 an], rfl, rfl, D.1, D.2.1, ⟨rfl, HWU.out⟩, HFY.out.trans D.2.2⟩
    refine AllReady.cons rfl (fun K hK => ?_) AllReady.nil
    go_simp
    go_wp2_with (go_at_call 70; refine (CI.out _).mono ?_; rintro e wi ⟨gi, ci, rfl, hoi, hbi⟩)
    have HBI : Hid (Below yo.heap.size yo wi) := Lib.hid hbi
    have HOI := Lib.hid hoi
    clear hoi hbi c0 f1
    have c0 : wi.cell? ⟨tb, off, none⟩ = some (.int .u64 an) := ((HCY.out.below HBI.out HCY.out.lt).cell off).trans (list_at HO.out)
    have BI := Lib.hid (H3Y.out.below HBI.out H3Y.out.lt)
    have f1 := BI.out.cell 1
    refine wpAny_ready (rs := [4]) (by kernel_rfl) (by simp) ?_
    refine AllReady.cons rfl (fun K hK => ?_) AllReady.nil
    go_simp
    (refine hK _ _ ?_; clear hK K)
    refine wpAny_ready (rs := [9]) (by kernel_rfl) (by simp) ?_
    refine AllReady.cons rfl (fun K hK => ?_) AllReady.nil
    refine step_append_b (by rfl) (.tmp 15) (.tmp 19) 31 (by rfl) (B := B) (v := v) (l := bs) i0 Try.underlying31 hi hz0 hz1 hz2 (by rfl) (H4Y.out.below HBI.out) wi.heap.size (some ⟨gi, 0, none⟩) (vb an).length ci (vb an) (by rfl) (Reads.of_own HOI.out) (vb_len _).1 (by have := HRM.out; have := (vb_len (an)).2; omega) (by have := HBI.out.size; have := HSZ.out; omega) ?_
    intro v' w2 ho hg
    obtain ⟨Av, cv, rfl⟩ := own_slice ho
    have HO2 := Lib.hid ho
    have HG2 := Lib.hid hg
    clear ho hg f1 c0
    have B2 : Hid (Blk w2 F 62 #[.pointer none, v, .bool false]) := Lib.hid (BI.out.grown HG2.out (fun e => H4Y.out.ne H3Y.out (by decide) e.symm))
    have f1 := B2.out.cell 1
    have fz := B2.out.frozen 1
    (refine hK _ _ ?_; clear hK K)
    refine wpAny_take (i := 10) (v := ?_) rfl (by kernel_rfl) (by kernel_rfl) (by kernel_rfl) (fun _ _ _ h => h) (Or.inl ⟨by kernel_rfl, ?_⟩) ?_
    rotate_left
    · (intro w'; go_simp; try with_reducible rfl)
    refine wpAny_take (i := 11) (v := ?_) rfl (by kernel_rfl) (by kernel_rfl) (by kernel_rfl) (fun _ _ _ h => h) (Or.inl ⟨by kernel_rfl, ?_⟩) ?_
    rotate_left
    · (intro w'; go_simp; try with_reducible rfl)
    refine wpAny_ready (rs := [12]) (by kernel_rfl) (by simp) ?_
    refine AllReady.cons rfl (fun K hK => ?_) AllReady.nil
    go_simp
    (refine hK _ _ ?_; clear hK K)
    refine wpAny_done (by kernel_rfl) ?_ _
    go_wp2_with fail
    go_end0
    have D := wr_out H1.out H3Y.out H4Y.out HSZ.out HBI.out HO2.out rfl HG2.out HT.out HCY.out
    exact .inl ⟨_, _, [.int .u64 an], rfl, rfl, D.1, D.2.1, ⟨rfl, HWU.out⟩, HFY.out.trans D.2.2⟩
end Go.Proofs.Ytabndfkkbmhhjaa

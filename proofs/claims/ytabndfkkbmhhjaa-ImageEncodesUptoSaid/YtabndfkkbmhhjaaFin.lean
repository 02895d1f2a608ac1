/-
  The walks of the flow's ints and flag.
-/
import Derived.Test.YtabndfkkbmhhjaaFnu
namespace Go.Proofs.Ytabndfkkbmhhjaa
set_option linter.unusedVariables false
set_option linter.unusedSimpArgs false
open Go.RowKit Go.Deep

def I64 (x : Int) : Value := Value.int .i64 x
theorem num_ok {st st' : FSt} {a y : Int} (h : num st a = some (st', y)) : numOk y = true := by
  cases st with
  | rd R A n c l p =>
    simp only [num] at h
    split at h
    · split at h
      · cases h; assumption
      · cases h
    · cases h
  | wr bs =>
    simp only [num] at h
    split at h
    · cases h; assumption
    · cases h
theorem numOk_wf {y : Int} (h : numOk y = true) : wfi y := by
  simp only [numOk, Bool.and_eq_true, decide_eq_true_eq] at h
  unfold wfi; simp only [Lit.wf, Bool.and_eq_true, decide_eq_true_eq]
  exact ⟨show (-9223372036854775808 : Int) ≤ y by omega, show y ≤ (9223372036854775807 : Int) by omega⟩
theorem runs_ok : ∀ {ns : List Int} {st st' : FSt} {ys : List Int}, runL num st ns = some (st', ys) → ∀ y ∈ ys, numOk y = true := by
  intro ns
  induction ns with
  | nil => intro st st' ys h y hy; simp only [runL] at h; cases h; cases hy
  | cons x xs ih =>
    intro st st' ys h y hy
    simp only [runL] at h
    split at h
    · cases h
    · rename_i s z hs
      split at h
      · cases h
      · rename_i s2 zs hz
        cases h
        rcases List.mem_cons.1 hy with rfl | hy
        · exact num_ok hs
        · exact ih hz y hy
/-- pointers at cells one behind the other -/
def ptrs (tb off n : Nat) : List Value := (List.range n).map fun j => Value.pointer (some ⟨tb, off + j, none⟩)
def IntsR (_ : World) (vs : List Value) (ys : List Int) : Prop := vs = ys.map I64
theorem hot_int : ¬ hot 3 := by unfold hot; decide
theorem hot_i64 : ¬ hot 2 := by unfold hot; decide
theorem hot_pi : ¬ hot 107 := by unfold hot; decide

set_option maxRecDepth 100000 in
set_option maxHeartbeats 4000000 in
theorem ints_step (B F tb : Nat) (t : TypeId) (L1 L2 : List Value) (off : Nat) (st : FSt) (ns : List Int) (w : World) (g c : Nat) (hf : FlX B w F st) (ht : ¬ hot t) (hw : ∀ a ∈ ns, wfi a) (hc : Blk w tb t (L1 ++ (ns.map I64 ++ L2)).toArray) (ho : L1.length = off) (hB : B ≤ tb) (hBw : B ≤ w.heap.size) (hup : st.rdUp tb)
    (hroom : st.room + 10 * ns.length ≤ 1000000000000) (hg : Blk w g 107 (ptrs tb off ns.length).toArray) (hgt : g ≠ tb) (hl : ns.length ≤ 1000) :
    Calls Try.prog 43 #[.pointer (some ⟨F, 0, none⟩), .slice (some ⟨g, 0, none⟩) ns.length c] w (FlP B F tb t L1 L2 IntsR st (runL num st ns) w) := by
  have HF := Lib.hid hf
  have HT := Lib.hid ht
  have HW := Lib.hid hw
  have HC := Lib.hid hc
  have HO := Lib.hid ho
  have HB := Lib.hid hB
  have HBW := Lib.hid hBw
  have HUP := Lib.hid hup
  have HRM := Lib.hid hroom
  have HG := Lib.hid hg
  have HGT := Lib.hid hgt
  have nn : (0 : Int) ≤ (ns.length : Int) := by omega
  clear hf ht hw hc ho hB hBw hup hroom hg hgt
  go_enter Try.func43, Try.ntmps43
  go_wp2_with fail
  go_loopw [9] (fun i wr => ∃ r : Nat, r ≤ ns.length ∧ i = .int .i64 r ∧ Hid (∃ s ys, runL num st (ns.take r) = some (s, ys) ∧ FlX B wr F s ∧ Blk wr tb t (L1 ++ ((ys.map I64 ++ (ns.drop r).map I64) ++ L2)).toArray ∧ Fr B tb w wr)) (fun i _ => ns.length - (intOf i).toNat)
  case atStart => exact ⟨0, Nat.zero_le _, rfl, Lib.hid ⟨st, [], by simp [runL], HF.out, by simpa using HC.out, Fr.refl _ _ _⟩⟩
  case round =>
    obtain ⟨r, hr, rfl, hX⟩ := hrel
    obtain ⟨s, ys, h1, h2, h3, h4⟩ := hX.out
    by_cases hlt : r < ns.length
    · obtain ⟨a, ha⟩ : ∃ a, ns[r]? = some a := ⟨_, List.getElem?_eq_getElem hlt⟩
      have had : ns.drop r = a :: ns.drop (r + 1) := by
        rw [List.getElem?_eq_some_iff] at ha
        obtain ⟨hx, hy⟩ := ha
        rw [← hy]; exact List.drop_eq_getElem_cons hx
      obtain ⟨fr1, fr2, fr3⟩ := fine_run fine_num _ _ _ _ h1
      have hyl : ys.length = r := by rw [fr3, List.length_take]; omega
      have hsr : s.room + 10 ≤ 1000000000000 := by rw [List.length_take] at fr1; have := HRM.out; omega
      have hgr := h4.2 g _ _ HGT.out hot_pi HG.out
      have p0 : wr.cell? ⟨g, r, none⟩ = some (.pointer (some ⟨tb, off + r, none⟩)) := (hgr.cell r).trans (by unfold ptrs; simp [hlt])
      have hLL : (L1 ++ ys.map I64).length = off + r := by rw [List.length_append, HO.out, List.length_map, hyl]
      rw [had] at h3
      have h3' : Blk wr tb t ((L1 ++ ys.map I64) ++ ([Value.int .i64 a] ++ ((ns.drop (r + 1)).map I64 ++ L2))).toArray := by
        have e : (L1 ++ ys.map I64) ++ ([Value.int .i64 a] ++ ((ns.drop (r + 1)).map I64 ++ L2)) = L1 ++ ((ys.map I64 ++ (a :: ns.drop (r + 1)).map I64) ++ L2) := by simp [I64, List.append_assoc]
        rw [e]; exact h3
      have q0 : wr.cell? ⟨tb, off + r, none⟩ = some (.int .i64 a) := (h3'.cell _).trans (list_at hLL)
      obtain ⟨W, hW⟩ : ∃ W, W = wr.alloc (.cells #[.int .i64 a] 2) := ⟨_, rfl⟩
      have hba : Below wr.heap.size wr W := by rw [hW]; exact (Below.refl _ _).alloc (Nat.le_refl _) _
      have hBr : B ≤ wr.heap.size := Nat.le_trans HBW.out h4.size
      have hbx : Blk W wr.heap.size 2 ([] ++ ([Value.int .i64 a] ++ [])).toArray := by rw [hW]; exact Blk.new _ _ _
      have hfW : FlX B W F s := h2.below hba
      have CN := Lib.hid (number_step B F wr.heap.size 2 [] [] 0 s a W hfW hot_i64 (HW.out a (List.mem_of_getElem? ha)) hbx rfl hBr (Nat.le_trans hBr hba.size) (h2.rdUp (Nat.le_refl _)) hsr)
      have HFW : Hid (Fr B tb w W) := Lib.hid (h4.trans (Fr.below hBr hba))
      have H3W : Hid (Blk W tb t ((L1 ++ ys.map I64) ++ ([Value.int .i64 a] ++ ((ns.drop (r + 1)).map I64 ++ L2))).toArray) := Lib.hid (h3'.below hba h3'.lt)
      have HLL := Lib.hid hLL
      have HNE : Hid (tb ≠ wr.heap.size) := Lib.hid (by have := h3.lt; omega)
      have HRT : Hid (runL num st (ns.take (r + 1)) = ((num s a).map fun q => (q.1, ys ++ [q.2]))) := Lib.hid (run_take _ _ _ _ _ _ ha h1)
      have HK := Lib.hid fr2
      have HSZ : Hid (w.heap.size ≤ wr.heap.size) := Lib.hid h4.size
      clear h1 h2 h3 h4 ha had fr1 fr2 fr3 hsr hgr hLL h3' hba hBr hbx hfW hX hyl
      go_upto_region 4 with fail
      rw [← hW]
      clear hW p0
      go_wp2_with fail
      refine CN.out.mono ?_
      rintro e w2 (⟨s2, y, vs, hn, rfl, hf2, hb2, rfl, hfr⟩ | ⟨hn, ec, rfl, he, hbe⟩)
      · have H3B := Lib.hid (hfr.2 tb t _ HNE.out HT.out H3W.out)
        have x0 : w2.cell? ⟨wr.heap.size, 0, none⟩ = some (.int .i64 y) := hb2.cell 0
        have q0 : w2.cell? ⟨tb, off + r, none⟩ = some (.int .i64 a) := (H3B.out.cell _).trans (list_at HLL.out)
        have q1 := H3B.out.frozen (off + r)
        have hy := Lib.hid hn
        have HF2 := Lib.hid hf2
        have HFR := Lib.hid hfr
        have HSZW : Hid (wr.heap.size ≤ wr.heap.size) := Lib.hid (Nat.le_refl _)
        clear hn hf2 hb2 hfr
        go_wp2_with fail
        go_roundw
        case rel =>
          have hb4 : Blk (w2.setCell ⟨tb, off + r, none⟩ (.int .i64 y)) tb t (L1 ++ (((ys ++ [y]).map I64 ++ (ns.drop (r + 1)).map I64) ++ L2)).toArray := by
            have h := H3B.out.set_ (off + r) (.int .i64 y)
            rw [list_set HLL.out] at h
            have e : (L1 ++ ys.map I64) ++ ([Value.int .i64 y] ++ ((ns.drop (r + 1)).map I64 ++ L2)) = L1 ++ (((ys ++ [y]).map I64 ++ (ns.drop (r + 1)).map I64) ++ L2) := by simp [I64, List.append_assoc]
            rw [← e]; exact h
          have hf4 : FlX B (w2.setCell ⟨tb, off + r, none⟩ (.int .i64 y)) F s2 := HF2.out.set_ HT.out H3B.out (kin_up (kin_trans HK.out (fine_num _ _ _ _ hy.out).2) HUP.out) _ _
          have hr4 : Fr B tb w (w2.setCell ⟨tb, off + r, none⟩ (.int .i64 y)) := (HFW.out.new HFR.out HSZ.out).set_ HB.out _ _
          have H8 : Hid (∃ s ys, runL num st (ns.take (r + 1)) = some (s, ys) ∧ FlX B (w2.setCell ⟨tb, off + r, none⟩ (.int .i64 y)) F s ∧ Blk (w2.setCell ⟨tb, off + r, none⟩ (.int .i64 y)) tb t (L1 ++ ((ys.map I64 ++ (ns.drop (r + 1)).map I64) ++ L2)).toArray ∧ Fr B tb w (w2.setCell ⟨tb, off + r, none⟩ (.int .i64 y))) :=
            Lib.hid ⟨s2, ys ++ [y], by rw [HRT.out, hy.out]; rfl, hf4, hb4, hr4⟩
          first | exact ⟨r + 1, by omega, by go_num, H8⟩ | ((repeat apply Exists.intro); exact ⟨⟨r + 1, by omega, by go_num, H8⟩, rfl⟩)
        case measure => simp [intOf]; omega
      · have hno : runL num st ns = none := run_none ns (r + 1) st (by rw [HRT.out, hn]; rfl)
        have hbe2 := HFW.out.new hbe HSZ.out
        have HNO := Lib.hid hno
        have HE := Lib.hid (kin_err HK.out he)
        have HBE := Lib.hid hbe2
        clear hn he hbe hno hbe2
        go_wp2_with fail
        exact ⟨rfl, .inr ⟨HNO.out, ec, rfl, HE.out, HBE.out⟩⟩
    · obtain rfl : r = ns.length := by omega
      rw [List.take_length] at h1
      rw [List.drop_length] at h3
      have H1 := Lib.hid h1
      have H2 := Lib.hid h2
      have H3 := Lib.hid h3
      have H4 := Lib.hid h4
      clear h1 h2 h3 h4 hX
      go_wp2_with fail
      go_end0
      exact .inl ⟨s, ys, ys.map I64, H1.out, rfl, H2.out, by have h := H3.out; simpa using h, rfl, H4.out⟩
end Go.Proofs.Ytabndfkkbmhhjaa

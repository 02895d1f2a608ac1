/-
  The walk of the flow's flag.
-/
import Derived.Test.YtabndfkkbmhhjaaFin
namespace Go.Proofs.Ytabndfkkbmhhjaa
set_option linter.unusedVariables false
set_option linter.unusedSimpArgs false
open Go.RowKit Go.Deep

def bInt (b : Bool) : Int := if b then 1 else 0
def flagF (st : FSt) (b : Bool) : Option (FSt × Bool) := match num st (bInt b) with
  | none => none
  | some (s, n) => if n = 0 then some (s, false) else if n = 1 then some (s, true) else none
def BoolR (_ : World) (vs : List Value) (x : Bool) : Prop := vs = [.bool x]
theorem fine_flag : Fine flagF 10 := by
  rintro st x st' y h
  unfold flagF at h
  split at h
  · cases h
  · rename_i s n hs
    have := fine_num _ _ _ _ hs
    split at h
    · cases h; exact this
    · split at h
      · cases h; exact this
      · cases h
theorem run_one {st : FSt} {a : Int} : runL num st [a] = (num st a).map fun q => (q.1, [q.2]) := by
  simp only [runL]
  cases num st a with
  | none => rfl
  | some q => rfl
theorem num_wr {bs : List UInt8} {a y : Int} {s : FSt} (h : num (.wr bs) a = some (s, y)) : y = a := by
  simp only [num] at h
  split at h
  · cases h; rfl
  · cases h

set_option maxRecDepth 100000 in
set_option maxHeartbeats 4000000 in
theorem flag_step (B F tb : Nat) (t : TypeId) (L1 L2 : List Value) (off : Nat) (st : FSt) (b : Bool) (w : World) (hf : FlX B w F st) (ht : ¬ hot t) (hc : Blk w tb t (L1 ++ ([Value.bool b] ++ L2)).toArray) (ho : L1.length = off) (hB : B ≤ tb) (hBw : B ≤ w.heap.size) (hup : st.rdUp tb) (hroom : st.room + 10 ≤ 1000000000000) :
    Calls Try.prog 55 #[.pointer (some ⟨F, 0, none⟩), .pointer (some ⟨tb, off, none⟩)] w (FlP B F tb t L1 L2 BoolR st (flagF st b) w) := by
  have c0 : w.cell? ⟨tb, off, none⟩ = some (.bool b) := (hc.cell off).trans (list_at ho)
  have HF := Lib.hid hf
  have HT := Lib.hid ht
  have HO := Lib.hid ho
  have HB := Lib.hid hB
  have HUP := Lib.hid hup
  have HBW := Lib.hid hBw
  have HC := Lib.hid hc
  have main : ∀ (W : World), Fr B tb w W → W.heap.size = w.heap.size + 1 → Blk W w.heap.size 3 #[.int .i64 (bInt b)] → FlX B W F st → Blk W tb t (L1 ++ ([Value.bool b] ++ L2)).toArray →
      Calls Try.prog 43 #[.pointer (some ⟨F, 0, none⟩), .slice (some ⟨W.heap.size, 0, none⟩) 1 1] (W.alloc (.cells #[.pointer (some ⟨w.heap.size, 0, none⟩)] 107)) (fun e w' => (∃ s y, num st (bInt b) = some (s, y) ∧ e = .returned (.tuple #[]) ∧ FlX B w' F s ∧ Blk w' w.heap.size 3 #[.int .i64 y] ∧ Blk w' tb t (L1 ++ ([Value.bool b] ++ L2)).toArray ∧ Fr B tb w w') ∨ (num st (bInt b) = none ∧ ∃ ec, e = .panicked (stopP ec) ∧ errOk st ec ∧ Fr B tb w w')) := fun W hW hs hb hfW hbt => by
    have ha : Below W.heap.size W (W.alloc (.cells #[.pointer (some ⟨w.heap.size, 0, none⟩)] 107)) := (Below.refl _ _).alloc (Nat.le_refl _) _
    have hlt := hc.lt
    refine (ints_step B F w.heap.size 3 [] [] 0 st [bInt b] _ W.heap.size 1 (hfW.below ha) hot_int (by intro a h; simp at h; subst h; cases b <;> (unfold bInt wfi; decide)) (hb.below ha hb.lt) rfl hBw (by simp; omega) (hf.rdUp (Nat.le_refl _)) (by simpa using hroom) (Blk.new W _ _) (by omega) (by simp)).mono ?_
    rintro e w' (⟨s, ys, vs, h1, rfl, h2, h3, rfl, h4⟩ | ⟨h1, ec, rfl, h2, h3⟩)
    · rw [run_one] at h1
      rcases hn : num st (bInt b) with _ | ⟨s2, y⟩
      · rw [hn] at h1; cases h1
      · rw [hn] at h1
        simp only [Option.map_some] at h1
        cases h1
        have h5 : Fr B tb w w' := (hW.trans (Fr.below (by omega) ha)).new h4 (Nat.le_refl _)
        have h6 : Blk (W.alloc (.cells #[.pointer (some ⟨w.heap.size, 0, none⟩)] 107)) tb t (L1 ++ ([Value.bool b] ++ L2)).toArray := hbt.below ha hbt.lt
        exact .inl ⟨_, y, rfl, rfl, h2, h3, h4.2 tb t _ (by omega) ht h6, h5⟩
    · rw [run_one] at h1
      rcases hn : num st (bInt b) with _ | ⟨s2, y⟩
      · exact .inr ⟨rfl, ec, rfl, h2, (hW.trans (Fr.below (by omega) ha)).new h3 (Nat.le_refl _)⟩
      · rw [hn] at h1; cases h1
  have HM := Lib.hid main
  clear hf ht hc ho hB hup hBw hroom main
  have z0 := HC.out.frozen off
  have ca : ∀ o, (w.alloc o).cell? ⟨tb, off, none⟩ = some (.bool b) := fun o => ((HC.out.alloc o).cell off).trans (list_at HO.out)
  cases b with
  | false =>
    go_enter Try.func55, Try.ntmps55
    go_upto_region 3 with fail
    obtain ⟨W, hW⟩ : ∃ W, W = w.alloc (.cells #[.int .i64 0] 3) := ⟨_, rfl⟩
    rw [← hW]
    have ha : Below w.heap.size w W := by
      rw [hW]
      exact (Below.refl _ _).alloc (Nat.le_refl _) _
    have hsz : W.heap.size = w.heap.size + 1 := by rw [hW]; simp
    have hbn : Blk W w.heap.size 3 #[.int .i64 (bInt false)] := by
      rw [hW]
      exact Blk.new _ _ _
    have CM := Lib.hid (HM.out W (Fr.below HBW.out ha) hsz hbn (HF.out.below ha) (HC.out.below ha HC.out.lt))
    clear hW ha hsz hbn c0 z0 ca
    go_wp2_with fail
    refine CM.out.mono ?_
    rintro e w3 (⟨s, y, hn, rfl, hf3, hb3, hc3, hr3⟩ | ⟨hn, ec, rfl, he, hbe⟩)
    · have y0 : w3.cell? ⟨w.heap.size, 0, none⟩ = some (.int .i64 y) := hb3.cell 0
      have c0 : w3.cell? ⟨tb, off, none⟩ = some (.bool false) := (hc3.cell off).trans (list_at HO.out)
      have z0 := hc3.frozen off
      have HN := Lib.hid hn
      have H3 := Lib.hid hf3
      have HC3 := Lib.hid hc3
      have HR3 := Lib.hid hr3
      clear hn hf3 hb3 hc3 hr3
      by_cases q0 : y = 0
      · subst q0
        go_wp2_with fail
        go_end0
        refine .inl ⟨s, false, [.bool false], ?_, rfl, H3.out.set_ HT.out HC3.out (kin_up (fine_num _ _ _ _ HN.out).2 HUP.out) _ _, ?_, rfl, HR3.out.set_ HB.out _ _⟩
        · unfold flagF; rw [HN.out]; rfl
        · have h := HC3.out.set_ off (.bool false)
          rw [list_set HO.out] at h
          exact h
      · by_cases q1 : y = 1
        · subst q1
          go_wp2_with fail
          go_end0
          refine .inl ⟨s, true, [.bool true], ?_, rfl, H3.out.set_ HT.out HC3.out (kin_up (fine_num _ _ _ _ HN.out).2 HUP.out) _ _, ?_, rfl, HR3.out.set_ HB.out _ _⟩
          · unfold flagF; rw [HN.out]; rfl
          · have h := HC3.out.set_ off (.bool true)
            rw [list_set HO.out] at h
            exact h
        · have hno : flagF st false = none := by
            unfold flagF; rw [HN.out]
            simp only [if_neg q0, if_neg q1]
          have hbd : ∀ bs, st = .wr bs → False := by
            rintro bs rfl
            have := num_wr HN.out
            simp [bInt] at this
            omega
          have HNO := Lib.hid hno
          have HBD := Lib.hid hbd
          clear hno hbd
          by_cases q2 : y < 0
          · go_wp2_with fail
            exact ⟨rfl, .inr ⟨HNO.out, 32, rfl, ⟨.inr rfl, fun bs h => (HBD.out bs h).elim⟩, HR3.out⟩⟩
          · have q3 : 1 < y := by omega
            have q4 : 0 ≤ y := by omega
            clear q0 q1 q2
            go_wp2_with fail
            exact ⟨rfl, .inr ⟨HNO.out, 32, rfl, ⟨.inr rfl, fun bs h => (HBD.out bs h).elim⟩, HR3.out⟩⟩
    · have hno : flagF st false = none := by unfold flagF; rw [hn]
      have HNO := Lib.hid hno
      have HE := Lib.hid he
      have HBE := Lib.hid hbe
      clear hn he hbe hno
      go_wp2_with fail
      exact ⟨rfl, .inr ⟨HNO.out, ec, rfl, HE.out, HBE.out⟩⟩
  | true =>
    go_enter Try.func55, Try.ntmps55
    go_upto_region 3 with fail
    obtain ⟨W, hW⟩ : ∃ W, W = w.alloc (.cells #[.int .i64 1] 3) := ⟨_, rfl⟩
    rw [← hW]
    have ha : Below w.heap.size w W := by
      rw [hW]
      exact (Below.refl _ _).alloc (Nat.le_refl _) _
    have hsz : W.heap.size = w.heap.size + 1 := by rw [hW]; simp
    have hbn : Blk W w.heap.size 3 #[.int .i64 (bInt true)] := by
      rw [hW]
      exact Blk.new _ _ _
    have CM := Lib.hid (HM.out W (Fr.below HBW.out ha) hsz hbn (HF.out.below ha) (HC.out.below ha HC.out.lt))
    clear hW ha hsz hbn c0 z0 ca
    go_wp2_with fail
    refine CM.out.mono ?_
    rintro e w3 (⟨s, y, hn, rfl, hf3, hb3, hc3, hr3⟩ | ⟨hn, ec, rfl, he, hbe⟩)
    · have y0 : w3.cell? ⟨w.heap.size, 0, none⟩ = some (.int .i64 y) := hb3.cell 0
      have c0 : w3.cell? ⟨tb, off, none⟩ = some (.bool true) := (hc3.cell off).trans (list_at HO.out)
      have z0 := hc3.frozen off
      have HN := Lib.hid hn
      have H3 := Lib.hid hf3
      have HC3 := Lib.hid hc3
      have HR3 := Lib.hid hr3
      clear hn hf3 hb3 hc3 hr3
      by_cases q0 : y = 0
      · subst q0
        go_wp2_with fail
        go_end0
        refine .inl ⟨s, false, [.bool false], ?_, rfl, H3.out.set_ HT.out HC3.out (kin_up (fine_num _ _ _ _ HN.out).2 HUP.out) _ _, ?_, rfl, HR3.out.set_ HB.out _ _⟩
        · unfold flagF; rw [HN.out]; rfl
        · have h := HC3.out.set_ off (.bool false)
          rw [list_set HO.out] at h
          exact h
      · by_cases q1 : y = 1
        · subst q1
          go_wp2_with fail
          go_end0
          refine .inl ⟨s, true, [.bool true], ?_, rfl, H3.out.set_ HT.out HC3.out (kin_up (fine_num _ _ _ _ HN.out).2 HUP.out) _ _, ?_, rfl, HR3.out.set_ HB.out _ _⟩
          · unfold flagF; rw [HN.out]; rfl
          · have h := HC3.out.set_ off (.bool true)
            rw [list_set HO.out] at h
            exact h
        · have hno : flagF st true = none := by
            unfold flagF; rw [HN.out]
            simp only [if_neg q0, if_neg q1]
          have hbd : ∀ bs, st = .wr bs → False := by
            rintro bs rfl
            have := num_wr HN.out
            simp [bInt] at this
            omega
          have HNO := Lib.hid hno
          have HBD := Lib.hid hbd
          clear hno hbd
          by_cases q2 : y < 0
          · go_wp2_with fail
            exact ⟨rfl, .inr ⟨HNO.out, 32, rfl, ⟨.inr rfl, fun bs h => (HBD.out bs h).elim⟩, HR3.out⟩⟩
          · have q3 : 1 < y := by omega
            have q4 : 0 ≤ y := by omega
            clear q0 q1 q2
            go_wp2_with fail
            exact ⟨rfl, .inr ⟨HNO.out, 32, rfl, ⟨.inr rfl, fun bs h => (HBD.out bs h).elim⟩, HR3.out⟩⟩
    · have hno : flagF st true = none := by unfold flagF; rw [hn]
      have HNO := Lib.hid hno
      have HE := Lib.hid he
      have HBE := Lib.hid hbe
      clear hn he hbe hno
      go_wp2_with fail
      exact ⟨rfl, .inr ⟨HNO.out, ec, rfl, HE.out, HBE.out⟩⟩
end Go.Proofs.Ytabndfkkbmhhjaa

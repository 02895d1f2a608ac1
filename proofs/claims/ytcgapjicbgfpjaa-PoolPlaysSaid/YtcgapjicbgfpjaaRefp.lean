/-
  The walk of the document's Drop.
-/
import Derived.Deep.LoopGhost
import Derived.Test.YtcgapjicbgfpjaaRefd
namespace Go.Proofs.Ytcgapjicbgfpjaa
set_option linter.unusedVariables false
set_option linter.unusedSimpArgs false
open Go.RowKit Go.Maps Go.Deep

/-- what holds at the head of Drop's loop, of whatever holds the state -/
def FallG (Q : St → Prop) (n : Nat) (E : St) (k : Nat) (j : Int) : Prop :=
  ∃ S' : St, cnt S' = k ∧ S'.length = n ∧ Q S' ∧ DInv S' ∧ OwnB S' ∧ fallS k S' j = E ∧ (j = -1 ∨ (cellAt S' j).isSome = true)
theorem fallG_root {Q : St → Prop} {n k q : Nat} {E S' : St} {c : Cl} (hk : cnt S' = k) (hl : S'.length = n) (hI : DInv S') (hB : OwnB S') (hf : fallS k S' q = E) (hc : at? S' q = some c) (hb : ¬ 0 < c.own + c.behind) (hb0 : c.behind = 0) (hp : c.prev = -1)
    (hW : Q (S'.set q none)) : 0 < k ∧ FallG Q n E (k - 1) (-1) := by
  have h1 := cnt_live hc
  refine ⟨by omega, S'.set q none, by omega, by simpa using hl, hW, dinv_root hI hc hb0 hp, ownB_of hB fun i d hd => ?_, ?_, .inl rfl⟩
  · by_cases e : q = i
    · subst e; rw [at_set_same (at_lt hc)] at hd; cases hd
    · rw [at_set_other e] at hd; exact ⟨i, d, hd, rfl⟩
  · obtain ⟨k, rfl⟩ : ∃ k', k = k' + 1 := ⟨k - 1, by omega⟩
    rw [fall_neg, ← hf]
    unfold fallS
    rw [cellAt_nat, hc]
    simp only [Int.toNat_natCast]
    rw [if_neg hb, hp, cellAt_neg]
theorem fallG_next {Q : St → Prop} {n k q p : Nat} {E S' : St} {c b : Cl} (hk : cnt S' = k) (hl : S'.length = n) (hI : DInv S') (hB : OwnB S') (hf : fallS k S' q = E) (hc : at? S' q = some c) (hb : ¬ 0 < c.own + c.behind) (hb0 : c.behind = 0) (hp : c.prev = (p : Int)) (hbp : at? S' p = some b)
    (hW : Q ((S'.set q none).set p (some { b with behind := b.behind - 1 }))) : 0 < k ∧ FallG Q n E (k - 1) p := by
  have h1 := cnt_live hc
  obtain ⟨hne, hD⟩ := dinv_fall hI hc hb0 hp hbp
  have hbp' : at? (S'.set q none) p = some b := by rw [at_set_other hne]; exact hbp
  refine ⟨by omega, (S'.set q none).set p (some { b with behind := b.behind - 1 }), ?_, by simpa using hl, hW, hD, ownB_of hB fun i d hd => ?_, ?_, .inr ?_⟩
  · rw [cnt_stay (c' := { b with behind := b.behind - 1 }) hbp']; omega
  · by_cases e : p = i
    · subst e; rw [at_set_same (at_lt hbp')] at hd; injection hd with hd; subst hd; exact ⟨p, b, hbp, rfl⟩
    · rw [at_set_other e] at hd
      by_cases e2 : q = i
      · subst e2; rw [at_set_same (at_lt hc)] at hd; cases hd
      · rw [at_set_other e2] at hd; exact ⟨i, d, hd, rfl⟩
  · obtain ⟨k, rfl⟩ : ∃ k', k = k' + 1 := ⟨k - 1, by omega⟩
    rw [← hf]
    show fallS k _ _ = fallS (k + 1) S' q
    rw [show fallS (k + 1) S' q = _ from by unfold fallS; rfl, cellAt_nat, hc]
    simp only [Int.toNat_natCast]
    rw [if_neg hb, hp, cellAt_nat, hbp']
    simp only [Int.toNat_natCast]
  · rw [cellAt_nat, at_set_same (at_lt hbp')]; rfl
section
variable {w : World} {base B : Nat} {S : St} {m : Int} {v : Value}
theorem ref_drop_no (h : RefX w base B S m v) (i : Int) (hS : S.length ≤ 1000000) (hh : hasB S i = false) :
    Calls Try.prog 20 #[.pointer (some ⟨B, 0, none⟩), .int .i64 i] w fun e w' => e = .returned (.bool false) ∧ w = w' := by
  have C := Lib.hid (ref_has h i hS)
  rw [hh] at C
  clear h hh
  go_enter Try.func20, Try.ntmps20
  go_wp2_with fail
  refine C.out.mono ?_
  rintro e w' ⟨rfl, rfl⟩
  go_wp2_with fail
  go_ret
  exact ⟨rfl, rfl⟩
theorem ref_drop_zero (h : RefX w base B S m v) (n : Nat) (c : Cl) (hS : S.length ≤ 1000000) (hc : at? S n = some c) (h0 : c.own = 0) :
    Calls Try.prog 20 #[.pointer (some ⟨B, 0, none⟩), .int .i64 n] w fun e w' => e = .returned (.bool false) ∧ w = w' := by
  have C := Lib.hid (ref_has h n hS)
  rw [has_nat, hc] at C
  have hn := at_lt hc
  have k0 := h.k0
  obtain ⟨g, cp, rfl, _, _, hc1, hc2, _, _, _, _, _, q4, _⟩ := h.six (at_some.1 hc) rfl
  rw [h0] at q4
  unfold maxLen at hc2
  have b1 : (0 : Int) ≤ (n : Int) := by omega
  have b2 : (n : Int) < (S.length : Int) := by omega
  clear h hc
  go_enter Try.func20, Try.ntmps20
  go_wp2_with fail
  refine C.out.mono ?_
  rintro e w' ⟨rfl, rfl⟩
  go_wp2_with fail
  go_ret
  exact ⟨rfl, rfl⟩
set_option maxRecDepth 100000 in
set_option maxHeartbeats 4000000 in
theorem ref_drop_some (h : RefX w base B S m v) (hI : DInv S) (hB : OwnB S) (hS : S.length ≤ 1000000) (n : Nat) (c : Cl) (hc : at? S n = some c) (h0 : 0 < c.own) :
    Calls Try.prog 20 #[.pointer (some ⟨B, 0, none⟩), .int .i64 n] w fun e w' => e = .returned (.bool true) ∧ RefX w' base B (dropS (cnt S) S n).1 m v ∧ Moved w w' B v v := by
  have C := Lib.hid (ref_has h n hS)
  rw [has_nat, hc] at C
  have hn := at_lt hc
  have k0 := h.k0
  have h1 := (hB n c hc).2
  obtain ⟨E, hE⟩ : ∃ E, (dropS (cnt S) S n).1 = E := ⟨_, rfl⟩
  rw [hE]
  have hF : fallS (cnt S) (S.set n (some { c with own := c.own - 1 })) n = E := by
    rw [← hE]
    unfold dropS
    rw [cellAt_nat, hc]
    simp only [Int.toNat_natCast]
    rw [if_neg (by omega)]
  clear hE
  obtain ⟨g, cp, rfl, _, _, hc1, hc2, hfz, q0, q1, q2, q3, q4, q5⟩ := h.six (at_some.1 hc) rfl
  obtain ⟨N, hN⟩ : ∃ N, S.length = N := ⟨_, rfl⟩
  have f4 := hfz (n * 6 + 4)
  have hne : (c.own == 0) = false := by rw [beq_eq_false_iff_ne]; omega
  have s1 : IntKind.i64.wrap (c.own - 1) = c.own - 1 := by rw [IntKind.wrap_i64]; omega
  have b1 : (0 : Int) ≤ (n : Int) := by omega
  have b2 : (n : Int) < (N : Int) := by omega
  have X1 : Hid (FallG (fun S' => RefX (w.setCell ⟨g, n * 6 + 4, none⟩ (.int .i64 (c.own - 1))) base B S' m (.slice (some ⟨g, 0, none⟩) S.length cp) ∧ Moved w (w.setCell ⟨g, n * 6 + 4, none⟩ (.int .i64 (c.own - 1))) B (.slice (some ⟨g, 0, none⟩) S.length cp) (.slice (some ⟨g, 0, none⟩) S.length cp)) S.length E (cnt S) n) := Lib.hid
    ⟨S.set n (some { c with own := c.own - 1 }), cnt_stay hc, by simp, ⟨h.set1 (o' := some { c with own := c.own - 1 }) (at_some.1 hc) 4 (.int .i64 (c.own - 1)) (by omega) rfl, Moved.setRow rfl _ _⟩, dinv_own hI hc _, fun i d hd => by
      by_cases e : n = i
      · subst e; rw [at_set_same hn] at hd; injection hd with hd; subst hd
        show 0 ≤ c.own - 1 ∧ c.own - 1 ≤ 1000000000; omega
      · rw [at_set_other e] at hd; exact hB i d hd, hF, .inr (by rw [cellAt_nat, at_set_same hn]; rfl)⟩
  rw [hN] at X1 k0 hc1 hS ⊢
  unfold maxLen at hc2
  clear h hc hfz hI hB hF hn hN
  go_enter Try.func20, Try.ntmps20
  go_wp2_with fail
  refine C.out.mono ?_
  rintro e w' ⟨rfl, rfl⟩
  go_wp2_with fail
  go_loopg [1] (cnt S) (fun k i wr => ∃ j, i = .int .i64 j ∧ FallG (fun S' => RefX wr base B S' m (.slice (some ⟨g, 0, none⟩) N cp) ∧ Moved w wr B (.slice (some ⟨g, 0, none⟩) N cp) (.slice (some ⟨g, 0, none⟩) N cp)) N E k j)
  case atStart => exact ⟨_, rfl, X1.out⟩
  case round =>
    clear C X1 k0 q0 q1 q2 q3 q4 q5 f4 hne s1 b1 b2
    obtain ⟨j, rfl, S', hk, hl, ⟨hX, hM⟩, hI, hB, hf, hj⟩ := hrel
    have hS' : S'.length ≤ 1000000 := by rw [hl]; exact hS
    rcases hj with rfl | hj
    · rw [fall_neg] at hf
      subst hf
      have HE := Lib.hid (fun nq => And.intro (hX.drewN nq) (hM.trans (Moved.of_below (below_drewN (Below.refl wr.heap.size wr) nq) B _)))
      have CH := Lib.hid (fun nq => ref_has (hX.drewN nq) (-1) hS')
      rw [has_neg (by decide)] at CH
      clear hI hB hX hM hk hl hS'
      go_wp2_with fail
      go_quiet ((go_at_call 19; exact quiet_left (CH.out _)))
      go_wp2_with fail
      go_ret
      exact ⟨rfl, HE.out _⟩
    · obtain ⟨c', hc'⟩ := Option.isSome_iff_exists.1 hj
      obtain ⟨q, rfl, hc⟩ := cellAt_some hc'
      clear hj hc'
      have hq := at_lt hc
      have k0 := hX.k0
      have hown := hB q c' hc
      have hbeh := hI.2.2.2 q c' hc
      have hkl : kids S' (q : Int) ≤ S'.length := List.countP_le_length
      have CH := Lib.hid (fun nq => ref_has (hX.drewN nq) q hS')
      rw [has_nat, hc] at CH
      obtain ⟨g', cp', hv, _, _, _, _, hfz, q0, q1, q2, q3, q4, q5⟩ := hX.six (at_some.1 hc) rfl
      injection hv with hv1 hv2 hv3
      injection hv1 with hv1
      injection hv1 with hv1
      subst hv1
      have b1 : (0 : Int) ≤ (q : Int) := by omega
      have b2 : (q : Int) < (N : Int) := by omega
      have s1 : IntKind.i64.wrap (c'.own + c'.behind) = c'.own + c'.behind := by rw [IntKind.wrap_i64]; omega
      by_cases hpos : 0 < c'.own + c'.behind
      · rw [fall_held hc hpos] at hf
        subst hf
        have HE := Lib.hid (fun nq => And.intro (hX.drewN nq) (hM.trans (Moved.of_below (below_drewN (Below.refl wr.heap.size wr) nq) B _)))
        have hdec : (c'.own + c'.behind == 0) = false := by rw [beq_eq_false_iff_ne]; omega
        clear hI hB hX hM hk hl hS' hfz hc hbeh hkl q0 q1 q2 q3 hv2 hv3
        go_wp2_with fail
        go_quiet ((go_at_call 19; exact quiet_left (CH.out _)))
        go_wp2_with fail
        go_ret
        exact ⟨rfl, HE.out _⟩
      · have hb0 : c'.behind = 0 := by omega
        have ho0 : c'.own = 0 := by omega
        rw [ho0] at q4
        rw [hb0] at q5
        have hz0 := zero6
        have f0 := hfz (q * 6)
        have f1 := hfz (q * 6 + 1)
        have f2 := hfz (q * 6 + 2)
        have f3 := hfz (q * 6 + 3)
        have f4 := hfz (q * 6 + 4)
        have f5 := hfz (q * 6 + 5)
        have HSZ := Lib.hid hS'
        have HL := Lib.hid hl
        have hX2 := hX
        rw [← hl] at hX2
        have HS6 := Lib.hid (fun nq => And.intro ((hX2.drewN nq).setAll hq (o := none) rfl).1 ((hM.trans (Moved.of_below (below_drewN (Below.refl wr.heap.size wr) nq) B _)).trans (hl ▸ ((hX2.drewN nq).setAll hq (o := none) rfl).2)))
        rw [hl] at HS6
        have s0 : (∃ p : Nat, c'.prev = (p : Int) ∧ ∃ b, at? S' p = some b ∧ p ≠ q) ∨ c'.prev = -1 := by
          rcases hI.2.2.1 q c' hc with hp | hp
          · exact .inr hp
          · obtain ⟨b, hb⟩ := Option.isSome_iff_exists.1 hp
            obtain ⟨p, hp, hbp⟩ := cellAt_some hb
            exact .inl ⟨p, hp, b, hbp, fun e => (dinv_fall hI hc hb0 hp hbp).1 e.symm⟩
        rcases s0 with ⟨p, hp, b, hb, hpq⟩ | hp
        · have HE := Lib.hid (fun Q => fallG_next (Q := Q) hk hl hI hB hf hc hpos hb0 hp hb)
          have HBP := Lib.hid hb
          have hpq' := Lib.hid hpq
          have hbl := at_lt hb
          have hkl2 : kids S' (p : Int) ≤ S'.length := List.countP_le_length
          have hbeh2 := hI.2.2.2 p b hb
          have s2 : IntKind.i64.wrap (b.behind - 1) = b.behind - 1 := by rw [IntKind.wrap_i64]; omega
          have b4 : (0 : Int) ≤ (p : Int) := by omega
          have b5 : (p : Int) < (N : Int) := by omega
          rw [hp] at q1
          clear hX2 hX hM hI hB hk hl hS' hfz hc hb hbeh hkl hbeh2 hkl2 hbl hp hown hf hq hpq hpos hb0 ho0 s1 hv2 hv3
          go_wp2_with fail
          go_quiet ((go_at_call 19; exact quiet_left (CH.out _)))
          go_upto_region 8 with fail
          obtain ⟨y1, y2⟩ := HS6.out nq
          change Code.wp _ _ _ _ (set6 (wr.drewN nq) g q (.bool false) (.int .i64 0) (.int .i64 0) (.bool false) (.int .i64 0) (.int .i64 0))
          have y1 := Lib.hid y1
          have y2 := Lib.hid y2
          revert y1 y2
          generalize set6 (wr.drewN nq) g q (.bool false) (.int .i64 0) (.int .i64 0) (.bool false) (.int .i64 0) (.int .i64 0) = W6
          intro y1 y2
          clear HS6 CH k0 q0 q1 q2 q3 q4 q5 f0 f1 f2 f3 f4 f5
          have hbp : at? (S'.set q none) p = some b := by rw [at_set_other (fun eq9 => hpq'.out eq9.symm)]; exact HBP.out
          have CH6 := Lib.hid (ref_has y1.out (p : Int) (by simpa using HSZ.out))
          rw [has_nat, hbp] at CH6
          obtain ⟨g7, c7, hv7, _, _, _, _, hz7, _, _, _, _, _, q6⟩ := y1.out.six (at_some.1 hbp) rfl
          injection hv7 with hv71 hv72 hv73
          injection hv71 with hv71
          injection hv71 with hv71
          subst hv71
          have f9 := hz7 (p * 6 + 5)
          have k6 := y1.out.k0
          have hl2 : (S'.set q none).length = N := by rw [List.length_set]; exact HL.out
          have h5 := y1.out
          rw [← hl2] at h5
          have y3 := Lib.hid (h5.set1 (i := p) (o' := some { b with behind := b.behind - 1 }) (at_some.1 hbp) 5 (.int .i64 (b.behind - 1)) (by omega) rfl)
          rw [hl2] at y3
          clear h5 hl2 hbp hz7 hv72 hv73
          go_wp2_with fail
          refine CH6.out.mono ?_
          rintro e w' ⟨rfl, rfl⟩
          have HF := Lib.hid (HE.out (fun S2 => RefX (W6.setCell ⟨g, p * 6 + 5, none⟩ (.int .i64 (b.behind - 1))) base B S2 m (.slice (some ⟨g, 0, none⟩) N cp) ∧ Moved w (W6.setCell ⟨g, p * 6 + 5, none⟩ (.int .i64 (b.behind - 1))) B (.slice (some ⟨g, 0, none⟩) N cp) (.slice (some ⟨g, 0, none⟩) N cp)) ⟨y3.out, y2.out.trans (Moved.setRow rfl _ _)⟩)
          clear CH6 y1 y2 y3
          go_wp2_with fail
          go_roundg (gk - 1)
          case measure => have := HF.out.1; omega
          case rel => exact ⟨_, rfl, HF.out.2⟩
        · have HE := Lib.hid (fun Q => fallG_root (Q := Q) hk hl hI hB hf hc hpos hb0 hp)
          rw [hp] at q1
          clear hX2 hX hM hI hB hk hl hS' hfz hc hbeh hkl hp hown hf hq hpos hb0 ho0 s1 hv2 hv3
          go_wp2_with fail
          go_quiet ((go_at_call 19; exact quiet_left (CH.out _)))
          go_upto_region 8 with fail
          obtain ⟨y1, y2⟩ := HS6.out nq
          change Code.wp _ _ _ _ (set6 (wr.drewN nq) g q (.bool false) (.int .i64 0) (.int .i64 0) (.bool false) (.int .i64 0) (.int .i64 0))
          have y1 := Lib.hid y1
          have y2 := Lib.hid y2
          revert y1 y2
          generalize set6 (wr.drewN nq) g q (.bool false) (.int .i64 0) (.int .i64 0) (.bool false) (.int .i64 0) (.int .i64 0) = W6
          intro y1 y2
          clear HS6 CH k0 q0 q1 q2 q3 q4 q5 f0 f1 f2 f3 f4 f5
          have CH6 := Lib.hid (ref_has y1.out (-1) (by simpa using HSZ.out))
          rw [has_neg (by decide)] at CH6
          go_wp2_with fail
          refine CH6.out.mono ?_
          rintro e w' ⟨rfl, rfl⟩
          have HF := Lib.hid (HE.out (fun S2 => RefX W6 base B S2 m (.slice (some ⟨g, 0, none⟩) N cp) ∧ Moved w W6 B (.slice (some ⟨g, 0, none⟩) N cp) (.slice (some ⟨g, 0, none⟩) N cp)) ⟨y1.out, y2.out⟩)
          clear CH6 y1 y2
          go_wp2_with fail
          go_roundg (gk - 1)
          case measure => have := HF.out.1; omega
          case rel => exact ⟨_, rfl, HF.out.2⟩
end
end Go.Proofs.Ytcgapjicbgfpjaa

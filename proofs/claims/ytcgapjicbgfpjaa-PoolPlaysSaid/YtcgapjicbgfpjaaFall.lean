/-
  The walk of Drop where it drops. (NOT FINISHED: does not build clean yet.)
-/
import Derived.Deep.LoopGhost
import Derived.Test.YtcgapjicbgfpjaaBal
namespace Go.Proofs.Ytcgapjicbgfpjaa
set_option linter.unusedVariables false
set_option linter.unusedSimpArgs false
open Go.RowKit Go.Maps Go.Deep
def OwnB (S : St) : Prop := ∀ i c, at? S i = some c → 0 ≤ c.own ∧ c.own ≤ 1000000000
/-- what holds at the head of Drop's loop: k live cells, at j -/
def FallR (T : Nat → Prop) (w : World) (P : Nat) (m : Int) (n : Nat) (E : St) (k : Nat) (j : Int) (wr : World) : Prop :=
  ∃ S' : St, cnt S' = k ∧ S'.length = n ∧ PoolW T wr P S' m ∧ DInv S' ∧ OwnB S' ∧ KeptT T w wr ∧ fallS k S' j = E ∧ (j = -1 ∨ (cellAt S' j).isSome = true)
theorem ownB_of {S S' : St} (h : OwnB S) (hs : ∀ i c, at? S' i = some c → ∃ i' c', at? S i' = some c' ∧ c.own = c'.own) : OwnB S' := fun i c hc => by
  obtain ⟨i', c', h1, h2⟩ := hs i c hc
  rw [h2]; exact h i' c' h1
theorem fall_neg (k : Nat) (S : St) : fallS k S (-1) = S := by cases k <;> rfl
theorem fall_held {k : Nat} {S : St} {q : Nat} {c : Cl} (hc : at? S q = some c) (h : 0 < c.own + c.behind) : fallS k S q = S := by
  cases k with
  | zero => rfl
  | succ k => unfold fallS; rw [cellAt_nat, hc]; simp only; rw [if_pos h]
theorem cnt_live {S : St} {q : Nat} {c : Cl} (hc : at? S q = some c) : cnt S = cnt (S.set q none) + 1 := by
  have h1 := cnt_set S q none (at_lt hc)
  rw [hc] at h1; simp at h1; omega
/-- a root falls -/
theorem fall_root {T : Nat → Prop} {w w3 : World} {P n k q : Nat} {m : Int} {E S' : St} {c : Cl} (hk : cnt S' = k) (hl : S'.length = n) (hI : DInv S') (hB : OwnB S') (hf : fallS k S' q = E) (hc : at? S' q = some c) (hb : ¬ 0 < c.own + c.behind) (hb0 : c.behind = 0) (hp : c.prev = -1)
    (hW : PoolW T w3 P (S'.set q none) m) (hK : KeptT T w w3) : 0 < k ∧ FallR T w P m n E (k - 1) (-1) w3 := by
  have h1 := cnt_live hc
  refine ⟨by omega, S'.set q none, by omega, by simpa using hl, hW, dinv_root hI hc hb0 hp, ownB_of hB fun i d hd => ?_, hK, ?_, .inl rfl⟩
  · by_cases e : q = i
    · subst e; rw [at_set_same (at_lt hc)] at hd; cases hd
    · rw [at_set_other e] at hd; exact ⟨i, d, hd, rfl⟩
  · obtain ⟨k, rfl⟩ : ∃ k', k = k' + 1 := ⟨k - 1, by omega⟩
    rw [fall_neg, ← hf]
    unfold fallS
    rw [cellAt_nat, hc]
    simp only [Int.toNat_natCast]
    rw [if_neg hb, hp, cellAt_neg]
/-- one falls, and the one before it is next -/
theorem fall_next {T : Nat → Prop} {w w3 : World} {P n k q p : Nat} {m : Int} {E S' : St} {c b : Cl} (hk : cnt S' = k) (hl : S'.length = n) (hI : DInv S') (hB : OwnB S') (hf : fallS k S' q = E) (hc : at? S' q = some c) (hb : ¬ 0 < c.own + c.behind) (hb0 : c.behind = 0) (hp : c.prev = (p : Int)) (hbp : at? S' p = some b)
    (hW : PoolW T w3 P ((S'.set q none).set p (some { b with behind := b.behind - 1 })) m) (hK : KeptT T w w3) : 0 < k ∧ FallR T w P m n E (k - 1) p w3 := by
  have h1 := cnt_live hc
  obtain ⟨hne, hD⟩ := dinv_fall hI hc hb0 hp hbp
  have hbp' : at? (S'.set q none) p = some b := by rw [at_set_other hne]; exact hbp
  refine ⟨by omega, (S'.set q none).set p (some { b with behind := b.behind - 1 }), ?_, by simpa using hl, hW, hD, ownB_of hB fun i d hd => ?_, hK, ?_, .inr ?_⟩
  · rw [cnt_stay (c' := { b with behind := b.behind - 1 }) hbp']; omega
  · by_cases e : p = i
    · subst e; rw [at_set_same (at_lt hbp')] at hd; injection hd with hd; subst hd; exact ⟨p, b, hbp, rfl⟩
    · rw [at_set_other e] at hd
      by_cases e2 : q = i
      · subst e2; rw [at_set_same (at_lt hc)] at hd; cases hd
      · rw [at_set_other e2] at hd; exact ⟨i, d, hd, rfl⟩
  · obtain ⟨k, rfl⟩ : ∃ k', k = k' + 1 := ⟨k - 1, by omega⟩
    rw [← hf]
    show fallS k _ _ = fallS (k + 1) S' q
    rw [show fallS (k + 1) S' q = _ from by unfold fallS; rfl, cellAt_nat, hc]
    simp only [Int.toNat_natCast]
    rw [if_neg hb, hp, cellAt_nat, hbp']
    simp only [Int.toNat_natCast]
  · rw [cellAt_nat, at_set_same (at_lt hbp')]; rfl
section
variable {T : Nat → Prop} {w : World} {P : Nat} {S : St} {m : Int} {A1 A2 : Option Addr} {c1 c2 M : Nat} {xs : List Cl} {D : DataW Unit}
set_option maxHeartbeats 4000000 in
theorem drop_some (h : PoolX T w P S m A1 A2 c1 c2 M xs D) (hd : DOk D S) (hI : DInv S) (hB : OwnB S) (hS : S.length ≤ 1000000) (n : Nat) (c : Cl) (hc : at? S n = some c) (h0 : 0 < c.own) :
    Calls Try.prog 15 #[.pointer (some ⟨P, 0, none⟩), .int .i64 n] w fun e w' => e = .returned (.bool true) ∧ PoolW T w' P (dropS (cnt S) S n).1 m ∧ KeptT T w w' := by
  have C := Lib.hid (has_any h n hS)
  rw [has_nat, hc] at C
  have hn := at_lt hc
  have k0 := h.k0
  have h1 := (hB n c hc).2
  obtain ⟨E, hE⟩ : ∃ E, (dropS (cnt S) S n).1 = E := ⟨_, rfl⟩
  rw [hE]
  have hF : fallS (cnt S) (S.set n (some { c with own := c.own - 1 })) n = E := by
    rw [← hE]
    unfold dropS
    rw [cellAt_nat, hc]
    simp only [Int.toNat_natCast]
    rw [if_neg (by omega)]
  clear hE
  obtain ⟨g, rfl, hfz, _, _, _, q3, _⟩ := h.allAt hc
  have f3 := hfz (n * 5 + 3)
  have hne : (c.own == 0) = false := by rw [beq_eq_false_iff_ne]; omega
  have s1 : IntKind.i64.wrap (c.own - 1) = c.own - 1 := by rw [IntKind.wrap_i64]; omega
  have b1 : (0 : Int) ≤ (n : Int) := by omega
  have b2 : (n : Int) < (S.length : Int) := by omega
  have X1 : Hid (FallR T w P m S.length E (cnt S) n (w.setCell ⟨g, n * 5 + 3, none⟩ (.int .i64 (c.own - 1)))) := Lib.hid
    ⟨S.set n (some { c with own := c.own - 1 }), cnt_stay hc, by simp, ⟨_, _, _, _, _, _, _, set_field h hc 3 (.int .i64 (c.own - 1)) (by omega) (c' := { c with own := c.own - 1 }) rfl, dok_stay hd hI.1 (turn_set hn _) hc rfl rfl rfl (cnt_stay hc)⟩, dinv_own hI hc _, fun i d hd => by
      by_cases e : n = i
      · subst e; rw [at_set_same hn] at hd; injection hd with hd; subst hd
        show 0 ≤ c.own - 1 ∧ c.own - 1 ≤ 1000000000; omega
      · rw [at_set_other e] at hd; exact hB i d hd, kept_field h _ _ (KeptT.refl T w), hF, .inr (by rw [cellAt_nat, at_set_same hn]; rfl)⟩
  have HS := Lib.hid hS
  clear h hc hfz hd hI hB hF hS
  go_enter Try.func15, Try.ntmps15
  go_wp2_with fail
  refine C.out.mono ?_
  rintro e w' ⟨rfl, rfl⟩
  go_wp2_with fail
  go_loopg [1] (cnt S) (fun k i wr => ∃ j, i = .int .i64 j ∧ FallR T w P m S.length E k j wr)
  case atStart => exact ⟨_, rfl, X1.out⟩
  case round =>
    clear C X1 k0 q3 f3 hne s1 b1 b2 hn
    obtain ⟨j, rfl, S', hk, hl, hW, hI, hB, hK, hf, hj⟩ := hrel
    obtain ⟨A1', A2', c1', c2', M', xs', D', h, hd⟩ := hW
    have hS' := HS.out
    rcases hj with rfl | hj
    · rw [fall_neg] at hf
      subst hf
      have HE : Hid (PoolW T wr P S' m ∧ KeptT T w wr) := Lib.hid ⟨⟨_, _, _, _, _, _, _, h, hd⟩, hK⟩
      clear hI hB hK h hd hk hl hS'
      go_wp2_with fail
      go_ret
      exact ⟨rfl, HE.out⟩
    · obtain ⟨c', hc'⟩ := Option.isSome_iff_exists.1 hj
      obtain ⟨q, rfl, hc⟩ := cellAt_some hc'
      clear hj hc'
      have hq := at_lt hc
      have k0 := h.k0
      have hown := hB q c' hc
      have hbeh := hI.2.2.2 q c' hc
      have hkl : kids S' (q : Int) ≤ S'.length := List.countP_le_length
      obtain ⟨g', rfl, hfz, q0, q1, q2, q3, q4⟩ := h.allAt hc
      have b1 : (0 : Int) ≤ (q : Int) := by omega
      have b2 : (q : Int) < (S'.length : Int) := by omega
      have b3 : ((q : Int) != -1) = true := by rw [bne_iff_ne]; omega
      have s1 : IntKind.i64.wrap (c'.own + c'.behind) = c'.own + c'.behind := by rw [IntKind.wrap_i64]; omega
      by_cases hpos : 0 < c'.own + c'.behind
      · rw [fall_held hc hpos] at hf
        subst hf
        have HE : Hid (∀ nq, PoolW T (wr.drewN nq) P S' m ∧ KeptT T w (wr.drewN nq)) := Lib.hid fun nq => ⟨PoolW.drewN ⟨_, _, _, _, _, _, _, h, hd⟩ nq, hK⟩
        have hdec : decide (0 < c'.own + c'.behind) = true := decide_eq_true hpos
        clear hI hB hK h hd hk hl hS' hfz hc hbeh hkl q0 q1 q2
        go_wp2_with fail
        go_quiet (fail)
        go_wp2_with fail
        go_ret
        exact ⟨rfl, HE.out _⟩
      · have hb0 : c'.behind = 0 := by omega
        have hdec : decide (0 < c'.own + c'.behind) = false := decide_eq_false hpos
        obtain ⟨hpw, hew⟩ := hI.2.1 q c' hc
        obtain ⟨gf, rfl, _, hzf⟩ := h.freeAt hq
        have hgg : g' ≠ gf := fun e => own_ne h.all h.free (by decide) (g := g') rfl (by rw [e]; rfl)
        have hgg' : gf ≠ g' := fun e => hgg e.symm
        have hgP : gf ≠ P := fun e => own_blk_ne h.free h.blk (by decide) (by simp [Value.ownBlock, e])
        have hgP' : P ≠ gf := fun e => hgP e.symm
        have HX := Lib.hid (fun nq : Nat => drop_key (h.keep (w' := wr.drewN (nq + 1)) fun _ _ _ => rfl) c'.prev c'.event c'.fresh hpw hew)
        have HD := Lib.hid (go_dok hd (h.at_.tidy law_key) hI.1 hc hpw hew)
        have HK := Lib.hid hK
        have HC := Lib.hid hc
        have Hq := Lib.hid hq
        have k1 := h.k1
        have k2 := h.k2
        have ho0 : c'.own = 0 := by omega
        rw [ho0] at q3
        rw [hb0] at q4
        have s0 : (∃ p : Nat, c'.prev = (p : Int) ∧ ∃ b, at? S' p = some b ∧ p ≠ q) ∨ c'.prev = -1 := by
          rcases hI.2.2.1 q c' hc with hp | hp
          · exact .inr hp
          · obtain ⟨b, hb⟩ := Option.isSome_iff_exists.1 hp
            obtain ⟨p, hp, hbp⟩ := cellAt_some hb
            exact .inl ⟨p, hp, b, hbp, fun e => (dinv_fall hI hc hb0 hp hbp).1 e.symm⟩
        rcases s0 with ⟨p, hp, b, hb, hpq⟩ | hp
        · have HE := Lib.hid (fun w3 => fall_next (T := T) (w := w) (P := P) (m := m) (w3 := w3) hk hl hI hB hf hc hpos hb0 hp hb)
          have HP := Lib.hid hp
          have HBP := Lib.hid hb
          have hpq' := Lib.hid hpq
          have hbl := at_lt hb
          have hkl2 : kids S' (p : Int) ≤ S'.length := List.countP_le_length
          have hbeh2 := hI.2.2.2 p b hb
          have s2 : IntKind.i64.wrap (b.behind - 1) = b.behind - 1 := by rw [IntKind.wrap_i64]; omega
          have HD2 := Lib.hid (show DOk (D'.del (kl c'.prev c'.event c'.fresh)) ((S'.set q none).set p (some { b with behind := b.behind - 1 })) from by
            have hbp : at? (S'.set q none) p = some b := by rw [at_set_other (fun e => hpq e.symm)]; exact hb
            exact dok_stay (c' := { b with behind := b.behind - 1 }) HD.out (uniq_go hI.1 (turn_set hq none)) (turn_set (at_lt hbp) _) hbp rfl rfl rfl (cnt_stay hbp))
          have b4 : (0 : Int) ≤ (p : Int) := by omega
          have b5 : (p : Int) < (S'.length : Int) := by omega
          have b6 : ((p : Int) != -1) = true := by rw [bne_iff_ne]; omega
          clear hI hB hK h hd hk hl hfz hc hb hbeh hkl hbeh2 hkl2 hbl hp hown hf hq hpw hew hpos hdec hb0 ho0 s1 hpq
          go_wp2_with fail
          go_quiet (fail)
          go_wp2_with fail
          obtain ⟨w3, hrun, hx3, ht3⟩ := HX.out nq 0
          unfold kv at hrun
          have j0 := hx3.k0
          have j1 := hx3.k1
          obtain ⟨g1, e1, zfa, r0, _, _, _, r4⟩ := hx3.allAt HC.out
          injection e1 with e1
          injection e1 with e1
          subst e1
          obtain ⟨g1, e1, _, _, _, _, _, r5⟩ := hx3.allAt HBP.out
          injection e1 with e1
          injection e1 with e1
          subst e1
          rw [HP.out] at r0
          have zf3 := hx3.free.frozenAt q
          obtain ⟨g2, e2, rf, _⟩ := hx3.freeAt Hq.out
          injection e2 with e2
          injection e2 with e2
          subst e2
          rw [HC.out] at rf
          have zf4 := zfa (p * 5 + 4)
          have hbp' : at? (S'.set q none) p = some b := by rw [at_set_other (fun e => hpq'.out e.symm)]; exact HBP.out
          have HF := Lib.hid (HE.out ((w3.setCell ⟨gf, q, none⟩ (.bool true)).setCell ⟨g', p * 5 + 4, none⟩ (.int .i64 (b.behind - 1)))
            ⟨_, _, _, _, _, _, _, set_field (set_free hx3 Hq.out) hbp' 4 (.int .i64 (b.behind - 1)) (by omega) (c' := { b with behind := b.behind - 1 }) rfl, HD2.out⟩
            ((((HK.out.drewN (nq + 1)).grown ht3.grown (fun g e => by injection e with e; subst e; exact .inl hx3.tM)).setCell (p := ⟨gf, q, none⟩) (hx3.tB ⟨gf, 0, none⟩ rfl) _).setCell (p := ⟨g', p * 5 + 4, none⟩) (hx3.tA ⟨g', 0, none⟩ rfl) _))
          clear hx3 ht3 hbp' zfa
          refine wp_region_any (by kernel_rfl) ?_
          change wpAny _ _ _ _ _ _ _ (World.drew _)
          refine wpAny_take (i := 0) (v := ?_) rfl (by kernel_rfl) (by kernel_rfl) (by kernel_rfl) (fun _ _ _ h => h) (Or.inl ⟨by kernel_rfl, ?_⟩) ?_
          rotate_left
          · (intro w'; go_simp; try with_reducible rfl)
          refine wpAny_take (i := 1) (v := ?_) rfl (by kernel_rfl) (by kernel_rfl) (by kernel_rfl) (fun _ _ _ h => h) (Or.inl ⟨by kernel_rfl, ?_⟩) ?_
          rotate_left
          · (intro w'; go_simp; try with_reducible rfl)
          refine wpAny_take (i := 2) (v := ?_) rfl (by kernel_rfl) (by kernel_rfl) (by kernel_rfl) (fun _ _ _ h => h) (Or.inl ⟨by kernel_rfl, ?_⟩) ?_
          rotate_left
          · (intro w'; go_simp; try with_reducible rfl)
          refine wpAny_take (i := 4) (v := ?_) rfl (by kernel_rfl) (by kernel_rfl) (by kernel_rfl) (fun _ _ _ h => h) (Or.inl ⟨by kernel_rfl, ?_⟩) ?_
          rotate_left
          · (intro w'; go_simp; try with_reducible rfl)
          refine wpAny_take (i := 5) (v := ?_) rfl (by kernel_rfl) (by kernel_rfl) (by kernel_rfl) (fun _ _ _ h => h) (Or.inl ⟨by kernel_rfl, ?_⟩) ?_
          rotate_left
          · (intro w'; go_simp; try with_reducible rfl)
          refine wpAny_take (i := 6) (v := ?_) rfl (by kernel_rfl) (by kernel_rfl) (by kernel_rfl) (fun _ _ _ h => h) (Or.inl ⟨by kernel_rfl, ?_⟩) ?_
          rotate_left
          · (intro w'; go_simp; try with_reducible rfl)
          refine wpAny_ready (rs := [3, 7]) (by kernel_rfl) (by simp) ?_
          refine AllReady.cons rfl (fun K hK => ?_) ?_
          · skip
            go_simp
            (refine hK _ _ ?_; clear hK K)
            refine wpAny_ready (rs := [7]) (by kernel_rfl) (by simp) ?_
            refine AllReady.cons rfl (fun K hK => ?_) AllReady.nil
            go_simp
            (refine hK _ _ ?_; clear hK K)
            refine wpAny_ready (rs := [8]) (by kernel_rfl) (by simp) ?_
            refine AllReady.cons rfl (fun K hK => ?_) AllReady.nil
            go_simp
            (refine hK _ _ ?_; clear hK K)
            refine wpAny_done (by kernel_rfl) ?_ _
            go_simp
            clear hrun k0 k1 k2 q0 q1 q2 q3 q4
            go_wp2_with fail
            go_roundg (gk - 1)
            case measure => have := HF.out.1; omega
            case rel => exact ⟨_, rfl, HF.out.2⟩
          refine AllReady.cons rfl (fun K hK => ?_) AllReady.nil
          go_simp
          (refine hK _ _ ?_; clear hK K)
          refine wpAny_ready (rs := [3]) (by kernel_rfl) (by simp) ?_
          refine AllReady.cons rfl (fun K hK => ?_) AllReady.nil
          go_simp
          (refine hK _ _ ?_; clear hK K)
          refine wpAny_ready (rs := [8]) (by kernel_rfl) (by simp) ?_
          refine AllReady.cons rfl (fun K hK => ?_) AllReady.nil
          go_simp
          (refine hK _ _ ?_; clear hK K)
          refine wpAny_done (by kernel_rfl) ?_ _
          go_simp
          clear hrun k0 k1 k2 q0 q1 q2 q3 q4
          go_wp2_with fail
          go_roundg (gk - 1)
          case measure => have := HF.out.1; omega
          case rel => exact ⟨_, rfl, HF.out.2⟩
        · have HE := Lib.hid (fun w3 => fall_root (T := T) (w := w) (P := P) (m := m) (w3 := w3) hk hl hI hB hf hc hpos hb0 hp)
          have HP := Lib.hid hp
          clear hI hB hK h hd hk hl hfz hc hbeh hkl hp hown hf hq hpw hew hpos hdec hb0 ho0 s1
          go_wp2_with fail
          go_quiet (fail)
          go_wp2_with fail
          obtain ⟨w3, hrun, hx3, ht3⟩ := HX.out nq 0
          unfold kv at hrun
          have j0 := hx3.k0
          have j1 := hx3.k1
          obtain ⟨g1, e1, _, r0, _, _, _, _⟩ := hx3.allAt HC.out
          injection e1 with e1
          injection e1 with e1
          subst e1
          rw [HP.out] at r0
          have zf3 := hx3.free.frozenAt q
          obtain ⟨g2, e2, rf, _⟩ := hx3.freeAt Hq.out
          injection e2 with e2
          injection e2 with e2
          subst e2
          rw [HC.out] at rf
          have HF := Lib.hid (HE.out (w3.setCell ⟨gf, q, none⟩ (.bool true)) ⟨_, _, _, _, _, _, _, set_free hx3 Hq.out, HD.out⟩
            (((HK.out.drewN (nq + 1)).grown ht3.grown (fun g e => by injection e with e; subst e; exact .inl hx3.tM)).setCell (p := ⟨gf, q, none⟩) (hx3.tB ⟨gf, 0, none⟩ rfl) _))
          clear hx3 ht3
          refine wp_region_any (by kernel_rfl) ?_
          change wpAny _ _ _ _ _ _ _ (World.drew _)
          refine wpAny_take (i := 0) (v := ?_) rfl (by kernel_rfl) (by kernel_rfl) (by kernel_rfl) (fun _ _ _ h => h) (Or.inl ⟨by kernel_rfl, ?_⟩) ?_
          rotate_left
          · (intro w'; go_simp; try with_reducible rfl)
          refine wpAny_take (i := 1) (v := ?_) rfl (by kernel_rfl) (by kernel_rfl) (by kernel_rfl) (fun _ _ _ h => h) (Or.inl ⟨by kernel_rfl, ?_⟩) ?_
          rotate_left
          · (intro w'; go_simp; try with_reducible rfl)
          refine wpAny_take (i := 2) (v := ?_) rfl (by kernel_rfl) (by kernel_rfl) (by kernel_rfl) (fun _ _ _ h => h) (Or.inl ⟨by kernel_rfl, ?_⟩) ?_
          rotate_left
          · (intro w'; go_simp; try with_reducible rfl)
          refine wpAny_take (i := 4) (v := ?_) rfl (by kernel_rfl) (by kernel_rfl) (by kernel_rfl) (fun _ _ _ h => h) (Or.inl ⟨by kernel_rfl, ?_⟩) ?_
          rotate_left
          · (intro w'; go_simp; try with_reducible rfl)
          refine wpAny_take (i := 5) (v := ?_) rfl (by kernel_rfl) (by kernel_rfl) (by kernel_rfl) (fun _ _ _ h => h) (Or.inl ⟨by kernel_rfl, ?_⟩) ?_
          rotate_left
          · (intro w'; go_simp; try with_reducible rfl)
          refine wpAny_take (i := 6) (v := ?_) rfl (by kernel_rfl) (by kernel_rfl) (by kernel_rfl) (fun _ _ _ h => h) (Or.inl ⟨by kernel_rfl, ?_⟩) ?_
          rotate_left
          · (intro w'; go_simp; try with_reducible rfl)
          refine wpAny_ready (rs := [3, 7]) (by kernel_rfl) (by simp) ?_
          refine AllReady.cons rfl (fun K hK => ?_) ?_
          · skip
            go_simp
            (refine hK _ _ ?_; clear hK K)
            refine wpAny_ready (rs := [7]) (by kernel_rfl) (by simp) ?_
            refine AllReady.cons rfl (fun K hK => ?_) AllReady.nil
            go_simp
            (refine hK _ _ ?_; clear hK K)
            refine wpAny_ready (rs := [8]) (by kernel_rfl) (by simp) ?_
            refine AllReady.cons rfl (fun K hK => ?_) AllReady.nil
            go_simp
            (refine hK _ _ ?_; clear hK K)
            refine wpAny_done (by kernel_rfl) ?_ _
            go_simp
            clear hrun k0 k1 k2 q0 q1 q2 q3 q4
            go_wp2_with fail
            go_roundg (gk - 1)
            case measure => have := HF.out.1; omega
            case rel => exact ⟨_, rfl, HF.out.2⟩
          refine AllReady.cons rfl (fun K hK => ?_) AllReady.nil
          go_simp
          (refine hK _ _ ?_; clear hK K)
          refine wpAny_ready (rs := [3]) (by kernel_rfl) (by simp) ?_
          refine AllReady.cons rfl (fun K hK => ?_) AllReady.nil
          go_simp
          (refine hK _ _ ?_; clear hK K)
          refine wpAny_ready (rs := [8]) (by kernel_rfl) (by simp) ?_
          refine AllReady.cons rfl (fun K hK => ?_) AllReady.nil
          go_simp
          (refine hK _ _ ?_; clear hK K)
          refine wpAny_done (by kernel_rfl) ?_ _
          go_simp
          clear hrun k0 k1 k2 q0 q1 q2 q3 q4
          go_wp2_with fail
          go_roundg (gk - 1)
          case measure => have := HF.out.1; omega
          case rel => exact ⟨_, rfl, HF.out.2⟩
end
end Go.Proofs.Ytcgapjicbgfpjaa

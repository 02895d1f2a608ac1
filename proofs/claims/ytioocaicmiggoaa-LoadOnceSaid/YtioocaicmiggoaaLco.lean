/-
  The walk of asker.code.
-/
import Derived.Test.YtioocaicmiggoaaLin
namespace Go.Proofs.Ytioocaicmiggoaa
set_option linter.unusedVariables false
set_option linter.unusedSimpArgs false
open Go.RowKit Go.Deep Go.Maps

theorem SetX.noCell {w : World} {b n : Nat} {S : List Int} (h : SetX w b n S) {p : Addr} {u : Value} (hc : w.cell? p = some u) : p.block ≠ b := by
  rintro rfl
  obtain ⟨D, ⟨es, clock, hh, _⟩, _⟩ := h
  obtain ⟨blk, off, spot⟩ := p
  have hs := World.cell?_spot hc
  have hs : spot = none := hs
  subst hs
  unfold World.cell? at hc
  simp only at hh
  rw [hh] at hc
  simp at hc
theorem keepC_of_set {w w' : World} {b n : Nat} {S : List Int} (h : SetX w b n S) (hg : w.grownBy w' (some b)) : KeepC w w' := fun p u hp => by
  have hne := h.noCell hp
  exact (World.cell?_of_block (hg.block p.block (cell_in hp) (fun e => by injection e with e; exact hne e))).trans hp
theorem PathV.keep {w w' : World} {B : Nat} {v : Value} {l : List Int} (h : PathV w B v l) (hk : KeepC w w') (hs : w.heap.size ≤ w'.heap.size) : PathV w' B v l := by
  obtain ⟨A, c, h1, h2, h3⟩ := h
  refine ⟨A, c, h1, ⟨h2.1, fun hn => ?_⟩, h3⟩
  obtain ⟨ad, hA, hb, hc⟩ := h2.2 hn
  exact ⟨ad, hA, by omega, fun j u hu => hk _ _ (hc j u hu)⟩
/-- the asker in memory -/
def AskM (w : World) (T : TTab) (vk vkk vs vc : Value) (g bM n : Nat) (S : List Int) : Prop :=
  Blk w g 62 #[.int .i64 T.strategy, vk, vkk, .int .i64 T.syms, .int .i64 T.runs, .int .i64 T.cells, vs, vc, .map (some bM)] ∧ SetX w bM n S ∧ TabX w T vk vkk vs vc
theorem AskM.ne {w : World} {T : TTab} {vk vkk vs vc : Value} {g bM n : Nat} {S : List Int} (h : AskM w T vk vkk vs vc g bM n S) : g ≠ bM := h.2.1.noCell (p := ⟨g, 0, none⟩) (h.1.cell 0)
theorem AskM.below {w w' : World} {T : TTab} {vk vkk vs vc : Value} {g bM n : Nat} {S : List Int} (h : AskM w T vk vkk vs vc g bM n S) (hb : Below w.heap.size w w') : AskM w' T vk vkk vs vc g bM n S :=
  ⟨h.1.below hb h.1.lt, h.2.1.below hb h.2.1.lt, h.2.2.below hb⟩
theorem AskM.told {w : World} {T : TTab} {vk vkk vs vc : Value} {g bM n : Nat} {S : List Int} (h : AskM w T vk vkk vs vc g bM n S) {k : Int} (hk : wfi k) (hn : n < maxLen) :
    ∃ w', (Instr.mapUpdate 60 (.map (some bM)) (.int .i64 k) (.bool true)).run Try.prog w = .ok () w' ∧ AskM w' T vk vkk vs vc g bM (n + 1) (addS k S) ∧ w.grownBy w' (some bM) := by
  obtain ⟨w', hr, hs, hg⟩ := h.2.1.store hk hn
  exact ⟨w', hr, ⟨h.1.grown hg (fun e => by injection e with e; exact h.ne e), hs, h.2.2.keep (keepC_of_set h.2.1 hg)⟩, hg⟩
def codeT (T : TTab) (path : List Int) (one many asked n : Int) : Bool :=
  decide (n = -1) || (decide (0 ≤ n) && match T.codes[n.toNat]? with
    | none => false
    | some c => c.inputs.all (inputT T path one many asked))
def toldS (n : Int) (S : List Int) : List Int := if n = -1 then S else addS n S
def CodeP (w : World) (T : TTab) (vk vkk vs vc : Value) (g bM k : Nat) (b : Bool) (S : List Int) (e : Ending) (w' : World) : Prop :=
  e = .returned (.bool b) ∧ w.grownBy w' (some bM) ∧ ∃ S', AskM w' T vk vkk vs vc g bM (k + 1) S' ∧ (b = true → S' = S)
theorem AskM.next {w : World} {T : TTab} {vk vkk vs vc : Value} {g bM n : Nat} {S : List Int} (h : AskM w T vk vkk vs vc g bM n S) : AskM w T vk vkk vs vc g bM (n + 1) S := ⟨h.1, h.2.1.mono (Nat.le_succ n), h.2.2⟩
set_option maxRecDepth 100000 in
set_option maxHeartbeats 4000000 in
theorem code_any (T : TTab) (vk vkk vs vc : Value) (w : World) (g bM k : Nat) (S : List Int) (h : AskM w T vk vkk vs vc g bM k S) (hk : k < maxLen) (n : Int) (hw : wfi n) (B : Nat) (vp : Value) (path : List Int) (hp : PathV w B vp path)
    (one many asked : Int) (hpos : ∀ c ∈ T.codes, ∀ x ∈ c.inputs, 0 ≤ x.pos) (h1 : one ≤ path.length) (h2 : many ≤ path.length) (hin : ∀ j ∈ path, 0 ≤ j ∧ j < (T.states.length : Int)) :
    Calls Try.prog 44 #[.pointer (some ⟨g, 0, none⟩), .int .i64 n, .agg #[vp, .int .i64 one, .int .i64 many, .int .i64 asked]] w (CodeP w T vk vkk vs vc g bM k (codeT T path one many asked n) (toldS n S)) := by
  obtain ⟨A2, c2, rfl, hc1, hc2⟩ := h.2.2.codes.slice
  unfold maxLen at hc2
  obtain ⟨w1, hw1⟩ : ∃ w1, w1 = w.alloc (.cells #[vp, .int .i64 one, .int .i64 many, .int .i64 asked] 96) := ⟨_, rfl⟩
  have B0 : Below w.heap.size w w1 := by rw [hw1]; exact (Below.refl w.heap.size w).alloc (Nat.le_refl _) _
  have BP : Blk w1 w.heap.size 96 #[vp, .int .i64 one, .int .i64 many, .int .i64 asked] := by rw [hw1]; exact Blk.new w _ _
  have M1 := h.below B0
  have P1 := hp.below B0
  have hs1 : w1.heap.size = w.heap.size + 1 := by rw [hw1]; simp
  have HB0 := Lib.hid B0
  have HM1 := Lib.hid M1
  have HP1 := Lib.hid P1
  have HBP := Lib.hid BP
  have HS1 := Lib.hid hs1
  obtain ⟨rv, hrv⟩ : ∃ rv, codeT T path one many asked n = rv := ⟨_, rfl⟩
  have HRV := Lib.hid hrv
  rw [hrv]
  have HPOS := Lib.hid hpos
  have HIN := Lib.hid hin
  obtain ⟨k0, k1, k2, k3, k4, k5, k6, k7, k8⟩ := blk9 M1.1
  clear h B0 M1 P1 hs1 hrv hpos hin hp BP
  by_cases hn1 : n = -1
  · have e1 : (n == -1) = true := by simpa using hn1
    have e : Hid (rv = true ∧ toldS n S = S) := Lib.hid ⟨by rw [← HRV.out]; unfold codeT; rw [decide_eq_true hn1, Bool.true_or], by unfold toldS; rw [if_pos hn1]⟩
    clear hn1
    go_enter Try.func44, Try.ntmps44
    go_upto_region 1 with fail
    rw [← hw1]
    clear hw1
    go_wp2_with fail
    go_ret
    exact ⟨ret_bool e.out.1.symm, only_of_below HB0.out _, S, HM1.out.next, fun _ => e.out.2.symm⟩
  · have e1 : (n == -1) = false := by simpa using hn1
    by_cases hn2 : n < 0
    · have e : Hid (rv = false) := Lib.hid (by rw [← HRV.out]; unfold codeT; rw [decide_eq_false hn1, decide_eq_false (by omega)]; rfl)
      clear hn1
      go_enter Try.func44, Try.ntmps44
      go_upto_region 1 with fail
      rw [← hw1]
      clear hw1
      go_wp2_with fail
      go_ret
      exact ⟨ret_bool e.out.symm, only_of_below HB0.out _, S, HM1.out.next, fun h => by rw [e.out] at h; cases h⟩
    · by_cases hn3 : (T.codes.length : Int) ≤ n
      · have e : Hid (rv = false) := Lib.hid (by rw [← HRV.out]; unfold codeT; rw [decide_eq_false hn1, List.getElem?_eq_none (by omega)]; simp)
        clear hn1
        go_enter Try.func44, Try.ntmps44
        go_upto_region 1 with fail
        rw [← hw1]
        clear hw1
        go_wp2_with fail
        go_ret
        exact ⟨ret_bool e.out.symm, only_of_below HB0.out _, S, HM1.out.next, fun h => by rw [e.out] at h; cases h⟩
      · obtain ⟨q, rfl⟩ : ∃ q : Nat, n = q := ⟨n.toNat, by omega⟩
        obtain ⟨c, hc⟩ : ∃ c, T.codes[q]? = some c := ⟨_, List.getElem?_eq_getElem (by omega)⟩
        have HR : Hid (c.inputs.all (inputT T path one many asked) = rv) := Lib.hid (by
          have h9 := HRV.out; unfold codeT at h9; rw [decide_eq_false hn1, Int.toNat_natCast, hc, decide_eq_true (by omega)] at h9; simpa using h9)
        have HTS : Hid (toldS (q : Int) S = addS (q : Int) S) := Lib.hid (by unfold toldS; rw [if_neg hn1])
        obtain ⟨w2, hrun, M2, hg2⟩ := HM1.out.told hw hk
        have HPO := Lib.hid (HPOS.out c (List.mem_of_getElem? hc))
        have HK2 := keepC_of_set HM1.out.2.1 hg2
        have P2 := HP1.out.keep HK2 hg2.size
        have BP2 := HBP.out.grown hg2 (fun e => by injection e with e; exact HM1.out.2.1.noCell (p := ⟨w.heap.size, 0, none⟩) (HBP.out.cell 0) e)
        have HG2 := Lib.hid (show w.grownBy w2 (some bM) from World.grownBy.trans (only_of_below HB0.out _) hg2)
        obtain ⟨b5, off5, c5, vi, vcc, vl, hvv, _, _, q0, q1, q2, q3, q4, hinp, _⟩ := codes_get M2.2.2.codes hc
        injection hvv with hv1 hv2 hv3
        subst hv1
        obtain ⟨A6, c6, rfl, hc5, hc6⟩ := hinp.slice
        unfold maxLen at hc6
        have HINP := Lib.hid hinp
        have HM2 := Lib.hid M2
        have HP2 := Lib.hid P2
        have HBP2 := Lib.hid BP2
        have b1 : (0 : Int) ≤ (q : Int) := by omega
        have b2 : (q : Int) < (T.codes.length : Int) := by omega
        have nl : (0 : Int) ≤ (c.inputs.length : Int) := by omega
        have hs2 : w.heap.size < w2.heap.size := by have := HBP2.out.lt; exact this
        clear hn1 hc M2 P2 BP2 hinp hg2 HK2 hv2 hv3
        go_enter Try.func44, Try.ntmps44
        go_upto_region 1 with fail
        rw [← hw1]
        clear hw1
        go_upto_region 6 with fail
        clear k0 k1 k2 k3 k4 k5 k6 k7 k8 hrun
        obtain ⟨k0, k1, k2, k3, k4, k5, k6, k7, k8⟩ := blk9 HM2.out.1
        go_wp2_with fail
        clear k0 k1 k2 k3 k4 k5 k6 k7 k8 q0 q1 q2 q3 q4
        go_loopw [38] (fun s wr => ∃ r : Nat, r ≤ c.inputs.length ∧ s = .int .i64 r ∧ Hid (Below w2.heap.size w2 wr) ∧ Hid ((c.inputs.take r).all (inputT T path one many asked) = true)) (fun s _ => c.inputs.length - (intOf s).toNat)
        case atStart => exact ⟨0, Nat.zero_le _, rfl, Lib.hid (Below.refl _ _), Lib.hid (by simp)⟩
        case round =>
          obtain ⟨r, hr, rfl, hb, hal⟩ := hrel
          have hwr := hb.out.size
          by_cases hlt : r < c.inputs.length
          · obtain ⟨x, hx⟩ : ∃ x, c.inputs[r]? = some x := ⟨_, List.getElem?_eq_getElem hlt⟩
            obtain ⟨b6, off6, c7, hvv, _, _, q0, q1, q2, q3, _⟩ := inps_get (keep_inps (KeepC.of_below hb.out) HINP.out) hx
            injection hvv with hv1 hv2 hv3
            subst hv1
            have b3 : (0 : Int) ≤ (r : Int) := by omega
            have b4 : (r : Int) < (c.inputs.length : Int) := by omega
            obtain ⟨w5, hw5⟩ : ∃ w5, w5 = wr.alloc (.cells #[.int .i64 x.op, .int .i64 x.kind, .int .i64 x.pos, .int .i64 x.attr] 70) := ⟨_, rfl⟩
            have hb5 : Below w2.heap.size w2 w5 := by rw [hw5]; exact hb.out.alloc hwr _
            have M5 := HM2.out.below hb5
            have CT := Lib.hid (ainput_any T vk vkk vs _ w5 M5.2.2 g bM M5.1 x B vp path (HP2.out.below hb5) one many asked (HPO.out x (List.mem_of_getElem? hx)) h1 h2 HIN.out)
            have HST := Lib.hid (all_step (f := inputT T path one many asked) hx hal.out)
            have HBD : Hid (inputT T path one many asked x = false → rv = false) := Lib.hid (fun h => by rw [← HR.out]; exact all_bad hx h)
            have BX := Lib.hid (show Blk w5 wr.heap.size 70 #[.int .i64 x.op, .int .i64 x.kind, .int .i64 x.pos, .int .i64 x.attr] by rw [hw5]; exact Blk.new wr _ _)
            have BP5 := Lib.hid (HBP2.out.below hb5 hs2)
            have HB5 := Lib.hid hb5
            obtain ⟨tb, htb⟩ : ∃ tb, inputT T path one many asked x = tb := ⟨_, rfl⟩
            rw [htb] at CT HST HBD
            clear hx hv2 hv3 htb hal hb M5 hb5
            go_upto_region 9 with fail
            rw [← hw5]
            clear hw5 q0 q1 q2 q3
            obtain ⟨x0, x1, x2, x3⟩ := blk4 BX.out
            obtain ⟨p0, p1, p2, p3⟩ := blk4 BP5.out
            go_wp2_with fail
            refine CT.out.mono ?_
            rintro e w6 ⟨rfl, hb6⟩
            have HB6 := Lib.hid (HB5.out.trans (hb6.mono HB5.out.size))
            clear hb6 CT x0 x1 x2 x3 p0 p1 p2 p3
            cases tb with
            | true =>
              have e := Lib.hid (HST.out rfl)
              clear HST HBD
              go_wp2_with fail
              go_roundw
              case rel => first | exact ⟨r + 1, by omega, by go_num, HB6, e⟩ | ((repeat apply Exists.intro); exact ⟨⟨r + 1, by omega, by go_num, HB6, e⟩, rfl⟩)
              case measure => simp [intOf]; omega
            | false =>
              have e := Lib.hid (HBD.out rfl)
              clear HST HBD
              go_wp2_with fail
              go_ret
              exact ⟨ret_bool e.out.symm, HG2.out.trans (only_of_below HB6.out _), _, HM2.out.below HB6.out, fun h => by rw [e.out] at h; cases h⟩
          · have hge : (c.inputs.length : Int) ≤ (r : Int) := by omega
            have e : Hid (rv = true) := Lib.hid (by have h9 := hal.out; rw [List.take_of_length_le (by omega), HR.out] at h9; exact h9)
            have HB := Lib.hid hb.out
            clear hal hb
            go_wp2_with fail
            go_ret
            exact ⟨ret_bool e.out.symm, HG2.out.trans (only_of_below HB.out _), _, HM2.out.below HB.out, fun _ => HTS.out.symm⟩
end Go.Proofs.Ytioocaicmiggoaa

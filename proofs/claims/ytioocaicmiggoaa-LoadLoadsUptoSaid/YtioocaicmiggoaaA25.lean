/- Mfi: texts merged for a claim by a program of mine. -/
import Derived.Deep.DeepCutAuto
import Derived.Test.YtioocaicmiggoaaA20
namespace Go.Proofs.Ytioocaicmiggoaa
set_option linter.unusedVariables false
set_option linter.unusedSimpArgs false
open Go.RowKit Go.Deep
def inB (a b c : Int) : Bool := decide (b ≤ a) && decide (a ≤ c)
theorem within_any (a b c : Int) (w : World) : Calls Try.prog 28 #[.int .i64 a, .int .i64 b, .int .i64 c] w fun e w' => e = .returned (.bool (inB a b c)) ∧ w = w' := by
 unfold inB
 go_enter Try.func28, Try.ntmps28
 by_cases h1 : b ≤ a
 ·by_cases h2 : a ≤ c
  ·go_wp2_with fail
   go_ret
   exact ⟨by simp [h1, h2], rfl⟩
  ·have h3 : c < a := by omega
   go_wp2_with fail
   go_ret
   exact ⟨by simp [h1]; omega, rfl⟩
 ·have h3 : a < b := by omega
  go_wp2_with fail
  go_ret
  exact ⟨congrArg (fun q => Ending.returned (Value.bool q)) (show false = (decide (b ≤ a) && decide (a ≤ c)) by rw [decide_eq_false (by omega : ¬ b ≤ a), Bool.false_and]), rfl⟩
def firstN (T : TTab) : Bool := inB T.strategy 1 3 && decide (T.kinds.length ≤ 16) && inB T.syms 0 64 && inB T.runs 1 100000 && inB T.cells 1 100000
def firstT (T : TTab) : Bool := firstN T && keysB T && kindsB T T.kinds.length
theorem kinds_more {T : TTab} {r : Nat} {l : List Int} (hg : T.kinds[r]? = some l) : kindsB T (r + 1) = (kindsB T r && kindB T r l) := by
 unfold kindsB
 rw [List.range_succ, List.all_append]
 have e : T.kinds.getD r [] = l := by rw [List.getD_eq_getElem?_getD, hg]; rfl
 simp only [List.all_cons, List.all_nil, Bool.and_true, e]
theorem all_more {α : Type} {f : α → Bool} {l : List α} {n : Nat} {x : α} (hx : l[n]? = some x) : (l.take (n + 1)).all f = ((l.take n).all f && f x) := by
 rw [List.take_add_one, hx, List.all_append]
 simp
set_option maxRecDepth 100000 in
set_option maxHeartbeats 8000000 in
theorem first_may (T : TTab) (vk vkk vs vc : Value) (w : World) (h : TabX w T vk vkk vs vc) :
  Calls Try.prog 24 #[.agg #[.int .i64 T.strategy, vk, vkk, .int .i64 T.syms, .int .i64 T.runs, .int .i64 T.cells, vs, vc]] w (BoolP w (firstT T)) := by
 obtain ⟨A, c, rfl, hc1, hc2⟩ := h.states.slice
 obtain ⟨A2, c2, rfl, hc3, hc4⟩ := h.codes.slice
 obtain ⟨A3, c3, rfl, hc5, hc6⟩ := h.kinds.slice
 obtain ⟨A1, c1, rfl, hc7, hc8⟩ := h.keys.slice
 unfold maxLen at hc2 hc4 hc6 hc8
 obtain ⟨W0, hW0⟩ : ∃ W, W = w.alloc (.cells #[.int .i64 T.strategy, .slice A1 T.keys.length c1, .slice A3 T.kinds.length c3, .int .i64 T.syms, .int .i64 T.runs, .int .i64 T.cells, .slice A T.states.length c, .slice A2 T.codes.length c2] 27) := ⟨_, rfl⟩
 have B0 : Below w.heap.size w W0 := by rw [hW0]; exact (Below.refl _ _).alloc (Nat.le_refl _) _
 have HX := Lib.hid (h.below B0)
 have HB0 := Lib.hid B0
 have BX : Hid (Blk W0 w.heap.size 27 #[.int .i64 T.strategy, .slice A1 T.keys.length c1, .slice A3 T.kinds.length c3, .int .i64 T.syms, .int .i64 T.runs, .int .i64 T.cells, .slice A T.states.length c, .slice A2 T.codes.length c2]) := Lib.hid (by rw [hW0]; exact Blk.new _ _ _)
 obtain ⟨k0, k1, k2, k3, k4, k5, k6, k7⟩ := blk8 BX.out
 have hnk : (0 : Int) ≤ (T.kinds.length : Int) := by omega
 have hny : (0 : Int) ≤ (T.keys.length : Int) := by omega
 clear h B0
 go_enter Try.func24, Try.ntmps24
 go_upto_region 1 with fail
 rw [← hW0]
 clear hW0
 go_cut [3] (fun q wx => q = .bool (firstN T) ∧ wx = W0)
 case first =>
  go_wp2_with (go_at_call 28; refine (within_any _ _ _ _).mono ?_; rintro e w' ⟨rfl, rfl⟩)
  all_goals (go_meet; refine ⟨?_, rfl⟩; congr 1; unfold firstN; rw [Bool.eq_iff_iff]; simp_all <;> omega)
 case rest =>
  obtain ⟨rfl, rfl⟩ := hcut
  obtain ⟨o0, ho0⟩ : ∃ o, firstN T = o := ⟨_, rfl⟩
  have HO0 := Lib.hid ho0
  rw [ho0]
  clear ho0
  go_upto_region 2 with fail
  go_cut [3] (fun q wx => q = .bool (o0 && keysB T) ∧ wx = wc)
  case first =>
   cases o0 with
   | false =>
    go_wp2_with fail
    go_meet
    exact ⟨rfl, rfl⟩
   | true =>
    by_cases hk0 : T.keys.length = 0
    ·have hkz : ((T.keys.length : Int) == 0) = true := by rw [hk0]; rfl
     have HK : Hid (keysB T = true) := Lib.hid (by unfold keysB; simp [hk0])
     clear hk0
     go_wp2_with fail
     go_meet
     exact ⟨by rw [HK.out, Bool.true_and], rfl⟩
    ·have hkz : ((T.keys.length : Int) == 0) = false := by rw [beq_eq_false_iff_ne]; omega
     by_cases hk1 : T.keys.length = T.kinds.length
     ·have hke : ((T.keys.length : Int) == (T.kinds.length : Int)) = true := by rw [hk1]; exact beq_self_eq_true _
      have HK : Hid (keysB T = true) := Lib.hid (by unfold keysB; simp [hk1])
      clear hk0 hk1
      go_wp2_with fail
      go_meet
      exact ⟨by rw [HK.out, Bool.true_and], rfl⟩
     ·have hke : ((T.keys.length : Int) == (T.kinds.length : Int)) = false := by rw [beq_eq_false_iff_ne]; omega
      have HK : Hid (keysB T = false) := Lib.hid (by unfold keysB; simp [hk0, hk1])
      clear hk0 hk1
      go_wp2_with fail
      go_meet
      exact ⟨by rw [HK.out, Bool.and_false], rfl⟩
  case rest =>
   obtain ⟨rfl, rfl⟩ := hcut
   obtain ⟨V0, hV⟩ : ∃ V, V = wc := ⟨wc, rfl⟩
   subst hV
   obtain ⟨o1, ho1⟩ : ∃ o, (o0 && keysB T) = o := ⟨_, rfl⟩
   have HO1 := Lib.hid ho1
   rw [ho1]
   clear ho1
   go_wp2_with fail
   clear k0 k2 k3 k4 k5 k6 k7
   go_loopw [3, 51] (fun s i wr => ∃ r : Nat, r ≤ T.kinds.length ∧ i = .int .i64 r ∧ s = .bool (o1 && kindsB T r) ∧ V0 = wr) (fun _ i _ => T.kinds.length - (intOf i).toNat)
   case atStart => exact ⟨0, Nat.zero_le _, rfl, by simp [kindsB], rfl⟩
   case round =>
    obtain ⟨r, hr, rfl, rfl, rfl⟩ := hrel
    obtain ⟨ob, hob⟩ : ∃ o, (o1 && kindsB T r) = o := ⟨_, rfl⟩
    rw [hob]
    have HOB := Lib.hid hob
    clear hob
    by_cases hlt : r < T.kinds.length
    ·obtain ⟨l, hl⟩ : ∃ l, T.kinds[r]? = some l := ⟨_, List.getElem?_eq_getElem hlt⟩
     obtain ⟨b5, off5, c5, u5, hvv, _, _, q0, hls⟩ := intss_get HX.out.kinds hl
     injection hvv with hv1 hv2 hv3
     subst hv1
     obtain ⟨A6, c6, rfl, hc9, hc10⟩ := hls.slice
     unfold maxLen at hc10
     have b1 : (0 : Int) ≤ (r : Int) := by omega
     have b2 : (r : Int) < (T.kinds.length : Int) := by omega
     have nl : (0 : Int) ≤ (l.length : Int) := by omega
     have HGL := Lib.hid hl
     have HLS := Lib.hid hls
     clear hv2 hv3 hls hl
     go_upto_region 6 with fail
     go_cut [3] (fun q wx => q = .bool (ob && decide ((l.length : Int) ≤ 8)) ∧ wx = V0)
     case first =>
      cases ob <;> go_wp2_with fail
      all_goals (go_meet; exact ⟨by simp_all, rfl⟩)
     case rest =>
      obtain ⟨rfl, hcw⟩ := hcut
      subst hcw
      obtain ⟨o2, ho2⟩ : ∃ o, (ob && decide ((l.length : Int) ≤ 8)) = o := ⟨_, rfl⟩
      rw [ho2]
      have HO2 := Lib.hid ho2
      clear ho2 q0
      go_wp2_with fail
      go_loopw [3, 64] (fun s i wr => ∃ n : Nat, n ≤ l.length ∧ i = .int .i64 n ∧ s = .bool (o2 && (l.take n).all fun k => inB k 1 4) ∧ wc = wr) (fun _ i _ => l.length - (intOf i).toNat)
      case atStart => exact ⟨0, Nat.zero_le _, rfl, by simp, rfl⟩
      case round =>
       obtain ⟨n, hn, rfl, rfl, rfl⟩ := hrel
       obtain ⟨o3, ho3⟩ : ∃ o, (o2 && (l.take n).all fun k => inB k 1 4) = o := ⟨_, rfl⟩
       rw [ho3]
       have HO3 := Lib.hid ho3
       clear ho3
       by_cases hlt2 : n < l.length
       ·obtain ⟨x, hx⟩ : ∃ x, l[n]? = some x := ⟨_, List.getElem?_eq_getElem hlt2⟩
        obtain ⟨b7, off7, c7, hv, _, _, m0, _⟩ := ints_get HLS.out hx
        injection hv with hv4 hv5 hv6
        subst hv4
        have d1 : (0 : Int) ≤ (n : Int) := by omega
        have d2 : (n : Int) < (l.length : Int) := by omega
        have HN : Hid ((o3 && inB x 1 4) = (o2 && (l.take (n + 1)).all fun k => inB k 1 4)) := Lib.hid (by rw [all_more hx, ← HO3.out, Bool.and_assoc])
        clear hx hv5 hv6
        cases o3 with
        | false =>
         have HN2 : Hid (false = (o2 && (l.take (n + 1)).all fun k => inB k 1 4)) := Lib.hid (by have h := HN.out; rwa [Bool.false_and] at h)
         go_wp2_with fail
         go_roundw
         case rel => first | exact ⟨n + 1, by omega, by go_num, by rw [← HN2.out], by first | rfl | trivial⟩ | ((repeat apply Exists.intro); exact ⟨⟨n + 1, by omega, by go_num, by rw [← HN2.out], by first | rfl | trivial⟩, rfl⟩)
         case measure => simp [intOf]; omega
        | true =>
         have HN2 : Hid (inB x 1 4 = (o2 && (l.take (n + 1)).all fun k => inB k 1 4)) := Lib.hid (by have h := HN.out; rwa [Bool.true_and] at h)
         go_wp2_with (go_at_call 28; refine (within_any _ _ _ _).mono ?_; rintro e w' ⟨rfl, rfl⟩)
         go_roundw
         case rel => first | exact ⟨n + 1, by omega, by go_num, by rw [← HN2.out], by first | rfl | trivial⟩ | ((repeat apply Exists.intro); exact ⟨⟨n + 1, by omega, by go_num, by rw [← HN2.out], by first | rfl | trivial⟩, rfl⟩)
         case measure => simp [intOf]; omega
       ·have hge : (l.length : Int) ≤ (n : Int) := by omega
        have hne : n = l.length := by omega
        have HO4 : Hid ((o2 && l.all fun k => inB k 1 4) = o3) := Lib.hid (by rw [← HO3.out, hne, List.take_length])
        clear hne
        have HSUM : Hid ((o3 && (decide (T.keys.length = 0) || (decide (-1 ≤ T.keys.getD r 0) && decide (T.keys.getD r 0 < (l.length : Int))))) = (o1 && kindsB T (r + 1))) := Lib.hid (by
         rw [kinds_more HGL.out, ← HO4.out, ← HO2.out, ← HOB.out]
         unfold kindB inB
         have e : decide ((l.length : Int) ≤ 8) = decide (l.length ≤ 8) := by rw [Bool.eq_iff_iff]; simp; omega
         rw [e]
         cases o1 <;> cases kindsB T r <;> cases decide (l.length ≤ 8) <;> cases (l.all fun k => decide (1 ≤ k) && decide (k ≤ 4)) <;> simp)
        cases o3 with
        | false =>
         have HN2 : Hid (false = (o1 && kindsB T (r + 1))) := Lib.hid (by have h := HSUM.out; rwa [Bool.false_and] at h)
         go_wp2_with fail
         go_roundw
         case rel => first | exact ⟨r + 1, by omega, by go_num, by rw [← HN2.out], by first | rfl | trivial⟩ | ((repeat apply Exists.intro); exact ⟨⟨r + 1, by omega, by go_num, by rw [← HN2.out], by first | rfl | trivial⟩, rfl⟩)
         case measure => simp [intOf]; omega
        | true =>
         have HKB : Hid (keysB T = true) := Lib.hid (by
          have h4 := HO4.out
          simp only [Bool.and_eq_true] at h4
          have h2 := HO2.out
          rw [h4.1] at h2
          simp only [Bool.and_eq_true] at h2
          have h3 := HOB.out
          rw [h2.1] at h3
          simp only [Bool.and_eq_true] at h3
          have h5 := HO1.out
          rw [h3.1] at h5
          simp only [Bool.and_eq_true] at h5
          exact h5.2)
         by_cases hk0 : T.keys.length = 0
         ·have HN2 : Hid (true = (o1 && kindsB T (r + 1))) := Lib.hid (by have h := HSUM.out; rw [hk0] at h; simpa using h)
          have hk2 : (T.keys.length : Int) = 0 := by omega
          have hk3 : ¬ ((0 : Int) < (T.keys.length : Int)) := by omega
          clear hk0
          go_wp2_with fail
          go_roundw
          case rel => first | exact ⟨r + 1, by omega, by go_num, by rw [← HN2.out], by first | rfl | trivial⟩ | ((repeat apply Exists.intro); exact ⟨⟨r + 1, by omega, by go_num, by rw [← HN2.out], by first | rfl | trivial⟩, rfl⟩)
          case measure => simp [intOf]; omega
         ·have hrk : r < T.keys.length := keys_lt HKB.out hk0 hlt
          obtain ⟨y, hy⟩ : ∃ y, T.keys[r]? = some y := ⟨_, List.getElem?_eq_getElem hrk⟩
          obtain ⟨b8, off8, c8, hv, _, _, m0, _⟩ := ints_get HX.out.keys hy
          injection hv with hv4 hv5 hv6
          subst hv4
          have HN2 : Hid (inB y (-1) ((l.length : Int) - 1) = (o1 && kindsB T (r + 1))) := Lib.hid (by
           rw [← HSUM.out, List.getD_eq_getElem?_getD, hy]
           unfold inB
           rw [decide_eq_false hk0, Bool.true_and, Bool.false_or]
           simp only [Option.getD_some]
           congr 1
           rw [Bool.eq_iff_iff]; simp; omega)
          have hk2 : (0 : Int) < (T.keys.length : Int) := by omega
          have hk4 : (r : Int) < (T.keys.length : Int) := by omega
          clear hy hv5 hv6 hk0
          go_wp2_with (go_at_call 28; refine (within_any _ _ _ _).mono ?_; rintro e w' ⟨rfl, rfl⟩)
          go_roundw
          case rel => first | exact ⟨r + 1, by omega, by go_num, by rw [← HN2.out], by first | rfl | trivial⟩ | ((repeat apply Exists.intro); exact ⟨⟨r + 1, by omega, by go_num, by rw [← HN2.out], by first | rfl | trivial⟩, rfl⟩)
          case measure => simp [intOf]; omega
    ·have hge : (T.kinds.length : Int) ≤ (r : Int) := by omega
     have HE : Hid (firstT T = ob) := Lib.hid (by
      unfold firstT
      rw [← HOB.out, ← HO1.out, ← HO0.out, show r = T.kinds.length by omega])
     go_wp2_with fail
     go_ret
     exact ⟨congrArg (fun q => Ending.returned (Value.bool q)) HE.out.symm, HB0.out⟩
end Go.Proofs.Ytioocaicmiggoaa

/- Lhe, Lva, Lvr: texts merged for a claim by a program of mine. -/
import Derived.Test.YtioocaicmiggoaaA19
import Derived.Laws.BitsAllLaws
import Derived.IntWalk
namespace Go.Proofs.Ytioocaicmiggoaa
set_option linter.unusedVariables false
set_option linter.unusedSimpArgs false
open Go.RowKit Go.Deep
theorem neB_true {a b : Int} (h : (a != b) = true) : a ≠ b := bne_iff_ne.1 h
theorem neB_false {a b : Int} (h : (a != b) = false) : a = b := by
 by_cases e : a = b
 ·exact e
 ·rw [bne_iff_ne.2 e] at h; cases h
theorem intss_get {w : World} {v : Value} {l : List (List Int)} (h : SlR 1 IntsC w v l) {i : Nat} {x : List Int} (hx : l[i]? = some x) :
  ∃ b off c u, v = .slice (some ⟨b, off, none⟩) l.length c ∧ l.length ≤ c ∧ c ≤ maxLen ∧ w.cell? ⟨b, off + i, none⟩ = some u ∧ SlR 1 IntC w u x := by
 obtain ⟨b, off, c, hv, h1, h2, hi, cs, hl, ⟨u, rfl, hs⟩, hc⟩ := h.get hx
 exact ⟨b, off, c, u, hv, h1, h2, by have := hc 0 _ rfl; simpa using this, hs⟩
theorem ints_get {w : World} {v : Value} {l : List Int} (h : SlR 1 IntC w v l) {i : Nat} {x : Int} (hx : l[i]? = some x) :
  ∃ b off c, v = .slice (some ⟨b, off, none⟩) l.length c ∧ l.length ≤ c ∧ c ≤ maxLen ∧ w.cell? ⟨b, off + i, none⟩ = some (.int .i64 x) ∧ wfi x := by
 obtain ⟨b, off, c, hv, h1, h2, hi, cs, hl, ⟨rfl, hw⟩, hc⟩ := h.get hx
 exact ⟨b, off, c, hv, h1, h2, by have := hc 0 _ rfl; simpa using this, hw⟩
def headN (T : TTab) : Bool := decide (1 ≤ T.strategy) && decide (T.strategy ≤ 3) && decide (T.kinds.length ≤ 16) && decide (0 ≤ T.syms) && decide (T.syms ≤ 64) && decide (T.codes.length ≤ 1024) && decide (T.states.length ≤ 32)
def liveB (n : Int) : Bool := decide (1 ≤ n) && decide (n ≤ 100000)
def keysB (T : TTab) : Bool := decide (T.keys.length = 0) || decide (T.keys.length = T.kinds.length)
def kindB (T : TTab) (i : Nat) (l : List Int) : Bool :=
 decide (l.length ≤ 8) && (decide (T.keys.length = 0) || (decide (-1 ≤ T.keys.getD i 0) && decide (T.keys.getD i 0 < (l.length : Int)))) && l.all fun k => decide (1 ≤ k) && decide (k ≤ 4)
def kindsB (T : TTab) (n : Nat) : Bool := (List.range n).all fun i => kindB T i (T.kinds.getD i [])
def headT (T : TTab) : Bool := headN T && liveB T.runs && liveB T.cells && keysB T && kindsB T T.kinds.length
theorem kinds_step {T : TTab} {r : Nat} {l : List Int} (hg : T.kinds[r]? = some l) (h : kindsB T r = true) : kindsB T (r + 1) = kindB T r l := by
 unfold kindsB at h ⊢
 rw [List.range_succ, List.all_append, h]
 have e : T.kinds.getD r [] = l := by rw [List.getD_eq_getElem?_getD, hg]; rfl
 rw [List.all_cons, List.all_nil, e, Bool.true_and, Bool.and_true]
theorem kinds_bad {T : TTab} {r : Nat} {l : List Int} (hg : T.kinds[r]? = some l) (hr : r < T.kinds.length) (h : kindB T r l = false) : headT T = false := by
 have e : T.kinds.getD r [] = l := by rw [List.getD_eq_getElem?_getD, hg]; rfl
 have h9 : kindsB T T.kinds.length = false := by
  unfold kindsB
  rw [List.all_eq_false]
  exact ⟨r, by rw [List.mem_range]; exact hr, by rw [e, h]; simp⟩
 unfold headT
 rw [h9, Bool.and_false]
def kindA (T : TTab) (r : Nat) (l : List Int) : Bool := decide (l.length ≤ 8) && (decide (T.keys.length = 0) || (decide (-1 ≤ T.keys.getD r 0) && decide (T.keys.getD r 0 < (l.length : Int))))
def kOk (k : Int) : Bool := decide (1 ≤ k) && decide (k ≤ 4)
theorem kindB_a {T : TTab} {r : Nat} {l : List Int} (h : kindA T r l = false) : kindB T r l = false := by unfold kindB; unfold kindA at h; rw [h, Bool.false_and]
theorem kindB_b {T : TTab} {r : Nat} {l : List Int} {n : Nat} {k : Int} (hk : l[n]? = some k) (h : kOk k = false) : kindB T r l = false := by
 have h9 : l.all kOk = false := by
  rw [List.all_eq_false]
  exact ⟨k, List.mem_of_getElem? hk, by rw [h]; simp⟩
 unfold kindB
 show (_ && _ && l.all kOk) = false
 rw [h9, Bool.and_false]
theorem kindB_c {T : TTab} {r : Nat} {l : List Int} (h : kindA T r l = true) (h2 : l.all kOk = true) : kindB T r l = true := by
 unfold kindB
 unfold kindA at h
 show (_ && _ && l.all kOk) = true
 rw [h, h2]; rfl
theorem all_step {α : Type} {f : α → Bool} {l : List α} {n : Nat} {x : α} (hx : l[n]? = some x) (h : (l.take n).all f = true) (hf : f x = true) : (l.take (n + 1)).all f = true := by
 rw [List.take_add_one, hx, List.all_append, h]
 simp [hf]
theorem keys_lt {T : TTab} {r : Nat} (h : keysB T = true) (h0 : ¬ T.keys.length = 0) (hr : r < T.kinds.length) : r < T.keys.length := by
 unfold keysB at h
 simp only [decide_eq_true_eq, Bool.or_eq_true] at h
 omega
theorem kindA_0 {T : TTab} {r : Nat} {l : List Int} (h0 : T.keys.length = 0) : kindA T r l = decide ((l.length : Int) ≤ 8) := by
 unfold kindA
 rw [decide_eq_true h0, Bool.true_or, Bool.and_true, Bool.eq_iff_iff]
 simp only [decide_eq_true_eq]
 omega
theorem kindA_1 {T : TTab} {r : Nat} {l : List Int} {k : Int} (h0 : ¬ T.keys.length = 0) (hk : T.keys[r]? = some k) : kindA T r l = (decide ((l.length : Int) ≤ 8) && decide (-1 ≤ k) && decide (k < (l.length : Int))) := by
 have e : T.keys.getD r 0 = k := by rw [List.getD_eq_getElem?_getD, hk]; rfl
 unfold kindA
 rw [decide_eq_false h0, Bool.false_or, e, Bool.eq_iff_iff]
 simp only [decide_eq_true_eq, Bool.and_eq_true]
 omega
def LiveR (T : TTab) (r : Nat) : Prop := (1 ≤ r → liveB T.runs = true) ∧ (2 ≤ r → liveB T.cells = true)
set_option maxRecDepth 100000 in
set_option maxHeartbeats 4000000 in
theorem head_any (T : TTab) (vk vkk vs vc : Value) (w : World) (h : TabX w T vk vkk vs vc) :
  Calls Try.prog 20 #[.agg #[.int .i64 T.strategy, vk, vkk, .int .i64 T.syms, .int .i64 T.runs, .int .i64 T.cells, vs, vc]] w (BoolP w (headT T)) := by
 obtain ⟨A, c, rfl, hc1, hc2⟩ := h.states.slice
 obtain ⟨A2, c2, rfl, hc3, hc4⟩ := h.codes.slice
 obtain ⟨A3, c3, rfl, hc5, hc6⟩ := h.kinds.slice
 obtain ⟨A4, c4, rfl, hc7, hc8⟩ := h.keys.slice
 unfold maxLen at hc2 hc4 hc6 hc8
 have HX := Lib.hid (fun W (hb : Below w.heap.size w W) => h.below hb)
 obtain ⟨w1, hw1⟩ : ∃ w1, w1 = w.alloc (.cells #[.int .i64 T.strategy, .slice A4 T.keys.length c4, .slice A3 T.kinds.length c3, .int .i64 T.syms, .int .i64 T.runs, .int .i64 T.cells, .slice A T.states.length c, .slice A2 T.codes.length c2] 27) := ⟨_, rfl⟩
 have B0 : Below w.heap.size w w1 := by rw [hw1]; exact (Below.refl w.heap.size w).alloc (Nat.le_refl _) _
 have hs1 : w1.heap.size = w.heap.size + 1 := by rw [hw1]; simp
 have BT : Blk w1 w.heap.size 27 #[.int .i64 T.strategy, .slice A4 T.keys.length c4, .slice A3 T.kinds.length c3, .int .i64 T.syms, .int .i64 T.runs, .int .i64 T.cells, .slice A T.states.length c, .slice A2 T.codes.length c2] := by rw [hw1]; exact Blk.new w _ _
 have B0 := Lib.hid B0
 have BT := Lib.hid BT
 have HS1 := Lib.hid hs1
 have ok := h.ok
 clear h hs1
 go_enter Try.func20, Try.ntmps20
 go_upto_region 1 with fail
 rw [← hw1]
 clear hw1
 go_cut [44] from 9 to 44 (fun b wx => b = .bool (!headN T) ∧ wx = w1)
 case first =>
  obtain ⟨k0, k1, k2, k3, k4, k5, k6, k7⟩ := blk8 BT.out
  go_wp2_with fail
  all_goals (go_meet; refine ⟨?_, rfl⟩; congr 1; rw [Bool.eq_iff_iff]; unfold headN; simp; omega)
 case rest =>
  obtain ⟨rfl, hwc⟩ := hcut
  subst hwc
  obtain ⟨hn, hhn⟩ : ∃ hn, headN T = hn := ⟨_, rfl⟩
  have HN := Lib.hid hhn
  rw [hhn]
  clear hhn
  have hs1 := HS1.out
  obtain ⟨k0, k1, k2, k3, k4, k5, k6, k7⟩ := blk8 BT.out
  cases hn with
  | false =>
   have e : headT T = false := by unfold headT; rw [HN.out]; rfl
   have e := Lib.hid e
   go_wp2_with fail
   go_ret
   exact ⟨by first | rfl | (rw [e.out]; rfl), B0.out⟩
  | true =>
   have BL := Lib.hid (Blk.new wc 3 #[.int .i64 T.runs, .int .i64 T.cells])
   have B1 := Lib.hid (B0.out.alloc B0.out.size (.cells #[.int .i64 T.runs, .int .i64 T.cells] 3))
   have HSW := Lib.hid hs1
   have BT2 := Lib.hid (BT.out.alloc (.cells #[.int .i64 T.runs, .int .i64 T.cells] 3))
   obtain ⟨w2, hw2⟩ : ∃ w2, w2 = wc.alloc (.cells #[.int .i64 T.runs, .int .i64 T.cells] 3) := ⟨_, rfl⟩
   clear hs1
   go_upto_region 4 with fail
   rw [← hw2] at BL B1 BT2 ⊢
   clear hw2 k0 k1 k2 k3 k4 k5 k6 k7
   go_loopw [51] (fun s wr => ∃ r : Nat, r ≤ 2 ∧ s = .int .i64 r ∧ wr = w2 ∧ LiveR T r) (fun s _ => 2 - (intOf s).toNat)
   case atStart => exact ⟨0, Nat.zero_le _, rfl, rfl, fun h => absurd h (by omega), fun h => absurd h (by omega)⟩
   case round =>
    obtain ⟨r, hr, rfl, rfl, hl⟩ := hrel
    by_cases hlt : r < 2
    ·have hlt' : (r : Int) < 2 := by omega
     have b0 : (0 : Int) ≤ (r : Int) := by omega
     obtain ⟨nn, hc, hnx, hbad⟩ : ∃ nn, wr.cell? ⟨wc.heap.size, r, none⟩ = some (.int .i64 nn) ∧ (liveB nn = true → LiveR T (r + 1)) ∧ (liveB nn = false → headT T = false) := by
      rcases Nat.eq_zero_or_pos r with h0 | h0
      ·subst h0
       refine ⟨T.runs, BL.out.cell 0, fun h => ⟨fun _ => h, fun h => absurd h (by omega)⟩, fun h => by unfold headT; rw [h]; simp⟩
      ·have h1 : r = 1 := by omega
       subst h1
       refine ⟨T.cells, BL.out.cell 1, fun h => ⟨fun _ => hl.1 (by omega), fun _ => h⟩, fun h => by unfold headT; rw [h]; simp⟩
     have HNX := Lib.hid hnx
     have HBAD := Lib.hid hbad
     clear hnx hbad hl
     by_cases g1 : nn < 1
     ·have e := Lib.hid (HBAD.out (by unfold liveB; rw [decide_eq_false (show ¬ 1 ≤ nn by omega)]; rfl))
      clear HNX HBAD
      go_wp2_with fail
      go_ret
      exact ⟨by first | rfl | (rw [e.out]; rfl), B1.out⟩
     ·by_cases g2 : 100000 < nn
      ·have e := Lib.hid (HBAD.out (by unfold liveB; rw [decide_eq_false (show ¬ nn ≤ 100000 by omega)]; simp))
       clear HNX HBAD
       go_wp2_with fail
       go_ret
       exact ⟨by first | rfl | (rw [e.out]; rfl), B1.out⟩
      ·have e := Lib.hid (HNX.out (by unfold liveB; rw [decide_eq_true (show 1 ≤ nn by omega), decide_eq_true (show nn ≤ 100000 by omega)]; rfl))
       clear HNX HBAD
       go_wp2_with fail
       go_roundw
       case rel => first | exact ⟨r + 1, by omega, by go_num, rfl, e.out⟩ | exact ⟨r + 1, by omega, by go_num, True.intro, e.out⟩ | ((repeat apply Exists.intro); exact ⟨⟨r + 1, by omega, by go_num, rfl, e.out⟩, rfl⟩)
       case measure => simp [intOf]; omega
    ·have hge : (2 : Int) ≤ (r : Int) := by omega
     have HL := Lib.hid (And.intro (hl.1 (by omega)) (hl.2 (by omega)))
     clear hl
     have HW := Lib.hid (B1.out)
     have hwz : w.heap.size < wr.heap.size := by have := BT2.out.lt; exact this
     go_upto_region 9 with fail
     go_cut [74] from 62 to 74 (fun b wx => b = .bool (!keysB T) ∧ wx = wr)
     case first =>
      obtain ⟨k0, k1, k2, k3, k4, k5, k6, k7⟩ := blk8 BT2.out
      rcases hb1 : ((T.keys.length : Int) != 0) with _ | _
      ·have e : keysB T = true := by have := neB_false hb1; unfold keysB; simp only [decide_eq_true_eq, Bool.or_eq_true]; omega
       have e := Lib.hid e
       go_wp2_with fail
       go_meet
       exact ⟨by rw [e.out]; rfl, rfl⟩
      ·rcases hb2 : ((T.keys.length : Int) != (T.kinds.length : Int)) with _ | _
       ·have e : keysB T = true := by have := neB_false hb2; unfold keysB; simp only [decide_eq_true_eq, Bool.or_eq_true]; omega
        have e := Lib.hid e
        go_wp2_with fail
        go_meet
        exact ⟨by rw [e.out]; rfl, rfl⟩
       ·have e : keysB T = false := by have := neB_true hb1; have := neB_true hb2; unfold keysB; simp only [decide_eq_false_iff_not, Bool.or_eq_false_iff]; omega
        have e := Lib.hid e
        go_wp2_with fail
        go_meet
        exact ⟨by rw [e.out]; rfl, rfl⟩
     case rest =>
      obtain ⟨rfl, hwc⟩ := hcut
      subst hwc
      obtain ⟨kb, hkb⟩ : ∃ kb, keysB T = kb := ⟨_, rfl⟩
      have HKB := Lib.hid hkb
      rw [hkb]
      clear hkb
      cases kb with
      | false =>
       have e : headT T = false := by unfold headT; rw [HKB.out]; simp
       have e := Lib.hid e
       go_wp2_with fail
       go_ret
       exact ⟨by first | rfl | (rw [e.out]; rfl), HW.out⟩
      | true =>
       obtain ⟨k0, k1, k2, k3, k4, k5, k6, k7⟩ := blk8 BT2.out
       have nn : (0 : Int) ≤ (T.kinds.length : Int) := by omega
       go_wp2_with fail
       go_loopw [78] (fun s wx => ∃ r : Nat, r ≤ T.kinds.length ∧ s = .int .i64 r ∧ wx = wc ∧ Hid (kindsB T r = true)) (fun s _ => T.kinds.length - (intOf s).toNat)
       case atStart => exact ⟨0, Nat.zero_le _, rfl, rfl, Lib.hid (by simp [kindsB])⟩
       case round =>
        obtain ⟨r, hr, rfl, rfl, hl⟩ := hrel
        by_cases hlt : r < T.kinds.length
        ·obtain ⟨l, hgl⟩ : ∃ l, T.kinds[r]? = some l := ⟨_, List.getElem?_eq_getElem hlt⟩
         have X := HX.out _ HW.out
         obtain ⟨b5, off5, c5, v5, hv, _, _, q0, hls⟩ := intss_get X.kinds hgl
         injection hv with hv1 hv2 hv3
         subst hv1
         obtain ⟨A6, c6, rfl, hc9, hc10⟩ := hls.slice
         unfold maxLen at hc10
         have b1 : (0 : Int) ≤ (r : Int) := by omega
         have b2 : (r : Int) < (T.kinds.length : Int) := by omega
         have HLS := Lib.hid hls
         have HK9 := Lib.hid (kinds_step hgl hl.out)
         have HKF := Lib.hid (kinds_bad hgl hlt)
         have HKY := Lib.hid X.keys
         clear hls hgl hv2 hv3 hl X
         go_upto_region 14 with fail
         go_cut [109] from 83 to 109 (fun b wx => b = .bool (!kindA T r l) ∧ wx = wr)
         case first =>
          by_cases hz : T.keys.length = 0
          ·have hz' : (T.keys.length : Int) ≤ 0 := by omega
           have HA := Lib.hid (kindA_0 (T := T) (r := r) (l := l) hz)
           clear hz
           go_wp2_with fail
           all_goals (go_meet; refine ⟨?_, rfl⟩; rw [HA.out]; congr 1; rw [Bool.eq_iff_iff]; simp; try omega)
          ·have hrk := keys_lt HKB.out hz hlt
           obtain ⟨kv, hkv⟩ : ∃ kv, T.keys[r]? = some kv := ⟨_, List.getElem?_eq_getElem hrk⟩
           obtain ⟨b6, off6, c7, hv, _, _, p0, _⟩ := ints_get HKY.out hkv
           injection hv with hv1 hv2 hv3
           subst hv1
           have HA := Lib.hid (kindA_1 (l := l) hz hkv)
           have hz' : (0 : Int) < (T.keys.length : Int) := by omega
           have b3 : (r : Int) < (T.keys.length : Int) := by omega
           clear hz hkv hv2 hv3
           go_wp2_with fail
           all_goals (go_meet; refine ⟨?_, rfl⟩; rw [HA.out]; congr 1; rw [Bool.eq_iff_iff]; simp; try omega)
         case rest =>
          obtain ⟨rfl, hwc⟩ := hcut
          subst hwc
          obtain ⟨ka, hka⟩ : ∃ ka, kindA T r l = ka := ⟨_, rfl⟩
          have HKA := Lib.hid hka
          rw [hka]
          clear hka
          cases ka with
          | false =>
           have e := Lib.hid (HKF.out (kindB_a HKA.out))
           go_wp2_with fail
           go_ret
           exact ⟨by first | rfl | (rw [e.out]; rfl), HW.out⟩
          | true =>
           have nl : (0 : Int) ≤ (l.length : Int) := by omega
           go_wp2_with fail
           go_loopw [112] (fun s wx => ∃ n : Nat, n ≤ l.length ∧ s = .int .i64 n ∧ wx = wc ∧ Hid ((l.take n).all kOk = true)) (fun s _ => l.length - (intOf s).toNat)
           case atStart => exact ⟨0, Nat.zero_le _, rfl, rfl, Lib.hid (by simp)⟩
           case round =>
            obtain ⟨n, hn, rfl, rfl, hall⟩ := hrel
            by_cases hln : n < l.length
            ·obtain ⟨kv, hkv⟩ : ∃ kv, l[n]? = some kv := ⟨_, List.getElem?_eq_getElem hln⟩
             obtain ⟨b8, off8, c8, hv, _, _, p0, _⟩ := ints_get HLS.out hkv
             injection hv with hv1 hv2 hv3
             subst hv1
             have b3 : (0 : Int) ≤ (n : Int) := by omega
             have b4 : (n : Int) < (l.length : Int) := by omega
             have HST := Lib.hid (all_step (f := kOk) hkv hall.out)
             have HBD := Lib.hid (fun h => HKF.out (kindB_b hkv h))
             clear hkv hv2 hv3 hall
             rcases ho : kOk kv with _ | _
             ·have e := Lib.hid (HBD.out ho)
              have ho' : kv < 1 ∨ 4 < kv := by unfold kOk at ho; simp at ho; omega
              clear ho HST HBD
              rcases ho' with h1 | h1
              ·go_wp2_with fail
               go_ret
               exact ⟨by first | rfl | (rw [e.out]; rfl), HW.out⟩
              ·have h2 : 1 ≤ kv := by omega
               go_wp2_with fail
               go_ret
               exact ⟨by first | rfl | (rw [e.out]; rfl), HW.out⟩
             ·have e := Lib.hid (HST.out ho)
              have h1 : 1 ≤ kv := by unfold kOk at ho; simp at ho; omega
              have h2 : kv ≤ 4 := by unfold kOk at ho; simp at ho; omega
              clear ho HST HBD
              go_wp2_with fail
              go_roundw
              case rel => first | exact ⟨n + 1, by omega, by go_num, rfl, e⟩ | exact ⟨n + 1, by omega, by go_num, True.intro, e⟩ | ((repeat apply Exists.intro); first | exact ⟨⟨n + 1, by omega, by go_num, rfl, e⟩, rfl⟩ | exact ⟨⟨n + 1, by omega, by go_num, True.intro, e⟩, rfl⟩)
              case measure => simp [intOf]; omega
            ·have hge : (l.length : Int) ≤ (n : Int) := by omega
             have e : Hid (kindsB T (r + 1) = true) := Lib.hid (by
              have h9 := hall.out
              rw [List.take_of_length_le (by omega)] at h9
              rw [HK9.out]
              exact kindB_c HKA.out h9)
             clear hall
             go_wp2_with fail
             go_roundw
             case rel => first | exact ⟨r + 1, by omega, by go_num, rfl, e⟩ | exact ⟨r + 1, by omega, by go_num, True.intro, e⟩ | ((repeat apply Exists.intro); first | exact ⟨⟨r + 1, by omega, by go_num, rfl, e⟩, rfl⟩ | exact ⟨⟨r + 1, by omega, by go_num, True.intro, e⟩, rfl⟩)
             case measure => simp [intOf]; omega
        ·have hge : (T.kinds.length : Int) ≤ (r : Int) := by omega
         have hrr : r = T.kinds.length := by omega
         have e : headT T = true := by
          have h9 := hl.out
          rw [hrr] at h9
          unfold headT
          rw [HN.out, HL.out.1, HL.out.2, HKB.out, h9]; rfl
         have e := Lib.hid e
         clear hrr hl
         go_wp2_with fail
         go_ret
         exact ⟨by first | rfl | (rw [e.out]; rfl), HW.out⟩
end Go.Proofs.Ytioocaicmiggoaa
namespace Go.Proofs.Ytioocaicmiggoaa
set_option linter.unusedVariables false
set_option linter.unusedSimpArgs false
open Go.RowKit Go.Deep
theorem ret_int {k : IntKind} {a b : Int} (h : a = b) : Ending.returned (.int k a) = .returned (.int k b) := by rw [h]
theorem ret_bool {a b : Bool} (h : a = b) : Ending.returned (.bool a) = .returned (.bool b) := by rw [h]
theorem wfu_lo {a : Int} (h : wfu a) : 0 ≤ a ∧ a ≤ 18446744073709551615 := by unfold wfu at h; simp only [Lit.wf, Bool.and_eq_true, decide_eq_true_eq] at h; exact h
def canon (a : Int) : Int := if 9218868437227405312 < a % 9223372036854775808 then 9221120237041090560 else a
theorem andNot_sign (a : Int) (h0 : 0 ≤ a) (h1 : a ≤ 18446744073709551615) : bits BinOp.andNot IntKind.u64 a 9223372036854775808 = a % 9223372036854775808 := by
 rw [u64_andNot a 9223372036854775808 h0 (by omega) (by decide) (by decide)]
 have : a.toNat &&& (18446744073709551615 - (9223372036854775808 : Int).toNat) = a.toNat % 2 ^ 63 := Nat.and_two_pow_sub_one_eq_mod a.toNat 63
 rw [this]; omega
theorem and_frac (a : Int) (h0 : 0 ≤ a) (h1 : a ≤ 18446744073709551615) : bits BinOp.and IntKind.u64 a 4503599627370495 = a % 4503599627370496 := by
 rw [u64_and a 4503599627370495 h0 (by omega) (by decide) (by decide)]
 have : a.toNat &&& (4503599627370495 : Int).toNat = a.toNat % 2 ^ 52 := Nat.and_two_pow_sub_one_eq_mod a.toNat 52
 rw [this]; omega
theorem and_exp (a : Int) (h0 : 0 ≤ a) (h1 : a ≤ 18446744073709551615) : bits BinOp.and IntKind.u64 (a / 4503599627370496) 2047 = a / 4503599627370496 % 2048 := by
 rw [u64_and _ 2047 (by omega) (by omega) (by decide) (by decide)]
 have : (a / 4503599627370496).toNat &&& (2047 : Int).toNat = (a / 4503599627370496).toNat % 2 ^ 11 := Nat.and_two_pow_sub_one_eq_mod _ 11
 rw [this]; omega
def isNan (a : Int) : Bool := decide (9218868437227405312 < a % 9223372036854775808)
theorem canon_nan {a : Int} (h : isNan a = true) : canon a = 9221120237041090560 := by
 unfold canon; unfold isNan at h; rw [if_pos (by simpa using h)]
theorem canon_num {a : Int} (h : isNan a = false) : canon a = a := by
 unfold canon; unfold isNan at h; rw [if_neg (by simpa using h)]
theorem isNan_of {a : Int} (h : 9218868437227405312 < bits BinOp.andNot IntKind.u64 a 9223372036854775808) (h0 : 0 ≤ a) (h1 : a ≤ 18446744073709551615) : isNan a = true := by
 rw [andNot_sign a h0 h1] at h; unfold isNan; simpa using h
theorem notNan_of {a : Int} (h : bits BinOp.andNot IntKind.u64 a 9223372036854775808 ≤ 9218868437227405312) (h0 : 0 ≤ a) (h1 : a ≤ 18446744073709551615) : isNan a = false := by
 rw [andNot_sign a h0 h1] at h; unfold isNan; simpa using h
theorem isNan_ref {a : Int} (h0 : 0 ≤ a) (h1 : a ≤ 18446744073709551615) : isNan a = ((bits BinOp.and IntKind.u64 (a / 4503599627370496) 2047 == 2047) && (bits BinOp.and IntKind.u64 a 4503599627370495 != 0)) := by
 rw [and_exp a h0 h1, and_frac a h0 h1, Bool.eq_iff_iff]; unfold isNan; simp; omega
set_option maxHeartbeats 400000 in
theorem canon_any (a : Int) (w : World) (h0 : 0 ≤ a) (h1 : a ≤ 18446744073709551615) :
  Calls Try.prog 62 #[.int .u64 a] w fun e w' => e = .returned (.int .u64 (canon a)) ∧ w = w' := by
 go_enter Try.func62, Try.ntmps62
 go_wp2
 ·go_ret
  exact ⟨ret_int (canon_nan (isNan_of (by assumption) h0 h1)).symm, rfl⟩
 ·go_ret
  exact ⟨ret_int (canon_num (notNan_of (by assumption) h0 h1)).symm, rfl⟩
set_option maxHeartbeats 400000 in
theorem isNan_any (a : Int) (w : World) (h0 : 0 ≤ a) (h1 : a ≤ 18446744073709551615) :
  Calls Try.prog 73 #[.int .u64 a] w fun e w' => e = .returned (.bool (isNan a)) ∧ w = w' := by
 have h := Lib.hid (isNan_ref h0 h1)
 by_cases c1 : (bits BinOp.and IntKind.u64 (a / 4503599627370496) 2047 == 2047) = true
 all_goals
  go_enter Try.func73, Try.ntmps73
  go_wp2
  go_ret
  exact ⟨ret_bool (by rw [h.out]; simp [c1]), rfl⟩
theorem isNan_yes (a : Int) (w : World) (h0 : 0 ≤ a) (h1 : a ≤ 18446744073709551615) (h : isNan a = true) :
  Calls Try.prog 73 #[.int .u64 a] w fun e w' => e = .returned (.bool true) ∧ w = w' :=
 (isNan_any a w h0 h1).mono fun _ _ ⟨he, hw⟩ => ⟨he.trans (ret_bool h), hw⟩
theorem isNan_no (a : Int) (w : World) (h0 : 0 ≤ a) (h1 : a ≤ 18446744073709551615) (h : isNan a = false) :
  Calls Try.prog 73 #[.int .u64 a] w fun e w' => e = .returned (.bool false) ∧ w = w' :=
 (isNan_any a w h0 h1).mono fun _ _ ⟨he, hw⟩ => ⟨he.trans (ret_bool h), hw⟩
set_option maxHeartbeats 400000 in
theorem rcanon_any (a : Int) (w : World) (h0 : 0 ≤ a) (h1 : a ≤ 18446744073709551615) :
  Calls Try.prog 65 #[.int .u64 a] w fun e w' => e = .returned (.int .u64 (canon a)) ∧ w = w' := by
 cases hn : isNan a
 ·have H := Lib.hid hn; clear hn
  go_enter Try.func65, Try.ntmps65
  go_wp2_with (go_at_call 73; refine (isNan_no _ _ (by omega) (by omega) H.out).mono ?_; rintro e w' ⟨rfl, rfl⟩)
  go_ret
  exact ⟨ret_int (canon_num H.out).symm, rfl⟩
 ·have H := Lib.hid hn; clear hn
  go_enter Try.func65, Try.ntmps65
  go_wp2_with (go_at_call 73; refine (isNan_yes _ _ (by omega) (by omega) H.out).mono ?_; rintro e w' ⟨rfl, rfl⟩)
  go_ret
  exact ⟨ret_int (canon_nan H.out).symm, rfl⟩
def cleanV (x : TVal) : TVal := if x.kind = 1 then x else if (x.kind = 2 ∧ x.bits < 2) ∨ (x.kind = 3 ∧ x.bits < 64) then x else if x.kind = 4 then ⟨4, canon x.bits⟩ else ⟨0, 0⟩
def ValP (w : World) (x : TVal) (e : Ending) (w' : World) : Prop := e = .returned (.agg #[.int .i64 x.kind, .int .u64 x.bits]) ∧ Below w.heap.size w w'
set_option maxRecDepth 100000 in
theorem clean_any (x : TVal) (w : World) (hb : wfu x.bits) :
  Calls Try.prog 42 #[.agg #[.int .i64 x.kind, .int .u64 x.bits]] w (ValP w (cleanV x)) := by
 obtain ⟨k, b⟩ := x
 obtain ⟨h0, h1⟩ := wfu_lo hb
 have B0 := Lib.hid (fun o o2 => ((Below.refl w.heap.size w).alloc (Nat.le_refl _) o).alloc (by simp) o2)
 obtain ⟨kk, bb, hc⟩ : ∃ kk bb, cleanV ⟨k, b⟩ = ⟨kk, bb⟩ := ⟨_, _, rfl⟩
 have HC := Lib.hid hc
 rw [hc]
 clear hc
 by_cases c1 : k = 1
 ·have e1 : (k == 1) = true := by simpa using c1
  have e : Hid (kk = k ∧ bb = b) := Lib.hid (by have := HC.out; unfold cleanV at this; rw [if_pos c1] at this; simpa [eq_comm] using this)
  clear c1
  go_enter Try.func42, Try.ntmps42
  go_wp2_with fail
  exact bodyPost_ret (v := .agg #[.int .i64 k, .int .u64 b]) (by simp [results, Try.results42, go_sem]) rfl ⟨by rw [e.out.1, e.out.2], B0.out _ _⟩
 ·have e1 : (k == 1) = false := by simpa using c1
  by_cases c2 : (k = 2 ∧ b < 2) ∨ (k = 3 ∧ b < 64)
  ·have e : Hid (kk = k ∧ bb = b) := Lib.hid (by have := HC.out; unfold cleanV at this; rw [if_neg c1, if_pos c2] at this; simpa [eq_comm] using this)
   rcases c2 with ⟨c2, c3⟩ | ⟨c2, c3⟩
   ·have e2 : (k == 2) = true := by simpa using c2
    clear c1 c2
    go_enter Try.func42, Try.ntmps42
    go_wp2_with fail
    exact bodyPost_ret (v := .agg #[.int .i64 k, .int .u64 b]) (by simp [results, Try.results42, go_sem]) rfl ⟨by rw [e.out.1, e.out.2], B0.out _ _⟩
   ·have e2 : (k == 2) = false := by simp; omega
    have e3 : (k == 3) = true := by simpa using c2
    clear c1 c2
    go_enter Try.func42, Try.ntmps42
    go_wp2_with fail
    exact bodyPost_ret (v := .agg #[.int .i64 k, .int .u64 b]) (by simp [results, Try.results42, go_sem]) rfl ⟨by rw [e.out.1, e.out.2], B0.out _ _⟩
  ·by_cases c4 : k = 4
   ·have e : Hid (kk = 4 ∧ bb = canon b) := Lib.hid (by have := HC.out; unfold cleanV at this; rw [if_neg c1, if_neg c2, if_pos c4] at this; simpa [eq_comm] using this)
    have e2 : (k == 2) = false := by simp; omega
    have e3 : (k == 3) = false := by simp; omega
    have e4 : (k == 4) = true := by simpa using c4
    have CA := Lib.hid (fun W => canon_any b W h0 h1)
    clear c1 c2 c4
    go_enter Try.func42, Try.ntmps42
    go_wp2_with fail
    refine (CA.out _).mono ?_
    rintro e9 w9 ⟨rfl, rfl⟩
    go_wp2_with fail
    exact bodyPost_ret (v := .agg #[.int .i64 4, .int .u64 (canon b)]) (by simp [results, Try.results42, go_sem]) rfl ⟨by rw [e.out.1, e.out.2], B0.out _ _⟩
   ·have e : Hid (kk = 0 ∧ bb = 0) := Lib.hid (by have := HC.out; unfold cleanV at this; rw [if_neg c1, if_neg c2, if_neg c4] at this; simpa [eq_comm] using this)
    have e4 : (k == 4) = false := by simpa using c4
    rcases e2 : (k == 2) with _ | _
    ·rcases e3 : (k == 3) with _ | _
     ·clear c1 c2 c4
      go_enter Try.func42, Try.ntmps42
      go_wp2_with fail
      exact bodyPost_ret (v := .agg #[.int .i64 0, .int .u64 0]) (by simp [results, Try.results42, go_sem]) rfl ⟨by rw [e.out.1, e.out.2], B0.out _ _⟩
     ·have c5 : 64 ≤ b := by (have : k = 3 := by simpa using e3); omega
      clear c1 c2 c4
      go_enter Try.func42, Try.ntmps42
      go_wp2_with fail
      exact bodyPost_ret (v := .agg #[.int .i64 0, .int .u64 0]) (by simp [results, Try.results42, go_sem]) rfl ⟨by rw [e.out.1, e.out.2], B0.out _ _⟩
    ·have c6 : k = 2 := by simpa using e2
     have e3 : (k == 3) = false := by simp; omega
     have c5 : 2 ≤ b := by omega
     clear c1 c2 c4 c6
     go_enter Try.func42, Try.ntmps42
     go_wp2_with fail
     exact bodyPost_ret (v := .agg #[.int .i64 0, .int .u64 0]) (by simp [results, Try.results42, go_sem]) rfl ⟨by rw [e.out.1, e.out.2], B0.out _ _⟩
end Go.Proofs.Ytioocaicmiggoaa
namespace Go.Proofs.Ytioocaicmiggoaa
set_option linter.unusedVariables false
set_option linter.unusedSimpArgs false
open Go.RowKit Go.Deep
set_option maxRecDepth 100000 in
theorem rclean_any (x : TVal) (w : World) (hb : wfu x.bits) :
  Calls Try.prog 46 #[.agg #[.int .i64 x.kind, .int .u64 x.bits]] w (ValP w (cleanV x)) := by
 obtain ⟨k, b⟩ := x
 obtain ⟨h0, h1⟩ := wfu_lo hb
 have B0 := Lib.hid (fun o o2 => ((Below.refl w.heap.size w).alloc (Nat.le_refl _) o).alloc (by simp) o2)
 obtain ⟨kk, bb, hc⟩ : ∃ kk bb, cleanV ⟨k, b⟩ = ⟨kk, bb⟩ := ⟨_, _, rfl⟩
 have HC := Lib.hid hc
 rw [hc]
 clear hc
 by_cases c1 : k = 1
 ·have e1 : (k == 1) = true := by simpa using c1
  have e : Hid (kk = k ∧ bb = b) := Lib.hid (by have := HC.out; unfold cleanV at this; rw [if_pos c1] at this; simpa [eq_comm] using this)
  clear c1
  go_enter Try.func46, Try.ntmps46
  go_wp2_with fail
  exact bodyPost_ret (v := .agg #[.int .i64 k, .int .u64 b]) (by simp [results, Try.results46, go_sem]) rfl ⟨by rw [e.out.1, e.out.2], B0.out _ _⟩
 ·have e1 : (k == 1) = false := by simpa using c1
  by_cases c2 : (k = 2 ∧ b < 2) ∨ (k = 3 ∧ b < 64)
  ·have e : Hid (kk = k ∧ bb = b) := Lib.hid (by have := HC.out; unfold cleanV at this; rw [if_neg c1, if_pos c2] at this; simpa [eq_comm] using this)
   rcases c2 with ⟨c2, c3⟩ | ⟨c2, c3⟩
   ·have e2 : (k == 2) = true := by simpa using c2
    have c4 : b ≤ 1 := by omega
    clear c1 c2 c3
    go_enter Try.func46, Try.ntmps46
    go_wp2_with fail
    exact bodyPost_ret (v := .agg #[.int .i64 k, .int .u64 b]) (by simp [results, Try.results46, go_sem]) rfl ⟨by rw [e.out.1, e.out.2], B0.out _ _⟩
   ·have e2 : (k == 2) = false := by simp; omega
    have e3 : (k == 3) = true := by simpa using c2
    have c4 : b ≤ 63 := by omega
    clear c1 c2 c3
    go_enter Try.func46, Try.ntmps46
    go_wp2_with fail
    exact bodyPost_ret (v := .agg #[.int .i64 k, .int .u64 b]) (by simp [results, Try.results46, go_sem]) rfl ⟨by rw [e.out.1, e.out.2], B0.out _ _⟩
  ·by_cases c4 : k = 4
   ·have e : Hid (kk = 4 ∧ bb = canon b) := Lib.hid (by have := HC.out; unfold cleanV at this; rw [if_neg c1, if_neg c2, if_pos c4] at this; simpa [eq_comm] using this)
    have e2 : (k == 2) = false := by simp; omega
    have e3 : (k == 3) = false := by simp; omega
    have e4 : (k == 4) = true := by simpa using c4
    have CA := Lib.hid (fun W => rcanon_any b W h0 h1)
    clear c1 c2 c4
    go_enter Try.func46, Try.ntmps46
    go_wp2_with fail
    refine (CA.out _).mono ?_
    rintro e9 w9 ⟨rfl, rfl⟩
    go_wp2_with fail
    exact bodyPost_ret (v := .agg #[.int .i64 4, .int .u64 (canon b)]) (by simp [results, Try.results46, go_sem]) rfl ⟨by rw [e.out.1, e.out.2], B0.out _ _⟩
   ·have e : Hid (kk = 0 ∧ bb = 0) := Lib.hid (by have := HC.out; unfold cleanV at this; rw [if_neg c1, if_neg c2, if_neg c4] at this; simpa [eq_comm] using this)
    have e4 : (k == 4) = false := by simpa using c4
    rcases e2 : (k == 2) with _ | _
    ·rcases e3 : (k == 3) with _ | _
     ·clear c1 c2 c4
      go_enter Try.func46, Try.ntmps46
      go_wp2_with fail
      exact bodyPost_ret (v := .agg #[.int .i64 0, .int .u64 0]) (by simp [results, Try.results46, go_sem]) rfl ⟨by rw [e.out.1, e.out.2], B0.out _ _⟩
     ·have c5 : 64 ≤ b := by (have : k = 3 := by simpa using e3); omega
      clear c1 c2 c4
      go_enter Try.func46, Try.ntmps46
      go_wp2_with fail
      exact bodyPost_ret (v := .agg #[.int .i64 0, .int .u64 0]) (by simp [results, Try.results46, go_sem]) rfl ⟨by rw [e.out.1, e.out.2], B0.out _ _⟩
    ·have c6 : k = 2 := by simpa using e2
     have e3 : (k == 3) = false := by simp; omega
     have c5 : 2 ≤ b := by omega
     clear c1 c2 c4 c6
     go_enter Try.func46, Try.ntmps46
     go_wp2_with fail
     exact bodyPost_ret (v := .agg #[.int .i64 0, .int .u64 0]) (by simp [results, Try.results46, go_sem]) rfl ⟨by rw [e.out.1, e.out.2], B0.out _ _⟩
def leafB (op : Int) : Bool := decide (op = 41) || decide (op = 42) || (decide (25 ≤ op) && decide (op ≤ 31))
def inputB (x : TInp) : Bool :=
 leafB x.op && decide (1 ≤ x.kind) && decide (x.kind ≤ 4) && decide (0 ≤ x.pos) && decide (x.pos ≤ 7) && decide (-1 ≤ x.attr) && decide (x.attr ≤ 7) && (!decide (x.op = 41) || decide (x.pos = 0)) && (!decide (x.op = 25) || decide (x.attr = 0))
def opnds (op : Int) : Int := if op = 6 ∨ op = 15 ∨ op = 16 ∨ op = 17 then 1 else if 1 ≤ op ∧ op ≤ 14 then 2 else 0
theorem leaf_any (op : Int) (w : World) : Calls Try.prog 64 #[.int .i64 op] w fun e w' => e = .returned (.bool (leafB op)) ∧ w = w' := by
 go_enter Try.func64, Try.ntmps64
 go_wp2_with fail
 all_goals (go_ret; exact ⟨ret_bool (by rw [Bool.eq_iff_iff]; unfold leafB; simp; try omega), rfl⟩)
theorem operands_any (op : Int) (w : World) : Calls Try.prog 47 #[.int .i64 op] w fun e w' => e = .returned (.int .i64 (opnds op)) ∧ w = w' := by
 go_enter Try.func47, Try.ntmps47
 go_wp2_with fail
 all_goals (go_ret; exact ⟨ret_int (by (try simp only [beq_iff_eq, beq_eq_false_iff_ne, ne_eq] at *); unfold opnds; (repeat' split) <;> omega), rfl⟩)
set_option maxRecDepth 100000 in
theorem input_any (x : TInp) (w : World) : Calls Try.prog 41 #[.agg #[.int .i64 x.op, .int .i64 x.kind, .int .i64 x.pos, .int .i64 x.attr]] w (BoolP w (inputB x)) := by
 have B0 := Lib.hid (fun o => (Below.refl w.heap.size w).alloc (Nat.le_refl _) o)
 go_enter Try.func41, Try.ntmps41
 go_wp2_with fail
 all_goals (go_ret; exact ⟨ret_bool (by rw [Bool.eq_iff_iff]; unfold inputB leafB; (try simp only [beq_iff_eq, beq_eq_false_iff_ne, ne_eq] at *); simp; try omega), B0.out _⟩)
set_option maxRecDepth 100000 in
theorem rinput_any (x : TInp) (w : World) : Calls Try.prog 45 #[.agg #[.int .i64 x.op, .int .i64 x.kind, .int .i64 x.pos, .int .i64 x.attr]] w (BoolP w (inputB x)) := by
 have B0 := Lib.hid (fun o => (Below.refl w.heap.size w).alloc (Nat.le_refl _) o)
 obtain ⟨lb, hlb⟩ : ∃ lb, leafB x.op = lb := ⟨_, rfl⟩
 have LF := Lib.hid (fun W => leaf_any x.op W)
 rw [hlb] at LF
 have HLB := Lib.hid hlb
 clear hlb
 go_enter Try.func45, Try.ntmps45
 go_wp2_with fail
 refine (LF.out _).mono ?_
 rintro e w9 ⟨rfl, rfl⟩
 cases lb with
 | false =>
  go_wp2_with fail
  all_goals (go_ret; exact ⟨ret_bool (by rw [Bool.eq_iff_iff]; unfold inputB; rw [HLB.out]; simp), B0.out _⟩)
 | true =>
  go_wp2_with fail
  all_goals (go_ret; exact ⟨ret_bool (by rw [Bool.eq_iff_iff]; unfold inputB; rw [HLB.out]; (try simp only [beq_iff_eq, beq_eq_false_iff_ne, bne_iff_ne, ne_eq] at *); simp; try omega), B0.out _⟩)
end Go.Proofs.Ytioocaicmiggoaa

/- Mgo: texts merged for a claim by a program of mine. -/
import Derived.Deep.RegionWith
import Derived.StillTailTactics
import Derived.BigQuiet
import Derived.Deep.CutBlock
import Derived.Test.YtioocaicmiggoaaA28
namespace Go.Proofs.Ytioocaicmiggoaa
set_option linter.unusedVariables false
set_option linter.unusedSimpArgs false
open Go.RowKit Go.Deep Go.Maps
theorem all_morg {α : Type} {f : α → Bool} {l : List α} {r : Nat} {x : α} (hx : l[r]? = some x) : (l.take (r + 1)).all f = ((l.take r).all f && f x) := by
 rw [List.take_add_one, hx, List.all_append]
 simp
set_option maxRecDepth 100000 in
set_option maxHeartbeats 4000000 in
theorem good_may (c : TCode) (w : World) (vi vc vl : Value) (hi : SlR 4 InpC w vi c.inputs) (hv : SlR 2 ValC w vc c.consts) (hl : SlR 4 InsC w vl c.list) :
  Calls Try.prog 26 #[.agg #[.int .i64 c.regs, .int .i64 c.slots, vi, vc, vl]] w (BoolP w (goodB c)) := by
 obtain ⟨A1, c1, rfl, hi1, hi2⟩ := hi.slice
 obtain ⟨A2, c2, rfl, hv1', hv2'⟩ := hv.slice
 obtain ⟨A3, c3, rfl, hl1, hl2⟩ := hl.slice
 unfold maxLen at hi2 hv2' hl2
 have HI := Lib.hid (fun W (hb : Below w.heap.size w W) => keep_inps (KeepC.of_below hb) hi)
 have HV := Lib.hid (fun W (hb : Below w.heap.size w W) => keep_vals (KeepC.of_below hb) hv)
 have HL := Lib.hid (fun W (hb : Below w.heap.size w W) => keep_inss (KeepC.of_below hb) hl)
 obtain ⟨w1, hw1⟩ : ∃ w1, w1 = w.alloc (.cells #[.int .i64 c.regs, .int .i64 c.slots, .slice A1 c.inputs.length c1, .slice A2 c.consts.length c2, .slice A3 c.list.length c3] 40) := ⟨_, rfl⟩
 have B0 : Below w.heap.size w w1 := by rw [hw1]; exact (Below.refl w.heap.size w).alloc (Nat.le_refl _) _
 have hs1 : w1.heap.size = w.heap.size + 1 := by rw [hw1]; simp
 have BT : Blk w1 w.heap.size 40 #[.int .i64 c.regs, .int .i64 c.slots, .slice A1 c.inputs.length c1, .slice A2 c.consts.length c2, .slice A3 c.list.length c3] := by rw [hw1]; exact Blk.new w _ _
 have B0 := Lib.hid B0
 have BT := Lib.hid BT
 have HS1 := Lib.hid hs1
 have n0 : (0 : Int) ≤ (c.list.length : Int) := by omega
 clear hi hv hl hs1
 obtain ⟨k0, k1, k2, k3, k4⟩ := blk5 BT.out
 go_enter Try.func26, Try.ntmps26
 go_upto_region 2 with fail
 rw [← hw1]
 clear hw1
 go_cut [4] from 19 to 44 (fun b wx => b = .bool (codeN c) ∧ wx = w1)
 case first =>
  go_wp2_with fail
  all_goals (go_meet; refine ⟨?_, rfl⟩; congr 1; rw [Bool.eq_iff_iff]; unfold codeN; simp only [Bool.or_eq_true, Bool.and_eq_true, Bool.not_eq_true', Bool.and_eq_false_iff, decide_eq_true_eq, decide_eq_false_iff_not, true_iff, false_iff, Bool.false_eq_true]; omega)
 case rest =>
  obtain ⟨rfl, hwc⟩ := hcut
  subst hwc
  obtain ⟨hn, hhn⟩ : ∃ hn, codeN c = hn := ⟨_, rfl⟩
  have HN := Lib.hid hhn
  rw [hhn]
  clear hhn
  have n1 : (0 : Int) ≤ (c.inputs.length : Int) := by omega
  go_wp2_with fail
  clear k0 k1 k2 k3 k4
  go_loopw [4, 48] (fun s t wr => ∃ (r : Nat) (o : Bool), r ≤ c.inputs.length ∧ s = .bool o ∧ t = .int .i64 r ∧ Hid (Below wc.heap.size wc wr) ∧ Hid (o = (hn && (c.inputs.take r).all inputB))) (fun _ t _ => c.inputs.length - (intOf t).toNat)
  case atStart => exact ⟨0, hn, Nat.zero_le _, rfl, rfl, Lib.hid (Below.refl _ _), Lib.hid (by simp)⟩
  case round =>
   obtain ⟨r, o, hr, rfl, rfl, hb, hal⟩ := hrel
   have hs1 := HS1.out
   have hwr := hb.out.size
   have HW := Lib.hid (B0.out.trans (hb.out.mono B0.out.size))
   by_cases hlt : r < c.inputs.length
   ·obtain ⟨x, hx⟩ : ∃ x, c.inputs[r]? = some x := ⟨_, List.getElem?_eq_getElem hlt⟩
    obtain ⟨b5, off5, c5, hvv, _, _, q0, q1, q2, q3, _⟩ := inps_get (HI.out wr HW.out) hx
    injection hvv with hv1 hv2 hv3
    subst hv1
    have b1 : (0 : Int) ≤ (r : Int) := by omega
    have b2 : (r : Int) < (c.inputs.length : Int) := by omega
    have HB1 := Lib.hid (fun o => hb.out.alloc hwr o)
    have HST := Lib.hid (all_morg (f := inputB) hx)
    have CT := Lib.hid (fun W => rinput_any x W)
    clear hx hv2 hv3 hb
    cases o with
    | true =>
     have HAL := Lib.hid (show inputB x = (hn && (c.inputs.take (r + 1)).all inputB) by rw [HST.out, ← Bool.and_assoc, ← hal.out]; rfl)
     go_wp2_with fail
     refine (CT.out _).mono ?_
     rintro e w3 ⟨rfl, hb3⟩
     rw [World.size_alloc] at hb3
     have HB3 := Lib.hid ((HB1.out _).trans (hb3.mono (by omega)))
     clear hb3 CT q0 q1 q2 q3
     go_wp2_with fail
     go_roundw
     case rel => first | exact ⟨r + 1, inputB x, by omega, rfl, by go_num, HB3, HAL⟩ | ((repeat apply Exists.intro); exact ⟨⟨r + 1, inputB x, by omega, rfl, by go_num, HB3, HAL⟩, rfl⟩)
     case measure => simp [intOf]; omega
    | false =>
     have HAL := Lib.hid (show false = (hn && (c.inputs.take (r + 1)).all inputB) by rw [HST.out, ← Bool.and_assoc, ← hal.out]; rfl)
     go_wp2_with fail
     go_roundw
     case rel => first | exact ⟨r + 1, false, by omega, rfl, by go_num, Lib.hid (HB1.out _), HAL⟩ | ((repeat apply Exists.intro); exact ⟨⟨r + 1, false, by omega, rfl, by go_num, Lib.hid (HB1.out _), HAL⟩, rfl⟩)
     case measure => simp [intOf]; omega
   ·have hge : (c.inputs.length : Int) ≤ (r : Int) := by omega
    have HALL : Hid (o = (hn && c.inputs.all inputB)) := Lib.hid (by have h9 := hal.out; rw [List.take_of_length_le (by omega)] at h9; exact h9)
    obtain ⟨k0, k1, k2, k3, k4⟩ := blk5 (BT.out.below hb.out (by omega))
    have n2 : (0 : Int) ≤ (c.consts.length : Int) := by omega
    obtain ⟨oa, hoa⟩ : ∃ oa, oa = o := ⟨_, rfl⟩
    rw [← hoa] at HALL ⊢
    clear hal hoa
    go_wp2_with fail
    go_loopw [4, 61] (fun s t wr => ∃ (r : Nat) (o : Bool), r ≤ c.consts.length ∧ s = .bool o ∧ t = .int .i64 r ∧ Hid (Below wc.heap.size wc wr) ∧ Hid (o = (oa && (c.consts.take r).all valB))) (fun _ t _ => c.consts.length - (intOf t).toNat)
    case atStart => exact ⟨0, oa, Nat.zero_le _, rfl, rfl, Lib.hid hb.out, Lib.hid (by simp)⟩
    case round =>
     clear k0 k1 k2 k3 k4 hb HW hwr
     rename_i wr1 _
     obtain ⟨r2, o2, hr2, rfl, rfl, hb, hal⟩ := hrel
     have hwr := hb.out.size
     have HW := Lib.hid (B0.out.trans (hb.out.mono B0.out.size))
     by_cases hlt2 : r2 < c.consts.length
     ·obtain ⟨x, hx⟩ : ∃ x, c.consts[r2]? = some x := ⟨_, List.getElem?_eq_getElem hlt2⟩
      obtain ⟨b5, off5, c5, hvv, _, _, q0, q1, _, wu⟩ := vals_get (HV.out wr HW.out) hx
      injection hvv with hv1 hv2 hv3
      subst hv1
      have b1 : (0 : Int) ≤ (r2 : Int) := by omega
      have b2 : (r2 : Int) < (c.consts.length : Int) := by omega
      have HB1 := Lib.hid (fun o => hb.out.alloc hwr o)
      have HST := Lib.hid (all_morg (f := valB) hx)
      have CT := Lib.hid (fun W => rclean_any x W wu)
      clear hx hv2 hv3 hb
      go_upto_region 11 with fail
      obtain ⟨w2, hw2⟩ : ∃ w2, w2 = wr.alloc (.cells #[.int .i64 x.kind, .int .u64 x.bits] 88) := ⟨_, rfl⟩
      have BV : Blk w2 wr.heap.size 88 #[.int .i64 x.kind, .int .u64 x.bits] := by rw [hw2]; exact Blk.new wr _ _
      have HB2 := Lib.hid (HB1.out (.cells #[.int .i64 x.kind, .int .u64 x.bits] 88))
      have hs2 : w2.heap.size = wr.heap.size + 1 := by rw [hw2]; simp
      rw [← hw2] at HB2 ⊢
      have BV := Lib.hid BV
      have HS2 := Lib.hid hs2
      clear hw2 q0 q1 HB1 hs2
      obtain ⟨z0, z1⟩ := blk2 BV.out
      cases o2 with
      | false =>
       have HAL := Lib.hid (show false = (oa && (c.consts.take (r2 + 1)).all valB) by rw [HST.out, ← Bool.and_assoc, ← hal.out]; rfl)
       go_quiet (fail)
       go_wp2_with fail
       go_roundw
       case rel => first | exact ⟨r2 + 1, false, by omega, rfl, by go_num, Lib.hid (below_drewN HB2.out _), HAL⟩ | ((repeat apply Exists.intro); exact ⟨⟨r2 + 1, false, by omega, rfl, by go_num, Lib.hid (below_drewN HB2.out _), HAL⟩, rfl⟩)
       case measure => simp [intOf]; omega
      | true =>
       have HAL := Lib.hid (show valB x = (oa && (c.consts.take (r2 + 1)).all valB) by rw [HST.out, ← Bool.and_assoc, ← hal.out]; rfl)
       obtain ⟨ck, cb, hck⟩ : ∃ ck cb, cleanV x = ⟨ck, cb⟩ := ⟨_, _, rfl⟩
       have HVB : Hid (valB x = ((ck == x.kind) && (cb == x.bits))) := Lib.hid (by unfold valB; rw [hck, Bool.eq_iff_iff]; simp)
       have CT2 : Hid (∀ W : World, Calls Try.prog 46 #[.agg #[.int .i64 x.kind, .int .u64 x.bits]] W (ValP W ⟨ck, cb⟩)) := Lib.hid (fun W => by rw [← hck]; exact CT.out W)
       clear hck
       rcases e1 : (ck == x.kind) with _ | _ <;> rcases e2 : (cb == x.bits) with _ | _
       all_goals (
        rw [HVB.out, e1, e2] at HAL
        simp only [Bool.and_true, Bool.and_false, Bool.true_and, Bool.false_and] at HAL
        clear HVB
        go_region_with ((go_at_call 46; refine (CT2.out _).mono ?_; rintro e w3 ⟨rfl, hb3⟩; have hb4 : Below w2.heap.size w2 w3 := ⟨hb3.os, hb3.tape, hb3.output, hb3.size, hb3.block⟩; have HB4 := Lib.hid hb4; clear hb3 hb4; have z0 := (BV.out.below HB4.out (by have := HS2.out; omega)).cell 0; have z1 := (BV.out.below HB4.out (by have := HS2.out; omega)).cell 1))
        all_goals go_wp2_with fail
        all_goals (
         have HBX := Lib.hid (HB2.out.trans (HB4.out.mono (by have := HS2.out; omega)))
         clear HB4 z0 z1
         go_roundw
         case rel => first | exact ⟨r2 + 1, _, by omega, rfl, by go_num, Lib.hid ⟨HBX.out.os, HBX.out.tape, HBX.out.output, HBX.out.size, HBX.out.block⟩, HAL⟩ | ((repeat apply Exists.intro); exact ⟨⟨r2 + 1, _, by omega, rfl, by go_num, Lib.hid ⟨HBX.out.os, HBX.out.tape, HBX.out.output, HBX.out.size, HBX.out.block⟩, HAL⟩, rfl⟩)
         case measure => simp [intOf]; omega))
     ·have hge2 : (c.consts.length : Int) ≤ (r2 : Int) := by omega
      have HGB : Hid (goodB c = (o2 && goodL c.regs c.slots c.inputs.length c.consts.length c.list.length 0 [] [] c.list)) := Lib.hid (by
       have h9 := hal.out
       rw [List.take_of_length_le (by omega)] at h9
       unfold goodB
       rw [HN.out, h9, HALL.out])
      have BT2 := BT.out.below hb.out (by omega)
      obtain ⟨k0, k1, k2, k3, k4⟩ := blk5 BT2
      have n3 : (0 : Int) ≤ (c.list.length : Int) := by omega
      have BT3 := Lib.hid BT2
      have hmm := fun t w => @run_makeMap Try.prog t w
      have wb : wr.heap.size ≥ w.heap.size + 1 := by omega
      obtain ⟨ob, hob⟩ : ∃ ob, ob = o2 := ⟨_, rfl⟩
      rw [← hob] at HGB ⊢
      clear hal BT2 hob
      go_upto_region 14 with fail
      clear hmm
      obtain ⟨H, hH⟩ : ∃ H, wr.heap.size = H := ⟨_, rfl⟩
      obtain ⟨w4, hw4⟩ : ∃ w4, w4 = (wr.alloc (.map #[] 0)).alloc (.map #[] 0) := ⟨_, rfl⟩
      have SR : SetX w4 H 0 [] := by rw [hw4, ← hH]; exact (SetX.made wr).alloc _
      have SS : SetX w4 (H + 1) 0 [] := by
       rw [hw4, ← hH]
       have := SetX.made (wr.alloc (.map #[] 0))
       rw [World.size_alloc] at this
       exact this
      have SB : Below H wr w4 := by rw [hw4, ← hH]; exact ((Below.refl _ wr).alloc (Nat.le_refl _) _).alloc (by simp) _
      rw [hH] at wb
      have SM : Hid (MemD H w4 w4 0 [] []) := Lib.hid ⟨Below.refl _ _, SR, SS⟩
      have HSB := Lib.hid (HW.out.trans (SB.mono (by omega)))
      have BT4 := Lib.hid (BT3.out.below SB (by omega))
      have HH4 := Lib.hid (show H + 2 ≤ w4.heap.size by rw [hw4, ← hH]; simp)
      obtain ⟨k0, k1, k2, k3, k4⟩ := blk5 BT4.out
      try rw [← hw4]
      rw [hH]
      clear hw4 SR SS SB hH hb HW
      go_wp2_with fail
      go_loopw [4, 11] (fun s t wx => ∃ (r : Nat) (R S : List Int) (o : Bool), r ≤ c.list.length ∧ s = .bool o ∧ t = .int .i64 r ∧ Hid (MemD H w4 wx r R S) ∧ Hid (goodB c = (o && goodL c.regs c.slots c.inputs.length c.consts.length c.list.length r R S (c.list.drop r)))) (fun _ t _ => c.list.length - (intOf t).toNat)
      case atStart => exact ⟨0, [], [], ob, Nat.zero_le _, rfl, rfl, SM, Lib.hid HGB.out⟩
      case round =>
       clear k0 k1 k2 k3 k4
       obtain ⟨r3, R, S, o3, hr3, rfl, rfl, hm, hg⟩ := hrel
       have HM := hm.out
       have hwr := HM.1.size
       have hs4 := HH4.out
       have HW := Lib.hid (HSB.out.trans (HM.1.mono (by omega)))
       have BT5 := Lib.hid (BT4.out.below HM.1 (by omega))
       cases o3 with
       | false =>
        have e := Lib.hid (show goodB c = false from hg.out)
        go_wp2_with fail
        go_ret
        exact ⟨by first | rfl | (rw [e.out]; rfl), HW.out⟩
       | true =>
        by_cases hlt3 : r3 < c.list.length
        ·obtain ⟨x, hx⟩ : ∃ x, c.list[r3]? = some x := ⟨_, List.getElem?_eq_getElem hlt3⟩
         obtain ⟨b5, off5, c5, hvv, _, _, q0, q1, q2, q3, wo, wd, wa, wb2⟩ := inss_get (HL.out wr HW.out) hx
         injection hvv with hv1 hv2 hv3
         subst hv1
         have b1 : (0 : Int) ≤ (r3 : Int) := by omega
         have b2 : (r3 : Int) < (c.list.length : Int) := by omega
         obtain ⟨w5, hw5⟩ : ∃ w5, w5 = wr.alloc (.cells #[.int .i64 x.op, .int .i64 x.dst, .int .i64 x.a, .int .i64 x.b] 75) := ⟨_, rfl⟩
         have BX : Blk w5 wr.heap.size 75 #[.int .i64 x.op, .int .i64 x.dst, .int .i64 x.a, .int .i64 x.b] := by rw [hw5]; exact Blk.new wr _ _
         have M5 := HM.below (w' := w5) (by rw [hw5]; exact (Below.refl _ _).alloc (Nat.le_refl _) _)
         have hs5 : w5.heap.size = wr.heap.size + 1 := by rw [hw5]; simp
         have HG : Hid (goodB c = _) := Lib.hid (hg.out.trans (goodL_step hx))
         have BX := Lib.hid BX
         have M5 := Lib.hid M5
         have HS5 := Lib.hid hs5
         have HWA := Lib.hid (And.intro wd (And.intro wa wb2))
         obtain ⟨k0, k1, k2, k3, k4⟩ := blk5 BT5.out
         clear hx hv2 hv3 hm HM hs5 hg wo wd wa wb2
         go_upto_region 18 with fail
         rw [← hw5]
         clear hw5 q0 q1 q2 q3 k0 k1 k2 k3 k4
         obtain ⟨z0, z1, z2, z3⟩ := blk4 BX.out
         obtain ⟨k, hk⟩ : ∃ k, opnds x.op = k := ⟨_, rfl⟩
         obtain ⟨L, hL⟩ : ∃ L, readsD x = L := ⟨_, rfl⟩
         have HK := Lib.hid hk
         have HLL := Lib.hid hL
         have CO := Lib.hid (fun W => operands_any x.op W)
         have CR := Lib.hid (fun W => reads_may x W)
         rw [hk] at CO
         rw [hL] at CR
         clear hk hL
         go_upto_region 19 with (go_at_call 47; refine (CO.out _).mono ?_; rintro e w' ⟨rfl, rfl⟩)
         go_wp2_with (go_at_call 48; refine (CR.out _).mono ?_; rintro e w6 ⟨g6, c6, rfl, hrd, hlc, hc2, hb6⟩; clear CO CR z0 z1 z2 z3)
         have M6 := Lib.hid (M5.out.below hb6)
         have BX6 := Lib.hid (BX.out.below hb6 (by have := HS5.out; omega))
         have BT6 := Lib.hid (BT4.out.below M6.out.1 (by omega))
         have HW6 := Lib.hid (HSB.out.trans (M6.out.1.mono (by omega)))
         have HRD := Lib.hid hrd
         have nL : (0 : Int) ≤ (L.length : Int) := by omega
         have lL : (L.length : Int) ≤ 2 := by omega
         clear hb6 hrd M5 BX BT5 HW hlc hc2 hwr hs4
         go_loopw [4, 94] (fun s t wx => ∃ (j : Nat) (o : Bool), j ≤ L.length ∧ s = .bool o ∧ t = .int .i64 j ∧ w6 = wx ∧ Hid (o = (L.take j).all (fun y => decide (y ∈ R)))) (fun _ t _ => L.length - (intOf t).toNat)
         case atStart => exact ⟨0, true, Nat.zero_le _, rfl, rfl, rfl, Lib.hid rfl⟩
         case round =>
          obtain ⟨j, o, hj, rfl, rfl, rfl, ho⟩ := hrel
          by_cases hjl : j < L.length
          ·obtain ⟨y, hy⟩ : ∃ y, L[j]? = some y := ⟨_, List.getElem?_eq_getElem hjl⟩
           have q0 := reads_at HRD.out hy
           have hyw : wfi y := by
            rcases readsD_mem (x := x) (j := j) (by rw [HLL.out]; exact hy) with rfl | rfl
            ·exact HWA.out.2.1
            ·exact HWA.out.2.2
           have LK := M6.out.2.1.look hyw
           have HST := Lib.hid (all_morg (f := fun y => decide (y ∈ R)) hy)
           obtain ⟨yb, hyb⟩ : ∃ yb, decide (y ∈ R) = yb := ⟨_, rfl⟩
           rw [hyb] at LK HST
           have b3 : (0 : Int) ≤ (j : Int) := by omega
           have b4 : (j : Int) < (L.length : Int) := by omega
           clear hyb hyw hy
           cases o with
           | true =>
            have HAL := Lib.hid (show yb = (L.take (j + 1)).all (fun y => decide (y ∈ R)) by rw [HST.out, ← ho.out]; rfl)
            go_wp2_with fail
            go_roundw
            case rel => first | exact ⟨j + 1, yb, by omega, rfl, by go_num, trivial, HAL⟩ | exact ⟨j + 1, yb, by omega, rfl, by go_num, rfl, HAL⟩
            case measure => simp [intOf]; omega
           | false =>
            have HAL := Lib.hid (show false = (L.take (j + 1)).all (fun y => decide (y ∈ R)) by rw [HST.out, ← ho.out]; rfl)
            go_wp2_with fail
            go_roundw
            case rel => first | exact ⟨j + 1, false, by omega, rfl, by go_num, trivial, HAL⟩ | exact ⟨j + 1, false, by omega, rfl, by go_num, rfl, HAL⟩
            case measure => simp [intOf]; omega
          ·have hjg : (L.length : Int) ≤ (j : Int) := by omega
           have HRED : Hid (redB R x = o) := Lib.hid (by
            have h9 := ho.out
            rw [List.take_of_length_le (by omega)] at h9
            unfold redB
            rw [HLL.out, h9])
           clear ho HRD
           obtain ⟨last, hlast⟩ : ∃ last, decide (r3 + 1 = c.list.length) = last := ⟨_, rfl⟩
           have HLA := Lib.hid hlast
           rw [hlast] at HG
           clear hlast
           obtain ⟨z0, z1, z2, z3⟩ := blk4 BX6.out
           go_upto_region 24 with fail
           go_cut [126] from 105 to 126 (fun b wx => b = .bool (badB x last) ∧ wx = w6)
           case first =>
            have HBD := Lib.hid (badB_eq (x := x) HK.out HLA.out)
            obtain ⟨bd, hbd⟩ : ∃ bd, badB x last = bd := ⟨_, rfl⟩
            rw [hbd] at HBD
            have HBDV := Lib.hid hbd
            clear hbd
            rcases e4 : (x.op == 52) with _ | _ <;> rcases e5 : ((r3 : Int) == (c.list.length : Int) - 1) with _ | _
            all_goals (
             rcases Int.lt_or_le k 2 with e1 | e1
             ·rcases e2 : (x.op != 53) with _ | _ <;> rcases e3 : (x.b != 0) with _ | _
              all_goals (
               have h9 := HBD.out
               rw [decide_eq_true e1, e2, e3, e4, e5] at h9
               simp at h9
               subst h9
               clear HBD
               go_wp2_with fail
               go_meet
               exact ⟨by first | rfl | (rw [HBDV.out]), by first | rfl | trivial⟩)
             ·have h9 := HBD.out
              rw [decide_eq_false (by omega), e4, e5] at h9
              simp at h9
              subst h9
              clear HBD
              go_wp2_with fail
              go_meet
              exact ⟨by first | rfl | (rw [HBDV.out]), by first | rfl | trivial⟩)
           case rest =>
            obtain ⟨rfl, hwc⟩ := hcut
            subst hwc
            obtain ⟨bad, hbad⟩ : ∃ bad, badB x last = bad := ⟨_, rfl⟩
            have HBAD := Lib.hid hbad
            rw [hbad]
            clear hbad
            cases bad with
            | true =>
             have e : goodB c = false := by rw [HG.out, bad_step HBAD.out]; rfl
             have e := Lib.hid e
             go_wp2_with fail
             go_ret
             exact ⟨by first | rfl | (rw [e.out]; rfl), HW6.out⟩
            | false =>
             have HG2 : Hid (goodB c = _) := Lib.hid (HG.out.trans (by rw [good_step HBAD.out, HRED.out]))
             clear HG
             by_cases c52 : x.op = 52
             ·have hla : r3 + 1 = c.list.length := by
               have h9 := HLA.out
               rw [bad_last HBAD.out, decide_eq_true c52] at h9
               simpa using h9
              have e : goodB c = (o && decide (x.dst = 0)) := by
               rw [HG2.out, if_pos c52, if_neg (by rw [c52]; decide), if_pos c52, List.drop_of_length_le (by omega)]
               simp [goodL]
              have e := Lib.hid e
              have e1 : (x.op == 52) = true := by simpa using c52
              clear HG2 c52 hla
              rcases e2 : (x.dst == 0) with _ | _ <;> cases o
              all_goals (
               go_wp2_with fail
               go_ret
               exact ⟨ret_bool (by rw [e.out]; simp at e2; simp [e2]), HW6.out⟩)
             ·have e1 : (x.op == 52) = false := by simpa using c52
              by_cases c53 : x.op = 53
              ·have e53 : (x.op == 53) = true := by simpa using c53
               have HG3 : Hid (goodB c = (putB o (decide (x.b ∈ R)) c.slots x && goodL c.regs c.slots c.inputs.length c.consts.length c.list.length (r3 + 1) R (addS x.a S) (c.list.drop (r3 + 1)))) := Lib.hid (by rw [HG2.out, if_neg c52, if_pos c53, if_pos c53]; try rfl)
               clear HG2 c52 c53
               have LKb := M6.out.2.1.look HWA.out.2.2
               obtain ⟨rb, hrb⟩ : ∃ rb, decide (x.b ∈ R) = rb := ⟨_, rfl⟩
               rw [hrb] at LKb HG3
               clear hrb
               obtain ⟨k0, k1, k2, k3, k4⟩ := blk5 BT6.out
               go_upto_region 30 with fail
               go_cut [4] from 146 to 169 (fun b wx => b = .bool (putB o rb c.slots x) ∧ wx = wc)
               case first =>
                have hm : Hid (putB o rb c.slots x = (o && (x.dst == 0) && decide (0 ≤ x.a) && decide (x.a < c.slots) && rb)) := Lib.hid (by unfold putB; rw [show decide (x.dst = 0) = (x.dst == 0) by rw [Bool.eq_iff_iff]; simp])
                rcases o with _ | _
                ·have hv := hm.out
                 simp only [Bool.false_and, Bool.true_and, Bool.and_true, Bool.false_and, Bool.and_false] at hv
                 have HV2 := Lib.hid hv
                 clear hv hm
                 as_aux_lemma =>
                  go_wp2_with fail
                  go_meet
                  exact ⟨by first | rfl | (rw [HV2.out]), by first | rfl | trivial⟩
                ·rcases g0 : (x.dst == 0) with _ | _
                 ·have hv := hm.out
                  simp only [g0, Bool.true_and, Bool.and_true, Bool.false_and, Bool.and_false] at hv
                  have HV2 := Lib.hid hv
                  clear hv hm
                  as_aux_lemma =>
                   go_wp2_with fail
                   go_meet
                   exact ⟨by first | rfl | (rw [HV2.out]), by first | rfl | trivial⟩
                 ·rcases Int.lt_or_le x.a 0 with f3 | f3
                  ·have g3 : decide (0 ≤ x.a) = false := decide_eq_false (by omega)
                   have hv := hm.out
                   simp only [g0, g3, Bool.true_and, Bool.and_true, Bool.false_and, Bool.and_false] at hv
                   have HV2 := Lib.hid hv
                   clear hv hm
                   as_aux_lemma =>
                    go_wp2_with fail
                    go_meet
                    exact ⟨by first | rfl | (rw [HV2.out]), by first | rfl | trivial⟩
                  ·have g3 : decide (0 ≤ x.a) = true := decide_eq_true f3
                   rcases Int.lt_or_le x.a c.slots with f4 | f4
                   ·have g4 : decide (x.a < c.slots) = true := decide_eq_true f4
                    have hv := hm.out
                    simp only [g0, g3, g4, Bool.true_and, Bool.and_true, Bool.false_and, Bool.and_false] at hv
                    have HV2 := Lib.hid hv
                    clear hv hm
                    as_aux_lemma =>
                     go_wp2_with fail
                     go_meet
                     exact ⟨by first | rfl | (rw [HV2.out]), by first | rfl | trivial⟩
                   ·have g4 : decide (x.a < c.slots) = false := decide_eq_false (by omega)
                    have hv := hm.out
                    simp only [g0, g3, g4, Bool.true_and, Bool.and_true, Bool.false_and, Bool.and_false] at hv
                    have HV2 := Lib.hid hv
                    clear hv hm
                    as_aux_lemma =>
                     go_wp2_with fail
                     go_meet
                     exact ⟨by first | rfl | (rw [HV2.out]), by first | rfl | trivial⟩
               case rest =>
                obtain ⟨rfl, hwc⟩ := hcut
                subst hwc
                obtain ⟨pb, hpb⟩ : ∃ pb, putB o rb c.slots x = pb := ⟨_, rfl⟩
                rw [hpb] at HG3 ⊢
                clear hpb
                obtain ⟨w7, hrun, hm7⟩ := M6.out.slot (k := x.a) HWA.out.2.1 (by unfold maxLen; omega)
                have HM7 := Lib.hid hm7
                clear hm7
                go_wp2_with fail
                go_roundw
                case rel => first | exact ⟨r3 + 1, R, addS x.a S, pb, by omega, rfl, by go_num, HM7, HG3⟩ | ((repeat apply Exists.intro); exact ⟨⟨r3 + 1, R, addS x.a S, pb, by omega, rfl, by go_num, HM7, HG3⟩, rfl⟩)
                case measure => simp [intOf]; omega
              ·have e53 : (x.op == 53) = false := by simpa using c53
               have HG3 : Hid (goodB c = ((midB o S c.inputs.length c.consts.length x && writB c.regs x) && goodL c.regs c.slots c.inputs.length c.consts.length c.list.length (r3 + 1) (addS x.dst R) S (c.list.drop (r3 + 1)))) := Lib.hid (by rw [HG2.out, if_neg c52, if_neg c53, if_neg c53, if_neg c52]; try rfl)
               clear HG2 c52 c53
               go_upto_block 8 with fail
               go_cut [4] from 127 to 219 (fun b wx => b = .bool (midB o S c.inputs.length c.consts.length x) ∧ wx = wc)
               case first =>
                obtain ⟨k0, k1, k2, k3, k4⟩ := blk5 BT6.out
                by_cases c50 : x.op = 50
                ·have e50 : (x.op == 50) = true := by simpa using c50
                 have hm : midB o S c.inputs.length c.consts.length x = (o && decide (0 ≤ x.a) && decide (x.a < (c.inputs.length : Int))) := by unfold midB; simp [c50]
                 clear c50
                 rcases o with _ | _
                 ·have hv := hm
                  simp only [Bool.false_and, Bool.true_and, Bool.and_true, Bool.false_and, Bool.and_false] at hv
                  have HV2 := Lib.hid hv
                  clear hv hm
                  go_wp2_with fail
                  go_meet
                  exact ⟨by first | rfl | (rw [HV2.out]), by first | rfl | trivial⟩
                 ·rcases Int.lt_or_le x.a 0 with f3 | f3
                  ·have g3 : decide (0 ≤ x.a) = false := decide_eq_false (by omega)
                   have hv := hm
                   simp only [g3, Bool.true_and, Bool.and_true, Bool.false_and, Bool.and_false] at hv
                   have HV2 := Lib.hid hv
                   clear hv hm
                   go_wp2_with fail
                   go_meet
                   exact ⟨by first | rfl | (rw [HV2.out]), by first | rfl | trivial⟩
                  ·have g3 : decide (0 ≤ x.a) = true := decide_eq_true f3
                   rcases Int.lt_or_le x.a (c.inputs.length : Int) with f4 | f4
                   ·have g4 : decide (x.a < (c.inputs.length : Int)) = true := decide_eq_true f4
                    have hv := hm
                    simp only [g3, g4, Bool.true_and, Bool.and_true, Bool.false_and, Bool.and_false] at hv
                    have HV2 := Lib.hid hv
                    clear hv hm
                    go_wp2_with fail
                    go_meet
                    exact ⟨by first | rfl | (rw [HV2.out]), by first | rfl | trivial⟩
                   ·have g4 : decide (x.a < (c.inputs.length : Int)) = false := decide_eq_false (by omega)
                    have hv := hm
                    simp only [g3, g4, Bool.true_and, Bool.and_true, Bool.false_and, Bool.and_false] at hv
                    have HV2 := Lib.hid hv
                    clear hv hm
                    go_wp2_with fail
                    go_meet
                    exact ⟨by first | rfl | (rw [HV2.out]), by first | rfl | trivial⟩
                ·have e50 : (x.op == 50) = false := by simpa using c50
                 by_cases c51 : x.op = 51
                 ·have e51 : (x.op == 51) = true := by simpa using c51
                  have hm : midB o S c.inputs.length c.consts.length x = (o && decide (0 ≤ x.a) && decide (x.a < (c.consts.length : Int))) := by unfold midB; simp [c51]
                  clear c51
                  rcases o with _ | _
                  ·have hv := hm
                   simp only [Bool.false_and, Bool.true_and, Bool.and_true, Bool.false_and, Bool.and_false] at hv
                   have HV2 := Lib.hid hv
                   clear hv hm
                   go_wp2_with fail
                   go_meet
                   exact ⟨by first | rfl | (rw [HV2.out]), by first | rfl | trivial⟩
                  ·rcases Int.lt_or_le x.a 0 with f3 | f3
                   ·have g3 : decide (0 ≤ x.a) = false := decide_eq_false (by omega)
                    have hv := hm
                    simp only [g3, Bool.true_and, Bool.and_true, Bool.false_and, Bool.and_false] at hv
                    have HV2 := Lib.hid hv
                    clear hv hm
                    go_wp2_with fail
                    go_meet
                    exact ⟨by first | rfl | (rw [HV2.out]), by first | rfl | trivial⟩
                   ·have g3 : decide (0 ≤ x.a) = true := decide_eq_true f3
                    rcases Int.lt_or_le x.a (c.consts.length : Int) with f4 | f4
                    ·have g4 : decide (x.a < (c.consts.length : Int)) = true := decide_eq_true f4
                     have hv := hm
                     simp only [g3, g4, Bool.true_and, Bool.and_true, Bool.false_and, Bool.and_false] at hv
                     have HV2 := Lib.hid hv
                     clear hv hm
                     go_wp2_with fail
                     go_meet
                     exact ⟨by first | rfl | (rw [HV2.out]), by first | rfl | trivial⟩
                    ·have g4 : decide (x.a < (c.consts.length : Int)) = false := decide_eq_false (by omega)
                     have hv := hm
                     simp only [g3, g4, Bool.true_and, Bool.and_true, Bool.false_and, Bool.and_false] at hv
                     have HV2 := Lib.hid hv
                     clear hv hm
                     go_wp2_with fail
                     go_meet
                     exact ⟨by first | rfl | (rw [HV2.out]), by first | rfl | trivial⟩
                 ·have e51 : (x.op == 51) = false := by simpa using c51
                  by_cases c54 : x.op = 54
                  ·have e54 : (x.op == 54) = true := by simpa using c54
                   have LK := M6.out.2.2.look HWA.out.2.1
                   have hm : midB o S c.inputs.length c.consts.length x = (o && decide (x.a ∈ S)) := by unfold midB; simp [c54]
                   obtain ⟨sa, hsa⟩ : ∃ sa, decide (x.a ∈ S) = sa := ⟨_, rfl⟩
                   rw [hsa] at hm LK
                   clear c54 hsa
                   rcases o with _ | _
                   ·have hv := hm
                    simp only [Bool.false_and, Bool.true_and, Bool.and_true, Bool.false_and, Bool.and_false] at hv
                    have HV2 := Lib.hid hv
                    clear hv hm
                    go_wp2_with fail
                    go_meet
                    exact ⟨by first | rfl | (rw [HV2.out]), by first | rfl | trivial⟩
                   ·rcases sa with _ | _
                    ·have hv := hm
                     simp only [Bool.false_and, Bool.true_and, Bool.and_true, Bool.false_and, Bool.and_false] at hv
                     have HV2 := Lib.hid hv
                     clear hv hm
                     go_wp2_with fail
                     go_meet
                     exact ⟨by first | rfl | (rw [HV2.out]), by first | rfl | trivial⟩
                    ·have hv := hm
                     simp only [Bool.false_and, Bool.true_and, Bool.and_true, Bool.false_and, Bool.and_false] at hv
                     have HV2 := Lib.hid hv
                     clear hv hm
                     go_wp2_with fail
                     go_meet
                     exact ⟨by first | rfl | (rw [HV2.out]), by first | rfl | trivial⟩
                  ·have e54 : (x.op == 54) = false := by simpa using c54
                   have hm : midB o S c.inputs.length c.consts.length x = (o && decide (0 < k)) := by unfold midB; rw [if_neg c50, if_neg c51, if_neg c54, HK.out]
                   clear c54 c50 c51
                   rcases o with _ | _
                   ·have hv := hm
                    simp only [Bool.false_and, Bool.true_and, Bool.and_true, Bool.false_and, Bool.and_false] at hv
                    have HV2 := Lib.hid hv
                    clear hv hm
                    go_wp2_with fail
                    go_meet
                    exact ⟨by first | rfl | (rw [HV2.out]), by first | rfl | trivial⟩
                   ·rcases Int.lt_or_le 0 k with f3 | f3
                    ·have g3 : decide (0 < k) = true := decide_eq_true f3
                     have hv := hm
                     simp only [g3, Bool.true_and, Bool.and_true, Bool.false_and, Bool.and_false] at hv
                     have HV2 := Lib.hid hv
                     clear hv hm
                     go_wp2_with fail
                     go_meet
                     exact ⟨by first | rfl | (rw [HV2.out]), by first | rfl | trivial⟩
                    ·have g3 : decide (0 < k) = false := decide_eq_false (by omega)
                     have hv := hm
                     simp only [g3, Bool.true_and, Bool.and_true, Bool.false_and, Bool.and_false] at hv
                     have HV2 := Lib.hid hv
                     clear hv hm
                     go_wp2_with fail
                     go_meet
                     exact ⟨by first | rfl | (rw [HV2.out]), by first | rfl | trivial⟩
               case rest =>
                obtain ⟨rfl, hwc⟩ := hcut
                subst hwc
                obtain ⟨mb, hmb⟩ : ∃ mb, midB o S c.inputs.length c.consts.length x = mb := ⟨_, rfl⟩
                rw [hmb] at HG3 ⊢
                clear hmb
                obtain ⟨w7, hrun, hm7⟩ := M6.out.reg (k := x.dst) HWA.out.1 (by unfold maxLen; omega)
                have HM7 := Lib.hid hm7
                clear hm7
                obtain ⟨k0, k1, k2, k3, k4⟩ := blk5 BT6.out
                obtain ⟨wv, hwv⟩ : ∃ wv, writB c.regs x = wv := ⟨_, rfl⟩
                have HG4 := Lib.hid (HG3.out.trans (by rw [hwv]))
                have HWV : Hid ((decide (0 ≤ x.dst) && decide (x.dst < c.regs)) = wv) := Lib.hid hwv
                clear HG3 hwv
                rcases Int.lt_or_le x.dst 0 with f1 | f1
                ·have h9 : false = wv := by rw [← HWV.out, decide_eq_false (by omega)]; rfl
                 subst h9
                 cases mb
                 all_goals (
                  as_aux_lemma =>
                   go_wp2_with fail
                   go_roundw
                   case rel => first | exact ⟨r3 + 1, addS x.dst R, S, _, by omega, rfl, by go_num, HM7, HG4⟩ | ((repeat apply Exists.intro); exact ⟨⟨r3 + 1, addS x.dst R, S, _, by omega, rfl, by go_num, HM7, HG4⟩, rfl⟩)
                   case measure => simp [intOf]; omega)
                ·rcases Int.lt_or_le x.dst c.regs with f2 | f2
                 ·have h9 : true = wv := by rw [← HWV.out, decide_eq_true f1, decide_eq_true f2]; rfl
                  subst h9
                  cases mb
                  all_goals (
                   as_aux_lemma =>
                    go_wp2_with fail
                    go_roundw
                    case rel => first | exact ⟨r3 + 1, addS x.dst R, S, _, by omega, rfl, by go_num, HM7, HG4⟩ | ((repeat apply Exists.intro); exact ⟨⟨r3 + 1, addS x.dst R, S, _, by omega, rfl, by go_num, HM7, HG4⟩, rfl⟩)
                    case measure => simp [intOf]; omega)
                 ·have h9 : false = wv := by rw [← HWV.out, decide_eq_true f1, decide_eq_false (by omega)]; rfl
                  have f4 : decide (x.dst < c.regs) = false := decide_eq_false (by omega)
                  subst h9
                  cases mb
                  all_goals (
                   as_aux_lemma =>
                    go_wp2_with fail
                    go_roundw
                    case rel => first | exact ⟨r3 + 1, addS x.dst R, S, _, by omega, rfl, by go_num, HM7, HG4⟩ | ((repeat apply Exists.intro); exact ⟨⟨r3 + 1, addS x.dst R, S, _, by omega, rfl, by go_num, HM7, HG4⟩, rfl⟩)
                    case measure => simp [intOf]; omega)
        ·have e : goodB c = true := by
          have h9 := hg.out
          rw [List.drop_of_length_le (by omega)] at h9
          exact h9
         have e := Lib.hid e
         clear hg hm HM
         go_wp2_with fail
         go_ret
         exact ⟨by first | rfl | (rw [e.out]; rfl), HW.out⟩
end Go.Proofs.Ytioocaicmiggoaa
